/- A book since a world: rectangles erased, copied and summed; numbers joined.  -/
import Derived.Test.YtignkkejkknddaaGreatPcar
namespace Go.Proofs.YtignkkejkknddaaGreat
open Go.RowKit
set_option linter.unusedVariables false
set_option linter.unusedSimpArgs false

theorem rwipeS_ok' {P : PgS} (hP : P.Ok) (x : BxI) (xs : List Int) (sel : Bool) : (rwipeS P x xs sel).Ok := by
  unfold rwipeS rwipeF
  split
  · cases sel
    · exact eachS_ok hP _ (fun xs l r => eachR_len xs l r _) (fun xs l r h => eachR_ok h fun _ _ => by simp [Cl.ok, erC])
    · exact eachS_ok hP _ (fun xs l r => eachR_len xs l r _) (fun xs l r h => eachR_ok h fun y hy => by
        unfold cleanC
        split
        · exact hy
        · simp [Cl.ok] at hy ⊢; omega)
  · exact hP
section
variable {w0 wr : World} {F : Nat → Prop} {b : Nat} {pp : Nat → Nat} {T : BkS} {a : Option Addr} {c : Nat} {xs : List Int}
theorem BkM.erase (h : BkM w0 F b pp T wr) (i : Nat) (hi : i < T.pages.length) (x : BxI) (sel : Bool) (w' : World) (hb : Below wr.heap.size wr w') (hx : NumL w' a c xs) :
    Calls Tryz.prog 25 #[ptrV (pp i), boxV x.t x.l x.b x.r, .slice a xs.length c, .bool sel] w' (fun e w2 => e = .returned (.bool (reOk (arB T.pages[i] x) xs 0)) ∧ BkM w0 F b pp (T.set i (rwipeS T.pages[i] x xs sel)) w2) := by
  obtain ⟨G, h1, h2, h3⟩ := h.deed i hi
  have okP := h.ok.pg _ (List.getElem_mem hi)
  refine (erase_rect (h1.grow hb) okP hx x sel).mono ?_
  rintro e w2 ⟨rfl, hD⟩
  exact ⟨rfl, h3 w' w2 _ (rwipeS_ok' okP _ _ _) hb hD⟩
theorem BkM.change2 (h : BkM w0 F b pp T wr) (i : Nat) (hi : i < T.pages.length) (x : BxI) (st fl : Bool) (w' : World) (hb : Below wr.heap.size wr w') (hx : NumL w' a c xs) (hA : 0 < xs.length → ∀ q o, a = some ⟨q, o, none⟩ → wr.heap.size ≤ q) :
    Calls Tryz.prog 27 #[ptrV (pp i), boxV x.t x.l x.b x.r, .slice a xs.length c, .bool st, .bool fl] w' (fun e w2 => e = .returned (.bool (chOk (arB T.pages[i] x) xs st)) ∧ BkM w0 F b pp (T.set i (chS T.pages[i] (chB (arB T.pages[i] x) xs st) (chF fl (xs.drop 4)))) w2) := by
  obtain ⟨G, h1, h2, h3⟩ := h.deed i hi
  have okP := h.ok.pg _ (List.getElem_mem hi)
  refine (change_rect (h1.grow hb) okP (fun q f => Nat.lt_of_lt_of_le (h1.lt q f) hb.size) hx (fun h0 q o e f => ?_) x st fl).mono ?_
  · have := hA h0 q o e
    have := h1.lt q f
    omega
  · rintro e w2 ⟨rfl, hD⟩
    exact ⟨rfl, h3 w' w2 _ (chS_ok okP (chF_ok _ _) _) hb hD⟩
theorem BkM.copy (h : BkM w0 F b pp T wr) (x : BxI) (w' : World) (hb : Below wr.heap.size wr w') (hx : NumL w' a c xs) :
    Calls Tryz.prog 15 #[ptrV b, boxV x.t x.l x.b x.r, .slice a xs.length c] w' (fun e w2 => e = .returned (.bool (cpOk (arK T x) xs)) ∧ ∃ pp2, BkM w0 F b pp2 (copyRS T x xs) w2) := by
  obtain ⟨k, ok, V, ps, st, F', h1, h2, h3⟩ := h
  refine (copy_rect (h1.grow hb) ok hx x).mono ?_
  rintro e w2 ⟨rfl, hD⟩
  obtain ⟨hk, V2, ps2, st2, hO⟩ := hD.back hb h1.lt
  refine ⟨rfl, fun i => (ps2[i]?.map PgR.p).getD 0, k.trans hk h2, ?_, V2, ps2, st2, _, hO, fun x hx => ?_, fun i r hr => by simp [hr]⟩
  · unfold copyRS
    split
    · exact T.copy_ok ok _ _ _ _ _
    · exact ok
  · rcases hx with hx | hx
    · exact h2 x hx
    · exact .inr (Nat.le_trans k.size hx.1)
theorem BkM.sum (h : BkM w0 F b pp T wr) (x : BxI) (w' : World) (hb : Below wr.heap.size wr w') (hx : NumL w' a c xs) :
    Calls Tryz.prog 10 #[ptrV b, boxV x.t x.l x.b x.r, .slice a xs.length c] w' (Gives w' (.tuple #[.int .i64 (smV T x xs), .bool (smOk (arK T x) xs)])) := by
  obtain ⟨k, ok, V, ps, st, F', h1, h2, h3⟩ := h
  exact sum_rect (h1.grow hb) ok hx x
end
/-- numbers of one's own, with others behind -/
theorem nums_join {U w : World} {o : Oper} {a : Act} {K : Act → World → Prop} {Q : Exit → Act → World → Prop} {A A2 : Option Addr} {n n2 c c2 : Nat} {xs ys : List Int} (s xo : Operand)
    (ho : o.op = .call { callee := .builtin .append, args := #[s, xo], argTypes := #[22, 22] }) (hs : a.eval s = .slice A n c) (hx : a.eval xo = .slice A2 n2 c2)
    (hU : Below U.heap.size U w) (hown : Own (encI .i64) 1 3 U.heap.size w (.slice A n c) xs) (hy : NumL w A2 c2 ys) (hn2 : n2 = ys.length) (zs : List Int) (hz : xs ++ ys = zs) (m : Nat) (hm : zs.length = m) (hm2 : m ≤ 100000)
    (h : ∀ A' c' x', Own (encI .i64) 1 3 U.heap.size (ext U x') (.slice A' m c') zs → (∀ b, b < w.heap.size → (Value.slice A n c).ownBlock ≠ some b → (ext U x').heap[b]? = w.heap[b]?) → K (a.put o.dst (.slice A' m c')) (ext U x')) : Oper.wp Tryz.prog o a w K Q := by
  subst hn2 hz hm
  have hl : xs.length + ys.length ≤ 100000 := by rw [List.length_append] at hm2; exact hm2
  obtain ⟨A', c', x', hrun, hO, -, hG⟩ := run_append_far2 (P := Tryz.prog) U w 22 o.type 3 _ 8 Tryz.underlying22 int_info16 rfl (by omega) (encI_len _) (encI_one _) xs ys _ A2 c2 hU hown hy.rd (by simp [maxLen]; omega) (by omega)
  unfold Oper.wp execOp
  simp only [ho, resolve, invoke, builtin, Sem.run_bind, Sem.run_pure, Result.andThen_ok, List.map_toArray, List.map_cons, List.map_nil, hs, hx, hrun]
  exact h A' c' x' hO hG
/-- a row of numbers of its own is a row of numbers -/
theorem Own.nums {B n C : Nat} {A : Option Addr} {w : World} {xs : List Int} (h : Own (encI .i64) 1 3 B w (.slice A n C) xs) (hi : ∀ z ∈ xs, z ≤ 9223372036854775807) : NumL w A C xs := (own_num h hi).2.1
theorem own0 {w : World} {g B : Nat} (hg : g = w.heap.size) (hB : B ≤ w.heap.size) : Own (encI .i64) 1 3 B (w.alloc (.cells #[] 3)) (.slice (some ⟨g, 0, none⟩) 0 0) [] :=
  Own.new (xs := []) (encI_len .i64) hg rfl #[] rfl hB (by simp [maxLen])
theorem own1 {w : World} {g B : Nat} (hg : g = w.heap.size) (hB : B ≤ w.heap.size) (z : Int) : Own (encI .i64) 1 3 B (w.alloc (.cells #[.int .i64 z] 3)) (.slice (some ⟨g, 0, none⟩) 1 1) [z] :=
  Own.new (xs := [z]) (encI_len .i64) hg rfl #[.int .i64 z] rfl hB (by simp [maxLen])
theorem lit4 {w : World} {g : Nat} (hg : g = w.heap.size) (a b c d : Int) (h : ∀ z ∈ [a, b, c, d], z ≤ 9223372036854775807) : NumL (w.alloc (.cells #[.int .i64 a, .int .i64 b, .int .i64 c, .int .i64 d] 3)) (some ⟨g, 0, none⟩) 4 [a, b, c, d] :=
  (Own.new (B := 0) (encI_len .i64) hg (rfl : (4 : Nat) = _) _ rfl (Nat.zero_le _) (by simp [maxLen]) : Own (encI .i64) 1 3 0 _ (.slice (some ⟨g, 0, none⟩) 4 4) [a, b, c, d]).nums h
theorem lit2 {w : World} {g : Nat} (hg : g = w.heap.size) (a b : Int) (h : ∀ z ∈ [a, b], z ≤ 9223372036854775807) : NumL (w.alloc (.cells #[.int .i64 a, .int .i64 b] 3)) (some ⟨g, 0, none⟩) 2 [a, b] :=
  (Own.new (B := 0) (encI_len .i64) hg (rfl : (2 : Nat) = _) _ rfl (Nat.zero_le _) (by simp [maxLen]) : Own (encI .i64) 1 3 0 _ (.slice (some ⟨g, 0, none⟩) 2 2) [a, b]).nums h
theorem NumL.al {w : World} {a : Option Addr} {c : Nat} {ys : List Int} (h : NumL w a c ys) (o : Obj) : NumL (w.alloc o) a c ys := h.grow ((Below.refl _ _).alloc (Nat.le_refl _) o)
theorem NumL.far {w w' : World} {g c : Nat} {ys : List Int} {V : Value} (h : NumL w (some ⟨g, 0, none⟩) c ys) (hG : ∀ b, b < w.heap.size → V.ownBlock ≠ some b → w'.heap[b]? = w.heap[b]?) (hne : V.ownBlock ≠ some g) : NumL w' (some ⟨g, 0, none⟩) c ys := by
  refine ⟨fun h0 => ?_, h.lc, h.cm, h.hi⟩
  obtain ⟨b, off, e, hb, hc⟩ := h.rd h0
  injection e with e
  injection e with e1 e2
  subst e1 e2
  have hk := hG g hb hne
  refine ⟨g, 0, rfl, ?_, fun i hi j v hv => (cell_of_heap hk).trans (hc i hi j v hv)⟩
  have h1 : w.heap[g]? = some w.heap[g] := Array.getElem?_eq_getElem hb
  exact (Array.getElem?_eq_some_iff.1 (hk.trans h1)).1
end Go.Proofs.YtignkkejkknddaaGreat
