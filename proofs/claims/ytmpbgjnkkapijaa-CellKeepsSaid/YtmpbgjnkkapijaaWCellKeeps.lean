/- What the law CellKeeps comes to: the walk. -/
import Derived.Test.YtmpbgjnkkapijaaApartG2
import Derived.Test.YtmpbgjnkkapijaaWCellPacks
namespace Go.Proofs.Ytmpbgjnkkapijaa
open Go.ChangeShapes Go.WideShapes Go.ChangeAt Go.RowKit
set_option linter.unusedVariables false
set_option linter.unusedSimpArgs false

theorem spare_take (xs : List Cl) : (spare xs).take xs.length = xs := by
  apply List.ext_getElem?
  intro i
  rcases Nat.lt_or_ge i xs.length with h | h
  · rw [List.getElem?_take_of_lt h]
    simp only [spare, List.getElem?_map]
    rw [List.getElem?_range (by omega)]
    simp [spAt, h]
  · rw [List.getElem?_eq_none (by simp; omega), List.getElem?_eq_none h]
def sRow (S : Nat) (xs : List Cl) : RowD := ⟨some (S, 0), xs.length + 9, xs.length + 9⟩
theorem row_of_spare {B : Nat} {wx : World} {S : Nat} {xs : List Cl} (h : Own encC 3 24 B wx (.slice (some ⟨S, 0, none⟩) (xs.length + 9) (xs.length + 9)) (spare xs)) : (sRow S xs).Live B wx := by
  rcases h.2 with ⟨e, _⟩ | ⟨g, cap, cur, e, hB, hg, h1, h2, h3, h4⟩
  · cases e
  · injection e with e1 e2 e3
    injection e1 with e1
    injection e1 with e1
    subst e1 e3
    refine ⟨Nat.le_refl _, (fun e => by cases e), fun g' off e => ?_⟩
    injection e with e
    injection e with e1 e2
    subst e1 e2
    exact ⟨hB, cur, hg, by simp only [sRow]; omega⟩
section
variable {α : Type} {enc : α → List Value} {size : Nat} {e : TypeId} {B base g n cap : Nat} {w0 w w' : World} {xs' : List Int} {v : Value} {xs : List α} {r : RowD} {A : Option Addr}
/-- an own row whose block stays -/
theorem Own.far (h : Own enc size e B w v xs) (hf : ∀ k, v.ownBlock = some k → w'.heap[k]? = w.heap[k]?) : Own enc size e B w' v xs := by
  refine ⟨h.1, ?_⟩
  rcases h.2 with hn | ⟨g, cap, cur, hv, hB, hg, rest⟩
  · exact .inl hn
  · exact .inr ⟨g, cap, cur, hv, hB, (hf g (by rw [hv]; rfl)).trans hg, rest⟩
/-- stores into a row of bytes leave all other blocks, and it is a row of bytes still -/
structure BK (B : Nat) (w0 w w' : World) (v : Value) (n : Nat) : Prop where
  far : ∀ k, v.ownBlock ≠ some k → w'.heap[k]? = w.heap[k]?
  size : w'.heap.size = w.heap.size
  own : ∃ bs : List Int, bs.length = n ∧ Own (encI .u8) 1 5 B w' v bs
  bel : Below B w0 w'
theorem own_set1 {bs : List Int} {c : Nat} (h : Own (encI .u8) 1 5 B w (.slice (some ⟨g, 0, none⟩) n c) bs) (i : Nat) (hi : i < bs.length) (y : Int) :
    Own (encI .u8) 1 5 B (w.setCell ⟨g, i, none⟩ (.int .u8 y)) (.slice (some ⟨g, 0, none⟩) n c) (bs.set i y) := by
  have hn : n = bs.length := by
    obtain ⟨A, c, e, _, _⟩ := h.form
    injection e
  subst hn
  have h' : w.ownsRow B 5 1 (.slice (some ⟨g, 0, none⟩) bs.length c) bs.length (bs.flatMap (encI .u8)) := h
  have h3 := (h'.stored i (.int .u8 y)).1
  have e : ∀ (l : List Int) (k : Nat), (l.flatMap (encI .u8)).set k (.int .u8 y) = (l.set k y).flatMap (encI .u8) := by
    intro l
    induction l with
    | nil => intro k; simp
    | cons a l ih =>
      intro k
      cases k with
      | zero => simp [encI]
      | succ k => simpa [encI] using ih k
  rw [e] at h3
  unfold Own
  rw [List.length_set]
  exact h3
theorem BK.refl (h : Own (encI .u8) 1 5 B w v xs') (hb : Below B w0 w) : BK B w0 w w v xs'.length := ⟨fun _ _ => rfl, rfl, ⟨xs', rfl, h⟩, hb⟩
theorem BK.at {c : Nat} (h : BK B w0 w w' (.slice A n c) n) (hv : Own (encI .u8) 1 5 B w (.slice A n c) xs') (i : Nat) (hi : i < n) : ∃ (g : Nat) (y : Int), A = some ⟨g, 0, none⟩ ∧ g < w'.heap.size ∧ w'.cell? ⟨g, i, none⟩ = some (.int .u8 y) ∧ w'.frozen? ⟨g, i, none⟩ = false ∧ ∀ z, BK B w0 w (w'.setCell ⟨g, i, none⟩ (.int .u8 z)) (.slice A n c) n := by
  obtain ⟨bs, rfl, hO⟩ := h.own
  rcases hO.2 with ⟨h1, h2⟩ | ⟨g, cap', cur, h1, hB, hg, h2, h3, h4, h5⟩
  · omega
  · injection h1 with h1 _ _
    subst h1
    refine ⟨g, bs[i], rfl, (Array.getElem?_eq_some_iff.1 hg).1, ?_, hO.frozenAt i, fun z => ⟨fun k hk => ?_, by simp [h.size], ⟨bs.set i z, by simp, own_set1 hO i (by omega) z⟩, h.bel.setCell (by simpa using hB) _⟩⟩
    · have := hO.cells (g := g) rfl (i * 1 + 0) (.int .u8 bs[i]) (by rw [flat_get (encI_len _) bs i (by omega) 0 (by omega)]; rfl)
      rw [addr_add] at this
      simpa using this
    · rw [Below.heap_setCell _ _ _ _ (fun e => hk (by simp at e; subst e; rfl))]
      exact h.far k hk
theorem RowD.Live.not_bytes (h : r.Live base w) (hv : Own (encI .u8) 1 5 B w v xs') : ∀ g off, r.b = some (g, off) → v.ownBlock ≠ some g := by
  intro g off e hg2
  obtain ⟨_, cur, h2, _⟩ := h.blk g off e
  rcases hv.2 with ⟨rfl, _⟩ | ⟨g', cap, cur', rfl, _, hg, _⟩
  · simp [Value.ownBlock] at hg2
  · simp only [Value.ownBlock, Option.some.injEq] at hg2
    subst hg2
    rw [h2] at hg
    injection hg with hg
    injection hg with _ e _
    exact absurd e (by decide)
theorem RowsAt.bk {rows : List RowD} {n : Nat} (h : RowsAt base w rows) (hv : Own (encI .u8) 1 5 B w v xs') (hk : BK B w0 w w' v n) : RowsAt base w' rows := by
  refine ⟨fun r hr => ?_, h.sep⟩
  have hl := h.live r hr
  refine ⟨hl.le, hl.nil, fun g' off e => ?_⟩
  obtain ⟨h1, cur, h2, h3⟩ := hl.blk g' off e
  exact ⟨h1, cur, (hk.far g' (hl.not_bytes hv g' off e)).trans h2, h3⟩
theorem Own.bk {zs : List Cl} {u : Value} {B' n : Nat} (h : Own encC 3 24 B' w u zs) (hv : Own (encI .u8) 1 5 B w v xs') (hk : BK B w0 w w' v n) : Own encC 3 24 B' w' u zs := by
  refine h.far fun k hu => hk.far k fun hv2 => ?_
  rcases h.2 with ⟨rfl, _⟩ | ⟨g, cap, cur, rfl, _, hg, _⟩
  · simp [Value.ownBlock] at hu
  · simp only [Value.ownBlock, Option.some.injEq] at hu
    subst hu
    rcases hv.2 with ⟨rfl, _⟩ | ⟨g', cap', cur', rfl, _, hg', _⟩
    · simp [Value.ownBlock] at hv2
    · simp only [Value.ownBlock, Option.some.injEq] at hv2
      subst hv2
      rw [hg] at hg'
      injection hg' with hg'
      injection hg' with _ e _
      exact absurd e (by decide)
end

theorem apart_l {w0 wr : World} {S n c3 c4 : Nat} {p : List Cl} {A3 A4 : Option Addr} {ra rb : RowD} (hR : RowsAt w0.heap.size wr ([] ++ [sRow S p] ++ [ra] ++ [rb])) (h1 : ra.v = .slice A3 n c3) (h2 : rb.v = .slice A4 n c4)
    (hb : w0.heap.size ≤ wr.heap.size) (n0 : (sRow S p).n ≤ 9000) (n1 : ra.n ≤ 9000) (n2 : rb.n ≤ 9000) (hB : Below w0.heap.size w0 wr) (y1 y2 : More) :
    Calls Try.prog 31 #[.slice (some ⟨wr.heap.size + y1.sz + y2.sz, 0, none⟩) 3 3] ((ext (ext wr y1) y2).alloc (.cells #[.slice (some ⟨S, 0, none⟩) (p.length + 9) (p.length + 9), .slice A3 n c3, .slice A4 n c4] 28)) (fun e w' => e = .returned (.bool true) ∧ Below w0.heap.size w0 w') := by
  have hBx : Below wr.heap.size wr ((ext (ext wr y1) y2).alloc (.cells #[.slice (some ⟨S, 0, none⟩) (p.length + 9) (p.length + 9), .slice A3 n c3, .slice A4 n c4] 28)) := by (repeat' (first | (with_reducible exact Below.refl _ _) | (with_reducible refine Below.alloc ?_ ?_ _) | (with_reducible refine below_ext ?_ ?_ _) | (with_reducible refine Below.drew ?_) | (with_reducible refine below_drewN ?_ _) | (with_reducible refine Below.setCell ?_ ?_ _) | go_size | (simp only [go_sem]; omega) | (simp [go_sem]; done) | (simp [go_sem]; omega)))
  have hR2 := hR.below hBx
  have := apart_c w0.heap.size (wr.heap.size + y1.sz + y2.sz) [sRow S p, ra, rb] _ 3 (Nat.le_trans hb hBx.size) hR2.live ?_ hR2.sep ?_ (by simp) ?_
  · exact this.mono fun e w' ⟨he, hb2⟩ => ⟨he, (hB.trans (hBx.mono hb)).trans hb2⟩
  · intro j r hr
    rw [show wr.heap.size + y1.sz + y2.sz = (ext (ext wr y1) y2).heap.size by simp, cell_of_blk (heap_alloc_new (ext (ext wr y1) y2) (.cells #[.slice (some ⟨S, 0, none⟩) (p.length + 9) (p.length + 9), .slice A3 n c3, .slice A4 n c4] 28))]
    match j, hr with
    | 0, hr => simp at hr; subst hr; rfl
    | 1, hr => simp at hr; subst hr; rw [h1]; rfl
    | 2, hr => simp at hr; subst hr; rw [h2]; rfl
  · intro r hr g o e
    have := (hR.live r hr).lt e
    omega
  · intro r hr
    simp only [List.mem_cons, List.not_mem_nil, or_false] at hr
    rcases hr with rfl | rfl | rfl <;> assumption

set_option maxRecDepth 100000 in
set_option maxHeartbeats 4000000 in
theorem CellKeeps_walk (w : World) (a : Option Addr) (c : Nat) (xs : List Cl) (rd : Rd encC 3 w a xs) (lc : xs.length ≤ c) (cm : c ≤ maxLen) (wf : ∀ n ∈ xs, Cl.ok n) (re : c * 8 ≤ 140737488351232) :
    Calls Try.prog 7 #[.slice a xs.length c] w (Gives w (.bool true)) := by
  have U := Lib.hid (fun w' => cut_c a c xs 500 500 rfl lc cm w')
  have m1 : (xs.take 500).length ≤ 500 := by simp; omega
  have X := Lib.hid (rd.take 500)
  have WX := Lib.hid (fun n (h : n ∈ xs.take 500) => wf n (List.mem_of_mem_take h))
  generalize xs.take 500 = p at U m1 X WX
  clear rd lc wf re cm
  have DE := Lib.hid (dec_enc p WX.out)
  have EB := Lib.hid (encL_byte _ (runs_ok p WX.out))
  have EL : (encL (runsL p)).length ≤ 14000 := by rw [encL_len]; have := runs_len p; omega
  have C1 := Lib.hid (fun S w' h => encode_c (some ⟨S, 0, none⟩) (p.length + 9) p w' h (by omega) WX.out)
  generalize encL (runsL p) = E at DE EB EL C1
  go_enter Try.func7, Try.ntmps7
  go_upto_region 5 with (first
    | (go_at_call 15; ((with_reducible refine (awake2 _).mono ?_); rintro _ _ hgets; obtain ⟨rfl, x0, rfl⟩ := hgets.get; clear hgets))
    | (go_at_call 19; ((with_reducible refine (U.out _).mono ?_); rintro _ _ ⟨rfl, rfl⟩))
    | (go_at_call 29
       (with_reducible refine (spare_c a c p _ (by repeat (first | exact X.out | exact X | refine Rd.ext ?_ _ | refine Rd.alloc ?_ _ | refine Rd.drew ?_)) (by omega)).mono ?_)
       rintro _ _ ⟨x1, rfl, rfl, hO1⟩
       have hS := Lib.hid hO1
       clear hO1))
  have hBB : Hid (Below w.heap.size w (ext (ext w x0) x1)) := Lib.hid (by (repeat' (first | (with_reducible exact Below.refl _ _) | (with_reducible refine Below.alloc ?_ ?_ _) | (with_reducible refine below_ext ?_ ?_ _) | (with_reducible refine Below.drew ?_) | (with_reducible refine below_drewN ?_ _) | (with_reducible refine Below.setCell ?_ ?_ _) | go_size | (simp only [go_sem]; omega) | (simp [go_sem]; done) | (simp [go_sem]; omega))))
  have hX : Hid (Rd encC 3 (ext (ext w x0) x1) a p) := Lib.hid (by repeat (first | exact X.out | exact X | refine Rd.ext ?_ _ | refine Rd.alloc ?_ _ | refine Rd.drew ?_))
  have hSS : Hid (w.heap.size ≤ (ext w x0).heap.size) := Lib.hid (by simp)
  have hSe : (ext w x0).heap.size = w.heap.size + x0.sz := by simp
  rw [hSe] at hS hSS
  clear hSe X U
  generalize ext (ext w x0) x1 = wB at hS hBB hX ⊢
  generalize w.heap.size + x0.sz = S at hS hSS ⊢
  have hin := Lib.hid (show Rd encC 3 wB (some ⟨S, 0, none⟩) p by
    have := (hS.out.rd encC_len).take p.length
    rwa [spare_take] at this)
  have hSl := Lib.hid ((row_of_spare hS.out).mono hSS.out)
  clear hSS
  have hok : ∀ w', Rd encC 3 w' (some ⟨S, 0, none⟩) p → Rd encC 3 w' (some ⟨S, 0, none⟩) p ∧ p.length ≤ 9223372036854775807 ∧ ∀ c ∈ p, c.ok := fun w' h => ⟨h, by omega, WX.out⟩
  have CS := Lib.hid (fun g w' (h : Rd encR 1 w' (some ⟨g, 0, none⟩) [⟨some ⟨S, 0, none⟩, p.length + 9, p⟩, ⟨some ⟨S, 0, none⟩, p.length + 9, p⟩]) (h2 : Rd encC 3 w' (some ⟨S, 0, none⟩) p) => show Calls Try.prog 18 #[.slice (some ⟨g, 0, none⟩) 2 2] w' (Gives w' (.int .i64 (sumR [⟨some ⟨S, 0, none⟩, p.length + 9, p⟩, ⟨some ⟨S, 0, none⟩, p.length + 9, p⟩] % 65536))) from sum_c _ 2 [⟨some ⟨S, 0, none⟩, p.length + 9, p⟩, ⟨some ⟨S, 0, none⟩, p.length + 9, p⟩] w' h (by simp) (fun r hr => by
    simp only [List.mem_cons, List.not_mem_nil, or_false, or_self] at hr
    subst hr
    exact hok w' h2))
  have CN := Lib.hid (fun g w' (h : Rd encR 1 w' (some ⟨g, 0, none⟩) [⟨some ⟨S, 0, none⟩, p.length + 9, p⟩]) (h2 : Rd encC 3 w' (some ⟨S, 0, none⟩) p) => negated_c (some ⟨g, 0, none⟩) 1 [⟨some ⟨S, 0, none⟩, p.length + 9, p⟩] w' h (by simp) (fun r hr => by
    simp only [List.mem_cons, List.not_mem_nil, or_false] at hr
    subst hr
    exact hok w' h2))
  simp only [List.length_cons, List.length_nil, Nat.zero_add] at CN
  generalize sumR [⟨some ⟨S, 0, none⟩, p.length + 9, p⟩, ⟨some ⟨S, 0, none⟩, p.length + 9, p⟩] % 65536 = s2 at CS
  clear hok
  go_upto_region 8 with (first
    | (go_at_call 24
       (with_reducible refine (C1.out S _ hin.out).mono ?_)
       rintro _ _ ⟨_, rfl, hN1⟩
       obtain ⟨A1, c1, x2, rfl, rfl, hO1⟩ := hN1.get
       have hO1 := Lib.hid hO1
       clear hN1)
    | (go_at_call 18
       (with_reducible refine (CS.out _ _ ?_ ?_).mono ?_)
       · exact (Own.new (B := 0) (e := 28) (xs := [(⟨some ⟨S, 0, none⟩, p.length + 9, p⟩ : Rw), ⟨some ⟨S, 0, none⟩, p.length + 9, p⟩]) (fun _ => rfl) (by simp [go_sem]) rfl _ rfl (Nat.zero_le _) (by simp [maxLen])).rd (fun _ => rfl)
       · exact (by repeat (first | exact hin.out | exact hin | refine Rd.ext ?_ _ | refine Rd.alloc ?_ _ | refine Rd.drew ?_))
       rintro _ _ hgets
       obtain ⟨rfl, x3, rfl⟩ := hgets.get
       clear hgets)
    | (go_at_call 22
       (with_reducible refine (CN.out _ _ ?_ ?_).mono ?_)
       · exact (Own.new (B := 0) (e := 28) (xs := [(⟨some ⟨S, 0, none⟩, p.length + 9, p⟩ : Rw)]) (fun _ => rfl) (by simp [go_sem]) rfl _ rfl (Nat.zero_le _) (by simp [maxLen])).rd (fun _ => rfl)
       · exact (by repeat (first | exact hin.out | exact hin | refine Rd.ext ?_ _ | refine Rd.alloc ?_ _ | refine Rd.drew ?_))
       rintro _ _ hgets
       obtain ⟨rfl, x4, rfl⟩ := hgets.get
       clear hgets))
  have h5 : Below wB.heap.size wB (ext ((ext ((ext wB x2).alloc (Obj.cells #[Value.slice (some { block := S, off := 0 }) p.length (p.length + 9), Value.slice (some { block := S, off := 0 }) p.length (p.length + 9)] 28)) x3).alloc (Obj.cells #[Value.slice (some { block := S, off := 0 }) p.length (p.length + 9)] 28)) x4) := by (repeat' (first | (with_reducible exact Below.refl _ _) | (with_reducible refine Below.alloc ?_ ?_ _) | (with_reducible refine below_ext ?_ ?_ _) | (with_reducible refine Below.drew ?_) | (with_reducible refine below_drewN ?_ _) | (with_reducible refine Below.setCell ?_ ?_ _) | go_size | (simp only [go_sem]; omega) | (simp [go_sem]; done) | (simp [go_sem]; omega)))
  have hE := Lib.hid (((((hO1.out.alloc (Obj.cells #[Value.slice (some { block := S, off := 0 }) p.length (p.length + 9), Value.slice (some { block := S, off := 0 }) p.length (p.length + 9)] 28)).ext x3).alloc (Obj.cells #[Value.slice (some { block := S, off := 0 }) p.length (p.length + 9)] 28)).ext x4))
  clear hO1 CS CN C1
  generalize ext ((ext ((ext wB x2).alloc (Obj.cells #[Value.slice (some { block := S, off := 0 }) p.length (p.length + 9), Value.slice (some { block := S, off := 0 }) p.length (p.length + 9)] 28)) x3).alloc (Obj.cells #[Value.slice (some { block := S, off := 0 }) p.length (p.length + 9)] 28)) x4 = w5 at h5 hE ⊢
  generalize Value.slice (some { block := wB.heap.size + x2.sz, off := 0 }) 2 2 = v24
  generalize Value.slice (some { block := wB.heap.size + x2.sz + 1 + x3.sz, off := 0 }) 1 1 = v27
  generalize Value.int IntKind.i64 (-(sumR [{ a := some { block := S, off := 0 }, c := p.length + 9, cs := p }] % 65536) % 65536) = v28
  have R1 := Own.rd (encI_len _) hE.out
  obtain ⟨_, _, hv1, hv2, hv3⟩ := hE.out.form
  injection hv1 with e1 e2 e3
  subst e1 e3
  clear e2
  simp only [maxLen] at hv3
  have D1 := Lib.hid (fun w' (h : Rd (encI .u8) 1 w' A1 E) => decode_c A1 c1 E w' h (by omega) hv2 (by simp [maxLen]; omega) EB.out)
  rw [DE.out] at D1
  replace h5 := Lib.hid h5
  go_upto_region 10 with (first
    | (go_at_call 26
       (with_reducible refine (D1.out _ (by repeat (first | exact R1.out | exact R1 | refine Rd.ext ?_ _ | refine Rd.alloc ?_ _ | refine Rd.drew ?_))).mono ?_)
       fail_if_success (have := hO3)
       rintro _ _ ⟨_, rfl, A3, c3, rfl, hB3, hO3⟩
       obtain ⟨x5, rfl⟩ := ext_of hB3
       replace hO3 := Lib.hid hO3
       clear hB3)
    | (go_at_call 26
       (with_reducible refine (D1.out _ (by repeat (first | exact R1.out | exact R1 | refine Rd.ext ?_ _ | refine Rd.alloc ?_ _ | refine Rd.drew ?_))).mono ?_)
       rintro _ _ ⟨_, rfl, A4, c4, rfl, hB4, hO4⟩
       obtain ⟨x6, rfl⟩ := ext_of hB4
       replace hO4 := Lib.hid hO4
       clear hB4))
  have hE6 := Lib.hid ((hE.out.ext x5).ext x6)
  have hOne := Lib.hid (hO3.out.ext x6)
  obtain ⟨ra, hra, hna, hla⟩ := row_of_own hO3.out
  obtain ⟨rb, hrb, hnb, hlb⟩ := row_of_own hO4.out
  have hR := Lib.hid ((((RowsAt.nil w.heap.size w).snoc (Nat.le_refl _) hBB.out hSl.out).below h5.out |>.snoc (Nat.le_trans hBB.out.size h5.out.size) (below_of_ext w5 x5) hla).snoc (by have := hBB.out.size; have := h5.out.size; simp; omega) (below_of_ext (ext w5 x5) x6) hlb)
  have hBw : Hid (Below wB.heap.size wB (ext (ext w5 x5) x6)) := Lib.hid (below_ext (below_ext h5.out h5.out.size _) (by have := h5.out.size; simp; omega) _)
  have hK0 := Lib.hid (BK.refl hE6.out hBw.out)
  have hw6 := Lib.hid hBw.out.size
  generalize ext (ext w5 x5) x6 = w6 at hE6 hOne hR hBw hK0 hw6 ⊢
  clear hE hO3 hO4 hla hlb D1 DE EB R1 h5
  go_wp2
  go_loopw [41] (fun iv wr => ∃ j : Nat, j ≤ E.length ∧ iv = .int .i64 j ∧ Hid (BK wB.heap.size wB w6 wr (.slice A1 E.length c1) E.length)) (fun iv _ => E.length - (intOf iv).toNat)
  case atStart => exact ⟨0, by omega, rfl, hK0⟩
  case round =>
    obtain ⟨j, hj, rfl, hK⟩ := hrel
    by_cases hlt : j < E.length
    · obtain ⟨g, y, rfl, q1, q2, q3, q4⟩ := hK.out.at hE6.out j hlt
      replace q4 := Lib.hid q4
      go_wp2
      exact ⟨⟨j + 1, by omega, by go_num, Lib.hid (q4.out _)⟩, by simp [intOf]; omega⟩
    · obtain rfl : j = E.length := by omega
      have hRr := Lib.hid (hR.out.bk hE6.out hK.out)
      have hO := Lib.hid (hOne.out.bk hE6.out hK.out)
      have hSr := Lib.hid ((hS.out.below hK.out.bel).rd encC_len)
      have hXr := Lib.hid (hX.out.below hK.out.bel)
      have hOr := Lib.hid (hO.out.rd encC_len)
      have hbel := Lib.hid (hBB.out.trans (hK.out.bel.mono hBB.out.size))
      clear hK hE6 hOne hR hBw hK0 hw6 hO hS hX hSl hin
      have S4 := Lib.hid (fun w' (h1 : Rd encC 3 w' A3 p) (h2 : Rd encC 3 w' a p) => same_cells A3 a c3 c p p w' h1 h2 (by omega) (by omega))
      simp only [decide_true] at S4
      have AP := Lib.hid (fun y1 y2 => apart_l hRr.out hra hrb hbel.out.size (by simp only [sRow]; omega) (by omega) (by omega) hbel.out y1 y2)
      clear hRr hra hrb hna hnb
      go_wp2_with (first
        | (go_at_call 30; (with_reducible refine (kept_c (some ⟨S, 0, none⟩) a (p.length + 9) c p _ ?_ ?_ (by omega)).mono ?_); (focus ((repeat (first | (with_reducible exact hSr.out) | (with_reducible exact hSr) | (with_reducible refine Rd.ext ?_ _) | (with_reducible refine Rd.alloc ?_ _) | (with_reducible refine Rd.drew ?_))); done)); (focus ((repeat (first | (with_reducible exact hXr.out) | (with_reducible exact hXr) | (with_reducible refine Rd.ext ?_ _) | (with_reducible refine Rd.alloc ?_ _) | (with_reducible refine Rd.drew ?_))); done)); rintro _ _ hgets; obtain ⟨rfl, y1, rfl⟩ := hgets.get; clear hgets)
        | (go_at_call 27; (with_reducible refine (S4.out _ ?_ ?_).mono ?_); (focus ((repeat (first | (with_reducible exact hOr.out) | (with_reducible exact hOr) | (with_reducible refine Rd.ext ?_ _) | (with_reducible refine Rd.alloc ?_ _) | (with_reducible refine Rd.drew ?_))); done)); (focus ((repeat (first | (with_reducible exact hXr.out) | (with_reducible exact hXr) | (with_reducible refine Rd.ext ?_ _) | (with_reducible refine Rd.alloc ?_ _) | (with_reducible refine Rd.drew ?_))); done)); rintro _ _ hgets; obtain ⟨rfl, y2, rfl⟩ := hgets.get; clear hgets)
        | (go_at_call 31
           (with_reducible refine (AP.out _ _).mono ?_)
           rintro _ w9 ⟨rfl, hb9⟩
           replace hb9 := Lib.hid hb9))
      go_ret
      exact ⟨rfl, hb9.out⟩
end Go.Proofs.Ytmpbgjnkkapijaa
