/- A page in memory: its lines, each in a block of its own; what stores and calls do to it. -/
import Derived.Test.YtignkkejkknddaaGreatLineE
import Derived.Test.YtignkkejkknddaaGreatKeep
namespace Go.Proofs.YtignkkejkknddaaGreat
open Go.RowKit
set_option linter.unusedVariables false
set_option linter.unusedSimpArgs false

section
variable {α : Type} {enc : α → List Value} {size : Nat} {e : TypeId} {B B' : Nat} {w w' : World} {v : Value} {xs : List α}
theorem Own.keep (h : Own enc size e B w v xs) (hf : ∀ k, v.ownBlock = some k → w'.heap[k]? = w.heap[k]?) : Own enc size e B w' v xs := by
  refine ⟨h.1, ?_⟩
  rcases h.2 with hn | ⟨g, cap, cur, hv, hB, hg, rest⟩
  · exact .inl hn
  · exact .inr ⟨g, cap, cur, hv, hB, (hf g (by rw [hv]; rfl)).trans hg, rest⟩
theorem Own.lift (h : Own enc size e B w v xs) (hf : ∀ k, v.ownBlock = some k → B' ≤ k) : Own enc size e B' w v xs := by
  refine ⟨h.1, ?_⟩
  rcases h.2 with hn | ⟨g, cap, cur, hv, hB, hg, rest⟩
  · exact .inl hn
  · exact .inr ⟨g, cap, cur, hv, hf g (by rw [hv]; rfl), hg, rest⟩
theorem Own.blk (h : Own enc size e B w v xs) {k : Nat} (hk : v.ownBlock = some k) : ∃ cur, w.heap[k]? = some (.cells cur e (0, 0)) := by
  rcases h.2 with ⟨rfl, _⟩ | ⟨g, cap, cur, rfl, hB, hg, rest⟩
  · cases hk
  · injection hk with hk
    subst hk
    exact ⟨cur, hg⟩
theorem Own.some_of (h : Own enc size e B w v xs) (h0 : 0 < xs.length) : ∃ g c, v = .slice (some ⟨g, 0, none⟩) xs.length c ∧ xs.length ≤ c ∧ c ≤ maxLen := by
  rcases h.2 with ⟨rfl, hn⟩ | ⟨g, cap, cur, rfl, hB, hg, h1, h2, _⟩
  · omega
  · exact ⟨g, cap, rfl, h1, h2⟩
end

/-- an operation of a region that draws its order is done -/
theorem step_do {P : Program} {o : Oper} {ops : Array Oper} {a : Act} {w : World} {K : Act → World → Prop} {Q : Exit → Act → World → Prop} {E : Prop} (hgd : o.guard = none) (h : Oper.wp P o a w K Q) : if Region.wanted o (yielded ops a.tmps) = true then Oper.wp P o a w K Q else E := by
  rw [if_pos (by simp [Region.wanted, hgd])]
  exact h
/-- a line in memory: its block, its capacity, its cells, its size -/
structure RowM where
  g : Nat
  c : Nat
  xs : List Cl
  z : Int
def RowM.sl (r : RowM) : Value := .slice (some ⟨r.g, 0, none⟩) r.xs.length r.c
def encM (r : RowM) : List Value := [r.sl, .int .i64 r.z]
theorem encM_len (r : RowM) : (encM r).length = 2 := rfl
theorem encM_one (r : RowM) : ∀ u ∈ encM r, u.oneCell' = true := by
  intro u hu
  simp [encM] at hu
  rcases hu with rfl | rfl <;> rfl
theorem line_info : (Tryz.prog.info? 67).map (fun i => (i.zero, i.size, i.bytes)) = some (some (.agg #[.slice none 0 0, .int .i64 0]), 2, 32) := by kernel_rfl
def RowM.At (w : World) (r : RowM) : Prop := Own encC 3 60 0 w r.sl r.xs
def RowM.val (r : RowM) : List Cl × Int := (r.xs, r.z)
/-- no two lines share a block -/
def Apt (rows : List RowM) : Prop := ∀ (i j : Nat) (r s : RowM), rows[i]? = some r → rows[j]? = some s → r.g = s.g → i = j
def foot (V : Value) (rows : List RowM) (b : Nat) : Prop := V.ownBlock = some b ∨ ∃ r ∈ rows, r.g = b
/-- a list of lines in memory -/
structure Lns (w : World) (V : Value) (rows : List RowM) : Prop where
  own : Own encM 2 67 0 w V rows
  row : ∀ r ∈ rows, r.At w
  apt : Apt rows
section
variable {w w' : World} {V : Value} {rows : List RowM} {r s : RowM} {F : Nat → Prop} {b i k L n c : Nat}
theorem RowM.At.blk (h : r.At w) : ∃ cur, w.heap[r.g]? = some (.cells cur 60 (0, 0)) := Own.blk h rfl
theorem RowM.At.lt (h : r.At w) : r.g < w.heap.size := heap_in h.blk.choose_spec
theorem RowM.At.same (h : r.At w) (hf : w'.heap[r.g]? = w.heap[r.g]?) : r.At w' := Own.keep h (fun k hk => by
  injection hk with hk
  subst hk
  exact hf)
theorem RowM.At.rd (h : r.At w) : Rd encC 3 w (some ⟨r.g, 0, none⟩) r.xs := Own.rd encC_len h
theorem RowM.At.cap (h : r.At w) : r.xs.length ≤ r.c ∧ r.c ≤ maxLen := by
  obtain ⟨A, c, e, h1, h2⟩ := Own.form h
  injection e with e1 e2 e3
  subst e3
  exact ⟨h1, h2⟩
theorem RowM.At.grow (h : r.At w) (hb : Below w.heap.size w w') : r.At w' := h.same (hb.block _ h.lt)
theorem Lns.lt (h : Lns w V rows) (hb : foot V rows b) : b < w.heap.size := by
  rcases hb with hb | ⟨r, hr, rfl⟩
  · exact heap_in (Own.blk h.own hb).choose_spec
  · exact (h.row r hr).lt
theorem Lns.ne (h : Lns w V rows) (hL : V.ownBlock = some L) (hr : r.At w) : r.g ≠ L := by
  rintro rfl
  obtain ⟨c1, h1⟩ := Own.blk h.own hL
  obtain ⟨c2, h2⟩ := hr.blk
  rw [h1] at h2
  injection h2 with h2
  injection h2 with _ e _
  exact absurd e (by decide)
theorem Lns.same (h : Lns w V rows) (hf : ∀ b, foot V rows b → w'.heap[b]? = w.heap[b]?) : Lns w' V rows :=
  ⟨h.own.keep (fun k hk => hf k (.inl hk)), fun r hr => (h.row r hr).same (hf _ (.inr ⟨r, hr, rfl⟩)), h.apt⟩
theorem Lns.keep (h : Lns w V rows) (hk : Keep F w w') (hF : ∀ b, foot V rows b → ¬ F b) : Lns w' V rows := h.same fun b hb => hk.block b (h.lt hb) (hF b hb)
theorem Lns.grow (h : Lns w V rows) (hb : Below w.heap.size w w') : Lns w' V rows := h.same fun b hf => hb.block b (h.lt hf)
theorem Lns.nil (w : World) : Lns w (.slice none 0 0) [] := ⟨Own.nil _ _ _ _ _, fun r hr => by simp at hr, fun i j r s h => by simp at h⟩
theorem Lns.rd {A : Option Addr} (h : Lns w (.slice A n c) rows) : Rd encM 2 w A rows := Own.rd encM_len h.own
/-- the cells of a slot -/
theorem Lns.slot (h : Lns w (.slice (some ⟨L, 0, none⟩) n c) rows) (hi : rows[i]? = some r) :
    w.cell? ⟨L, i * 2, none⟩ = some r.sl ∧ w.cell? ⟨L, i * 2 + 1, none⟩ = some (.int .i64 r.z) ∧ (∀ q, w.frozen? ⟨L, q, none⟩ = false) ∧ L < w.heap.size := by
  obtain ⟨hlt, hr⟩ := List.getElem?_eq_some_iff.1 hi
  obtain ⟨cur, hc⟩ := Own.blk h.own rfl
  obtain ⟨b, off, e, _, hx⟩ := h.rd (by omega)
  injection e with e
  injection e with e1 e2
  subst e1 e2
  have d0 := hx i hlt 0 r.sl (by rw [hr]; rfl)
  have d1 := hx i hlt 1 (.int .i64 r.z) (by rw [hr]; rfl)
  rw [Nat.zero_add] at d0 d1
  exact ⟨d0, d1, fun q => frozen_in hc, heap_in hc⟩
theorem flat_set2 (y : RowM) : ∀ (xs : List RowM) (i : Nat), i < xs.length → (((xs.flatMap encM).set (i * 2) y.sl).set (i * 2 + 1) (.int .i64 y.z)) = (xs.set i y).flatMap encM
  | [], i, h => by simp at h
  | x :: xs, 0, h => by simp [encM]
  | x :: xs, i + 1, h => by
    have ih := flat_set2 y xs i (by simpa using h)
    rw [show (i + 1) * 2 = i * 2 + 2 by omega, show i * 2 + 2 + 1 = i * 2 + 1 + 2 by omega]
    simp only [List.flatMap_cons, List.set_cons_succ]
    rw [← ih]
    simp [encM]
theorem Apt.set (h : Apt rows) (hf : ∀ s ∈ rows, s.g ≠ r.g) (i : Nat) : Apt (rows.set i r) := by
  intro j k a b ha hb hg
  rw [List.getElem?_set] at ha hb
  by_cases e1 : i = j <;> by_cases e2 : i = k
  · omega
  · rw [if_pos e1] at ha
    rw [if_neg e2] at hb
    split at ha
    · injection ha with ha
      subst ha
      exact absurd hg.symm (hf b (List.mem_of_getElem? hb))
    · cases ha
  · rw [if_pos e2] at hb
    rw [if_neg e1] at ha
    split at hb
    · injection hb with hb
      subst hb
      exact absurd hg (hf a (List.mem_of_getElem? ha))
    · cases hb
  · rw [if_neg e1] at ha
    rw [if_neg e2] at hb
    exact h j k a b ha hb hg
/-- a line is stored into a slot -/
theorem Lns.set (h : Lns w (.slice (some ⟨L, 0, none⟩) n c) rows) (hi : i < rows.length) (hr : r.At w) (hf : ∀ s ∈ rows, s.g ≠ r.g) :
    Lns ((w.setCell ⟨L, i * 2, none⟩ r.sl).setCell ⟨L, i * 2 + 1, none⟩ (.int .i64 r.z)) (.slice (some ⟨L, 0, none⟩) n c) (rows.set i r) := by
  have hn : n = rows.length := by
    obtain ⟨A, c, e, _, _⟩ := h.own.form
    injection e
  subst hn
  have hfar : ∀ b, b ≠ L → ((w.setCell ⟨L, i * 2, none⟩ r.sl).setCell ⟨L, i * 2 + 1, none⟩ (.int .i64 r.z)).heap[b]? = w.heap[b]? := fun b hb => by
    rw [Below.heap_setCell _ _ _ _ hb, Below.heap_setCell _ _ _ _ hb]
  refine ⟨?_, fun s hs => ?_, h.apt.set hf i⟩
  · have h' : w.ownsRow 0 67 2 (.slice (some ⟨L, 0, none⟩) rows.length c) rows.length (rows.flatMap encM) := h.own
    have h3 := ((h'.stored (i * 2) r.sl).1.stored (i * 2 + 1) (.int .i64 r.z)).1
    rw [flat_set2 r rows i hi] at h3
    unfold Own
    rw [List.length_set]
    exact h3
  · have hs' : s.At w := by
      rcases List.mem_or_eq_of_mem_set hs with hs | rfl
      · exact h.row s hs
      · exact hr
    exact hs'.same (hfar _ (h.ne rfl hs'))
theorem set_id {α : Type} {l : List α} {i : Nat} {v : α} (h : l[i]? = some v) : l.set i v = l := by
  obtain ⟨hi, rfl⟩ := List.getElem?_eq_some_iff.1 h
  exact List.set_getElem_self hi
/-- a cell is stored into a line -/
theorem Lns.put (h : Lns w (.slice (some ⟨L, 0, none⟩) n c) rows) (hi : rows[i]? = some r) (hk : k < r.xs.length) (y : Cl) :
    Lns (((w.setCell ⟨r.g, k * 3, none⟩ (.int .i32 y.g)).setCell ⟨r.g, k * 3 + 1, none⟩ (.int .u8 y.r)).setCell ⟨r.g, k * 3 + 2, none⟩ (.bool y.k)) (.slice (some ⟨L, 0, none⟩) n c) (rows.set i ⟨r.g, r.c, r.xs.set k y, r.z⟩) := by
  obtain ⟨hlt, hr⟩ := List.getElem?_eq_some_iff.1 hi
  have hrm := List.mem_of_getElem? hi
  have hrA := h.row r hrm
  have hfar : ∀ b, b ≠ r.g → (((w.setCell ⟨r.g, k * 3, none⟩ (.int .i32 y.g)).setCell ⟨r.g, k * 3 + 1, none⟩ (.int .u8 y.r)).setCell ⟨r.g, k * 3 + 2, none⟩ (.bool y.k)).heap[b]? = w.heap[b]? := fun b hb => by
    rw [Below.heap_setCell _ _ _ _ hb, Below.heap_setCell _ _ _ _ hb, Below.heap_setCell _ _ _ _ hb]
  have hsl : (⟨r.g, r.c, r.xs.set k y, r.z⟩ : RowM).sl = r.sl := by simp [RowM.sl]
  refine ⟨?_, fun s hs => ?_, fun a b x z ha hb hg => ?_⟩
  · have e : (rows.set i ⟨r.g, r.c, r.xs.set k y, r.z⟩).flatMap encM = rows.flatMap encM := by
      rw [← flat_set2 _ rows i hlt, hsl]
      have d0 : (rows.flatMap encM)[i * 2]? = some r.sl := by
        have := flat_get encM_len rows i hlt 0 (by omega)
        rw [Nat.add_zero] at this
        rw [this, hr]; rfl
      have d1 : (rows.flatMap encM)[i * 2 + 1]? = some (.int .i64 r.z) := by
        have := flat_get encM_len rows i hlt 1 (by omega)
        rw [this, hr]; rfl
      rw [set_id d0, set_id d1]
    have := h.own.keep (w' := ((w.setCell ⟨r.g, k * 3, none⟩ (.int .i32 y.g)).setCell ⟨r.g, k * 3 + 1, none⟩ (.int .u8 y.r)).setCell ⟨r.g, k * 3 + 2, none⟩ (.bool y.k)) (fun b hb => hfar b (fun e => h.ne hb hrA e.symm))
    unfold Own at this ⊢
    rw [e, List.length_set]
    exact this
  · by_cases hs2 : s.g = r.g
    · obtain ⟨j, hj⟩ := List.getElem?_of_mem hs
      have hj2 := hj
      rw [List.getElem?_set] at hj2
      by_cases e : i = j
      · rw [if_pos e, if_pos hlt] at hj2
        injection hj2 with hj2
        subst hj2
        have h3 := own_set3 hrA k hk y
        unfold RowM.At
        rw [hsl]
        exact h3
      · rw [if_neg e] at hj2
        exact absurd (h.apt i j r s hi hj2 hs2.symm) e
    · have hs' : s ∈ rows := by
        rcases List.mem_or_eq_of_mem_set hs with hs | rfl
        · exact hs
        · exact absurd rfl hs2
      exact (h.row s hs').same (hfar _ hs2)
  · have key : ∀ (m : Nat) (x : RowM), (rows.set i ⟨r.g, r.c, r.xs.set k y, r.z⟩)[m]? = some x → ∃ x', rows[m]? = some x' ∧ x'.g = x.g := by
      intro m x hx
      rw [List.getElem?_set] at hx
      by_cases e : i = m
      · rw [if_pos e, if_pos hlt] at hx
        injection hx with hx
        subst hx e
        exact ⟨r, hi, rfl⟩
      · rw [if_neg e] at hx
        exact ⟨x, hx, rfl⟩
    obtain ⟨x', h1, h2⟩ := key a x ha
    obtain ⟨z', h3, h4⟩ := key b z hb
    exact h.apt a b x' z' h1 h3 (h2.trans (hg.trans h4.symm))
/-- a line is appended -/
theorem Lns.snoc {V' : Value} (h : Lns w V rows) (hr : r.At w) (hf : ∀ s ∈ rows, s.g ≠ r.g) (ho : Own encM 2 67 0 w' V' (rows ++ [r])) (hk : ∀ b, b < w.heap.size → V.ownBlock ≠ some b → w'.heap[b]? = w.heap[b]?) : Lns w' V' (rows ++ [r]) := by
  have hne : ∀ s : RowM, s.At w → V.ownBlock ≠ some s.g := fun s hs e => h.ne e hs rfl
  refine ⟨ho, fun s hs => ?_, fun i j a b ha hb hg => ?_⟩
  · have hs' : s.At w := by
      rcases List.mem_append.1 hs with hs | hs
      · exact h.row s hs
      · rw [List.mem_singleton.1 hs]; exact hr
    exact hs'.same (hk _ hs'.lt (hne s hs'))
  · have key : ∀ (m : Nat) (x : RowM), (rows ++ [r])[m]? = some x → rows[m]? = some x ∨ (m = rows.length ∧ x = r) := by
      intro m x hx
      rcases Nat.lt_or_ge m rows.length with h1 | h1
      · rw [List.getElem?_append_left h1] at hx
        exact .inl hx
      · have h2 := (List.getElem?_eq_some_iff.1 hx).1
        simp only [List.length_append, List.length_singleton] at h2
        obtain rfl : m = rows.length := by omega
        simp at hx
        exact .inr ⟨rfl, hx.symm⟩
    rcases key i a ha with h1 | ⟨h1, rfl⟩ <;> rcases key j b hb with h2 | ⟨h2, rfl⟩
    · exact h.apt i j a b h1 h2 hg
    · exact absurd hg (hf a (List.mem_of_getElem? h1))
    · exact absurd hg.symm (hf b (List.mem_of_getElem? h2))
    · omega
end

/-- a page, as plain data: its lines (cells, size), its columns -/
structure PgS where
  rows : List (List Cl × Int)
  cols : Nat
/-- what is true of every page that was made -/
structure PgS.Ok (S : PgS) : Prop where
  r1 : 1 ≤ S.rows.length
  r2 : S.rows.length ≤ 500
  c1 : 1 ≤ S.cols
  c2 : S.cols ≤ 500
  wid : ∀ r ∈ S.rows, r.1.length = S.cols
  ok : ∀ r ∈ S.rows, ∀ y ∈ r.1, y.ok
/-- a page of the program: its block p; all its blocks lie in F -/
structure PageAt (w : World) (F : Nat → Prop) (p : Nat) (S : PgS) : Prop where
  ex : ∃ V rows, w.heap[p]? = some (.cells #[V, .int .i64 S.cols] 120 (0, 0)) ∧ Lns w V rows ∧ rows.map RowM.val = S.rows ∧ ∀ b, foot V rows b → F b
  self : F p
  lt : ∀ b, F b → b < w.heap.size
/-- a page of the reference's, all whose blocks lie outside of F -/
def RefAt (w : World) (F : Nat → Prop) (U : Value) (S : PgS) : Prop :=
  ∃ V rows, U = .agg #[V, .int .i64 S.cols] ∧ Lns w V rows ∧ rows.map RowM.val = S.rows ∧ ∀ b, foot V rows b → ¬ F b
/-- F and all that has come since -/
def more (F : Nat → Prop) (w w' : World) (b : Nat) : Prop := F b ∨ (w.heap.size ≤ b ∧ b < w'.heap.size)
/-- a call has made S of the page p -/
def Did (F : Nat → Prop) (p : Nat) (S : PgS) (w w' : World) : Prop := Keep F w w' ∧ PageAt w' (more F w w') p S
section
variable {w w' : World} {F G : Nat → Prop} {p q : Nat} {S T : PgS} {U : Value}
theorem PageAt.keep (h : PageAt w G q T) (hk : Keep F w w') (hd : ∀ b, G b → ¬ F b) : PageAt w' G q T := by
  obtain ⟨⟨V, rows, h1, h2, h3, h4⟩, h5, h6⟩ := h
  exact ⟨⟨V, rows, (hk.block q (h6 q h5) (hd q h5)).trans h1, h2.keep hk (fun b hb => hd b (h4 b hb)), h3, h4⟩, h5, fun b hb => Nat.lt_of_lt_of_le (h6 b hb) hk.size⟩
theorem PageAt.grow (h : PageAt w G q T) (hb : Below w.heap.size w w') : PageAt w' G q T := h.keep (F := fun _ => False) (Keep.of_below hb) (fun _ _ h => h)
theorem PageAt.mono (h : PageAt w F q T) (hF : ∀ b, F b → G b) (hG : ∀ b, G b → b < w.heap.size) : PageAt w G q T := by
  obtain ⟨⟨V, rows, h1, h2, h3, h4⟩, h5, h6⟩ := h
  exact ⟨⟨V, rows, h1, h2, h3, fun b hb => hF b (h4 b hb)⟩, hF q h5, hG⟩
theorem RefAt.keep (h : RefAt w F U S) (hk : Keep F w w') : RefAt w' F U S := by
  obtain ⟨V, rows, h1, h2, h3, h4⟩ := h
  exact ⟨V, rows, h1, h2.keep hk h4, h3, h4⟩
theorem RefAt.grow (h : RefAt w F U S) (hb : Below w.heap.size w w') : RefAt w' F U S := by
  obtain ⟨V, rows, h1, h2, h3, h4⟩ := h
  exact ⟨V, rows, h1, h2.grow hb, h3, h4⟩
theorem RefAt.more (h : RefAt w F U S) (hk : Keep F w w') : RefAt w' (more F w w') U S := by
  obtain ⟨V, rows, h1, h2, h3, h4⟩ := h
  refine ⟨V, rows, h1, h2.keep hk h4, h3, fun b hb hm => hm.elim (h4 b hb) (fun e => ?_)⟩
  have := h2.lt hb
  omega
theorem RefAt.mono (h : RefAt w F U S) (hF : ∀ b, b < w.heap.size → G b → F b) : RefAt w G U S := by
  obtain ⟨V, rows, h1, h2, h3, h4⟩ := h
  exact ⟨V, rows, h1, h2, h3, fun b hb hg => h4 b hb (hF b (h2.lt hb) hg)⟩
end
end Go.Proofs.YtignkkejkknddaaGreat
