/- Lines: a line that is being made: the variable that holds it, its row, and what lay before.  -/
import Derived.Test.YtignkkejkknddaaGreatLineC
namespace Go.Proofs.YtignkkejkknddaaGreat
open Go.RowKit
set_option linter.unusedVariables false
set_option linter.unusedSimpArgs false

/-- In wr, which has grown out of W2, block H holds a line (of size sz) whose row, of wr's own, is ys. -/
structure RowAt (W2 wr : World) (H : Nat) (A : Option Addr) (c : Nat) (sz : Int) (ys : List Cl) : Prop where
  below : Below W2.heap.size W2 wr
  ge : W2.heap.size ≤ H
  lt : H < wr.heap.size
  h0 : wr.cell? ⟨H, 0, none⟩ = some (.slice A ys.length c)
  h1 : wr.cell? ⟨H, 1, none⟩ = some (.int .i64 sz)
  ne : ∀ b, A = some ⟨b, 0, none⟩ → b ≠ H
  own : Own encC 3 60 W2.heap.size wr (.slice A ys.length c) ys
variable {W2 wr wr' : World} {H c : Nat} {A : Option Addr} {sz : Int} {ys : List Cl}
theorem RowAt.old (h : RowAt W2 wr H A c sz ys) {b i : Nat} {v : Value} (hb : b < W2.heap.size) (hc : W2.cell? ⟨b, i, none⟩ = some v) : wr.cell? ⟨b, i, none⟩ = some v := (h.below.cell (p := ⟨b, i, none⟩) hb).trans hc
theorem RowAt.grow (h : RowAt W2 wr H A c sz ys) (hb : Below wr.heap.size wr wr') : RowAt W2 wr' H A c sz ys :=
  ⟨h.below.trans (hb.mono h.below.size), h.ge, Nat.lt_of_lt_of_le h.lt hb.size, (hb.cell (p := ⟨H, 0, none⟩) h.lt).trans h.h0, (hb.cell (p := ⟨H, 1, none⟩) h.lt).trans h.h1, h.ne, h.own.below hb⟩
theorem RowAt.more (h : RowAt W2 wr H A c sz ys) (x : More) : RowAt W2 (Go.Proofs.YtignkkejkknddaaGreat.ext wr x) H A c sz ys := h.grow (below_of_ext wr x)
theorem RowAt.alloc (h : RowAt W2 wr H A c sz ys) (o : Obj) : RowAt W2 (wr.alloc o) H A c sz ys := h.grow ((Below.refl _ _).alloc (Nat.le_refl _) o)
/-- the cells of a place -/
theorem RowAt.at (h : RowAt W2 wr H A c sz ys) {j : Nat} (hj : j < ys.length) : ∃ g, A = some ⟨g, 0, none⟩ ∧ W2.heap.size ≤ g ∧ g < wr.heap.size ∧ g ≠ H ∧ ys.length ≤ c ∧ c ≤ 9223372036854775807 ∧
    wr.cell? ⟨g, j * 3, none⟩ = some (.int .i32 ys[j].g) ∧ wr.cell? ⟨g, j * 3 + 1, none⟩ = some (.int .u8 ys[j].r) ∧ wr.cell? ⟨g, j * 3 + 2, none⟩ = some (.bool ys[j].k) ∧
    wr.frozen? ⟨g, j * 3, none⟩ = false ∧ wr.frozen? ⟨g, j * 3 + 1, none⟩ = false ∧ wr.frozen? ⟨g, j * 3 + 2, none⟩ = false := by
  obtain ⟨g, rfl, h1, h2, d0, d1, d2, hf⟩ := own_at h.own j hj
  obtain ⟨g', e, h3, h4⟩ := h.own.at0 (by omega)
  simp only [maxLen] at h4
  exact ⟨g, rfl, h1, h2, h.ne g rfl, h3, h4, d0, d1, d2, hf _, hf _, hf _⟩
theorem RowAt.set {g : Nat} (h : RowAt W2 wr H (some ⟨g, 0, none⟩) c sz ys) {j : Nat} (hj : j < ys.length) (y : Cl) :
    RowAt W2 (((wr.setCell ⟨g, j * 3, none⟩ (.int .i32 y.g)).setCell ⟨g, j * 3 + 1, none⟩ (.int .u8 y.r)).setCell ⟨g, j * 3 + 2, none⟩ (.bool y.k)) H (some ⟨g, 0, none⟩) c sz (ys.set j y) := by
  have hne := h.ne g rfl
  have c0 : ∀ i, (((wr.setCell ⟨g, j * 3, none⟩ (.int .i32 y.g)).setCell ⟨g, j * 3 + 1, none⟩ (.int .u8 y.r)).setCell ⟨g, j * 3 + 2, none⟩ (.bool y.k)).cell? ⟨H, i, none⟩ = wr.cell? ⟨H, i, none⟩ := fun i =>
    (World.cell?_setCell_other _ _ _ _ (by simp [Ne.symm hne])).trans ((World.cell?_setCell_other _ _ _ _ (by simp [Ne.symm hne])).trans (World.cell?_setCell_other _ _ _ _ (by simp [Ne.symm hne])))
  obtain ⟨g', e, hB, _⟩ := own_at h.own j hj
  injection e with e
  injection e with e
  subst e
  refine ⟨((h.below.setCell (by simpa using hB) _).setCell (by simpa using hB) _).setCell (by simpa using hB) _, h.ge, by simpa using h.lt, ?_, ?_, h.ne, ?_⟩
  · rw [c0 0, h.h0, List.length_set]
  · rw [c0 1, h.h1]
  · have h3 := own_set3 h.own j hj y
    rw [List.length_set]
    exact h3
/-- the cell of a place, before and behind -/
theorem RowAt.mk' {W2 : World} {x : More} {A : Option Addr} {n c : Nat} {sz : Int} {ys : List Cl} {B : Nat} (hn : n = ys.length) (hO : Own encC 3 60 B (ext W2 x) (.slice A n c) ys) (hB : W2.heap.size ≤ B) :
    RowAt W2 ((ext W2 x).alloc (.cells #[.slice A n c, .int .i64 sz] 67)) (W2.heap.size + x.sz) A c sz ys := by
  subst hn
  refine ⟨(below_of_ext W2 x).alloc (by simp) _, by omega, by simp, by simp [go_sem], by simp [go_sem], ?_, (hO.mono hB).alloc _⟩
  intro b hb
  rcases hO.2 with ⟨h1, _⟩ | ⟨g', cap', cur, hv, _, hgg, _⟩
  · rw [hb] at h1; cases h1
  · injection hv with e1 _ _
    rw [hb] at e1
    injection e1 with e1
    injection e1 with e1
    subst e1
    have := (Array.getElem?_eq_some_iff.1 hgg).1
    simp at this
    omega
/-- what stands in the result behind the last store -/
theorem RowAt.fin {w : World} {R : Nat} {v0 v1 : Value} (h : RowAt W2 wr H A c sz ys) (hw : Below w.heap.size w W2) (hR0 : w.heap.size ≤ R) (hR : R < W2.heap.size) (r0 : W2.cell? ⟨R, 0, none⟩ = some v0) (r1 : W2.cell? ⟨R, 1, none⟩ = some v1) :
    ∃ W3, (wr.setCell ⟨R, 0, none⟩ (.slice A ys.length c)).setCell ⟨R, 1, none⟩ (.int .i64 sz) = W3 ∧ W3.cell? ⟨R, 0, none⟩ = some (.slice A ys.length c) ∧ W3.cell? ⟨R, 1, none⟩ = some (.int .i64 sz) ∧ NewL w ys sz (.returned (lineV A ys.length c sz)) W3 := by
  have s0 := h.old hR r0
  have s1 := h.old hR r1
  refine ⟨_, rfl, ?_, ?_, ?_⟩
  · exact (World.cell?_setCell_other _ _ _ _ (by simp)).trans (World.cell?_setCell_same _ _ _ s0)
  · exact World.cell?_setCell_same _ _ _ ((World.cell?_setCell_other _ _ _ _ (by simp)).trans s1)
  · exact NewL.of (B := W2.heap.size) (((hw.trans (h.below.mono hw.size)).setCell (by simpa using hR0) _).setCell (by simpa using hR0) _) hw.size (own_set_far (own_set_far h.own _ _ hR _) _ _ hR _)
end Go.Proofs.YtignkkejkknddaaGreat
