/- Pages: rows that move within a box: what lies in memory meanwhile.  -/
import Derived.Test.YtignkkejkknddaaGreatPgEach
import Derived.Test.YtignkkejkknddaaGreatLineE
import Derived.Test.YtignkkejkknddaaGreatRegionF
import Derived.Test.YtignkkejkknddaaGreatLineB
namespace Go.Proofs.YtignkkejkknddaaGreat
open Go.RowKit
set_option linter.unusedVariables false
set_option linter.unusedSimpArgs false

/-- a list of lines that is read alone: at block Lw, its lines in blocks other than L -/
structure WasAt (w : World) (L Lw : Nat) (S : PgS) : Prop where
  ex : ∃ c rows, Own encM 2 67 0 w (.slice (some ⟨Lw, 0, none⟩) rows.length c) rows ∧ rows.map RowM.val = S.rows ∧ (∀ r ∈ rows, r.At w) ∧ ∀ r ∈ rows, r.g ≠ L
  ne : Lw ≠ L
  lt : Lw < w.heap.size
section
variable {w w' W wr : World} {F G : Nat → Prop} {p L Lw n c i g k : Nat} {S T : PgS} {rows : List RowM} {xs : List Cl} {z : Int} {A : Option Addr}
theorem WasAt.keep (h : WasAt w L Lw S) (hk : Keep (· = L) w w') : WasAt w' L Lw S := by
  obtain ⟨⟨c, rows, h1, h2, h3, h4⟩, h5, h6⟩ := h
  refine ⟨⟨c, rows, h1.keep fun k hv => ?_, h2, fun r hr => (h3 r hr).same (hk.block _ (h3 r hr).lt (h4 r hr)), h4⟩, h5, Nat.lt_of_lt_of_le h6 hk.size⟩
  injection hv with hv
  subst hv
  exact hk.block _ h6 h5
theorem WasAt.at (h : WasAt w L Lw S) (hi : i < S.rows.length) : ∃ g k xs z, S.rows[i] = (xs, z) ∧ RowM.At w ⟨g, k, xs, z⟩ ∧ xs.length ≤ k ∧ k ≤ maxLen ∧ w.cell? ⟨Lw, i * 2, none⟩ = some (.slice (some ⟨g, 0, none⟩) xs.length k) ∧ w.cell? ⟨Lw, i * 2 + 1, none⟩ = some (.int .i64 z) := by
  obtain ⟨⟨c, rows, h1, h2, h3, h4⟩, h5, h6⟩ := h
  have hi' : i < rows.length := by rw [← h2] at hi; simpa using hi
  have hr : rows[i]? = some rows[i] := List.getElem?_eq_getElem hi'
  have hv : rows[i].val = S.rows[i] := by simp only [← h2, List.getElem_map]
  have hA := h3 _ (List.getElem_mem hi')
  obtain ⟨b, off, e, _, hx⟩ := (Own.rd encM_len h1) (by omega)
  injection e with e
  injection e with e1 e2
  subst e1 e2
  have d0 := hx i hi' 0 rows[i].sl rfl
  have d1 := hx i hi' 1 (.int .i64 rows[i].z) rfl
  rw [Nat.zero_add] at d0 d1
  generalize rows[i] = r at hv hA d0 d1
  obtain ⟨g, k, xs, z⟩ := r
  exact ⟨g, k, xs, z, hv.symm, hA, hA.cap.1, hA.cap.2, d0, d1⟩
theorem PgO.mono (h : PgO w F p S A n c rows) (hF : ∀ b, F b → G b) (hG : ∀ b, G b → b < w.heap.size) : PgO w G p S A n c rows :=
  ⟨h.blk, h.l, h.len, h.nc, h.cm, h.val, fun b hb => hF b (h.ft b hb), hF p h.self, hG⟩
theorem PgO.grow (h : PgO w F p S A n c rows) (hb : Below w.heap.size w w') : PgO w' F p S A n c rows :=
  ⟨(hb.block p h.plt).trans h.blk, h.l.grow hb, h.len, h.nc, h.cm, h.val, h.ft, h.self, fun b hf => Nat.lt_of_lt_of_le (h.lt b hf) hb.size⟩
/-- a line that lies in a new block is stored into a slot -/
theorem PgO.setRow (h : PgO w F p S (Option.some ⟨L, 0, none⟩) n c rows) (hi : i < S.rows.length) (hb : Below w.heap.size w w') (hR : RowM.At w' ⟨g, k, xs, z⟩) (hg : w.heap.size ≤ g) :
    ∃ rows', PgO ((w'.setCell ⟨L, i * 2, none⟩ (.slice (Option.some ⟨g, 0, none⟩) xs.length k)).setCell ⟨L, i * 2 + 1, none⟩ (.int .i64 z)) (more F w w') p (setRowS S i (xs, z)) (Option.some ⟨L, 0, none⟩) n c rows' := by
  have hir : i < rows.length := by rw [← h.len, h.n]; exact hi
  have hfresh : ∀ s ∈ rows, s.g ≠ g := fun s hs e => by
    have := (h.l.row s hs).lt
    omega
  have hl := (h.l.grow hb).set hir hR hfresh
  have hpL : p ≠ L := fun e => h.off L (.inl rfl) e.symm
  refine ⟨_, ⟨?_, hl, by rw [List.length_set]; exact h.len, h.nc, h.cm, by rw [map_set_val, h.val]; rfl, fun b hb' => ?_, .inl h.self, fun b hb' => ?_⟩⟩
  · rw [Below.heap_setCell _ _ _ _ hpL, Below.heap_setCell _ _ _ _ hpL]
    exact (hb.block p h.plt).trans h.blk
  · rcases hb' with hb' | ⟨s, hs, rfl⟩
    · exact .inl (h.ft b (.inl hb'))
    · rcases List.mem_or_eq_of_mem_set hs with hs | rfl
      · exact .inl (h.ft _ (.inr ⟨s, hs, rfl⟩))
      · exact .inr ⟨hg, hR.lt⟩
  · rcases hb' with hb' | hb'
    · have := h.lt b hb'
      have := hb.size
      simp; omega
    · simpa using hb'.2
/-- a variable that holds a line -/
def VarL (w : World) (H : Nat) (xs : List Cl) (z : Int) : Prop := ∃ g k, w.heap[H]? = some (.cells #[.slice (some ⟨g, 0, none⟩) xs.length k, .int .i64 z] 67 (0, 0)) ∧ RowM.At w ⟨g, k, xs, z⟩
theorem VarL.at {H : Nat} (h : VarL w H xs z) : ∃ g k, w.cell? ⟨H, 0, none⟩ = some (.slice (some ⟨g, 0, none⟩) xs.length k) ∧ w.cell? ⟨H, 1, none⟩ = some (.int .i64 z) ∧ RowM.At w ⟨g, k, xs, z⟩ ∧ H < w.heap.size ∧ (∀ q, w.frozen? ⟨H, q, none⟩ = false) ∧ xs.length ≤ k ∧ k ≤ maxLen := by
  obtain ⟨g, k, h1, h2⟩ := h
  exact ⟨g, k, by rw [cell_in h1]; rfl, by rw [cell_in h1]; rfl, h2, heap_in h1, fun q => frozen_in h1, h2.cap.1, h2.cap.2⟩
theorem VarL.grow {H : Nat} (h : VarL w H xs z) (hb : Below w.heap.size w w') : VarL w' H xs z := by
  obtain ⟨g, k, h1, h2⟩ := h
  exact ⟨g, k, (hb.block H (heap_in h1)).trans h1, h2.grow hb⟩
/-- a line is stored into it -/
theorem VarL.put {H : Nat} {ys : List Cl} {y : Int} (h : VarL w H ys y) (hR : RowM.At w ⟨g, k, xs, z⟩) : VarL ((w.setCell ⟨H, 0, none⟩ (.slice (some ⟨g, 0, none⟩) xs.length k)).setCell ⟨H, 1, none⟩ (.int .i64 z)) H xs z := by
  obtain ⟨g', k', h1, h2⟩ := h
  have hne : g ≠ H := by
    rintro rfl
    obtain ⟨c2, e⟩ := hR.blk
    rw [h1] at e
    injection e with e
    injection e with _ e _
    exact absurd e (by decide)
  refine ⟨g, k, ?_, hR.same ?_⟩
  · simp only [World.setCell, Array.getElem?_modify, if_pos, h1]
    simp
  · rw [Below.heap_setCell _ _ _ _ hne, Below.heap_setCell _ _ _ _ hne]
theorem VarL.new (hb : Below w.heap.size w w') (hR : RowM.At w' ⟨g, k, xs, z⟩) : VarL (w'.alloc (.cells #[.slice (some ⟨g, 0, none⟩) xs.length k, .int .i64 z] 67)) w'.heap.size xs z :=
  ⟨g, k, heap_alloc_new _ _, hR.grow ((Below.refl _ _).alloc (Nat.le_refl _) _)⟩
@[go_sem] theorem lines_nil (a : Option Addr) (n c : Nat) (w : World) : (binOp .eql 37 (.slice a n c) (.slice none 0 0)).run Tryz.prog w = .ok (.bool a.isNone) w := by
  have h := run_equal_slice_nil (P := Tryz.prog) (w := w) 37 67 a n c Tryz.underlying37
  simp [binOp, h]
end
/-- a row of a box, behind a move: from n rows further down -/
def moveSrc (S : PgS) (b : BxI) (n : Int) (i : Nat) : List Cl × Int := if b.t ≤ i + n ∧ i + n < b.b then S.rows.getD ((i : Int) + n).toNat ([], 0) else (List.replicate S.cols erC, 0)
def moveRow (S : PgS) (b : BxI) (n : Int) (i : Nat) (row : List Cl × Int) : List Cl × Int :=
  if b.r - b.l < S.cols then (layR row.1 b.l b.r (cutR (moveSrc S b n i).1 b.l b.r), row.2) else moveSrc S b n i
def moveS (S : PgS) (b : BxI) (n : Int) : PgS := rowsJ S b.t.toNat (moveRow S b n) (b.b - b.t).toNat
theorem moveSrc_len {S : PgS} (hS : S.Ok) {b : BxI} (ht : 0 ≤ b.t) (hb : b.b ≤ S.rows.length) (n : Int) (i : Nat) : (moveSrc S b n i).1.length = S.cols := by
  unfold moveSrc
  split
  · rename_i h
    have hi : ((i : Int) + n).toNat < S.rows.length := by omega
    simp only [List.getD_eq_getElem?_getD, List.getElem?_eq_getElem hi, Option.getD_some]
    exact hS.len hi
  · simp
end Go.Proofs.YtignkkejkknddaaGreat
/- Pages: rows that move within a box: the walk.  -/
namespace Go.Proofs.YtignkkejkknddaaGreat
open Go.RowKit
set_option linter.unusedVariables false
set_option linter.unusedSimpArgs false

section
variable {F : Nat → Prop} {p : Nat} {S : PgS} {w : World}
end
end Go.Proofs.YtignkkejkknddaaGreat
/- Pages: Up, Down.  -/
namespace Go.Proofs.YtignkkejkknddaaGreat
open Go.RowKit
set_option linter.unusedVariables false
set_option linter.unusedSimpArgs false

section
variable {F : Nat → Prop} {p : Nat} {S : PgS} {w : World}
theorem clampR_in (n : Int) {a b : Int} (h : a ≤ b) : a ≤ clampR n a b ∧ clampR n a b ≤ b := by unfold clampR; split <;> (try split) <;> omega
end
end Go.Proofs.YtignkkejkknddaaGreat
