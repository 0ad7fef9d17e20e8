/- make([]api.Cell, n): a row of the call's own. -/
import Derived.Test.YtmpbgjnkkapijaaOwn2
import Derived.Test.YtmpbgjnkkapijaaCells
import Derived.Laws.OwnMore
namespace Go.Proofs.Ytmpbgjnkkapijaa
open Go.RowKit
set_option linter.unusedVariables false
set_option linter.unusedSimpArgs false

def noC : Cl := ⟨0, 0, false⟩
theorem made_flat (n : Nat) : (madeCells #[.int .i32 0, .int .u8 0, .bool false] (n * 3)).toList = (List.replicate n noC).flatMap encC := by
  apply List.ext_getElem?
  intro k
  rcases Nat.lt_or_ge k (n * 3) with hk | hk
  · obtain ⟨i, j, hi, hj, rfl, he⟩ := flat_at encC_len (List.replicate n noC) k (by simpa using hk)
    rw [he]
    have hi' : i < n := by simpa using hi
    have h1 : (madeCells #[Value.int .i32 0, .int .u8 0, .bool false] (n * 3)).toList[i * 3 + j]? = some ((#[Value.int .i32 0, .int .u8 0, .bool false] : Array Value)[(i * 3 + j) % 3]!) := by
      simp [madeCells, Array.getElem?_toList, hk]
    rw [h1, show (i * 3 + j) % 3 = j by omega]
    simp only [List.getElem_replicate]
    match j, hj with
    | 0, _ => rfl
    | 1, _ => rfl
    | 2, _ => rfl
  · rw [List.getElem?_eq_none (by simp [madeCells]; omega), List.getElem?_eq_none (by rw [flat_len encC_len]; simp; omega)]

theorem make_cells (w : World) (n : Nat) (hb : n ≤ 1000000000) : ∃ x, (Instr.makeSlice 28 (.int .i64 (n : Int)) (.int .i64 (n : Int))).run Try.prog w = .ok (.slice (some ⟨w.heap.size, 0, none⟩) n n) (ext w x) ∧
    Own encC 3 24 w.heap.size (ext w x) (.slice (some ⟨w.heap.size, 0, none⟩) n n) (List.replicate n noC) := by
  obtain ⟨i, hi, hz, hsize, hby⟩ := info_parts cell_info
  obtain ⟨w', hrun, hown, hgr⟩ := run_make_full (P := Try.prog) w w.heap.size 28 24 i _ 3 Try.underlying28 hi hz hsize .i64 .i64 n (by rw [hby]; omega) (by simp [maxLen]; omega) (Nat.le_refl _)
  have hB : Below w.heap.size w w' := (Below.refl _ w).grown hgr (Nat.le_refl _) (fun k hk => by cases hk)
  obtain ⟨x, rfl⟩ := ext_of hB
  refine ⟨x, hrun, ?_⟩
  unfold Own
  rw [List.length_replicate, ← made_flat]
  exact hown
end Go.Proofs.Ytmpbgjnkkapijaa
