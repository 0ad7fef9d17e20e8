/- A list of rows of cells that is appended to; rows that stay.  -/
import Derived.Test.YtignkkejkknddaaGreatPgB
namespace Go.Proofs.YtignkkejkknddaaGreat
open Go.RowKit
set_option linter.unusedVariables false
set_option linter.unusedSimpArgs false

section
variable {α : Type} {enc : α → List Value} {size : Nat} {e : TypeId} {B : Nat} {w w' : World} {v : Value} {xs : List α} {F : Nat → Prop}
end
section
variable {base B : Nat} {w w' : World} {rows rows' xs : List RowD} {r : RowD} {v : Value}
/-- rows, and more rows that were made after them -/
theorem RowsAt.app (h : RowsAt base w rows) (hbw : base ≤ w.heap.size) (hB : Below w.heap.size w w') (hr : RowsAt w.heap.size w' rows') : RowsAt base w' (rows ++ rows') := by
  refine ⟨fun s hs => ?_, fun i j a b hi hj hij g o g' o' ha hb => ?_⟩
  · rcases List.mem_append.1 hs with hs | hs
    · exact (h.live s hs).below hB
    · exact (hr.live s hs).mono hbw
  · by_cases hi' : i < rows.length <;> by_cases hj' : j < rows.length
    · rw [List.getElem?_append_left hi'] at hi
      rw [List.getElem?_append_left hj'] at hj
      exact h.sep i j a b hi hj hij g o g' o' ha hb
    · rw [List.getElem?_append_left hi'] at hi
      rw [List.getElem?_append_right (by omega)] at hj
      have e1 := (h.live a (List.mem_of_getElem? hi)).lt ha
      have e2 := ((hr.live b (List.mem_of_getElem? hj)).blk g' o' hb).1
      omega
    · rw [List.getElem?_append_right (by omega)] at hi
      rw [List.getElem?_append_left hj'] at hj
      have e1 := (h.live b (List.mem_of_getElem? hj)).lt hb
      have e2 := ((hr.live a (List.mem_of_getElem? hi)).blk g o ha).1
      omega
    · rw [List.getElem?_append_right (by omega)] at hi
      rw [List.getElem?_append_right (by omega)] at hj
      exact hr.sep (i - rows.length) (j - rows.length) a b hi hj (by omega) g o g' o' ha hb
end
end Go.Proofs.YtignkkejkknddaaGreat
