/- Lists of numbers, held against each other.  -/
import Derived.Test.YtignkkejkknddaaOwn
namespace Go.Proofs.Ytignkkejkknddaa
open Go.RowKit
set_option linter.unusedVariables false
set_option linter.unusedSimpArgs false

theorem eq_of_take {xs ys : List Int} (h : xs.length = ys.length) (k : Nat) (hk : k = xs.length) (hr : ∀ j, j < k → xs[j]? = ys[j]?) : xs = ys := by
  apply List.ext_getElem? 
  intro i
  rcases Nat.lt_or_ge i k with h1 | h1
  · exact hr i h1
  · rw [List.getElem?_eq_none (by omega), List.getElem?_eq_none (by omega)]

theorem int_info : (Try.prog.info? 3).map (fun i => (i.zero, i.size, i.bytes)) = some (some (.int .i64 0), 1, 8) := by kernel_rfl
end Go.Proofs.Ytignkkejkknddaa
