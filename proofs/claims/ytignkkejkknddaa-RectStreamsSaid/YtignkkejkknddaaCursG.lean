/- The cursor: what the reference's functions return. -/
import Derived.Test.YtignkkejkknddaaCursC
namespace Go.Proofs.Ytignkkejkknddaa
open Go.RowKit
set_option linter.unusedVariables false
set_option linter.unusedSimpArgs false
def firstColR (q f : Int) (og : Bool) : Int := if q < f ∧ og = false then 0 else f
end Go.Proofs.Ytignkkejkknddaa
