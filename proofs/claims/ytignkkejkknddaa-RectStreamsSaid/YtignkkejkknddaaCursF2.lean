/- The cursor: back to the first column; is it within the margins. -/
import Derived.Test.YtignkkejkknddaaCursC
namespace Go.Proofs.Ytignkkejkknddaa
open Go.RowKit
set_option linter.unusedVariables false
set_option linter.unusedSimpArgs false
def firstCol (q f : Int) (og : Bool) : Int := if q < f ∧ og = false then 0 else f
end Go.Proofs.Ytignkkejkknddaa
/- The cursor: the reference's width and beginning; the program's and the document's cursor are one; frames. -/
namespace Go.Proofs.Ytignkkejkknddaa
open Go.RowKit
set_option linter.unusedVariables false
set_option linter.unusedSimpArgs false
end Go.Proofs.Ytignkkejkknddaa
