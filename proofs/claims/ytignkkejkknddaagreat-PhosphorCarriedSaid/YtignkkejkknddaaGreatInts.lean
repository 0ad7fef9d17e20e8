/- Lists of numbers, held against each other.  -/
import Derived.Test.YtignkkejkknddaaGreatOwn
namespace Go.Proofs.YtignkkejkknddaaGreat
open Go.RowKit
set_option linter.unusedVariables false
set_option linter.unusedSimpArgs false

end Go.Proofs.YtignkkejkknddaaGreat
