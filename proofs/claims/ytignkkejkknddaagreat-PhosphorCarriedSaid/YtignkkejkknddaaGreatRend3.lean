/- The reference's renditions: number by number.  -/
import Derived.Test.YtignkkejkknddaaGreatRend2
import Derived.Test.YtignkkejkknddaaGreatInts
namespace Go.Proofs.YtignkkejkknddaaGreat
open Go.RowKit
set_option linter.unusedVariables false
set_option linter.unusedSimpArgs false

end Go.Proofs.YtignkkejkknddaaGreat
