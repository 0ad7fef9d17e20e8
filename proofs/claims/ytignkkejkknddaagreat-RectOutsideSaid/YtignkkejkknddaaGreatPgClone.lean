/- Pages: Same, Clone.  -/
import Derived.Test.YtignkkejkknddaaGreatPgD
import Derived.Test.YtignkkejkknddaaGreatPgC
namespace Go.Proofs.YtignkkejkknddaaGreat
open Go.RowKit
set_option linter.unusedVariables false
set_option linter.unusedSimpArgs false

section
variable {F G : Nat → Prop} {p q : Nat} {S T : PgS} {w : World}
end
end Go.Proofs.YtignkkejkknddaaGreat
/- Pages: Clone.  -/
namespace Go.Proofs.YtignkkejkknddaaGreat
open Go.RowKit
set_option linter.unusedVariables false
set_option linter.unusedSimpArgs false

section
variable {F : Nat → Prop} {p : Nat} {S : PgS} {w : World}
end
end Go.Proofs.YtignkkejkknddaaGreat
