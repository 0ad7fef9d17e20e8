/- The reference's pages: Cells.  -/
import Derived.Test.YtignkkejkknddaaGreatPgD
import Derived.Test.YtignkkejkknddaaGreatPgB
import Derived.Test.YtignkkejkknddaaGreatRegionF
namespace Go.Proofs.YtignkkejkknddaaGreat
open Go.RowKit
set_option linter.unusedVariables false
set_option linter.unusedSimpArgs false

section
variable {S : PgS} {w : World}
end
end Go.Proofs.YtignkkejkknddaaGreat
/- Pages: is a page the document's?  -/
namespace Go.Proofs.YtignkkejkknddaaGreat
open Go.RowKit
set_option linter.unusedVariables false
set_option linter.unusedSimpArgs false

theorem box_same_neq (x y z u : Int) (w : World) : (binOp .neq 31 (.agg #[.int .i64 x, .int .i64 y, .int .i64 z, .int .i64 u]) (.agg #[.int .i64 x, .int .i64 y, .int .i64 z, .int .i64 u])).run Tryz.prog w = .ok (.bool false) w := by
  simp [go_sem]
attribute [local go_sem ↓] box_same_neq
section
variable {F : Nat → Prop} {p : Nat} {S : PgS} {w : World}
end
end Go.Proofs.YtignkkejkknddaaGreat
