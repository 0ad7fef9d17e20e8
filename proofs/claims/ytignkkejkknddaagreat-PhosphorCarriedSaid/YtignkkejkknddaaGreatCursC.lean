/- Frames of a cursor. -/
import Derived.Test.YtignkkejkknddaaGreatBox2
import Derived.Deep.RegionHeld3
namespace Go.Proofs.YtignkkejkknddaaGreat
open Go.RowKit
set_option linter.unusedVariables false
set_option linter.unusedSimpArgs false

end Go.Proofs.YtignkkejkknddaaGreat
/- The cursor: what the program's moves return. -/
namespace Go.Proofs.YtignkkejkknddaaGreat
open Go.RowKit
set_option linter.unusedVariables false
set_option linter.unusedSimpArgs false

@[go_sem] theorem box_f0 (x y z u : Int) (w : World) : (Instr.field 31 (.agg #[.int .i64 x, .int .i64 y, .int .i64 z, .int .i64 u]) 0).run Tryz.prog w = .ok (.int .i64 x) w := by kernel_rfl
@[go_sem] theorem box_f1 (x y z u : Int) (w : World) : (Instr.field 31 (.agg #[.int .i64 x, .int .i64 y, .int .i64 z, .int .i64 u]) 1).run Tryz.prog w = .ok (.int .i64 y) w := by kernel_rfl
@[go_sem] theorem box_f2 (x y z u : Int) (w : World) : (Instr.field 31 (.agg #[.int .i64 x, .int .i64 y, .int .i64 z, .int .i64 u]) 2).run Tryz.prog w = .ok (.int .i64 z) w := by kernel_rfl
@[go_sem] theorem box_f3 (x y z u : Int) (w : World) : (Instr.field 31 (.agg #[.int .i64 x, .int .i64 y, .int .i64 z, .int .i64 u]) 3).run Tryz.prog w = .ok (.int .i64 u) w := by kernel_rfl
end Go.Proofs.YtignkkejkknddaaGreat
/- The cursor: moves of the program. -/
namespace Go.Proofs.YtignkkejkknddaaGreat
open Go.RowKit
set_option linter.unusedVariables false
set_option linter.unusedSimpArgs false
end Go.Proofs.YtignkkejkknddaaGreat
/- The cursor: what the reference's functions return. -/
namespace Go.Proofs.YtignkkejkknddaaGreat
open Go.RowKit
set_option linter.unusedVariables false
set_option linter.unusedSimpArgs false
end Go.Proofs.YtignkkejkknddaaGreat
/- The cursor: back to the first column; is it within the margins. -/
namespace Go.Proofs.YtignkkejkknddaaGreat
open Go.RowKit
set_option linter.unusedVariables false
set_option linter.unusedSimpArgs false
end Go.Proofs.YtignkkejkknddaaGreat
/- The cursor: the reference's width and beginning; the program's and the document's cursor are one; frames. -/
namespace Go.Proofs.YtignkkejkknddaaGreat
open Go.RowKit
set_option linter.unusedVariables false
set_option linter.unusedSimpArgs false
end Go.Proofs.YtignkkejkknddaaGreat
