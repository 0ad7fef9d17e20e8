/- Two flags compared. -/
import Derived.Test.YtmpbgjnkkapijaaLib
import Derived.Laws.StructEq
namespace Go.Proofs.Ytmpbgjnkkapijaa
open Go.RowKit
set_option maxHeartbeats 4000000 in
@[go_sem] theorem flags_eq (b u k r h b' u' k' r' h' : Bool) (w : World) :
    (binOp .eql 55 (.agg #[.bool b, .bool u, .bool k, .bool r, .bool h]) (.agg #[.bool b', .bool u', .bool k', .bool r', .bool h'])).run Try.prog w = .ok (.bool (b == b' && (u == u' && (k == k' && (r == r' && h == h'))))) w := by
  cases b <;> cases u <;> cases k <;> cases r <;> cases h <;> cases b' <;> cases u' <;> cases k' <;> cases r' <;> cases h' <;> kernel_rfl
end Go.Proofs.Ytmpbgjnkkapijaa
