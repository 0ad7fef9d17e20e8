/- Books: the laws' fixed fact.  -/
import Derived.Test.YtgmbnnmckdjabaaGreatBkB
import Derived.LaidEqlPtr
namespace Go.Proofs.YtgmbnnmckdjabaaGreat
open Go.RowKit
set_option linter.unusedVariables false
set_option linter.unusedSimpArgs false

set_option maxRecDepth 100000 in
@[go_sem] theorem ptr_same (p : Nat) (w : World) : (binOp .eql 24 (ptrV p) (ptrV p)).run Tryz.prog w = .ok (.bool true) w := by
  obtain ⟨j, hj, -⟩ := info_parts (P := Tryz.prog) (e := 67) (z := .agg #[.slice none 0 0, .int .i64 0]) (size := 2) (bytes := 32) (by kernel_rfl)
  exact run_eql_ptr_same (te := 67) w ⟨p, 0, none⟩ Tryz.underlying24 hj
theorem aw8_now : ((newB 3 2 2).step 9).now = 2 := by decide +kernel
theorem aw8_len : ((newB 3 2 2).step 9).pages.length = 3 := by decide +kernel
theorem aw8_below : ((newB 3 2 2).step 9).below = false := rfl
end Go.Proofs.YtgmbnnmckdjabaaGreat
