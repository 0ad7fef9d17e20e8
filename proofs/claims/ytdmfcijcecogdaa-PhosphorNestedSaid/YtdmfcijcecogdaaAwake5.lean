/- The law package's own fixed fact. -/
import Derived.Test.YtdmfcijcecogdaaBox4
import Derived.Test.YtdmfcijcecogdaaBox5
namespace Go.Proofs.Ytdmfcijcecogdaa
open Go.RowKit
set_option linter.unusedVariables false
set_option linter.unusedSimpArgs false

set_option maxHeartbeats 1000000 in
theorem awake5 (w : World) : Calls Try.prog 28 #[] w (Gives w (.bool true)) := by
  go_enter Try.func28, Try.ntmps28
  go_wp2_with (first
    | (go_at_call 44; ((with_reducible refine (size_c _ _ _ _ _ (by omega) (by omega) (by omega) (by omega)).mono ?_); rintro _ _ hgets; obtain ⟨rfl, _, rfl⟩ := hgets.get; clear hgets))
    | go_in)
  all_goals go_returns
  all_goals refine ⟨?_, by (repeat' (first | (with_reducible exact Below.refl _ _) | (with_reducible refine Below.alloc ?_ ?_ _) | (with_reducible refine below_ext ?_ ?_ _) | (with_reducible refine Below.drew ?_) | (with_reducible refine below_drewN ?_ _) | (with_reducible refine Below.setCell ?_ ?_ _) | go_size | (simp only [go_sem]; omega) | (simp [go_sem]; done) | (simp [go_sem]; omega)))⟩
  all_goals rfl

end Go.Proofs.Ytdmfcijcecogdaa
