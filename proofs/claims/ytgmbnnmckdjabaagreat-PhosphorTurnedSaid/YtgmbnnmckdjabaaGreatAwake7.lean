/- Pages: the laws' fixed fact.  -/
import Derived.Test.YtgmbnnmckdjabaaGreatPgPen
import Derived.Test.YtgmbnnmckdjabaaGreatPgC
import Derived.Test.YtgmbnnmckdjabaaGreatPgF
namespace Go.Proofs.YtgmbnnmckdjabaaGreat
open Go.RowKit
set_option linter.unusedVariables false
set_option linter.unusedSimpArgs false

def awS0 : PgS := resizeS ⟨[], 0⟩ 2 3
def awS1 : PgS := eachS awS0 (onB awS0.rows.length awS0.cols ⟨1, 1, 9, 9⟩) fun xs l r => eachR xs l r fun _ => ⟨120, 0, false⟩
def awS2 : PgS := moveS awS1 (onB awS1.rows.length awS1.cols ⟨0, 0, 2, 3⟩) (clampR 1 0 1000)
theorem awS1_ok : awS1.Ok := eachS_ok (resizeS_ok _ _ _ (fun r hr => by cases hr)) _ (fun _ _ _ => updR_len _ _ _ _) (fun _ _ _ h => eachR_ok h fun _ _ => by simp [Cl.ok])
theorem aw_a : (atS awS2 0 2).g = 120 := by decide +kernel
theorem aw_b : (atS awS2 1 2).g = 32 := by decide +kernel
theorem aw_r0 : awS0.rows.length = 2 := by decide +kernel
theorem aw_c0 : awS0.cols = 3 := by decide +kernel
theorem aw_r1 : awS1.rows.length = 2 := by decide +kernel
theorem aw_c1 : awS1.cols = 3 := by decide +kernel
end Go.Proofs.YtgmbnnmckdjabaaGreat
