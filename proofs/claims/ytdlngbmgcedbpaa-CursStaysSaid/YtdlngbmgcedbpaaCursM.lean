/- The cursor: the reference moves step by step. -/
import Derived.Test.YtdlngbmgcedbpaaCursG
namespace Go.Proofs.Ytdlngbmgcedbpaa
open Go.RowKit
set_option linter.unusedVariables false
set_option linter.unusedSimpArgs false
def stepsI (n : Int) : Int := max 0 (min n 1000000)
def upI (p n m : Int) : Int := max (if p < m then 0 else m) (p - stepsI n)
def downI (p n m e : Int) : Int := min (if m < p then e else m) (p + stepsI n)
theorem up_same (p n m : Int) (h0 : 0 ≤ p) (h1 : p ≤ 2000) (h2 : 0 ≤ m) : backI p n m = upI p n m := by unfold backI upI farI stepsI; split <;> omega
theorem down_same (p n m e : Int) (h0 : 0 ≤ p) (h1 : p ≤ 2000) (h2 : m ≤ 2000) (h3 : e ≤ 2000) : forthI p n m e = downI p n m e := by unfold forthI downI farI stepsI; split <;> omega
end Go.Proofs.Ytdlngbmgcedbpaa
