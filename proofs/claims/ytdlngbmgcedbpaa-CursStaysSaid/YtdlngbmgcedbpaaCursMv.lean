/- What an act does, of both. -/
import Derived.Test.YtdlngbmgcedbpaaCursDoA
import Derived.Test.YtdlngbmgcedbpaaCursDoB
import Derived.Test.YtdlngbmgcedbpaaCursDoC
import Derived.Test.YtdlngbmgcedbpaaCursDoD
import Derived.Test.YtdlngbmgcedbpaaCursDoE
import Derived.Test.YtdlngbmgcedbpaaCursDoF

namespace Go.Proofs.Ytdlngbmgcedbpaa
open Go.ChangeShapes Go.WideShapes Go.ChangeAt Go.RowKit
set_option linter.unusedVariables false
set_option linter.unusedSimpArgs false

/-- an act of a cursor: row, column, wrap -/
def mvR (K N M B R : Int) (I : Bx) (og : Bool) (row : Int) : Int :=
  if K = 1 then backI (clampI 0 B row) N I.t else if K = 2 then forthI (clampI 0 B row) N (I.b - 1) (B - 1)
  else if K = 3 ∨ K = 4 ∨ K = 8 then clampI 0 B row
  else if K = 5 ∨ K = 6 then (if og then clampI I.t I.b (I.t + farI N) else clampI 0 B (0 + farI N))
  else if K = 7 then (if og then clampI I.t I.b row else clampI 0 B row) else row
def mvC (K N M B R : Int) (I : Bx) (og : Bool) (col : Int) : Int :=
  if K = 1 ∨ K = 2 then clampI 0 R col else if K = 3 then backI (clampI 0 R col) N I.l else if K = 4 then forthI (clampI 0 R col) N (I.r - 1) (R - 1)
  else if K = 5 then (if og then clampI I.l I.r (I.l + farI M) else clampI 0 R (0 + farI M))
  else if K = 6 then (if og then clampI I.l I.r col else clampI 0 R col)
  else if K = 7 then (if og then clampI I.l I.r (I.l + farI N) else clampI 0 R (0 + farI N))
  else if K = 8 then firstCol (clampI 0 R col) I.l og else max 0 (min col (max N 1 - 1))
def mvW (K N : Int) (col : Int) (wp : Bool) : Bool := if 1 ≤ K ∧ K ≤ 8 then false else (wp && max 0 (min col (max N 1 - 1)) == col)
theorem mvW_in {K N col : Int} {wp : Bool} (h : 1 ≤ K ∧ K ≤ 8) : mvW K N col wp = false := if_pos h
set_option maxRecDepth 100000 in
set_option maxHeartbeats 8000000 in
theorem do_all (w : World) (row col row2 col2 rd : Int) (kp wp wp2 og : Bool) (a b c d l r s pt pl pb pr mt ml mb mr K N M : Int) (hb : pb ≤ 2000) (hr : pr ≤ 2000) (hw : N ≤ 9223372036854775807) :
    Calls Try.prog 38 #[.agg #[.int .i64 row, .int .i64 col, .int .u8 rd, .bool kp, .bool wp, .bool og, .int .i64 a, .int .i64 b, .int .i64 c, .int .i64 d, .int .i64 l, .int .i64 r, .int .i64 s], .agg #[.int .i64 row2, .int .i64 col2, .int .u8 rd, .bool kp, .bool wp2, .bool og, .int .i64 a, .int .i64 b, .int .i64 c, .int .i64 d, .int .i64 l, .int .i64 r, .int .i64 s], .agg #[.int .i64 pt, .int .i64 pl, .int .i64 pb, .int .i64 pr, .int .i64 mt, .int .i64 ml, .int .i64 mb, .int .i64 mr], .agg #[.int .i64 K, .int .i64 N, .int .i64 M]] w (Gives w (.tuple #[.agg #[.int .i64 (mvR K N M (max 1 pb) (max 1 pr) (inn pb pr mt ml mb mr) og row), .int .i64 (mvC K N M (max 1 pb) (max 1 pr) (inn pb pr mt ml mb mr) og col), .int .u8 rd, .bool kp, .bool (mvW K N col wp), .bool og, .int .i64 a, .int .i64 b, .int .i64 c, .int .i64 d, .int .i64 l, .int .i64 r, .int .i64 s], .agg #[.int .i64 (mvR K N M (max 1 pb) (max 1 pr) (inn pb pr mt ml mb mr) og row2), .int .i64 (mvC K N M (max 1 pb) (max 1 pr) (inn pb pr mt ml mb mr) og col2), .int .u8 rd, .bool kp, .bool (mvW K N col2 wp2), .bool og, .int .i64 a, .int .i64 b, .int .i64 c, .int .i64 d, .int .i64 l, .int .i64 r, .int .i64 s]])) := by
  have b0 : 1 ≤ max 1 pb ∧ max 1 pb ≤ 2000 := by omega
  have r0 : 1 ≤ max 1 pr ∧ max 1 pr ≤ 2000 := by omega
  have p2 := clampI_bd (max 1 pb) row2 b0.1
  have q2 := clampI_bd (max 1 pr) col2 r0.1
  have ib := inn_bd pb pr mt ml mb mr
  unfold Bx.inn at ib
  by_cases h1 : K = 1
  · subst h1
    have := do_1 w row col row2 col2 rd kp wp wp2 og a b c d l r s pt pl pb pr mt ml mb mr N M hb hr
    rw [← up_same _ _ _ (by omega) (by omega) (by omega)] at this
    simpa [mvR, mvC, mvW] using this
  by_cases h2 : K = 2
  · subst h2
    have := do_2 w row col row2 col2 rd kp wp wp2 og a b c d l r s pt pl pb pr mt ml mb mr N M hb hr
    rw [← down_same _ _ _ _ (by omega) (by omega) (by omega) (by omega)] at this
    simpa [mvR, mvC, mvW] using this
  by_cases h3 : K = 3
  · subst h3
    have := do_3 w row col row2 col2 rd kp wp wp2 og a b c d l r s pt pl pb pr mt ml mb mr N M hb hr
    rw [← up_same _ _ _ (by omega) (by omega) (by omega)] at this
    simpa [mvR, mvC, mvW] using this
  by_cases h4 : K = 4
  · subst h4
    have := do_4 w row col row2 col2 rd kp wp wp2 og a b c d l r s pt pl pb pr mt ml mb mr N M hb hr
    rw [← down_same _ _ _ _ (by omega) (by omega) (by omega) (by omega)] at this
    simpa [mvR, mvC, mvW] using this
  by_cases h5 : K = 5
  · subst h5
    cases og
    · have := do_5_false w row col row2 col2 rd kp wp wp2 a b c d l r s pt pl pb pr mt ml mb mr N M hb hr
      simpa [mvR, mvC, mvW] using this
    · have := do_5_true w row col row2 col2 rd kp wp wp2 a b c d l r s pt pl pb pr mt ml mb mr N M hb hr
      simpa [mvR, mvC, mvW] using this
  by_cases h6 : K = 6
  · subst h6
    cases og
    · have := do_6_false w row col row2 col2 rd kp wp wp2 a b c d l r s pt pl pb pr mt ml mb mr N M hb hr
      simpa [mvR, mvC, mvW] using this
    · have := do_6_true w row col row2 col2 rd kp wp wp2 a b c d l r s pt pl pb pr mt ml mb mr N M hb hr
      simpa [mvR, mvC, mvW] using this
  by_cases h7 : K = 7
  · subst h7
    cases og
    · have := do_7_false w row col row2 col2 rd kp wp wp2 a b c d l r s pt pl pb pr mt ml mb mr N M hb hr
      simpa [mvR, mvC, mvW] using this
    · have := do_7_true w row col row2 col2 rd kp wp wp2 a b c d l r s pt pl pb pr mt ml mb mr N M hb hr
      simpa [mvR, mvC, mvW] using this
  by_cases h8 : K = 8
  · subst h8
    have := do_8 w row col row2 col2 rd kp wp wp2 og a b c d l r s pt pl pb pr mt ml mb mr N M hb hr
    rw [show @firstColR = @firstCol from rfl] at this
    simpa [mvR, mvC, mvW] using this
  have := do_9 w row col row2 col2 rd kp wp wp2 og a b c d l r s pt pl pb pr mt ml mb mr K N M hb hr hw (by omega)
  have e1 : ∀ v, mvR K N M (max 1 pb) (max 1 pr) (inn pb pr mt ml mb mr) og v = v := fun v => by unfold mvR; simp [h1, h2, h3, h4, h5, h6, h7, h8]
  have e2 : ∀ v, mvC K N M (max 1 pb) (max 1 pr) (inn pb pr mt ml mb mr) og v = max 0 (min v (max N 1 - 1)) := fun v => by unfold mvC; simp [h1, h2, h3, h4, h5, h6, h7, h8]
  have e3 : ∀ v u, mvW K N v u = (u && max 0 (min v (max N 1 - 1)) == v) := fun v u => by unfold mvW; rw [if_neg (by omega)]
  rw [e1, e1, e2, e2, e3, e3]
  exact this
end Go.Proofs.Ytdlngbmgcedbpaa
