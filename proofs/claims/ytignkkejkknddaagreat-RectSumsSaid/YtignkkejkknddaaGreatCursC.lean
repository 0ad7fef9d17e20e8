/- Frames of a cursor. -/
import Derived.Test.YtignkkejkknddaaGreatBox2
import Derived.Deep.RegionHeld3
namespace Go.Proofs.YtignkkejkknddaaGreat
open Go.RowKit
set_option linter.unusedVariables false
set_option linter.unusedSimpArgs false

structure Bx where
  t : Int
  l : Int
  b : Int
  r : Int
  deriving DecidableEq
/-- the margins, as far as they lie on the page; the page, if they do not -/
def inn (pb pr mt ml mb mr : Int) : Bx :=
  if max 1 pb ≤ 0 ∨ max 1 pr ≤ 0 ∨ mb ≤ mt ∨ mr ≤ ml ∨ min (max 1 pb) mb ≤ max 0 mt ∨ min (max 1 pr) mr ≤ max 0 ml then ⟨0, 0, max 1 pb, max 1 pr⟩
  else ⟨max 0 mt, max 0 ml, min (max 1 pb) mb, min (max 1 pr) mr⟩
def Bx.inn (I : Bx) (B R : Int) : Prop := 0 ≤ I.t ∧ I.t < I.b ∧ I.b ≤ B ∧ 0 ≤ I.l ∧ I.l < I.r ∧ I.r ≤ R
theorem inn_bd (pb pr mt ml mb mr : Int) : (inn pb pr mt ml mb mr).inn (max 1 pb) (max 1 pr) := by
  unfold inn Bx.inn
  split
  · simp only; omega
  · simp only; omega
theorem meetI_inn (pb pr mt ml mb mr : Int) :
    (meetI 0 0 (max 1 pb) (max 1 pr) mt ml mb mr (·.2.2.1) ≤ meetI 0 0 (max 1 pb) (max 1 pr) mt ml mb mr (·.1) ∨ meetI 0 0 (max 1 pb) (max 1 pr) mt ml mb mr (·.2.2.2) ≤ meetI 0 0 (max 1 pb) (max 1 pr) mt ml mb mr (·.2.1)) ∧ inn pb pr mt ml mb mr = ⟨0, 0, max 1 pb, max 1 pr⟩ ∨
    ¬ (meetI 0 0 (max 1 pb) (max 1 pr) mt ml mb mr (·.2.2.1) ≤ meetI 0 0 (max 1 pb) (max 1 pr) mt ml mb mr (·.1) ∨ meetI 0 0 (max 1 pb) (max 1 pr) mt ml mb mr (·.2.2.2) ≤ meetI 0 0 (max 1 pb) (max 1 pr) mt ml mb mr (·.2.1)) ∧
      inn pb pr mt ml mb mr = ⟨meetI 0 0 (max 1 pb) (max 1 pr) mt ml mb mr (·.1), meetI 0 0 (max 1 pb) (max 1 pr) mt ml mb mr (·.2.1), meetI 0 0 (max 1 pb) (max 1 pr) mt ml mb mr (·.2.2.1), meetI 0 0 (max 1 pb) (max 1 pr) mt ml mb mr (·.2.2.2)⟩ := by
  unfold meetI inn
  by_cases h : (max 1 pb ≤ 0 ∨ max 1 pr ≤ 0) ∨ (mb ≤ mt ∨ mr ≤ ml) ∨ (min (max 1 pb) mb ≤ max 0 mt ∨ min (max 1 pr) mr ≤ max 0 ml)
  · simp only [if_pos h]
    rw [if_pos (by omega)]
    exact .inl ⟨by omega, rfl⟩
  · simp only [if_neg h]
    rw [if_neg (by omega)]
    exact .inr ⟨by omega, rfl⟩
theorem meetI_comm (t l b r t' l' b' r' : Int) (s : Int × Int × Int × Int → Int) : meetI t' l' b' r' t l b r s = meetI t l b r t' l' b' r' s := by
  unfold meetI
  rw [Int.max_comm t' t, Int.max_comm l' l, Int.min_comm b' b, Int.min_comm r' r]
  by_cases h : (b ≤ t ∨ r ≤ l) ∨ (b' ≤ t' ∨ r' ≤ l') ∨ (min b b' ≤ max t t' ∨ min r r' ≤ max l l')
  · rw [if_pos h, if_pos (by omega)]
  · rw [if_neg h, if_neg (by omega)]
theorem agg4_ret {x y z u x' y' z' u' : Int} (h1 : x = x') (h2 : y = y') (h3 : z = z') (h4 : u = u') : Ending.returned (.agg #[.int .i64 x, .int .i64 y, .int .i64 z, .int .i64 u]) = .returned (.agg #[.int .i64 x', .int .i64 y', .int .i64 z', .int .i64 u']) := by
  subst h1 h2 h3 h4; rfl
end Go.Proofs.YtignkkejkknddaaGreat
/- The cursor: what the program's moves return. -/
namespace Go.Proofs.YtignkkejkknddaaGreat
open Go.RowKit
set_option linter.unusedVariables false
set_option linter.unusedSimpArgs false

theorem cu_ret {row col rd : Int} {kp wp og : Bool} {a b c d l r s row' col' : Int} {wp' : Bool} (h1 : row = row') (h2 : col = col') (h3 : wp = wp') :
    Ending.returned (.agg #[.int .i64 row, .int .i64 col, .int .u8 rd, .bool kp, .bool wp, .bool og, .int .i64 a, .int .i64 b, .int .i64 c, .int .i64 d, .int .i64 l, .int .i64 r, .int .i64 s]) = .returned (.agg #[.int .i64 row', .int .i64 col', .int .u8 rd, .bool kp, .bool wp', .bool og, .int .i64 a, .int .i64 b, .int .i64 c, .int .i64 d, .int .i64 l, .int .i64 r, .int .i64 s]) := by subst h1 h2 h3; rfl
@[go_sem] theorem box_f0 (x y z u : Int) (w : World) : (Instr.field 31 (.agg #[.int .i64 x, .int .i64 y, .int .i64 z, .int .i64 u]) 0).run Tryz.prog w = .ok (.int .i64 x) w := by kernel_rfl
@[go_sem] theorem box_f1 (x y z u : Int) (w : World) : (Instr.field 31 (.agg #[.int .i64 x, .int .i64 y, .int .i64 z, .int .i64 u]) 1).run Tryz.prog w = .ok (.int .i64 y) w := by kernel_rfl
@[go_sem] theorem box_f2 (x y z u : Int) (w : World) : (Instr.field 31 (.agg #[.int .i64 x, .int .i64 y, .int .i64 z, .int .i64 u]) 2).run Tryz.prog w = .ok (.int .i64 z) w := by kernel_rfl
@[go_sem] theorem box_f3 (x y z u : Int) (w : World) : (Instr.field 31 (.agg #[.int .i64 x, .int .i64 y, .int .i64 z, .int .i64 u]) 3).run Tryz.prog w = .ok (.int .i64 u) w := by kernel_rfl
def farI (n : Int) : Int := max 0 (min n 1048576)
theorem far_bd (n : Int) : 0 ≤ farI n ∧ farI n ≤ 1048576 := by unfold farI; omega
def backI (at' n m : Int) : Int := max (if at' < m then 0 else m) (at' - farI n)
def forthI (at' n m e : Int) : Int := min (if m < at' then e else m) (at' + farI n)
theorem clampI_bd (h x : Int) (hh : 1 ≤ h) : 0 ≤ clampI 0 h x ∧ clampI 0 h x ≤ h - 1 := by unfold clampI; omega
end Go.Proofs.YtignkkejkknddaaGreat
/- The cursor: moves of the program. -/
namespace Go.Proofs.YtignkkejkknddaaGreat
open Go.RowKit
set_option linter.unusedVariables false
set_option linter.unusedSimpArgs false
end Go.Proofs.YtignkkejkknddaaGreat
/- The cursor: what the reference's functions return. -/
namespace Go.Proofs.YtignkkejkknddaaGreat
open Go.RowKit
set_option linter.unusedVariables false
set_option linter.unusedSimpArgs false
def firstColR (q f : Int) (og : Bool) : Int := if q < f ∧ og = false then 0 else f
end Go.Proofs.YtignkkejkknddaaGreat
/- The cursor: back to the first column; is it within the margins. -/
namespace Go.Proofs.YtignkkejkknddaaGreat
open Go.RowKit
set_option linter.unusedVariables false
set_option linter.unusedSimpArgs false
def firstCol (q f : Int) (og : Bool) : Int := if q < f ∧ og = false then 0 else f
end Go.Proofs.YtignkkejkknddaaGreat
/- The cursor: the reference's width and beginning; the program's and the document's cursor are one; frames. -/
namespace Go.Proofs.YtignkkejkknddaaGreat
open Go.RowKit
set_option linter.unusedVariables false
set_option linter.unusedSimpArgs false
end Go.Proofs.YtignkkejkknddaaGreat
