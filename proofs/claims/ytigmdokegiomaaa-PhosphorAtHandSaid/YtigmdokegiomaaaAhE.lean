/- The document's glyph: nation, supplemental.  -/
import Derived.Test.YtigmdokegiomaaaAhB
namespace Go.Proofs.Ytigmdokegiomaaa
open Go.RowKit
set_option linter.unusedVariables false
set_option linter.unusedSimpArgs false

set_option maxRecDepth 100000 in
set_option maxHeartbeats 16000000 in
theorem rsupp_c (c : Int) (h1 : 0 ≤ c) (h2 : c < 128) (w : World) : Calls Try.prog 23 #[.int .i64 c] w (Gives w (.int .i64 (lookI suppT c (c + 128)))) := by
  have hw : IntKind.i64.wrap (c + 128) = c + 128 := wrap_a (by omega) (by omega)
  clear h1 h2
  go_enter Try.func23, Try.ntmps23
  go_wp2
  all_goals go_returns
  all_goals refine ⟨?_, by (repeat' (first | (with_reducible exact Below.refl _ _) | (with_reducible refine Below.alloc ?_ ?_ _) | (with_reducible refine below_ext ?_ ?_ _) | (with_reducible refine Below.drew ?_) | (with_reducible refine below_drewN ?_ _) | (with_reducible refine Below.setCell ?_ ?_ _) | go_size | (simp only [go_sem]; omega) | (simp [go_sem]; done) | (simp [go_sem]; omega)))⟩
  all_goals simp only [beq_iff_eq, beq_eq_false_iff_ne, ne_eq] at *
  all_goals simp [lookI, suppT, *]
set_option maxRecDepth 100000 in
set_option maxHeartbeats 32000000 in
theorem nation_c (s c : Int) (h1 : 1 ≤ s) (h2 : s ≤ 17) (w : World) : Calls Try.prog 24 #[.int .i64 s, .int .i64 c] w (Gives w (.int .i64 (lookI (rowI nationT s []) c c))) := by
  have hs : s = 1 ∨ s = 2 ∨ s = 3 ∨ s = 4 ∨ s = 5 ∨ s = 6 ∨ s = 7 ∨ s = 8 ∨ s = 9 ∨ s = 10 ∨ s = 11 ∨ s = 12 ∨ s = 13 ∨ s = 14 ∨ s = 15 ∨ s = 16 ∨ s = 17 := by omega
  clear h1 h2
  rcases hs with rfl | rfl | rfl | rfl | rfl | rfl | rfl | rfl | rfl | rfl | rfl | rfl | rfl | rfl | rfl | rfl | rfl
  all_goals (
    go_enter Try.func24, Try.ntmps24
    go_wp2
    all_goals go_returns
    all_goals refine ⟨?_, by (repeat' (first | (with_reducible exact Below.refl _ _) | (with_reducible refine Below.alloc ?_ ?_ _) | (with_reducible refine below_ext ?_ ?_ _) | (with_reducible refine Below.drew ?_) | (with_reducible refine below_drewN ?_ _) | (with_reducible refine Below.setCell ?_ ?_ _) | go_size | (simp only [go_sem]; omega) | (simp [go_sem]; done) | (simp [go_sem]; omega)))⟩
    all_goals simp only [beq_iff_eq, beq_eq_false_iff_ne, ne_eq] at *
    all_goals simp [lookI, rowI, nationT, *])
end Go.Proofs.Ytigmdokegiomaaa
