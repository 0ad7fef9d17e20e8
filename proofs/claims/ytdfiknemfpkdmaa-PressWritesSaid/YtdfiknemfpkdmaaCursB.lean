/- The cursor: what the program's moves return. -/
import Derived.Test.YtdfiknemfpkdmaaCursA
namespace Go.Proofs.Ytdfiknemfpkdmaa
open Go.RowKit
set_option linter.unusedVariables false
set_option linter.unusedSimpArgs false

theorem cu_ret {row col rd : Int} {kp wp og : Bool} {a b c d l r s row' col' : Int} {wp' : Bool} (h1 : row = row') (h2 : col = col') (h3 : wp = wp') :
    Ending.returned (.agg #[.int .i64 row, .int .i64 col, .int .u8 rd, .bool kp, .bool wp, .bool og, .int .i64 a, .int .i64 b, .int .i64 c, .int .i64 d, .int .i64 l, .int .i64 r, .int .i64 s]) = .returned (.agg #[.int .i64 row', .int .i64 col', .int .u8 rd, .bool kp, .bool wp', .bool og, .int .i64 a, .int .i64 b, .int .i64 c, .int .i64 d, .int .i64 l, .int .i64 r, .int .i64 s]) := by subst h1 h2 h3; rfl
@[go_sem] theorem box_f0 (x y z u : Int) (w : World) : (Instr.field 31 (.agg #[.int .i64 x, .int .i64 y, .int .i64 z, .int .i64 u]) 0).run Try.prog w = .ok (.int .i64 x) w := by kernel_rfl
@[go_sem] theorem box_f1 (x y z u : Int) (w : World) : (Instr.field 31 (.agg #[.int .i64 x, .int .i64 y, .int .i64 z, .int .i64 u]) 1).run Try.prog w = .ok (.int .i64 y) w := by kernel_rfl
@[go_sem] theorem box_f2 (x y z u : Int) (w : World) : (Instr.field 31 (.agg #[.int .i64 x, .int .i64 y, .int .i64 z, .int .i64 u]) 2).run Try.prog w = .ok (.int .i64 z) w := by kernel_rfl
@[go_sem] theorem box_f3 (x y z u : Int) (w : World) : (Instr.field 31 (.agg #[.int .i64 x, .int .i64 y, .int .i64 z, .int .i64 u]) 3).run Try.prog w = .ok (.int .i64 u) w := by kernel_rfl
@[go_sem] theorem cur_f0 {row col rd : Int} {kp wp og : Bool} {a b c d l r s : Int} (w : World) : (Instr.field 49 (.agg #[.int .i64 row, .int .i64 col, .int .u8 rd, .bool kp, .bool wp, .bool og, .int .i64 a, .int .i64 b, .int .i64 c, .int .i64 d, .int .i64 l, .int .i64 r, .int .i64 s]) 0).run Try.prog w = .ok (.agg #[.int .i64 row, .int .i64 col]) w := by kernel_rfl
def farI (n : Int) : Int := max 0 (min n 1048576)
theorem far_bd (n : Int) : 0 ≤ farI n ∧ farI n ≤ 1048576 := by unfold farI; omega
def backI (at' n m : Int) : Int := max (if at' < m then 0 else m) (at' - farI n)
def forthI (at' n m e : Int) : Int := min (if m < at' then e else m) (at' + farI n)
set_option maxRecDepth 100000 in
set_option maxHeartbeats 4000000 in
theorem forth_c (p n m e : Int) (hp : 0 ≤ p ∧ p ≤ 4000) (w : World) : Calls Try.prog 88 #[.int .i64 p, .int .i64 n, .int .i64 m, .int .i64 e] w (Gives w (.int .i64 (forthI p n m e))) := by
  obtain ⟨p0, p1⟩ := hp
  have C := Lib.hid (show ∀ w', Calls Try.prog 97 #[.int .i64 n, .int .i64 0, .int .i64 1048576] w' (Same w' (.int .i64 (farI n))) from fun w' => pclip_c n 0 1048576 w')
  obtain ⟨f0, f1⟩ := far_bd n
  unfold forthI
  generalize farI n = f at C f0 f1 ⊢
  by_cases h : m < p
  · rw [if_pos h]
    go_enter Try.func88, Try.ntmps88
    go_wp2_with (go_at_call 97; ((with_reducible refine (C.out _).mono ?_); rintro _ _ ⟨rfl, rfl⟩))
    go_returns
    exact ⟨rfl, by (repeat' (first | (with_reducible exact Below.refl _ _) | (with_reducible refine Below.alloc ?_ ?_ _) | (with_reducible refine below_ext ?_ ?_ _) | (with_reducible refine Below.drew ?_) | (with_reducible refine below_drewN ?_ _) | (with_reducible refine Below.setCell ?_ ?_ _) | go_size | (simp only [go_sem]; omega) | (simp [go_sem]; done) | (simp [go_sem]; omega)))⟩
  · rw [if_neg h]
    go_enter Try.func88, Try.ntmps88
    go_wp2_with (go_at_call 97; ((with_reducible refine (C.out _).mono ?_); rintro _ _ ⟨rfl, rfl⟩))
    go_returns
    exact ⟨rfl, by (repeat' (first | (with_reducible exact Below.refl _ _) | (with_reducible refine Below.alloc ?_ ?_ _) | (with_reducible refine below_ext ?_ ?_ _) | (with_reducible refine Below.drew ?_) | (with_reducible refine below_drewN ?_ _) | (with_reducible refine Below.setCell ?_ ?_ _) | go_size | (simp only [go_sem]; omega) | (simp [go_sem]; done) | (simp [go_sem]; omega)))⟩
theorem clampI_bd (h x : Int) (hh : 1 ≤ h) : 0 ≤ clampI 0 h x ∧ clampI 0 h x ≤ h - 1 := by unfold clampI; omega
set_option maxRecDepth 100000 in
set_option maxHeartbeats 4000000 in
theorem on_c {row col rd : Int} {kp wp og : Bool} {a b c d l r s : Int} {pt pl pb pr mt ml mb mr : Int} (hb : pb ≤ 2000) (hr : pr ≤ 2000) (w : World) :
    Calls Try.prog 87 #[.agg #[.int .i64 row, .int .i64 col, .int .u8 rd, .bool kp, .bool wp, .bool og, .int .i64 a, .int .i64 b, .int .i64 c, .int .i64 d, .int .i64 l, .int .i64 r, .int .i64 s], .agg #[.int .i64 pt, .int .i64 pl, .int .i64 pb, .int .i64 pr, .int .i64 mt, .int .i64 ml, .int .i64 mb, .int .i64 mr]] w (Gives w (.agg #[.int .i64 (clampI 0 (max 1 pb) row), .int .i64 (clampI 0 (max 1 pr) col), .int .u8 rd, .bool kp, .bool false, .bool og, .int .i64 a, .int .i64 b, .int .i64 c, .int .i64 d, .int .i64 l, .int .i64 r, .int .i64 s])) := by
  have W := Lib.hid (fun w' => whole_f (pt := pt) (pl := pl) (pb := pb) (pr := pr) (mt := mt) (ml := ml) (mb := mb) (mr := mr) w')
  have b0 : 1 ≤ max 1 pb ∧ max 1 pb ≤ 2000 := by omega
  have r0 : 1 ≤ max 1 pr ∧ max 1 pr ≤ 2000 := by omega
  generalize max 1 pb = B at W b0 ⊢
  generalize max 1 pr = R at W r0 ⊢
  have C := Lib.hid (fun w' => clamp_ne 0 0 B R row col w' (by omega) (by omega) (by omega) (by omega) (by omega) (by omega))
  go_enter Try.func87, Try.ntmps87
  go_wp2
  (refine wp_region_tail 5 (by kernel_rfl) (by kernel_rfl) ?_; simp only [List.take_succ_cons, List.take_zero, List.drop_succ_cons, List.drop_zero])
  repeat (go_big_quiet_step (first
    | ((go_at_call 70; with_reducible exact Calls.free (W.out _)))
    | ((go_at_call 69; with_reducible exact Calls.free (C.out _)))))
  refine wpQuiet_nil ?_; rintro _ ⟨x2, rfl⟩
  go_wp2
  go_returns
  exact ⟨rfl, by (repeat' (first | (with_reducible exact Below.refl _ _) | (with_reducible refine Below.alloc ?_ ?_ _) | (with_reducible refine below_ext ?_ ?_ _) | (with_reducible refine Below.drew ?_) | (with_reducible refine below_drewN ?_ _) | (with_reducible refine Below.setCell ?_ ?_ _) | go_size | (simp only [go_sem]; omega) | (simp [go_sem]; done) | (simp [go_sem]; omega)))⟩
end Go.Proofs.Ytdfiknemfpkdmaa
