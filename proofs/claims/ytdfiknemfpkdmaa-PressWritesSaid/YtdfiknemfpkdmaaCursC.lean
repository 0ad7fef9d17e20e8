/- The cursor: moves of the program. -/
import Derived.Test.YtdfiknemfpkdmaaCursB
namespace Go.Proofs.Ytdfiknemfpkdmaa
open Go.RowKit
set_option linter.unusedVariables false
set_option linter.unusedSimpArgs false
set_option maxRecDepth 100000 in
set_option maxHeartbeats 4000000 in
theorem down_c {row col rd : Int} {kp wp og : Bool} {a b c d l r s : Int} {pt pl pb pr mt ml mb mr : Int} (hb : pb ≤ 2000) (hr : pr ≤ 2000) (n : Int) (w : World) :
    Calls Try.prog 55 #[.agg #[.int .i64 row, .int .i64 col, .int .u8 rd, .bool kp, .bool wp, .bool og, .int .i64 a, .int .i64 b, .int .i64 c, .int .i64 d, .int .i64 l, .int .i64 r, .int .i64 s], .agg #[.int .i64 pt, .int .i64 pl, .int .i64 pb, .int .i64 pr, .int .i64 mt, .int .i64 ml, .int .i64 mb, .int .i64 mr], .int .i64 n] w (Gives w (.agg #[.int .i64 (forthI (clampI 0 (max 1 pb) row) n ((inn pb pr mt ml mb mr).b - 1) (max 1 pb - 1)), .int .i64 (clampI 0 (max 1 pr) col), .int .u8 rd, .bool kp, .bool false, .bool og, .int .i64 a, .int .i64 b, .int .i64 c, .int .i64 d, .int .i64 l, .int .i64 r, .int .i64 s])) := by
  have b0 : 1 ≤ max 1 pb ∧ max 1 pb ≤ 2000 := by omega
  have r0 : 1 ≤ max 1 pr ∧ max 1 pr ≤ 2000 := by omega
  have p0 := clampI_bd (max 1 pb) row b0.1
  have q0 := clampI_bd (max 1 pr) col r0.1
  have ib := inn_bd pb pr mt ml mb mr
  unfold Bx.inn at ib
  have ON := fun w' => on_c (row := row) (col := col) (rd := rd) (kp := kp) (wp := wp) (og := og) (a := a) (b := b) (c := c) (d := d) (l := l) (r := r) (s := s) (pt := pt) (pl := pl) (pb := pb) (pr := pr) (mt := mt) (ml := ml) (mb := mb) (mr := mr) hb hr w'
  have IN := fun w' => inner_f (pt := pt) (pl := pl) (pb := pb) (pr := pr) (mt := mt) (ml := ml) (mb := mb) (mr := mr) hb hr w'
  have W := fun w' => whole_f (pt := pt) (pl := pl) (pb := pb) (pr := pr) (mt := mt) (ml := ml) (mb := mb) (mr := mr) w'
  generalize clampI 0 (max 1 pb) row = p at ON p0 ⊢
  generalize clampI 0 (max 1 pr) col = q at ON q0 ⊢
  generalize max 1 pb = B at W b0 p0 ib ⊢
  generalize max 1 pr = R at W r0 q0 ib ⊢
  generalize inn pb pr mt ml mb mr = I at IN ib ⊢
  obtain ⟨it, il, ibb, ir⟩ := I
  simp only at IN ib ⊢
  obtain ⟨i0, i1, i2, i3, i4, i5⟩ := ib
  obtain ⟨b1, b2⟩ := b0
  obtain ⟨r1, r2⟩ := r0
  obtain ⟨p1, p2⟩ := p0
  obtain ⟨q1, q2⟩ := q0
  replace ON := Lib.hid ON
  replace IN := Lib.hid IN
  replace W := Lib.hid W
  go_enter Try.func55, Try.ntmps55
  go_wp2_with (go_at_call 87; ((with_reducible refine (ON.out _).mono ?_); rintro _ _ hgets; obtain ⟨rfl, _, rfl⟩ := hgets.get; clear hgets))
  (refine wp_region_tail 13 (by kernel_rfl) (by kernel_rfl) ?_; simp only [List.take_succ_cons, List.take_zero, List.drop_succ_cons, List.drop_zero])
  repeat (go_big_quiet_step (first
    | ((go_at_call 53; with_reducible exact Calls.free (IN.out _)))
    | ((go_at_call 70; with_reducible exact Calls.free (W.out _)))
    | ((go_at_call 88; with_reducible exact Calls.free (forth_c p n (ibb - 1) (B - 1) ⟨by omega, by omega⟩ _)))))
  refine wpQuiet_nil ?_; rintro _ ⟨x2, rfl⟩
  go_wp2
  go_returns
  exact ⟨rfl, by (repeat' (first | (with_reducible exact Below.refl _ _) | (with_reducible refine Below.alloc ?_ ?_ _) | (with_reducible refine below_ext ?_ ?_ _) | (with_reducible refine Below.drew ?_) | (with_reducible refine below_drewN ?_ _) | (with_reducible refine Below.setCell ?_ ?_ _) | go_size | (simp only [go_sem]; omega) | (simp [go_sem]; done) | (simp [go_sem]; omega)))⟩
end Go.Proofs.Ytdfiknemfpkdmaa
