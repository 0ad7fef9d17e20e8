/- The cursor: back to the first column; is it within the margins. -/
import Derived.Test.YtdfiknemfpkdmaaCursC
namespace Go.Proofs.Ytdfiknemfpkdmaa
open Go.RowKit
set_option linter.unusedVariables false
set_option linter.unusedSimpArgs false
set_option maxRecDepth 100000 in
set_option maxHeartbeats 4000000 in
theorem inside_c {row col rd : Int} {kp wp og : Bool} {a b c d l r s : Int} {pt pl pb pr mt ml mb mr : Int} (hb : pb ≤ 2000) (hr : pr ≤ 2000) (w : World) :
    Calls Try.prog 83 #[.agg #[.int .i64 row, .int .i64 col, .int .u8 rd, .bool kp, .bool wp, .bool og, .int .i64 a, .int .i64 b, .int .i64 c, .int .i64 d, .int .i64 l, .int .i64 r, .int .i64 s], .agg #[.int .i64 pt, .int .i64 pl, .int .i64 pb, .int .i64 pr, .int .i64 mt, .int .i64 ml, .int .i64 mb, .int .i64 mr]] w (Gives w (.bool (inB (inn pb pr mt ml mb mr).t (inn pb pr mt ml mb mr).l (inn pb pr mt ml mb mr).b (inn pb pr mt ml mb mr).r (clampI 0 (max 1 pb) row) (clampI 0 (max 1 pr) col)))) := by
  have b0 : 1 ≤ max 1 pb ∧ max 1 pb ≤ 2000 := by omega
  have r0 : 1 ≤ max 1 pr ∧ max 1 pr ≤ 2000 := by omega
  have p0 := clampI_bd (max 1 pb) row b0.1
  have q0 := clampI_bd (max 1 pr) col r0.1
  have ib := inn_bd pb pr mt ml mb mr
  unfold Bx.inn at ib
  have ON := fun w' => on_c (row := row) (col := col) (rd := rd) (kp := kp) (wp := wp) (og := og) (a := a) (b := b) (c := c) (d := d) (l := l) (r := r) (s := s) (pt := pt) (pl := pl) (pb := pb) (pr := pr) (mt := mt) (ml := ml) (mb := mb) (mr := mr) hb hr w'
  have IN := fun w' => inner_f (pt := pt) (pl := pl) (pb := pb) (pr := pr) (mt := mt) (ml := ml) (mb := mb) (mr := mr) hb hr w'
  have W := fun w' => whole_f (pt := pt) (pl := pl) (pb := pb) (pr := pr) (mt := mt) (ml := ml) (mb := mb) (mr := mr) w'
  generalize clampI 0 (max 1 pb) row = p at ON p0 ⊢
  generalize clampI 0 (max 1 pr) col = q at ON q0 ⊢
  generalize max 1 pb = B at W b0 p0 ib ⊢
  generalize max 1 pr = R at W r0 q0 ib ⊢
  generalize inn pb pr mt ml mb mr = I at IN ib ⊢
  obtain ⟨it, il, ibb, ir⟩ := I
  simp only at IN ib ⊢
  obtain ⟨i0, i1, i2, i3, i4, i5⟩ := ib
  obtain ⟨b1, b2⟩ := b0
  obtain ⟨r1, r2⟩ := r0
  obtain ⟨p1, p2⟩ := p0
  obtain ⟨q1, q2⟩ := q0
  replace ON := Lib.hid ON
  replace IN := Lib.hid IN
  replace W := Lib.hid W
  have N := Lib.hid (fun w' => in_c it il ibb ir p q w')
  generalize inB it il ibb ir p q = V at N ⊢
  go_enter Try.func83, Try.ntmps83
  go_wp2
  (refine wp_region_free (by kernel_rfl) (by kernel_rfl) ?_)
  repeat (go_big_quiet_step (first | ((go_at_call 53; with_reducible exact Calls.free (IN.out _))) | ((go_at_call 87; with_reducible exact Calls.free (ON.out _))) | ((go_at_call 41; with_reducible exact Calls.free (N.out _)))))
  refine wpQuiet_nil ?_; rintro _ ⟨x2, rfl⟩
  go_wp2
  go_returns
  exact ⟨rfl, by (repeat' (first | (with_reducible exact Below.refl _ _) | (with_reducible refine Below.alloc ?_ ?_ _) | (with_reducible refine below_ext ?_ ?_ _) | (with_reducible refine Below.drew ?_) | (with_reducible refine below_drewN ?_ _) | (with_reducible refine Below.setCell ?_ ?_ _) | go_size | (simp only [go_sem]; omega) | (simp [go_sem]; done) | (simp [go_sem]; omega)))⟩
def firstCol (q f : Int) (og : Bool) : Int := if q < f ∧ og = false then 0 else f
set_option maxRecDepth 100000 in
set_option maxHeartbeats 4000000 in
theorem return_c {row col rd : Int} {kp wp og : Bool} {a b c d l r s : Int} {pt pl pb pr mt ml mb mr : Int} (hb : pb ≤ 2000) (hr : pr ≤ 2000) (w : World) :
    Calls Try.prog 101 #[.agg #[.int .i64 row, .int .i64 col, .int .u8 rd, .bool kp, .bool wp, .bool og, .int .i64 a, .int .i64 b, .int .i64 c, .int .i64 d, .int .i64 l, .int .i64 r, .int .i64 s], .agg #[.int .i64 pt, .int .i64 pl, .int .i64 pb, .int .i64 pr, .int .i64 mt, .int .i64 ml, .int .i64 mb, .int .i64 mr]] w (Gives w (.agg #[.int .i64 (clampI 0 (max 1 pb) row), .int .i64 (firstCol (clampI 0 (max 1 pr) col) (inn pb pr mt ml mb mr).l og), .int .u8 rd, .bool kp, .bool false, .bool og, .int .i64 a, .int .i64 b, .int .i64 c, .int .i64 d, .int .i64 l, .int .i64 r, .int .i64 s])) := by
  have b0 : 1 ≤ max 1 pb ∧ max 1 pb ≤ 2000 := by omega
  have r0 : 1 ≤ max 1 pr ∧ max 1 pr ≤ 2000 := by omega
  have p0 := clampI_bd (max 1 pb) row b0.1
  have q0 := clampI_bd (max 1 pr) col r0.1
  have ib := inn_bd pb pr mt ml mb mr
  unfold Bx.inn at ib
  have ON := fun w' => on_c (row := row) (col := col) (rd := rd) (kp := kp) (wp := wp) (og := og) (a := a) (b := b) (c := c) (d := d) (l := l) (r := r) (s := s) (pt := pt) (pl := pl) (pb := pb) (pr := pr) (mt := mt) (ml := ml) (mb := mb) (mr := mr) hb hr w'
  have IN := fun w' => inner_f (pt := pt) (pl := pl) (pb := pb) (pr := pr) (mt := mt) (ml := ml) (mb := mb) (mr := mr) hb hr w'
  have W := fun w' => whole_f (pt := pt) (pl := pl) (pb := pb) (pr := pr) (mt := mt) (ml := ml) (mb := mb) (mr := mr) w'
  generalize clampI 0 (max 1 pb) row = p at ON p0 ⊢
  generalize clampI 0 (max 1 pr) col = q at ON q0 ⊢
  generalize max 1 pb = B at W b0 p0 ib ⊢
  generalize max 1 pr = R at W r0 q0 ib ⊢
  generalize inn pb pr mt ml mb mr = I at IN ib ⊢
  obtain ⟨it, il, ibb, ir⟩ := I
  simp only at IN ib ⊢
  obtain ⟨i0, i1, i2, i3, i4, i5⟩ := ib
  obtain ⟨b1, b2⟩ := b0
  obtain ⟨r1, r2⟩ := r0
  obtain ⟨p1, p2⟩ := p0
  obtain ⟨q1, q2⟩ := q0
  replace ON := Lib.hid ON
  replace IN := Lib.hid IN
  replace W := Lib.hid W
  unfold firstCol
  by_cases h : q < il
  · cases og
    · rw [if_pos ⟨h, rfl⟩]
      go_enter Try.func101, Try.ntmps101
      go_wp2_with (first | (go_at_call 87; ((with_reducible refine (ON.out _).mono ?_); rintro _ _ hgets; obtain ⟨rfl, _, rfl⟩ := hgets.get; clear hgets)) | (go_at_call 53; ((with_reducible refine (IN.out _).mono ?_); rintro _ _ hgets; obtain ⟨rfl, _, rfl⟩ := hgets.get; clear hgets)))
      go_returns
      exact ⟨rfl, by (repeat' (first | (with_reducible exact Below.refl _ _) | (with_reducible refine Below.alloc ?_ ?_ _) | (with_reducible refine below_ext ?_ ?_ _) | (with_reducible refine Below.drew ?_) | (with_reducible refine below_drewN ?_ _) | (with_reducible refine Below.setCell ?_ ?_ _) | go_size | (simp only [go_sem]; omega) | (simp [go_sem]; done) | (simp [go_sem]; omega)))⟩
    · rw [if_neg (by simp)]
      go_enter Try.func101, Try.ntmps101
      go_wp2_with (first | (go_at_call 87; ((with_reducible refine (ON.out _).mono ?_); rintro _ _ hgets; obtain ⟨rfl, _, rfl⟩ := hgets.get; clear hgets)) | (go_at_call 53; ((with_reducible refine (IN.out _).mono ?_); rintro _ _ hgets; obtain ⟨rfl, _, rfl⟩ := hgets.get; clear hgets)))
      go_returns
      exact ⟨rfl, by (repeat' (first | (with_reducible exact Below.refl _ _) | (with_reducible refine Below.alloc ?_ ?_ _) | (with_reducible refine below_ext ?_ ?_ _) | (with_reducible refine Below.drew ?_) | (with_reducible refine below_drewN ?_ _) | (with_reducible refine Below.setCell ?_ ?_ _) | go_size | (simp only [go_sem]; omega) | (simp [go_sem]; done) | (simp [go_sem]; omega)))⟩
  · rw [if_neg (fun hh => h hh.1)]
    go_enter Try.func101, Try.ntmps101
    go_wp2_with (first | (go_at_call 87; ((with_reducible refine (ON.out _).mono ?_); rintro _ _ hgets; obtain ⟨rfl, _, rfl⟩ := hgets.get; clear hgets)) | (go_at_call 53; ((with_reducible refine (IN.out _).mono ?_); rintro _ _ hgets; obtain ⟨rfl, _, rfl⟩ := hgets.get; clear hgets)))
    go_returns
    exact ⟨rfl, by (repeat' (first | (with_reducible exact Below.refl _ _) | (with_reducible refine Below.alloc ?_ ?_ _) | (with_reducible refine below_ext ?_ ?_ _) | (with_reducible refine Below.drew ?_) | (with_reducible refine below_drewN ?_ _) | (with_reducible refine Below.setCell ?_ ?_ _) | go_size | (simp only [go_sem]; omega) | (simp [go_sem]; done) | (simp [go_sem]; omega)))⟩
set_option maxRecDepth 100000 in
set_option maxHeartbeats 4000000 in
theorem fit_c {row col rd : Int} {kp wp og : Bool} {a b c d l r s : Int} (width : Int) (hw : width ≤ 9223372036854775807) (w : World) :
    Calls Try.prog 75 #[.agg #[.int .i64 row, .int .i64 col, .int .u8 rd, .bool kp, .bool wp, .bool og, .int .i64 a, .int .i64 b, .int .i64 c, .int .i64 d, .int .i64 l, .int .i64 r, .int .i64 s], .int .i64 width] w (Gives w (.agg #[.int .i64 row, .int .i64 (max 0 (min col (max width 1 - 1))), .int .u8 rd, .bool kp, .bool (wp && max 0 (min col (max width 1 - 1)) == col), .bool og, .int .i64 a, .int .i64 b, .int .i64 c, .int .i64 d, .int .i64 l, .int .i64 r, .int .i64 s])) := by
  go_enter Try.func75, Try.ntmps75
  go_wp2
  all_goals go_returns
  all_goals refine ⟨cu_ret rfl ?_ ?_, by (repeat' (first | (with_reducible exact Below.refl _ _) | (with_reducible refine Below.alloc ?_ ?_ _) | (with_reducible refine below_ext ?_ ?_ _) | (with_reducible refine Below.drew ?_) | (with_reducible refine below_drewN ?_ _) | (with_reducible refine Below.setCell ?_ ?_ _) | go_size | (simp only [go_sem]; omega) | (simp [go_sem]; done) | (simp [go_sem]; omega)))⟩
  all_goals simp_all
set_option maxRecDepth 100000 in
set_option maxHeartbeats 4000000 in
theorem new_c (w : World) :
    Calls Try.prog 23 #[] w (Gives w (.agg #[.int .i64 0, .int .i64 0, .int .u8 0, .bool false, .bool false, .bool false, .int .i64 1, .int .i64 1, .int .i64 4, .int .i64 4, .int .i64 0, .int .i64 2, .int .i64 0])) := by
  have N : ∀ w', Calls Try.prog 51 #[] w' (Gives w' (.agg #[.int .i64 1, .int .i64 1, .int .i64 4, .int .i64 4, .int .i64 0, .int .i64 2, .int .i64 0])) := by
    intro w'
    go_enter Try.func51, Try.ntmps51
    go_wp2
    go_returns
    exact ⟨rfl, by (repeat' (first | (with_reducible exact Below.refl _ _) | (with_reducible refine Below.alloc ?_ ?_ _) | (with_reducible refine below_ext ?_ ?_ _) | (with_reducible refine Below.drew ?_) | (with_reducible refine below_drewN ?_ _) | (with_reducible refine Below.setCell ?_ ?_ _) | go_size | (simp only [go_sem]; omega) | (simp [go_sem]; done) | (simp [go_sem]; omega)))⟩
  replace N := Lib.hid N
  go_enter Try.func23, Try.ntmps23
  go_wp2_with (go_at_call 51; ((with_reducible refine (N.out _).mono ?_); rintro _ _ hgets; obtain ⟨rfl, _, rfl⟩ := hgets.get; clear hgets))
  go_returns
  exact ⟨rfl, by (repeat' (first | (with_reducible exact Below.refl _ _) | (with_reducible refine Below.alloc ?_ ?_ _) | (with_reducible refine below_ext ?_ ?_ _) | (with_reducible refine Below.drew ?_) | (with_reducible refine below_drewN ?_ _) | (with_reducible refine Below.setCell ?_ ?_ _) | go_size | (simp only [go_sem]; omega) | (simp [go_sem]; done) | (simp [go_sem]; omega)))⟩
end Go.Proofs.Ytdfiknemfpkdmaa
