/- The cursor: what the reference's functions return. -/
import Derived.Test.YtdlngbmgcedbpaaCursC
namespace Go.Proofs.Ytdlngbmgcedbpaa
open Go.RowKit
set_option linter.unusedVariables false
set_option linter.unusedSimpArgs false
set_option maxRecDepth 100000 in
set_option maxHeartbeats 4000000 in
theorem put_r {row col rd : Int} {kp wp og : Bool} {a b c d l r s : Int} (x y : Int) (w : World) :
    Calls Try.prog 96 #[.agg #[.int .i64 row, .int .i64 col, .int .u8 rd, .bool kp, .bool wp, .bool og, .int .i64 a, .int .i64 b, .int .i64 c, .int .i64 d, .int .i64 l, .int .i64 r, .int .i64 s], .agg #[.int .i64 x, .int .i64 y]] w (Gives w (.agg #[.int .i64 x, .int .i64 y, .int .u8 rd, .bool kp, .bool false, .bool og, .int .i64 a, .int .i64 b, .int .i64 c, .int .i64 d, .int .i64 l, .int .i64 r, .int .i64 s])) := by
  go_enter Try.func96, Try.ntmps96
  go_wp2
  go_returns
  exact ⟨rfl, by (repeat' (first | (with_reducible exact Below.refl _ _) | (with_reducible refine Below.alloc ?_ ?_ _) | (with_reducible refine below_ext ?_ ?_ _) | (with_reducible refine Below.drew ?_) | (with_reducible refine below_drewN ?_ _) | (with_reducible refine Below.setCell ?_ ?_ _) | go_size | (simp only [go_sem]; omega) | (simp [go_sem]; done) | (simp [go_sem]; omega)))⟩
set_option maxRecDepth 100000 in
set_option maxHeartbeats 4000000 in
theorem on_r {row col rd : Int} {kp wp og : Bool} {a b c d l r s : Int} {pt pl pb pr mt ml mb mr : Int} (hb : pb ≤ 2000) (hr : pr ≤ 2000) (w : World) :
    Calls Try.prog 41 #[.agg #[.int .i64 row, .int .i64 col, .int .u8 rd, .bool kp, .bool wp, .bool og, .int .i64 a, .int .i64 b, .int .i64 c, .int .i64 d, .int .i64 l, .int .i64 r, .int .i64 s], .agg #[.int .i64 pt, .int .i64 pl, .int .i64 pb, .int .i64 pr, .int .i64 mt, .int .i64 ml, .int .i64 mb, .int .i64 mr]] w (Gives w (.agg #[.int .i64 (clampI 0 (max 1 pb) row), .int .i64 (clampI 0 (max 1 pr) col), .int .u8 rd, .bool kp, .bool false, .bool og, .int .i64 a, .int .i64 b, .int .i64 c, .int .i64 d, .int .i64 l, .int .i64 r, .int .i64 s])) := by
  have W := Lib.hid (fun w' => whole_fr (pt := pt) (pl := pl) (pb := pb) (pr := pr) (mt := mt) (ml := ml) (mb := mb) (mr := mr) hb hr w')
  have b0 : 1 ≤ max 1 pb ∧ max 1 pb ≤ 2000 := by omega
  have r0 : 1 ≤ max 1 pr ∧ max 1 pr ≤ 2000 := by omega
  generalize max 1 pb = B at W b0 ⊢
  generalize max 1 pr = R at W r0 ⊢
  have C := Lib.hid (fun w' => clamp_nr 0 0 B R row col w' (by omega) (by omega) (by omega) (by omega) (by omega) (by omega))
  have PT := Lib.hid (fun w' => put_r (row := row) (col := col) (rd := rd) (kp := kp) (wp := wp) (og := og) (a := a) (b := b) (c := c) (d := d) (l := l) (r := r) (s := s) (clampI 0 B row) (clampI 0 R col) w')
  go_enter Try.func41, Try.ntmps41
  go_wp2
  (refine wp_region_tail 10 (by kernel_rfl) (by kernel_rfl) ?_; simp only [List.take_succ_cons, List.take_zero, List.drop_succ_cons, List.drop_zero])
  repeat (go_big_quiet_step (first
    | ((go_at_call 34; with_reducible exact Calls.free (W.out _)))
    | ((go_at_call 26; with_reducible exact Calls.free (C.out _)))
    | ((go_at_call 96; with_reducible exact Calls.free (PT.out _)))))
  refine wpQuiet_nil ?_; rintro _ ⟨x2, rfl⟩
  go_wp2
  go_returns
  exact ⟨rfl, by (repeat' (first | (with_reducible exact Below.refl _ _) | (with_reducible refine Below.alloc ?_ ?_ _) | (with_reducible refine below_ext ?_ ?_ _) | (with_reducible refine Below.drew ?_) | (with_reducible refine below_drewN ?_ _) | (with_reducible refine Below.setCell ?_ ?_ _) | go_size | (simp only [go_sem]; omega) | (simp [go_sem]; done) | (simp [go_sem]; omega)))⟩
set_option maxRecDepth 100000 in
set_option maxHeartbeats 4000000 in
theorem inside_r {row col rd : Int} {kp wp og : Bool} {a b c d l r s : Int} {pt pl pb pr mt ml mb mr : Int} (hb : pb ≤ 2000) (hr : pr ≤ 2000) (w : World) :
    Calls Try.prog 27 #[.agg #[.int .i64 row, .int .i64 col, .int .u8 rd, .bool kp, .bool wp, .bool og, .int .i64 a, .int .i64 b, .int .i64 c, .int .i64 d, .int .i64 l, .int .i64 r, .int .i64 s], .agg #[.int .i64 pt, .int .i64 pl, .int .i64 pb, .int .i64 pr, .int .i64 mt, .int .i64 ml, .int .i64 mb, .int .i64 mr]] w (Gives w (.bool (inB (inn pb pr mt ml mb mr).t (inn pb pr mt ml mb mr).l (inn pb pr mt ml mb mr).b (inn pb pr mt ml mb mr).r (clampI 0 (max 1 pb) row) (clampI 0 (max 1 pr) col)))) := by
  have b0 : 1 ≤ max 1 pb ∧ max 1 pb ≤ 2000 := by omega
  have r0 : 1 ≤ max 1 pr ∧ max 1 pr ≤ 2000 := by omega
  have p0 := clampI_bd (max 1 pb) row b0.1
  have q0 := clampI_bd (max 1 pr) col r0.1
  have ib := inn_bd pb pr mt ml mb mr
  unfold Bx.inn at ib
  have ON := fun w' => on_r (row := row) (col := col) (rd := rd) (kp := kp) (wp := wp) (og := og) (a := a) (b := b) (c := c) (d := d) (l := l) (r := r) (s := s) (pt := pt) (pl := pl) (pb := pb) (pr := pr) (mt := mt) (ml := ml) (mb := mb) (mr := mr) hb hr w'
  have IN := fun w' => inner_fr (pt := pt) (pl := pl) (pb := pb) (pr := pr) (mt := mt) (ml := ml) (mb := mb) (mr := mr) hb hr w'
  have W := fun w' => whole_fr (pt := pt) (pl := pl) (pb := pb) (pr := pr) (mt := mt) (ml := ml) (mb := mb) (mr := mr) hb hr w'
  generalize clampI 0 (max 1 pb) row = p at ON p0 ⊢
  generalize clampI 0 (max 1 pr) col = q at ON q0 ⊢
  generalize max 1 pb = B at W b0 p0 ib ⊢
  generalize max 1 pr = R at W r0 q0 ib ⊢
  generalize inn pb pr mt ml mb mr = I at IN ib ⊢
  obtain ⟨it, il, ibb, ir⟩ := I
  simp only at IN ib ⊢
  obtain ⟨i0, i1, i2, i3, i4, i5⟩ := ib
  obtain ⟨b1, b2⟩ := b0
  obtain ⟨r1, r2⟩ := r0
  obtain ⟨p1, p2⟩ := p0
  obtain ⟨q1, q2⟩ := q0
  replace ON := Lib.hid ON
  replace IN := Lib.hid IN
  replace W := Lib.hid W
  have N := Lib.hid (fun w' => in_r it il ibb ir p q w')
  generalize inB it il ibb ir p q = V at N ⊢
  go_enter Try.func27, Try.ntmps27
  go_wp2_with (go_at_call 41; ((with_reducible refine (ON.out _).mono ?_); rintro _ _ hgets; obtain ⟨rfl, _, rfl⟩ := hgets.get; clear hgets))
  (refine wp_region_free (by kernel_rfl) (by kernel_rfl) ?_)
  repeat (go_big_quiet_step (first | ((go_at_call 36; with_reducible exact Calls.free (IN.out _))) | ((go_at_call 42; with_reducible exact Calls.free (N.out _)))))
  refine wpQuiet_nil ?_; rintro _ ⟨x2, rfl⟩
  go_wp2
  go_returns
  exact ⟨rfl, by (repeat' (first | (with_reducible exact Below.refl _ _) | (with_reducible refine Below.alloc ?_ ?_ _) | (with_reducible refine below_ext ?_ ?_ _) | (with_reducible refine Below.drew ?_) | (with_reducible refine below_drewN ?_ _) | (with_reducible refine Below.setCell ?_ ?_ _) | go_size | (simp only [go_sem]; omega) | (simp [go_sem]; done) | (simp [go_sem]; omega)))⟩
def firstColR (q f : Int) (og : Bool) : Int := if q < f ∧ og = false then 0 else f
set_option maxRecDepth 100000 in
set_option maxHeartbeats 4000000 in
theorem return_r {row col rd : Int} {kp wp og : Bool} {a b c d l r s : Int} {pt pl pb pr mt ml mb mr : Int} (hb : pb ≤ 2000) (hr : pr ≤ 2000) (w : World) :
    Calls Try.prog 93 #[.agg #[.int .i64 row, .int .i64 col, .int .u8 rd, .bool kp, .bool wp, .bool og, .int .i64 a, .int .i64 b, .int .i64 c, .int .i64 d, .int .i64 l, .int .i64 r, .int .i64 s], .agg #[.int .i64 pt, .int .i64 pl, .int .i64 pb, .int .i64 pr, .int .i64 mt, .int .i64 ml, .int .i64 mb, .int .i64 mr]] w (Gives w (.agg #[.int .i64 (clampI 0 (max 1 pb) row), .int .i64 (firstColR (clampI 0 (max 1 pr) col) (inn pb pr mt ml mb mr).l og), .int .u8 rd, .bool kp, .bool false, .bool og, .int .i64 a, .int .i64 b, .int .i64 c, .int .i64 d, .int .i64 l, .int .i64 r, .int .i64 s])) := by
  have b0 : 1 ≤ max 1 pb ∧ max 1 pb ≤ 2000 := by omega
  have r0 : 1 ≤ max 1 pr ∧ max 1 pr ≤ 2000 := by omega
  have p0 := clampI_bd (max 1 pb) row b0.1
  have q0 := clampI_bd (max 1 pr) col r0.1
  have ib := inn_bd pb pr mt ml mb mr
  unfold Bx.inn at ib
  have ON := fun w' => on_r (row := row) (col := col) (rd := rd) (kp := kp) (wp := wp) (og := og) (a := a) (b := b) (c := c) (d := d) (l := l) (r := r) (s := s) (pt := pt) (pl := pl) (pb := pb) (pr := pr) (mt := mt) (ml := ml) (mb := mb) (mr := mr) hb hr w'
  have IN := fun w' => inner_fr (pt := pt) (pl := pl) (pb := pb) (pr := pr) (mt := mt) (ml := ml) (mb := mb) (mr := mr) hb hr w'
  have W := fun w' => whole_fr (pt := pt) (pl := pl) (pb := pb) (pr := pr) (mt := mt) (ml := ml) (mb := mb) (mr := mr) hb hr w'
  generalize clampI 0 (max 1 pb) row = p at ON p0 ⊢
  generalize clampI 0 (max 1 pr) col = q at ON q0 ⊢
  generalize max 1 pb = B at W b0 p0 ib ⊢
  generalize max 1 pr = R at W r0 q0 ib ⊢
  generalize inn pb pr mt ml mb mr = I at IN ib ⊢
  obtain ⟨it, il, ibb, ir⟩ := I
  simp only at IN ib ⊢
  obtain ⟨i0, i1, i2, i3, i4, i5⟩ := ib
  obtain ⟨b1, b2⟩ := b0
  obtain ⟨r1, r2⟩ := r0
  obtain ⟨p1, p2⟩ := p0
  obtain ⟨q1, q2⟩ := q0
  replace ON := Lib.hid ON
  replace IN := Lib.hid IN
  replace W := Lib.hid W
  unfold firstColR
  by_cases h : q < il
  · have hd : decide (il ≤ q) = false := by simp; omega
    cases og
    · rw [if_pos ⟨h, rfl⟩]
      go_enter Try.func93, Try.ntmps93
      go_wp2_with (go_at_call 41; ((with_reducible refine (ON.out _).mono ?_); rintro _ _ hgets; obtain ⟨rfl, _, rfl⟩ := hgets.get; clear hgets))
      (refine wp_region_free (by kernel_rfl) (by kernel_rfl) ?_)
      repeat (go_big_quiet_step ((go_at_call 36; with_reducible exact Calls.free (IN.out _))))
      refine wpQuiet_nil ?_; rintro _ ⟨x2, rfl⟩
      go_wp2_with (first | (go_at_call 41; ((with_reducible refine (ON.out _).mono ?_); rintro _ _ hgets; obtain ⟨rfl, _, rfl⟩ := hgets.get; clear hgets)) | (go_at_call 36; ((with_reducible refine (IN.out _).mono ?_); rintro _ _ hgets; obtain ⟨rfl, _, rfl⟩ := hgets.get; clear hgets)))
      go_returns
      exact ⟨rfl, by (repeat' (first | (with_reducible exact Below.refl _ _) | (with_reducible refine Below.alloc ?_ ?_ _) | (with_reducible refine below_ext ?_ ?_ _) | (with_reducible refine Below.drew ?_) | (with_reducible refine below_drewN ?_ _) | (with_reducible refine Below.setCell ?_ ?_ _) | go_size | (simp only [go_sem]; omega) | (simp [go_sem]; done) | (simp [go_sem]; omega)))⟩
    · rw [if_neg (by simp)]
      go_enter Try.func93, Try.ntmps93
      go_wp2_with (go_at_call 41; ((with_reducible refine (ON.out _).mono ?_); rintro _ _ hgets; obtain ⟨rfl, _, rfl⟩ := hgets.get; clear hgets))
      (refine wp_region_free (by kernel_rfl) (by kernel_rfl) ?_)
      repeat (go_big_quiet_step ((go_at_call 36; with_reducible exact Calls.free (IN.out _))))
      refine wpQuiet_nil ?_; rintro _ ⟨x2, rfl⟩
      go_wp2_with (first | (go_at_call 41; ((with_reducible refine (ON.out _).mono ?_); rintro _ _ hgets; obtain ⟨rfl, _, rfl⟩ := hgets.get; clear hgets)) | (go_at_call 36; ((with_reducible refine (IN.out _).mono ?_); rintro _ _ hgets; obtain ⟨rfl, _, rfl⟩ := hgets.get; clear hgets)))
      go_returns
      exact ⟨rfl, by (repeat' (first | (with_reducible exact Below.refl _ _) | (with_reducible refine Below.alloc ?_ ?_ _) | (with_reducible refine below_ext ?_ ?_ _) | (with_reducible refine Below.drew ?_) | (with_reducible refine below_drewN ?_ _) | (with_reducible refine Below.setCell ?_ ?_ _) | go_size | (simp only [go_sem]; omega) | (simp [go_sem]; done) | (simp [go_sem]; omega)))⟩
  · have hd : decide (il ≤ q) = true := by simp; omega
    rw [if_neg (fun hh => h hh.1)]
    go_enter Try.func93, Try.ntmps93
    go_wp2_with (go_at_call 41; ((with_reducible refine (ON.out _).mono ?_); rintro _ _ hgets; obtain ⟨rfl, _, rfl⟩ := hgets.get; clear hgets))
    (refine wp_region_free (by kernel_rfl) (by kernel_rfl) ?_)
    repeat (go_big_quiet_step ((go_at_call 36; with_reducible exact Calls.free (IN.out _))))
    refine wpQuiet_nil ?_; rintro _ ⟨x2, rfl⟩
    go_wp2_with (first | (go_at_call 41; ((with_reducible refine (ON.out _).mono ?_); rintro _ _ hgets; obtain ⟨rfl, _, rfl⟩ := hgets.get; clear hgets)) | (go_at_call 36; ((with_reducible refine (IN.out _).mono ?_); rintro _ _ hgets; obtain ⟨rfl, _, rfl⟩ := hgets.get; clear hgets)))
    go_returns
    exact ⟨rfl, by (repeat' (first | (with_reducible exact Below.refl _ _) | (with_reducible refine Below.alloc ?_ ?_ _) | (with_reducible refine below_ext ?_ ?_ _) | (with_reducible refine Below.drew ?_) | (with_reducible refine below_drewN ?_ _) | (with_reducible refine Below.setCell ?_ ?_ _) | go_size | (simp only [go_sem]; omega) | (simp [go_sem]; done) | (simp [go_sem]; omega)))⟩
end Go.Proofs.Ytdlngbmgcedbpaa
