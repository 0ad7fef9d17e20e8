/- The cursor: places told by numbers. -/
import Derived.Test.YtdlngbmgcedbpaaCursD
namespace Go.Proofs.Ytdlngbmgcedbpaa
open Go.RowKit
set_option linter.unusedVariables false
set_option linter.unusedSimpArgs false
set_option maxRecDepth 100000 in
set_option maxHeartbeats 4000000 in
theorem to_true {row col rd : Int} {kp wp : Bool} {a b c d l r s : Int} {pt pl pb pr mt ml mb mr : Int} (hb : pb ≤ 2000) (hr : pr ≤ 2000) (m n : Int) (w : World) :
    Calls Try.prog 22 #[.agg #[.int .i64 row, .int .i64 col, .int .u8 rd, .bool kp, .bool wp, .bool true, .int .i64 a, .int .i64 b, .int .i64 c, .int .i64 d, .int .i64 l, .int .i64 r, .int .i64 s], .agg #[.int .i64 pt, .int .i64 pl, .int .i64 pb, .int .i64 pr, .int .i64 mt, .int .i64 ml, .int .i64 mb, .int .i64 mr], .int .i64 m, .int .i64 n] w (Gives w (.agg #[.int .i64 (clampI (inn pb pr mt ml mb mr).t (inn pb pr mt ml mb mr).b ((inn pb pr mt ml mb mr).t + farI m)), .int .i64 (clampI (inn pb pr mt ml mb mr).l (inn pb pr mt ml mb mr).r ((inn pb pr mt ml mb mr).l + farI n)), .int .u8 rd, .bool kp, .bool false, .bool true, .int .i64 a, .int .i64 b, .int .i64 c, .int .i64 d, .int .i64 l, .int .i64 r, .int .i64 s])) := by
  have AR := fun w' => area_t (pt := pt) (pl := pl) (pb := pb) (pr := pr) (mt := mt) (ml := ml) (mb := mb) (mr := mr) hb hr w'
  have WI := fun x y w' => within_true (row := row) (col := col) (rd := rd) (kp := kp) (wp := wp) (a := a) (b := b) (c := c) (d := d) (l := l) (r := r) (s := s) (pt := pt) (pl := pl) (pb := pb) (pr := pr) (mt := mt) (ml := ml) (mb := mb) (mr := mr) hb hr x y w'
  have b0 : 1 ≤ max 1 pb ∧ max 1 pb ≤ 2000 := by omega
  have r0 : 1 ≤ max 1 pr ∧ max 1 pr ≤ 2000 := by omega
  have ib := inn_bd pb pr mt ml mb mr
  unfold Bx.inn at ib
  generalize max 1 pb = B at AR WI b0 ib ⊢
  generalize max 1 pr = R at AR WI r0 ib ⊢
  generalize inn pb pr mt ml mb mr = I at AR WI ib ⊢
  obtain ⟨it, il, ibb, ir⟩ := I
  simp only at AR WI ib ⊢
  obtain ⟨i0, i1, i2, i3, i4, i5⟩ := ib
  obtain ⟨b1, b2⟩ := b0
  obtain ⟨r1, r2⟩ := r0
  replace AR := Lib.hid AR
  replace WI := Lib.hid WI
  have Cm := Lib.hid (fun w' => count_c it m ⟨by omega, by omega⟩ w')
  have fm := far_bd m
  generalize farI m = Fm at Cm fm ⊢
  obtain ⟨fm0, fm1⟩ := fm
  have Cn := Lib.hid (fun w' => count_c il n ⟨by omega, by omega⟩ w')
  have fn := far_bd n
  generalize farI n = Fn at Cn fn ⊢
  obtain ⟨fn0, fn1⟩ := fn
  go_enter Try.func22, Try.ntmps22
  go_wp2_with (go_at_call 25; ((with_reducible refine (AR.out _).mono ?_); rintro _ _ hgets; obtain ⟨rfl, _, rfl⟩ := hgets.get; clear hgets))
  (refine wp_region_tail 12 (by kernel_rfl) (by kernel_rfl) ?_; simp only [List.take_succ_cons, List.take_zero, List.drop_succ_cons, List.drop_zero])
  repeat (go_big_quiet_step (first
    | ((go_at_call 80; with_reducible exact Calls.free (Cm.out _)))
    | ((go_at_call 80; with_reducible exact Calls.free (Cn.out _)))
    | ((go_at_call 79; with_reducible exact Calls.free (WI.out _ _ _)))))
  refine wpQuiet_nil ?_; rintro _ ⟨x2, rfl⟩
  go_wp2
  go_returns
  refine ⟨cu_ret (by simp) (by simp) rfl, by (repeat' (first | (with_reducible exact Below.refl _ _) | (with_reducible refine Below.alloc ?_ ?_ _) | (with_reducible refine below_ext ?_ ?_ _) | (with_reducible refine Below.drew ?_) | (with_reducible refine below_drewN ?_ _) | (with_reducible refine Below.setCell ?_ ?_ _) | go_size | (simp only [go_sem]; omega) | (simp [go_sem]; done) | (simp [go_sem]; omega)))⟩
set_option maxRecDepth 100000 in
set_option maxHeartbeats 4000000 in
theorem torow_true {row col rd : Int} {kp wp : Bool} {a b c d l r s : Int} {pt pl pb pr mt ml mb mr : Int} (hb : pb ≤ 2000) (hr : pr ≤ 2000) (m : Int) (w : World) :
    Calls Try.prog 23 #[.agg #[.int .i64 row, .int .i64 col, .int .u8 rd, .bool kp, .bool wp, .bool true, .int .i64 a, .int .i64 b, .int .i64 c, .int .i64 d, .int .i64 l, .int .i64 r, .int .i64 s], .agg #[.int .i64 pt, .int .i64 pl, .int .i64 pb, .int .i64 pr, .int .i64 mt, .int .i64 ml, .int .i64 mb, .int .i64 mr], .int .i64 m] w (Gives w (.agg #[.int .i64 (clampI (inn pb pr mt ml mb mr).t (inn pb pr mt ml mb mr).b ((inn pb pr mt ml mb mr).t + farI m)), .int .i64 (clampI (inn pb pr mt ml mb mr).l (inn pb pr mt ml mb mr).r col), .int .u8 rd, .bool kp, .bool false, .bool true, .int .i64 a, .int .i64 b, .int .i64 c, .int .i64 d, .int .i64 l, .int .i64 r, .int .i64 s])) := by
  have AR := fun w' => area_t (pt := pt) (pl := pl) (pb := pb) (pr := pr) (mt := mt) (ml := ml) (mb := mb) (mr := mr) hb hr w'
  have WI := fun x y w' => within_true (row := row) (col := col) (rd := rd) (kp := kp) (wp := wp) (a := a) (b := b) (c := c) (d := d) (l := l) (r := r) (s := s) (pt := pt) (pl := pl) (pb := pb) (pr := pr) (mt := mt) (ml := ml) (mb := mb) (mr := mr) hb hr x y w'
  have b0 : 1 ≤ max 1 pb ∧ max 1 pb ≤ 2000 := by omega
  have r0 : 1 ≤ max 1 pr ∧ max 1 pr ≤ 2000 := by omega
  have ib := inn_bd pb pr mt ml mb mr
  unfold Bx.inn at ib
  generalize max 1 pb = B at AR WI b0 ib ⊢
  generalize max 1 pr = R at AR WI r0 ib ⊢
  generalize inn pb pr mt ml mb mr = I at AR WI ib ⊢
  obtain ⟨it, il, ibb, ir⟩ := I
  simp only at AR WI ib ⊢
  obtain ⟨i0, i1, i2, i3, i4, i5⟩ := ib
  obtain ⟨b1, b2⟩ := b0
  obtain ⟨r1, r2⟩ := r0
  replace AR := Lib.hid AR
  replace WI := Lib.hid WI
  have Cm := Lib.hid (fun w' => count_c it m ⟨by omega, by omega⟩ w')
  have fm := far_bd m
  generalize farI m = Fm at Cm fm ⊢
  obtain ⟨fm0, fm1⟩ := fm
  go_enter Try.func23, Try.ntmps23
  go_wp2
  (refine wp_region_tail 14 (by kernel_rfl) (by kernel_rfl) ?_; simp only [List.take_succ_cons, List.take_zero, List.drop_succ_cons, List.drop_zero])
  repeat (go_big_quiet_step (first
    | ((go_at_call 80; with_reducible exact Calls.free (Cm.out _)))
    | ((go_at_call 25; with_reducible exact Calls.free (AR.out _)))
    | ((go_at_call 79; with_reducible exact Calls.free (WI.out _ _ _)))))
  refine wpQuiet_nil ?_; rintro _ ⟨x2, rfl⟩
  go_wp2
  go_returns
  refine ⟨cu_ret (by simp) (by simp) rfl, by (repeat' (first | (with_reducible exact Below.refl _ _) | (with_reducible refine Below.alloc ?_ ?_ _) | (with_reducible refine below_ext ?_ ?_ _) | (with_reducible refine Below.drew ?_) | (with_reducible refine below_drewN ?_ _) | (with_reducible refine Below.setCell ?_ ?_ _) | go_size | (simp only [go_sem]; omega) | (simp [go_sem]; done) | (simp [go_sem]; omega)))⟩
set_option maxRecDepth 100000 in
set_option maxHeartbeats 4000000 in
theorem tocol_true {row col rd : Int} {kp wp : Bool} {a b c d l r s : Int} {pt pl pb pr mt ml mb mr : Int} (hb : pb ≤ 2000) (hr : pr ≤ 2000) (n : Int) (w : World) :
    Calls Try.prog 24 #[.agg #[.int .i64 row, .int .i64 col, .int .u8 rd, .bool kp, .bool wp, .bool true, .int .i64 a, .int .i64 b, .int .i64 c, .int .i64 d, .int .i64 l, .int .i64 r, .int .i64 s], .agg #[.int .i64 pt, .int .i64 pl, .int .i64 pb, .int .i64 pr, .int .i64 mt, .int .i64 ml, .int .i64 mb, .int .i64 mr], .int .i64 n] w (Gives w (.agg #[.int .i64 (clampI (inn pb pr mt ml mb mr).t (inn pb pr mt ml mb mr).b row), .int .i64 (clampI (inn pb pr mt ml mb mr).l (inn pb pr mt ml mb mr).r ((inn pb pr mt ml mb mr).l + farI n)), .int .u8 rd, .bool kp, .bool false, .bool true, .int .i64 a, .int .i64 b, .int .i64 c, .int .i64 d, .int .i64 l, .int .i64 r, .int .i64 s])) := by
  have AR := fun w' => area_t (pt := pt) (pl := pl) (pb := pb) (pr := pr) (mt := mt) (ml := ml) (mb := mb) (mr := mr) hb hr w'
  have WI := fun x y w' => within_true (row := row) (col := col) (rd := rd) (kp := kp) (wp := wp) (a := a) (b := b) (c := c) (d := d) (l := l) (r := r) (s := s) (pt := pt) (pl := pl) (pb := pb) (pr := pr) (mt := mt) (ml := ml) (mb := mb) (mr := mr) hb hr x y w'
  have b0 : 1 ≤ max 1 pb ∧ max 1 pb ≤ 2000 := by omega
  have r0 : 1 ≤ max 1 pr ∧ max 1 pr ≤ 2000 := by omega
  have ib := inn_bd pb pr mt ml mb mr
  unfold Bx.inn at ib
  generalize max 1 pb = B at AR WI b0 ib ⊢
  generalize max 1 pr = R at AR WI r0 ib ⊢
  generalize inn pb pr mt ml mb mr = I at AR WI ib ⊢
  obtain ⟨it, il, ibb, ir⟩ := I
  simp only at AR WI ib ⊢
  obtain ⟨i0, i1, i2, i3, i4, i5⟩ := ib
  obtain ⟨b1, b2⟩ := b0
  obtain ⟨r1, r2⟩ := r0
  replace AR := Lib.hid AR
  replace WI := Lib.hid WI
  have Cn := Lib.hid (fun w' => count_c il n ⟨by omega, by omega⟩ w')
  have fn := far_bd n
  generalize farI n = Fn at Cn fn ⊢
  obtain ⟨fn0, fn1⟩ := fn
  go_enter Try.func24, Try.ntmps24
  go_wp2
  (refine wp_region_tail 14 (by kernel_rfl) (by kernel_rfl) ?_; simp only [List.take_succ_cons, List.take_zero, List.drop_succ_cons, List.drop_zero])
  repeat (go_big_quiet_step (first
    | ((go_at_call 80; with_reducible exact Calls.free (Cn.out _)))
    | ((go_at_call 25; with_reducible exact Calls.free (AR.out _)))
    | ((go_at_call 79; with_reducible exact Calls.free (WI.out _ _ _)))))
  refine wpQuiet_nil ?_; rintro _ ⟨x2, rfl⟩
  go_wp2
  go_returns
  refine ⟨cu_ret (by simp) (by simp) rfl, by (repeat' (first | (with_reducible exact Below.refl _ _) | (with_reducible refine Below.alloc ?_ ?_ _) | (with_reducible refine below_ext ?_ ?_ _) | (with_reducible refine Below.drew ?_) | (with_reducible refine below_drewN ?_ _) | (with_reducible refine Below.setCell ?_ ?_ _) | go_size | (simp only [go_sem]; omega) | (simp [go_sem]; done) | (simp [go_sem]; omega)))⟩
set_option maxRecDepth 100000 in
set_option maxHeartbeats 4000000 in
theorem to_false {row col rd : Int} {kp wp : Bool} {a b c d l r s : Int} {pt pl pb pr mt ml mb mr : Int} (hb : pb ≤ 2000) (hr : pr ≤ 2000) (m n : Int) (w : World) :
    Calls Try.prog 22 #[.agg #[.int .i64 row, .int .i64 col, .int .u8 rd, .bool kp, .bool wp, .bool false, .int .i64 a, .int .i64 b, .int .i64 c, .int .i64 d, .int .i64 l, .int .i64 r, .int .i64 s], .agg #[.int .i64 pt, .int .i64 pl, .int .i64 pb, .int .i64 pr, .int .i64 mt, .int .i64 ml, .int .i64 mb, .int .i64 mr], .int .i64 m, .int .i64 n] w (Gives w (.agg #[.int .i64 (clampI 0 (max 1 pb) (0 + farI m)), .int .i64 (clampI 0 (max 1 pr) (0 + farI n)), .int .u8 rd, .bool kp, .bool false, .bool false, .int .i64 a, .int .i64 b, .int .i64 c, .int .i64 d, .int .i64 l, .int .i64 r, .int .i64 s])) := by
  have AR := fun w' => area_f (pt := pt) (pl := pl) (pb := pb) (pr := pr) (mt := mt) (ml := ml) (mb := mb) (mr := mr) hb hr w'
  have WI := fun x y w' => within_false (row := row) (col := col) (rd := rd) (kp := kp) (wp := wp) (a := a) (b := b) (c := c) (d := d) (l := l) (r := r) (s := s) (pt := pt) (pl := pl) (pb := pb) (pr := pr) (mt := mt) (ml := ml) (mb := mb) (mr := mr) hb hr x y w'
  have b0 : 1 ≤ max 1 pb ∧ max 1 pb ≤ 2000 := by omega
  have r0 : 1 ≤ max 1 pr ∧ max 1 pr ≤ 2000 := by omega
  have ib := inn_bd pb pr mt ml mb mr
  unfold Bx.inn at ib
  generalize max 1 pb = B at AR WI b0 ib ⊢
  generalize max 1 pr = R at AR WI r0 ib ⊢
  generalize inn pb pr mt ml mb mr = I at AR WI ib ⊢
  obtain ⟨it, il, ibb, ir⟩ := I
  simp only at AR WI ib ⊢
  obtain ⟨i0, i1, i2, i3, i4, i5⟩ := ib
  obtain ⟨b1, b2⟩ := b0
  obtain ⟨r1, r2⟩ := r0
  replace AR := Lib.hid AR
  replace WI := Lib.hid WI
  have Cm := Lib.hid (fun w' => count_c 0 m ⟨by omega, by omega⟩ w')
  have fm := far_bd m
  generalize farI m = Fm at Cm fm ⊢
  obtain ⟨fm0, fm1⟩ := fm
  have Cn := Lib.hid (fun w' => count_c 0 n ⟨by omega, by omega⟩ w')
  have fn := far_bd n
  generalize farI n = Fn at Cn fn ⊢
  obtain ⟨fn0, fn1⟩ := fn
  go_enter Try.func22, Try.ntmps22
  go_wp2_with (go_at_call 25; ((with_reducible refine (AR.out _).mono ?_); rintro _ _ hgets; obtain ⟨rfl, _, rfl⟩ := hgets.get; clear hgets))
  (refine wp_region_tail 12 (by kernel_rfl) (by kernel_rfl) ?_; simp only [List.take_succ_cons, List.take_zero, List.drop_succ_cons, List.drop_zero])
  repeat (go_big_quiet_step (first
    | ((go_at_call 80; with_reducible exact Calls.free (Cm.out _)))
    | ((go_at_call 80; with_reducible exact Calls.free (Cn.out _)))
    | ((go_at_call 79; with_reducible exact Calls.free (WI.out _ _ _)))))
  refine wpQuiet_nil ?_; rintro _ ⟨x2, rfl⟩
  go_wp2
  go_returns
  refine ⟨cu_ret (by simp) (by simp) rfl, by (repeat' (first | (with_reducible exact Below.refl _ _) | (with_reducible refine Below.alloc ?_ ?_ _) | (with_reducible refine below_ext ?_ ?_ _) | (with_reducible refine Below.drew ?_) | (with_reducible refine below_drewN ?_ _) | (with_reducible refine Below.setCell ?_ ?_ _) | go_size | (simp only [go_sem]; omega) | (simp [go_sem]; done) | (simp [go_sem]; omega)))⟩
set_option maxRecDepth 100000 in
set_option maxHeartbeats 4000000 in
theorem torow_false {row col rd : Int} {kp wp : Bool} {a b c d l r s : Int} {pt pl pb pr mt ml mb mr : Int} (hb : pb ≤ 2000) (hr : pr ≤ 2000) (m : Int) (w : World) :
    Calls Try.prog 23 #[.agg #[.int .i64 row, .int .i64 col, .int .u8 rd, .bool kp, .bool wp, .bool false, .int .i64 a, .int .i64 b, .int .i64 c, .int .i64 d, .int .i64 l, .int .i64 r, .int .i64 s], .agg #[.int .i64 pt, .int .i64 pl, .int .i64 pb, .int .i64 pr, .int .i64 mt, .int .i64 ml, .int .i64 mb, .int .i64 mr], .int .i64 m] w (Gives w (.agg #[.int .i64 (clampI 0 (max 1 pb) (0 + farI m)), .int .i64 (clampI 0 (max 1 pr) col), .int .u8 rd, .bool kp, .bool false, .bool false, .int .i64 a, .int .i64 b, .int .i64 c, .int .i64 d, .int .i64 l, .int .i64 r, .int .i64 s])) := by
  have AR := fun w' => area_f (pt := pt) (pl := pl) (pb := pb) (pr := pr) (mt := mt) (ml := ml) (mb := mb) (mr := mr) hb hr w'
  have WI := fun x y w' => within_false (row := row) (col := col) (rd := rd) (kp := kp) (wp := wp) (a := a) (b := b) (c := c) (d := d) (l := l) (r := r) (s := s) (pt := pt) (pl := pl) (pb := pb) (pr := pr) (mt := mt) (ml := ml) (mb := mb) (mr := mr) hb hr x y w'
  have b0 : 1 ≤ max 1 pb ∧ max 1 pb ≤ 2000 := by omega
  have r0 : 1 ≤ max 1 pr ∧ max 1 pr ≤ 2000 := by omega
  have ib := inn_bd pb pr mt ml mb mr
  unfold Bx.inn at ib
  generalize max 1 pb = B at AR WI b0 ib ⊢
  generalize max 1 pr = R at AR WI r0 ib ⊢
  generalize inn pb pr mt ml mb mr = I at AR WI ib ⊢
  obtain ⟨it, il, ibb, ir⟩ := I
  simp only at AR WI ib ⊢
  obtain ⟨i0, i1, i2, i3, i4, i5⟩ := ib
  obtain ⟨b1, b2⟩ := b0
  obtain ⟨r1, r2⟩ := r0
  replace AR := Lib.hid AR
  replace WI := Lib.hid WI
  have Cm := Lib.hid (fun w' => count_c 0 m ⟨by omega, by omega⟩ w')
  have fm := far_bd m
  generalize farI m = Fm at Cm fm ⊢
  obtain ⟨fm0, fm1⟩ := fm
  go_enter Try.func23, Try.ntmps23
  go_wp2
  (refine wp_region_tail 14 (by kernel_rfl) (by kernel_rfl) ?_; simp only [List.take_succ_cons, List.take_zero, List.drop_succ_cons, List.drop_zero])
  repeat (go_big_quiet_step (first
    | ((go_at_call 80; with_reducible exact Calls.free (Cm.out _)))
    | ((go_at_call 25; with_reducible exact Calls.free (AR.out _)))
    | ((go_at_call 79; with_reducible exact Calls.free (WI.out _ _ _)))))
  refine wpQuiet_nil ?_; rintro _ ⟨x2, rfl⟩
  go_wp2
  go_returns
  refine ⟨cu_ret (by simp) (by simp) rfl, by (repeat' (first | (with_reducible exact Below.refl _ _) | (with_reducible refine Below.alloc ?_ ?_ _) | (with_reducible refine below_ext ?_ ?_ _) | (with_reducible refine Below.drew ?_) | (with_reducible refine below_drewN ?_ _) | (with_reducible refine Below.setCell ?_ ?_ _) | go_size | (simp only [go_sem]; omega) | (simp [go_sem]; done) | (simp [go_sem]; omega)))⟩
set_option maxRecDepth 100000 in
set_option maxHeartbeats 4000000 in
theorem tocol_false {row col rd : Int} {kp wp : Bool} {a b c d l r s : Int} {pt pl pb pr mt ml mb mr : Int} (hb : pb ≤ 2000) (hr : pr ≤ 2000) (n : Int) (w : World) :
    Calls Try.prog 24 #[.agg #[.int .i64 row, .int .i64 col, .int .u8 rd, .bool kp, .bool wp, .bool false, .int .i64 a, .int .i64 b, .int .i64 c, .int .i64 d, .int .i64 l, .int .i64 r, .int .i64 s], .agg #[.int .i64 pt, .int .i64 pl, .int .i64 pb, .int .i64 pr, .int .i64 mt, .int .i64 ml, .int .i64 mb, .int .i64 mr], .int .i64 n] w (Gives w (.agg #[.int .i64 (clampI 0 (max 1 pb) row), .int .i64 (clampI 0 (max 1 pr) (0 + farI n)), .int .u8 rd, .bool kp, .bool false, .bool false, .int .i64 a, .int .i64 b, .int .i64 c, .int .i64 d, .int .i64 l, .int .i64 r, .int .i64 s])) := by
  have AR := fun w' => area_f (pt := pt) (pl := pl) (pb := pb) (pr := pr) (mt := mt) (ml := ml) (mb := mb) (mr := mr) hb hr w'
  have WI := fun x y w' => within_false (row := row) (col := col) (rd := rd) (kp := kp) (wp := wp) (a := a) (b := b) (c := c) (d := d) (l := l) (r := r) (s := s) (pt := pt) (pl := pl) (pb := pb) (pr := pr) (mt := mt) (ml := ml) (mb := mb) (mr := mr) hb hr x y w'
  have b0 : 1 ≤ max 1 pb ∧ max 1 pb ≤ 2000 := by omega
  have r0 : 1 ≤ max 1 pr ∧ max 1 pr ≤ 2000 := by omega
  have ib := inn_bd pb pr mt ml mb mr
  unfold Bx.inn at ib
  generalize max 1 pb = B at AR WI b0 ib ⊢
  generalize max 1 pr = R at AR WI r0 ib ⊢
  generalize inn pb pr mt ml mb mr = I at AR WI ib ⊢
  obtain ⟨it, il, ibb, ir⟩ := I
  simp only at AR WI ib ⊢
  obtain ⟨i0, i1, i2, i3, i4, i5⟩ := ib
  obtain ⟨b1, b2⟩ := b0
  obtain ⟨r1, r2⟩ := r0
  replace AR := Lib.hid AR
  replace WI := Lib.hid WI
  have Cn := Lib.hid (fun w' => count_c 0 n ⟨by omega, by omega⟩ w')
  have fn := far_bd n
  generalize farI n = Fn at Cn fn ⊢
  obtain ⟨fn0, fn1⟩ := fn
  go_enter Try.func24, Try.ntmps24
  go_wp2
  (refine wp_region_tail 14 (by kernel_rfl) (by kernel_rfl) ?_; simp only [List.take_succ_cons, List.take_zero, List.drop_succ_cons, List.drop_zero])
  repeat (go_big_quiet_step (first
    | ((go_at_call 80; with_reducible exact Calls.free (Cn.out _)))
    | ((go_at_call 25; with_reducible exact Calls.free (AR.out _)))
    | ((go_at_call 79; with_reducible exact Calls.free (WI.out _ _ _)))))
  refine wpQuiet_nil ?_; rintro _ ⟨x2, rfl⟩
  go_wp2
  go_returns
  refine ⟨cu_ret (by simp) (by simp) rfl, by (repeat' (first | (with_reducible exact Below.refl _ _) | (with_reducible refine Below.alloc ?_ ?_ _) | (with_reducible refine below_ext ?_ ?_ _) | (with_reducible refine Below.drew ?_) | (with_reducible refine below_drewN ?_ _) | (with_reducible refine Below.setCell ?_ ?_ _) | go_size | (simp only [go_sem]; omega) | (simp [go_sem]; done) | (simp [go_sem]; omega)))⟩
end Go.Proofs.Ytdlngbmgcedbpaa
