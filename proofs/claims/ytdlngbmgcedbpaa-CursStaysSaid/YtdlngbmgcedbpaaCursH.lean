/- The cursor: what the reference's functions return, places told by numbers. -/
import Derived.Test.YtdlngbmgcedbpaaCursG
namespace Go.Proofs.Ytdlngbmgcedbpaa
open Go.RowKit
set_option linter.unusedVariables false
set_option linter.unusedSimpArgs false
theorem near_j (t b m : Int) (h0 : 0 ≤ t) (h1 : t < b) (h2 : b ≤ 2000) : clampI t b (t + farI m) = (if m < 0 then t else if b - t ≤ m then b - 1 else t + m) := by
  unfold clampI farI
  split
  · omega
  · split <;> omega
set_option maxRecDepth 100000 in
set_option maxHeartbeats 4000000 in
theorem near_rj (t b m : Int) (h0 : 0 ≤ t) (h1 : t < b) (h2 : b ≤ 2000) (w : World) : Calls Try.prog 116 #[.int .i64 t, .int .i64 b, .int .i64 m] w (Gives w (.int .i64 (clampI t b (t + farI m)))) := by
  rw [near_j t b m h0 h1 h2]
  by_cases h3 : m < 0
  · rw [if_pos h3]
    go_enter Try.func116, Try.ntmps116
    go_wp2
    go_returns
    exact ⟨rfl, by (repeat' (first | (with_reducible exact Below.refl _ _) | (with_reducible refine Below.alloc ?_ ?_ _) | (with_reducible refine below_ext ?_ ?_ _) | (with_reducible refine Below.drew ?_) | (with_reducible refine below_drewN ?_ _) | (with_reducible refine Below.setCell ?_ ?_ _) | go_size | (simp only [go_sem]; omega) | (simp [go_sem]; done) | (simp [go_sem]; omega)))⟩
  · rw [if_neg h3]
    by_cases h4 : b - t ≤ m
    · rw [if_pos h4]
      go_enter Try.func116, Try.ntmps116
      go_wp2
      go_returns
      exact ⟨rfl, by (repeat' (first | (with_reducible exact Below.refl _ _) | (with_reducible refine Below.alloc ?_ ?_ _) | (with_reducible refine below_ext ?_ ?_ _) | (with_reducible refine Below.drew ?_) | (with_reducible refine below_drewN ?_ _) | (with_reducible refine Below.setCell ?_ ?_ _) | go_size | (simp only [go_sem]; omega) | (simp [go_sem]; done) | (simp [go_sem]; omega)))⟩
    · rw [if_neg h4]
      have h5 : m < b - t := by omega
      have h6 : 0 ≤ m := by omega
      clear h4 h3
      go_enter Try.func116, Try.ntmps116
      go_wp2
      go_returns
      exact ⟨rfl, by (repeat' (first | (with_reducible exact Below.refl _ _) | (with_reducible refine Below.alloc ?_ ?_ _) | (with_reducible refine below_ext ?_ ?_ _) | (with_reducible refine Below.drew ?_) | (with_reducible refine below_drewN ?_ _) | (with_reducible refine Below.setCell ?_ ?_ _) | go_size | (simp only [go_sem]; omega) | (simp [go_sem]; done) | (simp [go_sem]; omega)))⟩
set_option maxRecDepth 100000 in
set_option maxHeartbeats 4000000 in
theorem to_rr_true {row col rd : Int} {kp wp : Bool} {a b c d l r s : Int} {pt pl pb pr mt ml mb mr : Int} (hb : pb ≤ 2000) (hr : pr ≤ 2000) (m n : Int) (w : World) :
    Calls Try.prog 92 #[.agg #[.int .i64 row, .int .i64 col, .int .u8 rd, .bool kp, .bool wp, .bool true, .int .i64 a, .int .i64 b, .int .i64 c, .int .i64 d, .int .i64 l, .int .i64 r, .int .i64 s], .agg #[.int .i64 pt, .int .i64 pl, .int .i64 pb, .int .i64 pr, .int .i64 mt, .int .i64 ml, .int .i64 mb, .int .i64 mr], .int .i64 m, .int .i64 n, .bool true, .bool true] w (Gives w (.agg #[.int .i64 (clampI (inn pb pr mt ml mb mr).t (inn pb pr mt ml mb mr).b ((inn pb pr mt ml mb mr).t + farI m)), .int .i64 (clampI (inn pb pr mt ml mb mr).l (inn pb pr mt ml mb mr).r ((inn pb pr mt ml mb mr).l + farI n)), .int .u8 rd, .bool kp, .bool false, .bool true, .int .i64 a, .int .i64 b, .int .i64 c, .int .i64 d, .int .i64 l, .int .i64 r, .int .i64 s])) := by
  have AR := fun w' => arear_t (pt := pt) (pl := pl) (pb := pb) (pr := pr) (mt := mt) (ml := ml) (mb := mb) (mr := mr) hb hr w'
  have PT := Lib.hid (fun x y w' => put_r (row := row) (col := col) (rd := rd) (kp := kp) (wp := wp) (og := true) (a := a) (b := b) (c := c) (d := d) (l := l) (r := r) (s := s) x y w')
  have b0 : 1 ≤ max 1 pb ∧ max 1 pb ≤ 2000 := by omega
  have r0 : 1 ≤ max 1 pr ∧ max 1 pr ≤ 2000 := by omega
  have ib := inn_bd pb pr mt ml mb mr
  unfold Bx.inn at ib
  generalize max 1 pb = B at AR b0 ib ⊢
  generalize max 1 pr = R at AR r0 ib ⊢
  generalize inn pb pr mt ml mb mr = I at AR ib ⊢
  obtain ⟨it, il, ibb, ir⟩ := I
  simp only at AR ib ⊢
  obtain ⟨i0, i1, i2, i3, i4, i5⟩ := ib
  obtain ⟨b1, b2⟩ := b0
  obtain ⟨r1, r2⟩ := r0
  replace AR := Lib.hid AR
  have CL := Lib.hid (fun w' => clamp_nr it il ibb ir row col w' (by omega) (by omega) (by omega) (by omega) (by omega) (by omega))
  have N1 := Lib.hid (fun w' => near_rj it ibb m (by omega) (by omega) (by omega) w')
  have N2 := Lib.hid (fun w' => near_rj il ir n (by omega) (by omega) (by omega) w')
  generalize clampI it ibb (it + farI m) = X1 at N1 ⊢
  generalize clampI il ir (il + farI n) = Y1 at N2 ⊢
  generalize clampI it ibb row = X0 at CL ⊢
  generalize clampI il ir col = Y0 at CL ⊢
  go_enter Try.func92, Try.ntmps92
  go_wp2_with (first | (go_at_call 115; ((with_reducible refine (AR.out _).mono ?_); rintro _ _ hgets; obtain ⟨rfl, _, rfl⟩ := hgets.get; clear hgets)) | (go_at_call 26; ((with_reducible refine (CL.out _).mono ?_); rintro _ _ hgets; obtain ⟨rfl, _, rfl⟩ := hgets.get; clear hgets)) | (go_at_call 116; ((with_reducible refine (N1.out _).mono ?_); rintro _ _ hgets; obtain ⟨rfl, _, rfl⟩ := hgets.get; clear hgets)) | (go_at_call 116; ((with_reducible refine (N2.out _).mono ?_); rintro _ _ hgets; obtain ⟨rfl, _, rfl⟩ := hgets.get; clear hgets)) | (go_at_call 96; ((with_reducible refine (PT.out _ _ _).mono ?_); rintro _ _ hgets; obtain ⟨rfl, _, rfl⟩ := hgets.get; clear hgets)))
  go_returns
  exact ⟨rfl, by (repeat' (first | (with_reducible exact Below.refl _ _) | (with_reducible refine Below.alloc ?_ ?_ _) | (with_reducible refine below_ext ?_ ?_ _) | (with_reducible refine Below.drew ?_) | (with_reducible refine below_drewN ?_ _) | (with_reducible refine Below.setCell ?_ ?_ _) | go_size | (simp only [go_sem]; omega) | (simp [go_sem]; done) | (simp [go_sem]; omega)))⟩
set_option maxRecDepth 100000 in
set_option maxHeartbeats 4000000 in
theorem torow_rr_true {row col rd : Int} {kp wp : Bool} {a b c d l r s : Int} {pt pl pb pr mt ml mb mr : Int} (hb : pb ≤ 2000) (hr : pr ≤ 2000) (m n : Int) (w : World) :
    Calls Try.prog 92 #[.agg #[.int .i64 row, .int .i64 col, .int .u8 rd, .bool kp, .bool wp, .bool true, .int .i64 a, .int .i64 b, .int .i64 c, .int .i64 d, .int .i64 l, .int .i64 r, .int .i64 s], .agg #[.int .i64 pt, .int .i64 pl, .int .i64 pb, .int .i64 pr, .int .i64 mt, .int .i64 ml, .int .i64 mb, .int .i64 mr], .int .i64 m, .int .i64 n, .bool true, .bool false] w (Gives w (.agg #[.int .i64 (clampI (inn pb pr mt ml mb mr).t (inn pb pr mt ml mb mr).b ((inn pb pr mt ml mb mr).t + farI m)), .int .i64 (clampI (inn pb pr mt ml mb mr).l (inn pb pr mt ml mb mr).r col), .int .u8 rd, .bool kp, .bool false, .bool true, .int .i64 a, .int .i64 b, .int .i64 c, .int .i64 d, .int .i64 l, .int .i64 r, .int .i64 s])) := by
  have AR := fun w' => arear_t (pt := pt) (pl := pl) (pb := pb) (pr := pr) (mt := mt) (ml := ml) (mb := mb) (mr := mr) hb hr w'
  have PT := Lib.hid (fun x y w' => put_r (row := row) (col := col) (rd := rd) (kp := kp) (wp := wp) (og := true) (a := a) (b := b) (c := c) (d := d) (l := l) (r := r) (s := s) x y w')
  have b0 : 1 ≤ max 1 pb ∧ max 1 pb ≤ 2000 := by omega
  have r0 : 1 ≤ max 1 pr ∧ max 1 pr ≤ 2000 := by omega
  have ib := inn_bd pb pr mt ml mb mr
  unfold Bx.inn at ib
  generalize max 1 pb = B at AR b0 ib ⊢
  generalize max 1 pr = R at AR r0 ib ⊢
  generalize inn pb pr mt ml mb mr = I at AR ib ⊢
  obtain ⟨it, il, ibb, ir⟩ := I
  simp only at AR ib ⊢
  obtain ⟨i0, i1, i2, i3, i4, i5⟩ := ib
  obtain ⟨b1, b2⟩ := b0
  obtain ⟨r1, r2⟩ := r0
  replace AR := Lib.hid AR
  have CL := Lib.hid (fun w' => clamp_nr it il ibb ir row col w' (by omega) (by omega) (by omega) (by omega) (by omega) (by omega))
  have N1 := Lib.hid (fun w' => near_rj it ibb m (by omega) (by omega) (by omega) w')
  have N2 := Lib.hid (fun w' => near_rj il ir n (by omega) (by omega) (by omega) w')
  generalize clampI it ibb (it + farI m) = X1 at N1 ⊢
  generalize clampI il ir (il + farI n) = Y1 at N2 ⊢
  generalize clampI it ibb row = X0 at CL ⊢
  generalize clampI il ir col = Y0 at CL ⊢
  go_enter Try.func92, Try.ntmps92
  go_wp2_with (first | (go_at_call 115; ((with_reducible refine (AR.out _).mono ?_); rintro _ _ hgets; obtain ⟨rfl, _, rfl⟩ := hgets.get; clear hgets)) | (go_at_call 26; ((with_reducible refine (CL.out _).mono ?_); rintro _ _ hgets; obtain ⟨rfl, _, rfl⟩ := hgets.get; clear hgets)) | (go_at_call 116; ((with_reducible refine (N1.out _).mono ?_); rintro _ _ hgets; obtain ⟨rfl, _, rfl⟩ := hgets.get; clear hgets)) | (go_at_call 116; ((with_reducible refine (N2.out _).mono ?_); rintro _ _ hgets; obtain ⟨rfl, _, rfl⟩ := hgets.get; clear hgets)) | (go_at_call 96; ((with_reducible refine (PT.out _ _ _).mono ?_); rintro _ _ hgets; obtain ⟨rfl, _, rfl⟩ := hgets.get; clear hgets)))
  go_returns
  exact ⟨rfl, by (repeat' (first | (with_reducible exact Below.refl _ _) | (with_reducible refine Below.alloc ?_ ?_ _) | (with_reducible refine below_ext ?_ ?_ _) | (with_reducible refine Below.drew ?_) | (with_reducible refine below_drewN ?_ _) | (with_reducible refine Below.setCell ?_ ?_ _) | go_size | (simp only [go_sem]; omega) | (simp [go_sem]; done) | (simp [go_sem]; omega)))⟩
set_option maxRecDepth 100000 in
set_option maxHeartbeats 4000000 in
theorem tocol_rr_true {row col rd : Int} {kp wp : Bool} {a b c d l r s : Int} {pt pl pb pr mt ml mb mr : Int} (hb : pb ≤ 2000) (hr : pr ≤ 2000) (m n : Int) (w : World) :
    Calls Try.prog 92 #[.agg #[.int .i64 row, .int .i64 col, .int .u8 rd, .bool kp, .bool wp, .bool true, .int .i64 a, .int .i64 b, .int .i64 c, .int .i64 d, .int .i64 l, .int .i64 r, .int .i64 s], .agg #[.int .i64 pt, .int .i64 pl, .int .i64 pb, .int .i64 pr, .int .i64 mt, .int .i64 ml, .int .i64 mb, .int .i64 mr], .int .i64 m, .int .i64 n, .bool false, .bool true] w (Gives w (.agg #[.int .i64 (clampI (inn pb pr mt ml mb mr).t (inn pb pr mt ml mb mr).b row), .int .i64 (clampI (inn pb pr mt ml mb mr).l (inn pb pr mt ml mb mr).r ((inn pb pr mt ml mb mr).l + farI n)), .int .u8 rd, .bool kp, .bool false, .bool true, .int .i64 a, .int .i64 b, .int .i64 c, .int .i64 d, .int .i64 l, .int .i64 r, .int .i64 s])) := by
  have AR := fun w' => arear_t (pt := pt) (pl := pl) (pb := pb) (pr := pr) (mt := mt) (ml := ml) (mb := mb) (mr := mr) hb hr w'
  have PT := Lib.hid (fun x y w' => put_r (row := row) (col := col) (rd := rd) (kp := kp) (wp := wp) (og := true) (a := a) (b := b) (c := c) (d := d) (l := l) (r := r) (s := s) x y w')
  have b0 : 1 ≤ max 1 pb ∧ max 1 pb ≤ 2000 := by omega
  have r0 : 1 ≤ max 1 pr ∧ max 1 pr ≤ 2000 := by omega
  have ib := inn_bd pb pr mt ml mb mr
  unfold Bx.inn at ib
  generalize max 1 pb = B at AR b0 ib ⊢
  generalize max 1 pr = R at AR r0 ib ⊢
  generalize inn pb pr mt ml mb mr = I at AR ib ⊢
  obtain ⟨it, il, ibb, ir⟩ := I
  simp only at AR ib ⊢
  obtain ⟨i0, i1, i2, i3, i4, i5⟩ := ib
  obtain ⟨b1, b2⟩ := b0
  obtain ⟨r1, r2⟩ := r0
  replace AR := Lib.hid AR
  have CL := Lib.hid (fun w' => clamp_nr it il ibb ir row col w' (by omega) (by omega) (by omega) (by omega) (by omega) (by omega))
  have N1 := Lib.hid (fun w' => near_rj it ibb m (by omega) (by omega) (by omega) w')
  have N2 := Lib.hid (fun w' => near_rj il ir n (by omega) (by omega) (by omega) w')
  generalize clampI it ibb (it + farI m) = X1 at N1 ⊢
  generalize clampI il ir (il + farI n) = Y1 at N2 ⊢
  generalize clampI it ibb row = X0 at CL ⊢
  generalize clampI il ir col = Y0 at CL ⊢
  go_enter Try.func92, Try.ntmps92
  go_wp2_with (first | (go_at_call 115; ((with_reducible refine (AR.out _).mono ?_); rintro _ _ hgets; obtain ⟨rfl, _, rfl⟩ := hgets.get; clear hgets)) | (go_at_call 26; ((with_reducible refine (CL.out _).mono ?_); rintro _ _ hgets; obtain ⟨rfl, _, rfl⟩ := hgets.get; clear hgets)) | (go_at_call 116; ((with_reducible refine (N1.out _).mono ?_); rintro _ _ hgets; obtain ⟨rfl, _, rfl⟩ := hgets.get; clear hgets)) | (go_at_call 116; ((with_reducible refine (N2.out _).mono ?_); rintro _ _ hgets; obtain ⟨rfl, _, rfl⟩ := hgets.get; clear hgets)) | (go_at_call 96; ((with_reducible refine (PT.out _ _ _).mono ?_); rintro _ _ hgets; obtain ⟨rfl, _, rfl⟩ := hgets.get; clear hgets)))
  go_returns
  exact ⟨rfl, by (repeat' (first | (with_reducible exact Below.refl _ _) | (with_reducible refine Below.alloc ?_ ?_ _) | (with_reducible refine below_ext ?_ ?_ _) | (with_reducible refine Below.drew ?_) | (with_reducible refine below_drewN ?_ _) | (with_reducible refine Below.setCell ?_ ?_ _) | go_size | (simp only [go_sem]; omega) | (simp [go_sem]; done) | (simp [go_sem]; omega)))⟩
set_option maxRecDepth 100000 in
set_option maxHeartbeats 4000000 in
theorem to_rr_false {row col rd : Int} {kp wp : Bool} {a b c d l r s : Int} {pt pl pb pr mt ml mb mr : Int} (hb : pb ≤ 2000) (hr : pr ≤ 2000) (m n : Int) (w : World) :
    Calls Try.prog 92 #[.agg #[.int .i64 row, .int .i64 col, .int .u8 rd, .bool kp, .bool wp, .bool false, .int .i64 a, .int .i64 b, .int .i64 c, .int .i64 d, .int .i64 l, .int .i64 r, .int .i64 s], .agg #[.int .i64 pt, .int .i64 pl, .int .i64 pb, .int .i64 pr, .int .i64 mt, .int .i64 ml, .int .i64 mb, .int .i64 mr], .int .i64 m, .int .i64 n, .bool true, .bool true] w (Gives w (.agg #[.int .i64 (clampI 0 (max 1 pb) (0 + farI m)), .int .i64 (clampI 0 (max 1 pr) (0 + farI n)), .int .u8 rd, .bool kp, .bool false, .bool false, .int .i64 a, .int .i64 b, .int .i64 c, .int .i64 d, .int .i64 l, .int .i64 r, .int .i64 s])) := by
  have AR := fun w' => arear_f (pt := pt) (pl := pl) (pb := pb) (pr := pr) (mt := mt) (ml := ml) (mb := mb) (mr := mr) hb hr w'
  have PT := Lib.hid (fun x y w' => put_r (row := row) (col := col) (rd := rd) (kp := kp) (wp := wp) (og := false) (a := a) (b := b) (c := c) (d := d) (l := l) (r := r) (s := s) x y w')
  have b0 : 1 ≤ max 1 pb ∧ max 1 pb ≤ 2000 := by omega
  have r0 : 1 ≤ max 1 pr ∧ max 1 pr ≤ 2000 := by omega
  have ib := inn_bd pb pr mt ml mb mr
  unfold Bx.inn at ib
  generalize max 1 pb = B at AR b0 ib ⊢
  generalize max 1 pr = R at AR r0 ib ⊢
  generalize inn pb pr mt ml mb mr = I at AR ib ⊢
  obtain ⟨it, il, ibb, ir⟩ := I
  simp only at AR ib ⊢
  obtain ⟨i0, i1, i2, i3, i4, i5⟩ := ib
  obtain ⟨b1, b2⟩ := b0
  obtain ⟨r1, r2⟩ := r0
  replace AR := Lib.hid AR
  have CL := Lib.hid (fun w' => clamp_nr 0 0 B R row col w' (by omega) (by omega) (by omega) (by omega) (by omega) (by omega))
  have N1 := Lib.hid (fun w' => near_rj 0 B m (by omega) (by omega) (by omega) w')
  have N2 := Lib.hid (fun w' => near_rj 0 R n (by omega) (by omega) (by omega) w')
  generalize clampI 0 B (0 + farI m) = X1 at N1 ⊢
  generalize clampI 0 R (0 + farI n) = Y1 at N2 ⊢
  generalize clampI 0 B row = X0 at CL ⊢
  generalize clampI 0 R col = Y0 at CL ⊢
  go_enter Try.func92, Try.ntmps92
  go_wp2_with (first | (go_at_call 115; ((with_reducible refine (AR.out _).mono ?_); rintro _ _ hgets; obtain ⟨rfl, _, rfl⟩ := hgets.get; clear hgets)) | (go_at_call 26; ((with_reducible refine (CL.out _).mono ?_); rintro _ _ hgets; obtain ⟨rfl, _, rfl⟩ := hgets.get; clear hgets)) | (go_at_call 116; ((with_reducible refine (N1.out _).mono ?_); rintro _ _ hgets; obtain ⟨rfl, _, rfl⟩ := hgets.get; clear hgets)) | (go_at_call 116; ((with_reducible refine (N2.out _).mono ?_); rintro _ _ hgets; obtain ⟨rfl, _, rfl⟩ := hgets.get; clear hgets)) | (go_at_call 96; ((with_reducible refine (PT.out _ _ _).mono ?_); rintro _ _ hgets; obtain ⟨rfl, _, rfl⟩ := hgets.get; clear hgets)))
  go_returns
  exact ⟨rfl, by (repeat' (first | (with_reducible exact Below.refl _ _) | (with_reducible refine Below.alloc ?_ ?_ _) | (with_reducible refine below_ext ?_ ?_ _) | (with_reducible refine Below.drew ?_) | (with_reducible refine below_drewN ?_ _) | (with_reducible refine Below.setCell ?_ ?_ _) | go_size | (simp only [go_sem]; omega) | (simp [go_sem]; done) | (simp [go_sem]; omega)))⟩
set_option maxRecDepth 100000 in
set_option maxHeartbeats 4000000 in
theorem torow_rr_false {row col rd : Int} {kp wp : Bool} {a b c d l r s : Int} {pt pl pb pr mt ml mb mr : Int} (hb : pb ≤ 2000) (hr : pr ≤ 2000) (m n : Int) (w : World) :
    Calls Try.prog 92 #[.agg #[.int .i64 row, .int .i64 col, .int .u8 rd, .bool kp, .bool wp, .bool false, .int .i64 a, .int .i64 b, .int .i64 c, .int .i64 d, .int .i64 l, .int .i64 r, .int .i64 s], .agg #[.int .i64 pt, .int .i64 pl, .int .i64 pb, .int .i64 pr, .int .i64 mt, .int .i64 ml, .int .i64 mb, .int .i64 mr], .int .i64 m, .int .i64 n, .bool true, .bool false] w (Gives w (.agg #[.int .i64 (clampI 0 (max 1 pb) (0 + farI m)), .int .i64 (clampI 0 (max 1 pr) col), .int .u8 rd, .bool kp, .bool false, .bool false, .int .i64 a, .int .i64 b, .int .i64 c, .int .i64 d, .int .i64 l, .int .i64 r, .int .i64 s])) := by
  have AR := fun w' => arear_f (pt := pt) (pl := pl) (pb := pb) (pr := pr) (mt := mt) (ml := ml) (mb := mb) (mr := mr) hb hr w'
  have PT := Lib.hid (fun x y w' => put_r (row := row) (col := col) (rd := rd) (kp := kp) (wp := wp) (og := false) (a := a) (b := b) (c := c) (d := d) (l := l) (r := r) (s := s) x y w')
  have b0 : 1 ≤ max 1 pb ∧ max 1 pb ≤ 2000 := by omega
  have r0 : 1 ≤ max 1 pr ∧ max 1 pr ≤ 2000 := by omega
  have ib := inn_bd pb pr mt ml mb mr
  unfold Bx.inn at ib
  generalize max 1 pb = B at AR b0 ib ⊢
  generalize max 1 pr = R at AR r0 ib ⊢
  generalize inn pb pr mt ml mb mr = I at AR ib ⊢
  obtain ⟨it, il, ibb, ir⟩ := I
  simp only at AR ib ⊢
  obtain ⟨i0, i1, i2, i3, i4, i5⟩ := ib
  obtain ⟨b1, b2⟩ := b0
  obtain ⟨r1, r2⟩ := r0
  replace AR := Lib.hid AR
  have CL := Lib.hid (fun w' => clamp_nr 0 0 B R row col w' (by omega) (by omega) (by omega) (by omega) (by omega) (by omega))
  have N1 := Lib.hid (fun w' => near_rj 0 B m (by omega) (by omega) (by omega) w')
  have N2 := Lib.hid (fun w' => near_rj 0 R n (by omega) (by omega) (by omega) w')
  generalize clampI 0 B (0 + farI m) = X1 at N1 ⊢
  generalize clampI 0 R (0 + farI n) = Y1 at N2 ⊢
  generalize clampI 0 B row = X0 at CL ⊢
  generalize clampI 0 R col = Y0 at CL ⊢
  go_enter Try.func92, Try.ntmps92
  go_wp2_with (first | (go_at_call 115; ((with_reducible refine (AR.out _).mono ?_); rintro _ _ hgets; obtain ⟨rfl, _, rfl⟩ := hgets.get; clear hgets)) | (go_at_call 26; ((with_reducible refine (CL.out _).mono ?_); rintro _ _ hgets; obtain ⟨rfl, _, rfl⟩ := hgets.get; clear hgets)) | (go_at_call 116; ((with_reducible refine (N1.out _).mono ?_); rintro _ _ hgets; obtain ⟨rfl, _, rfl⟩ := hgets.get; clear hgets)) | (go_at_call 116; ((with_reducible refine (N2.out _).mono ?_); rintro _ _ hgets; obtain ⟨rfl, _, rfl⟩ := hgets.get; clear hgets)) | (go_at_call 96; ((with_reducible refine (PT.out _ _ _).mono ?_); rintro _ _ hgets; obtain ⟨rfl, _, rfl⟩ := hgets.get; clear hgets)))
  go_returns
  exact ⟨rfl, by (repeat' (first | (with_reducible exact Below.refl _ _) | (with_reducible refine Below.alloc ?_ ?_ _) | (with_reducible refine below_ext ?_ ?_ _) | (with_reducible refine Below.drew ?_) | (with_reducible refine below_drewN ?_ _) | (with_reducible refine Below.setCell ?_ ?_ _) | go_size | (simp only [go_sem]; omega) | (simp [go_sem]; done) | (simp [go_sem]; omega)))⟩
set_option maxRecDepth 100000 in
set_option maxHeartbeats 4000000 in
theorem tocol_rr_false {row col rd : Int} {kp wp : Bool} {a b c d l r s : Int} {pt pl pb pr mt ml mb mr : Int} (hb : pb ≤ 2000) (hr : pr ≤ 2000) (m n : Int) (w : World) :
    Calls Try.prog 92 #[.agg #[.int .i64 row, .int .i64 col, .int .u8 rd, .bool kp, .bool wp, .bool false, .int .i64 a, .int .i64 b, .int .i64 c, .int .i64 d, .int .i64 l, .int .i64 r, .int .i64 s], .agg #[.int .i64 pt, .int .i64 pl, .int .i64 pb, .int .i64 pr, .int .i64 mt, .int .i64 ml, .int .i64 mb, .int .i64 mr], .int .i64 m, .int .i64 n, .bool false, .bool true] w (Gives w (.agg #[.int .i64 (clampI 0 (max 1 pb) row), .int .i64 (clampI 0 (max 1 pr) (0 + farI n)), .int .u8 rd, .bool kp, .bool false, .bool false, .int .i64 a, .int .i64 b, .int .i64 c, .int .i64 d, .int .i64 l, .int .i64 r, .int .i64 s])) := by
  have AR := fun w' => arear_f (pt := pt) (pl := pl) (pb := pb) (pr := pr) (mt := mt) (ml := ml) (mb := mb) (mr := mr) hb hr w'
  have PT := Lib.hid (fun x y w' => put_r (row := row) (col := col) (rd := rd) (kp := kp) (wp := wp) (og := false) (a := a) (b := b) (c := c) (d := d) (l := l) (r := r) (s := s) x y w')
  have b0 : 1 ≤ max 1 pb ∧ max 1 pb ≤ 2000 := by omega
  have r0 : 1 ≤ max 1 pr ∧ max 1 pr ≤ 2000 := by omega
  have ib := inn_bd pb pr mt ml mb mr
  unfold Bx.inn at ib
  generalize max 1 pb = B at AR b0 ib ⊢
  generalize max 1 pr = R at AR r0 ib ⊢
  generalize inn pb pr mt ml mb mr = I at AR ib ⊢
  obtain ⟨it, il, ibb, ir⟩ := I
  simp only at AR ib ⊢
  obtain ⟨i0, i1, i2, i3, i4, i5⟩ := ib
  obtain ⟨b1, b2⟩ := b0
  obtain ⟨r1, r2⟩ := r0
  replace AR := Lib.hid AR
  have CL := Lib.hid (fun w' => clamp_nr 0 0 B R row col w' (by omega) (by omega) (by omega) (by omega) (by omega) (by omega))
  have N1 := Lib.hid (fun w' => near_rj 0 B m (by omega) (by omega) (by omega) w')
  have N2 := Lib.hid (fun w' => near_rj 0 R n (by omega) (by omega) (by omega) w')
  generalize clampI 0 B (0 + farI m) = X1 at N1 ⊢
  generalize clampI 0 R (0 + farI n) = Y1 at N2 ⊢
  generalize clampI 0 B row = X0 at CL ⊢
  generalize clampI 0 R col = Y0 at CL ⊢
  go_enter Try.func92, Try.ntmps92
  go_wp2_with (first | (go_at_call 115; ((with_reducible refine (AR.out _).mono ?_); rintro _ _ hgets; obtain ⟨rfl, _, rfl⟩ := hgets.get; clear hgets)) | (go_at_call 26; ((with_reducible refine (CL.out _).mono ?_); rintro _ _ hgets; obtain ⟨rfl, _, rfl⟩ := hgets.get; clear hgets)) | (go_at_call 116; ((with_reducible refine (N1.out _).mono ?_); rintro _ _ hgets; obtain ⟨rfl, _, rfl⟩ := hgets.get; clear hgets)) | (go_at_call 116; ((with_reducible refine (N2.out _).mono ?_); rintro _ _ hgets; obtain ⟨rfl, _, rfl⟩ := hgets.get; clear hgets)) | (go_at_call 96; ((with_reducible refine (PT.out _ _ _).mono ?_); rintro _ _ hgets; obtain ⟨rfl, _, rfl⟩ := hgets.get; clear hgets)))
  go_returns
  exact ⟨rfl, by (repeat' (first | (with_reducible exact Below.refl _ _) | (with_reducible refine Below.alloc ?_ ?_ _) | (with_reducible refine below_ext ?_ ?_ _) | (with_reducible refine Below.drew ?_) | (with_reducible refine below_drewN ?_ _) | (with_reducible refine Below.setCell ?_ ?_ _) | go_size | (simp only [go_sem]; omega) | (simp [go_sem]; done) | (simp [go_sem]; omega)))⟩
end Go.Proofs.Ytdlngbmgcedbpaa
