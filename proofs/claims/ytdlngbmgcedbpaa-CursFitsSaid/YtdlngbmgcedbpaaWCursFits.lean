/- What the law CursFits comes to: the walk. -/
import Derived.Test.YtdlngbmgcedbpaaCursQ
import Derived.Test.YtdlngbmgcedbpaaFrameCurs
import Derived.Test.YtdlngbmgcedbpaaAwake13
import Derived.Test.YtdlngbmgcedbpaaCursF2
namespace Go.Proofs.Ytdlngbmgcedbpaa
open Go.ChangeShapes Go.WideShapes Go.ChangeAt Go.RowKit
set_option linter.unusedVariables false
set_option linter.unusedSimpArgs false
attribute [local go_sem ↓] cur_same_eql cur_same_neq cuc_same_eql cuc_same_neq st_same_eql box_same_eql box_same_neq

set_option maxRecDepth 100000 in
set_option maxHeartbeats 4000000 in
theorem CursFits_walk (w : World) (row col rd : Int) (kp wp og : Bool) (a b c d l r s : Int) (wrow : (Lit.int .i64 row).wf = true) (wcol : (Lit.int .i64 col).wf = true) (width : Int) (ww : (Lit.int .i64 width).wf = true) :
    Calls Try.prog 3 #[.agg #[.int .i64 row, .int .i64 col, .int .u8 rd, .bool kp, .bool wp, .bool og, .int .i64 a, .int .i64 b, .int .i64 c, .int .i64 d, .int .i64 l, .int .i64 r, .int .i64 s], .int .i64 width] w (Gives w (.bool true)) := by
  have hw : width ≤ 9223372036854775807 := (bounds_i64 ww).2
  have n0 : 0 ≤ max 0 (min col (max width 1 - 1)) := by omega
  have n1 : max 0 (min col (max width 1 - 1)) < width ∨ max 0 (min col (max width 1 - 1)) = 0 := by omega
  generalize HN : max 0 (min col (max width 1 - 1)) = N at n0 n1
  clear wrow wcol ww
  by_cases hc : N = col
  · rw [hc] at HN n0 n1
    clear hc
    have hwp : (col == col) = true := by simp
    by_cases h1 : col < width
    · clear n1
      have F1 := Lib.hid (show ∀ w', Calls Try.prog 17 #[.agg #[.int .i64 row, .int .i64 col, .int .u8 rd, .bool kp, .bool wp, .bool og, .int .i64 a, .int .i64 b, .int .i64 c, .int .i64 d, .int .i64 l, .int .i64 r, .int .i64 s], .int .i64 width] w' (Gives w' (.agg #[.int .i64 row, .int .i64 col, .int .u8 rd, .bool kp, .bool wp, .bool og, .int .i64 a, .int .i64 b, .int .i64 c, .int .i64 d, .int .i64 l, .int .i64 r, .int .i64 s])) from fun w' => by have := fit_c (row := row) (col := col) (rd := rd) (kp := kp) (wp := wp) (og := og) (a := a) (b := b) (c := c) (d := d) (l := l) (r := r) (s := s) width hw w'; rw [HN] at this; simpa [hwp] using this)
      have F2 := Lib.hid (show ∀ w', Calls Try.prog 19 #[.agg #[.int .i64 row, .int .i64 col, .int .u8 rd, .bool kp, .bool wp, .bool og, .int .i64 a, .int .i64 b, .int .i64 c, .int .i64 d, .int .i64 l, .int .i64 r, .int .i64 s], .int .i64 width] w' (Gives w' (.agg #[.int .i64 row, .int .i64 col, .int .u8 rd, .bool kp, .bool wp, .bool og, .int .i64 a, .int .i64 b, .int .i64 c, .int .i64 d, .int .i64 l, .int .i64 r, .int .i64 s])) from fun w' => by have := fit_r (row := row) (col := col) (rd := rd) (kp := kp) (wp := wp) (og := og) (a := a) (b := b) (c := c) (d := d) (l := l) (r := r) (s := s) width hw w'; rw [HN] at this; simpa [hwp] using this)
      clear HN hwp
      go_enter Try.func3, Try.ntmps3
      go_wp2_with (first | (go_at_call 15; ((with_reducible refine (awake13 _).mono ?_); rintro _ _ hgets; obtain ⟨rfl, _, rfl⟩ := hgets.get; clear hgets)) | (go_at_call 16; ((with_reducible refine (own_c _).mono ?_); rintro _ _ hgets; obtain ⟨rfl, _, rfl⟩ := hgets.get; clear hgets)) | (go_at_call 17; ((with_reducible refine (F1.out _).mono ?_); rintro _ _ hgets; obtain ⟨rfl, _, rfl⟩ := hgets.get; clear hgets)))
      (refine wp_region_free (by kernel_rfl) (by kernel_rfl) ?_)
      repeat (go_big_quiet_step (first | ((go_at_call 18; with_reducible exact Calls.free (told_c _))) | ((go_at_call 19; with_reducible exact Calls.free (F2.out _)))))
      refine wpQuiet_nil ?_; rintro _ ⟨x2, rfl⟩
      go_wp2
      go_returns
      refine ⟨?_, by (repeat' (first | (with_reducible exact Below.refl _ _) | (with_reducible refine Below.alloc ?_ ?_ _) | (with_reducible refine below_ext ?_ ?_ _) | (with_reducible refine Below.drew ?_) | (with_reducible refine below_drewN ?_ _) | (with_reducible refine Below.setCell ?_ ?_ _) | go_size | (simp only [go_sem]; omega) | (simp [go_sem]; done) | (simp [go_sem]; omega)))⟩
      first | rfl | (refine ret_bool ?_; simp [*])
    · have h2 : col = 0 := n1.resolve_left h1
      subst h2
      clear n1
      have hd : decide (0 < width) = false := by simpa using h1
      have F1 := Lib.hid (show ∀ w', Calls Try.prog 17 #[.agg #[.int .i64 row, .int .i64 0, .int .u8 rd, .bool kp, .bool wp, .bool og, .int .i64 a, .int .i64 b, .int .i64 c, .int .i64 d, .int .i64 l, .int .i64 r, .int .i64 s], .int .i64 width] w' (Gives w' (.agg #[.int .i64 row, .int .i64 0, .int .u8 rd, .bool kp, .bool wp, .bool og, .int .i64 a, .int .i64 b, .int .i64 c, .int .i64 d, .int .i64 l, .int .i64 r, .int .i64 s])) from fun w' => by have := fit_c (row := row) (col := 0) (rd := rd) (kp := kp) (wp := wp) (og := og) (a := a) (b := b) (c := c) (d := d) (l := l) (r := r) (s := s) width hw w'; rw [HN] at this; simpa [hwp] using this)
      have F2 := Lib.hid (show ∀ w', Calls Try.prog 19 #[.agg #[.int .i64 row, .int .i64 0, .int .u8 rd, .bool kp, .bool wp, .bool og, .int .i64 a, .int .i64 b, .int .i64 c, .int .i64 d, .int .i64 l, .int .i64 r, .int .i64 s], .int .i64 width] w' (Gives w' (.agg #[.int .i64 row, .int .i64 0, .int .u8 rd, .bool kp, .bool wp, .bool og, .int .i64 a, .int .i64 b, .int .i64 c, .int .i64 d, .int .i64 l, .int .i64 r, .int .i64 s])) from fun w' => by have := fit_r (row := row) (col := 0) (rd := rd) (kp := kp) (wp := wp) (og := og) (a := a) (b := b) (c := c) (d := d) (l := l) (r := r) (s := s) width hw w'; rw [HN] at this; simpa [hwp] using this)
      clear HN hwp
      go_enter Try.func3, Try.ntmps3
      go_wp2_with (first | (go_at_call 15; ((with_reducible refine (awake13 _).mono ?_); rintro _ _ hgets; obtain ⟨rfl, _, rfl⟩ := hgets.get; clear hgets)) | (go_at_call 16; ((with_reducible refine (own_c _).mono ?_); rintro _ _ hgets; obtain ⟨rfl, _, rfl⟩ := hgets.get; clear hgets)) | (go_at_call 17; ((with_reducible refine (F1.out _).mono ?_); rintro _ _ hgets; obtain ⟨rfl, _, rfl⟩ := hgets.get; clear hgets)))
      (refine wp_region_free (by kernel_rfl) (by kernel_rfl) ?_)
      repeat (go_big_quiet_step (first | ((go_at_call 18; with_reducible exact Calls.free (told_c _))) | ((go_at_call 19; with_reducible exact Calls.free (F2.out _)))))
      refine wpQuiet_nil ?_; rintro _ ⟨x2, rfl⟩
      go_wp2
      go_returns
      refine ⟨?_, by (repeat' (first | (with_reducible exact Below.refl _ _) | (with_reducible refine Below.alloc ?_ ?_ _) | (with_reducible refine below_ext ?_ ?_ _) | (with_reducible refine Below.drew ?_) | (with_reducible refine below_drewN ?_ _) | (with_reducible refine Below.setCell ?_ ?_ _) | go_size | (simp only [go_sem]; omega) | (simp [go_sem]; done) | (simp [go_sem]; omega)))⟩
      first | rfl | (refine ret_bool ?_; simp [*])
  · have hwp : (N == col) = false := by simpa using hc
    have hne : (N != col) = true := by simpa using hc
    clear hc
    by_cases h1 : N < width
    · clear n1
      have F1 := Lib.hid (show ∀ w', Calls Try.prog 17 #[.agg #[.int .i64 row, .int .i64 col, .int .u8 rd, .bool kp, .bool wp, .bool og, .int .i64 a, .int .i64 b, .int .i64 c, .int .i64 d, .int .i64 l, .int .i64 r, .int .i64 s], .int .i64 width] w' (Gives w' (.agg #[.int .i64 row, .int .i64 N, .int .u8 rd, .bool kp, .bool false, .bool og, .int .i64 a, .int .i64 b, .int .i64 c, .int .i64 d, .int .i64 l, .int .i64 r, .int .i64 s])) from fun w' => by have := fit_c (row := row) (col := col) (rd := rd) (kp := kp) (wp := wp) (og := og) (a := a) (b := b) (c := c) (d := d) (l := l) (r := r) (s := s) width hw w'; rw [HN] at this; simpa [hwp] using this)
      have F2 := Lib.hid (show ∀ w', Calls Try.prog 19 #[.agg #[.int .i64 row, .int .i64 col, .int .u8 rd, .bool kp, .bool wp, .bool og, .int .i64 a, .int .i64 b, .int .i64 c, .int .i64 d, .int .i64 l, .int .i64 r, .int .i64 s], .int .i64 width] w' (Gives w' (.agg #[.int .i64 row, .int .i64 N, .int .u8 rd, .bool kp, .bool false, .bool og, .int .i64 a, .int .i64 b, .int .i64 c, .int .i64 d, .int .i64 l, .int .i64 r, .int .i64 s])) from fun w' => by have := fit_r (row := row) (col := col) (rd := rd) (kp := kp) (wp := wp) (og := og) (a := a) (b := b) (c := c) (d := d) (l := l) (r := r) (s := s) width hw w'; rw [HN] at this; simpa [hwp] using this)
      clear HN hwp
      go_enter Try.func3, Try.ntmps3
      go_wp2_with (first | (go_at_call 15; ((with_reducible refine (awake13 _).mono ?_); rintro _ _ hgets; obtain ⟨rfl, _, rfl⟩ := hgets.get; clear hgets)) | (go_at_call 16; ((with_reducible refine (own_c _).mono ?_); rintro _ _ hgets; obtain ⟨rfl, _, rfl⟩ := hgets.get; clear hgets)) | (go_at_call 17; ((with_reducible refine (F1.out _).mono ?_); rintro _ _ hgets; obtain ⟨rfl, _, rfl⟩ := hgets.get; clear hgets)))
      (refine wp_region_free (by kernel_rfl) (by kernel_rfl) ?_)
      repeat (go_big_quiet_step (first | ((go_at_call 18; with_reducible exact Calls.free (told_c _))) | ((go_at_call 19; with_reducible exact Calls.free (F2.out _)))))
      refine wpQuiet_nil ?_; rintro _ ⟨x2, rfl⟩
      go_wp2
      go_returns
      refine ⟨?_, by (repeat' (first | (with_reducible exact Below.refl _ _) | (with_reducible refine Below.alloc ?_ ?_ _) | (with_reducible refine below_ext ?_ ?_ _) | (with_reducible refine Below.drew ?_) | (with_reducible refine below_drewN ?_ _) | (with_reducible refine Below.setCell ?_ ?_ _) | go_size | (simp only [go_sem]; omega) | (simp [go_sem]; done) | (simp [go_sem]; omega)))⟩
      first | rfl | (refine ret_bool ?_; simp [*])
    · have h2 : N = 0 := n1.resolve_left h1
      subst h2
      clear n1
      have hd : decide (0 < width) = false := by simpa using h1
      have F1 := Lib.hid (show ∀ w', Calls Try.prog 17 #[.agg #[.int .i64 row, .int .i64 col, .int .u8 rd, .bool kp, .bool wp, .bool og, .int .i64 a, .int .i64 b, .int .i64 c, .int .i64 d, .int .i64 l, .int .i64 r, .int .i64 s], .int .i64 width] w' (Gives w' (.agg #[.int .i64 row, .int .i64 0, .int .u8 rd, .bool kp, .bool false, .bool og, .int .i64 a, .int .i64 b, .int .i64 c, .int .i64 d, .int .i64 l, .int .i64 r, .int .i64 s])) from fun w' => by have := fit_c (row := row) (col := col) (rd := rd) (kp := kp) (wp := wp) (og := og) (a := a) (b := b) (c := c) (d := d) (l := l) (r := r) (s := s) width hw w'; rw [HN] at this; simpa [hwp] using this)
      have F2 := Lib.hid (show ∀ w', Calls Try.prog 19 #[.agg #[.int .i64 row, .int .i64 col, .int .u8 rd, .bool kp, .bool wp, .bool og, .int .i64 a, .int .i64 b, .int .i64 c, .int .i64 d, .int .i64 l, .int .i64 r, .int .i64 s], .int .i64 width] w' (Gives w' (.agg #[.int .i64 row, .int .i64 0, .int .u8 rd, .bool kp, .bool false, .bool og, .int .i64 a, .int .i64 b, .int .i64 c, .int .i64 d, .int .i64 l, .int .i64 r, .int .i64 s])) from fun w' => by have := fit_r (row := row) (col := col) (rd := rd) (kp := kp) (wp := wp) (og := og) (a := a) (b := b) (c := c) (d := d) (l := l) (r := r) (s := s) width hw w'; rw [HN] at this; simpa [hwp] using this)
      clear HN hwp
      go_enter Try.func3, Try.ntmps3
      go_wp2_with (first | (go_at_call 15; ((with_reducible refine (awake13 _).mono ?_); rintro _ _ hgets; obtain ⟨rfl, _, rfl⟩ := hgets.get; clear hgets)) | (go_at_call 16; ((with_reducible refine (own_c _).mono ?_); rintro _ _ hgets; obtain ⟨rfl, _, rfl⟩ := hgets.get; clear hgets)) | (go_at_call 17; ((with_reducible refine (F1.out _).mono ?_); rintro _ _ hgets; obtain ⟨rfl, _, rfl⟩ := hgets.get; clear hgets)))
      (refine wp_region_free (by kernel_rfl) (by kernel_rfl) ?_)
      repeat (go_big_quiet_step (first | ((go_at_call 18; with_reducible exact Calls.free (told_c _))) | ((go_at_call 19; with_reducible exact Calls.free (F2.out _)))))
      refine wpQuiet_nil ?_; rintro _ ⟨x2, rfl⟩
      go_wp2
      go_returns
      refine ⟨?_, by (repeat' (first | (with_reducible exact Below.refl _ _) | (with_reducible refine Below.alloc ?_ ?_ _) | (with_reducible refine below_ext ?_ ?_ _) | (with_reducible refine Below.drew ?_) | (with_reducible refine below_drewN ?_ _) | (with_reducible refine Below.setCell ?_ ?_ _) | go_size | (simp only [go_sem]; omega) | (simp [go_sem]; done) | (simp [go_sem]; omega)))⟩
      first | rfl | (refine ret_bool ?_; simp [*])
end Go.Proofs.Ytdlngbmgcedbpaa
