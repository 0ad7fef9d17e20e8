/- What the law CursJoins comes to. -/
import Derived.Test.YtdlngbmgcedbpaaWCursJoins

namespace Go.Proofs.Ytdlngbmgcedbpaa
open Go.ChangeShapes Go.WideShapes Go.ChangeAt Go.RowKit
set_option linter.unusedVariables false
set_option linter.unusedSimpArgs false
set_option maxRecDepth 100000 in
set_option maxHeartbeats 8000000 in
theorem CursJoins_walk (w : World) (row col rd : Int) (kp wp og : Bool) (a b c d l r s : Int) (wrow : (Lit.int .i64 row).wf = true) (wcol : (Lit.int .i64 col).wf = true) (pt pl pb pr mt ml mb mr : Int) (n m : Int) (wn : (Lit.int .i64 n).wf = true) (wm : (Lit.int .i64 m).wf = true) :
    Calls Try.prog 5 #[.agg #[.int .i64 row, .int .i64 col, .int .u8 rd, .bool kp, .bool wp, .bool og, .int .i64 a, .int .i64 b, .int .i64 c, .int .i64 d, .int .i64 l, .int .i64 r, .int .i64 s], .agg #[.int .i64 pt, .int .i64 pl, .int .i64 pb, .int .i64 pr, .int .i64 mt, .int .i64 ml, .int .i64 mb, .int .i64 mr], .agg #[.int .i64 n, .int .i64 m]] w (Gives w (.bool true)) := by
  clear wrow wcol wn wm
  by_cases hsm : pb ≤ 2000 ∧ pr ≤ 2000
  · obtain ⟨hb, hr⟩ := hsm
    have SM := Lib.hid (show ∀ w', Calls Try.prog 20 #[.agg #[.int .i64 pt, .int .i64 pl, .int .i64 pb, .int .i64 pr, .int .i64 mt, .int .i64 ml, .int .i64 mb, .int .i64 mr]] w' (Gives w' (.bool true)) from fun w' => by have := small_c (pt := pt) (pl := pl) (pb := pb) (pr := pr) (mt := mt) (ml := ml) (mb := mb) (mr := mr) w'; simpa [hb, hr] using this)
    have INS := fun w' => inside_r (row := row) (col := col) (wp := wp) (rd := rd) (kp := kp) (og := og) (a := a) (b := b) (c := c) (d := d) (l := l) (r := r) (s := s) (pt := pt) (pl := pl) (pb := pb) (pr := pr) (mt := mt) (ml := ml) (mb := mb) (mr := mr) hb hr w'
    rcases Bool.eq_false_or_eq_true (inB (inn pb pr mt ml mb mr).t (inn pb pr mt ml mb mr).l (inn pb pr mt ml mb mr).b (inn pb pr mt ml mb mr).r (clampI 0 (max 1 pb) row) (clampI 0 (max 1 pr) col)) with hin | hin
    · by_cases hnm : 0 ≤ n ∧ 0 ≤ m ∧ n ≤ 1000000 ∧ m ≤ 1000000
      · exact CursJoins_in w row col rd kp wp og a b c d l r s pt pl pb pr mt ml mb mr n m hb hr hin hnm.1 hnm.2.1 hnm.2.2.1 hnm.2.2.2
      · rw [hin] at INS
        replace INS := Lib.hid INS
        clear hin hb hr
        have hc : n < 0 ∨ (¬ n < 0 ∧ m < 0) ∨ (¬ n < 0 ∧ ¬ m < 0 ∧ 1000000 < n) ∨ (¬ n < 0 ∧ ¬ m < 0 ∧ ¬ 1000000 < n ∧ 1000000 < m) := by omega
        clear hnm
        rcases hc with h1 | ⟨h1, h2⟩ | ⟨h1, h2, h3⟩ | ⟨h1, h2, h3, h4⟩
        · have q1 : decide (n < 0) = true := by simpa using h1
          clear h1
          go_enter Try.func5, Try.ntmps5
          go_upto_region 1 with (fail)
          (refine wp_region_free (by kernel_rfl) (by kernel_rfl) ?_)
          repeat (go_big_quiet_step (fail))
          refine wpQuiet_nil ?_; rintro _ ⟨x0, rfl⟩
          go_wp2_with (first | (go_at_call 15; ((with_reducible refine (awake13 _).mono ?_); rintro _ _ hgets; obtain ⟨rfl, _, rfl⟩ := hgets.get; clear hgets)) | (go_at_call 20; ((with_reducible refine (SM.out _).mono ?_); rintro _ _ hgets; obtain ⟨rfl, _, rfl⟩ := hgets.get; clear hgets)) | (go_at_call 27; ((with_reducible refine (INS.out _).mono ?_); rintro _ _ hgets; obtain ⟨rfl, _, rfl⟩ := hgets.get; clear hgets)))
          go_returns
          exact ⟨rfl, by (repeat' (first | (with_reducible exact Below.refl _ _) | (with_reducible refine Below.alloc ?_ ?_ _) | (with_reducible refine below_ext ?_ ?_ _) | (with_reducible refine Below.drew ?_) | (with_reducible refine below_drewN ?_ _) | (with_reducible refine Below.setCell ?_ ?_ _) | go_size | (simp only [go_sem]; omega) | (simp [go_sem]; done) | (simp [go_sem]; omega)))⟩
        · have q1 : decide (n < 0) = false := by simpa using h1
          have q2 : decide (m < 0) = true := by simpa using h2
          clear h1 h2
          go_enter Try.func5, Try.ntmps5
          go_upto_region 1 with (fail)
          (refine wp_region_free (by kernel_rfl) (by kernel_rfl) ?_)
          repeat (go_big_quiet_step (fail))
          refine wpQuiet_nil ?_; rintro _ ⟨x0, rfl⟩
          go_wp2_with (first | (go_at_call 15; ((with_reducible refine (awake13 _).mono ?_); rintro _ _ hgets; obtain ⟨rfl, _, rfl⟩ := hgets.get; clear hgets)) | (go_at_call 20; ((with_reducible refine (SM.out _).mono ?_); rintro _ _ hgets; obtain ⟨rfl, _, rfl⟩ := hgets.get; clear hgets)) | (go_at_call 27; ((with_reducible refine (INS.out _).mono ?_); rintro _ _ hgets; obtain ⟨rfl, _, rfl⟩ := hgets.get; clear hgets)))
          go_returns
          exact ⟨rfl, by (repeat' (first | (with_reducible exact Below.refl _ _) | (with_reducible refine Below.alloc ?_ ?_ _) | (with_reducible refine below_ext ?_ ?_ _) | (with_reducible refine Below.drew ?_) | (with_reducible refine below_drewN ?_ _) | (with_reducible refine Below.setCell ?_ ?_ _) | go_size | (simp only [go_sem]; omega) | (simp [go_sem]; done) | (simp [go_sem]; omega)))⟩
        · have q1 : decide (n < 0) = false := by simpa using h1
          have q2 : decide (m < 0) = false := by simpa using h2
          have q3 : decide (1000000 < n) = true := by simpa using h3
          clear h1 h2 h3
          go_enter Try.func5, Try.ntmps5
          go_upto_region 1 with (fail)
          (refine wp_region_free (by kernel_rfl) (by kernel_rfl) ?_)
          repeat (go_big_quiet_step (fail))
          refine wpQuiet_nil ?_; rintro _ ⟨x0, rfl⟩
          go_wp2_with (first | (go_at_call 15; ((with_reducible refine (awake13 _).mono ?_); rintro _ _ hgets; obtain ⟨rfl, _, rfl⟩ := hgets.get; clear hgets)) | (go_at_call 20; ((with_reducible refine (SM.out _).mono ?_); rintro _ _ hgets; obtain ⟨rfl, _, rfl⟩ := hgets.get; clear hgets)) | (go_at_call 27; ((with_reducible refine (INS.out _).mono ?_); rintro _ _ hgets; obtain ⟨rfl, _, rfl⟩ := hgets.get; clear hgets)))
          go_returns
          exact ⟨rfl, by (repeat' (first | (with_reducible exact Below.refl _ _) | (with_reducible refine Below.alloc ?_ ?_ _) | (with_reducible refine below_ext ?_ ?_ _) | (with_reducible refine Below.drew ?_) | (with_reducible refine below_drewN ?_ _) | (with_reducible refine Below.setCell ?_ ?_ _) | go_size | (simp only [go_sem]; omega) | (simp [go_sem]; done) | (simp [go_sem]; omega)))⟩
        · have q1 : decide (n < 0) = false := by simpa using h1
          have q2 : decide (m < 0) = false := by simpa using h2
          have q3 : decide (1000000 < n) = false := by simpa using h3
          have q4 : decide (1000000 < m) = true := by simpa using h4
          clear h1 h2 h3 h4
          go_enter Try.func5, Try.ntmps5
          go_upto_region 1 with (fail)
          (refine wp_region_free (by kernel_rfl) (by kernel_rfl) ?_)
          repeat (go_big_quiet_step (fail))
          refine wpQuiet_nil ?_; rintro _ ⟨x0, rfl⟩
          go_wp2_with (first | (go_at_call 15; ((with_reducible refine (awake13 _).mono ?_); rintro _ _ hgets; obtain ⟨rfl, _, rfl⟩ := hgets.get; clear hgets)) | (go_at_call 20; ((with_reducible refine (SM.out _).mono ?_); rintro _ _ hgets; obtain ⟨rfl, _, rfl⟩ := hgets.get; clear hgets)) | (go_at_call 27; ((with_reducible refine (INS.out _).mono ?_); rintro _ _ hgets; obtain ⟨rfl, _, rfl⟩ := hgets.get; clear hgets)))
          go_returns
          exact ⟨rfl, by (repeat' (first | (with_reducible exact Below.refl _ _) | (with_reducible refine Below.alloc ?_ ?_ _) | (with_reducible refine below_ext ?_ ?_ _) | (with_reducible refine Below.drew ?_) | (with_reducible refine below_drewN ?_ _) | (with_reducible refine Below.setCell ?_ ?_ _) | go_size | (simp only [go_sem]; omega) | (simp [go_sem]; done) | (simp [go_sem]; omega)))⟩
    · rw [hin] at INS
      replace INS := Lib.hid INS
      clear hin hb hr
      go_enter Try.func5, Try.ntmps5
      go_upto_region 1 with (fail)
      (refine wp_region_free (by kernel_rfl) (by kernel_rfl) ?_)
      repeat (go_big_quiet_step (fail))
      refine wpQuiet_nil ?_; rintro _ ⟨x0, rfl⟩
      go_wp2_with (first | (go_at_call 15; ((with_reducible refine (awake13 _).mono ?_); rintro _ _ hgets; obtain ⟨rfl, _, rfl⟩ := hgets.get; clear hgets)) | (go_at_call 20; ((with_reducible refine (SM.out _).mono ?_); rintro _ _ hgets; obtain ⟨rfl, _, rfl⟩ := hgets.get; clear hgets)) | (go_at_call 27; ((with_reducible refine (INS.out _).mono ?_); rintro _ _ hgets; obtain ⟨rfl, _, rfl⟩ := hgets.get; clear hgets)))
      go_returns
      exact ⟨rfl, by (repeat' (first | (with_reducible exact Below.refl _ _) | (with_reducible refine Below.alloc ?_ ?_ _) | (with_reducible refine below_ext ?_ ?_ _) | (with_reducible refine Below.drew ?_) | (with_reducible refine below_drewN ?_ _) | (with_reducible refine Below.setCell ?_ ?_ _) | go_size | (simp only [go_sem]; omega) | (simp [go_sem]; done) | (simp [go_sem]; omega)))⟩
  · have SM := Lib.hid (show ∀ w', Calls Try.prog 20 #[.agg #[.int .i64 pt, .int .i64 pl, .int .i64 pb, .int .i64 pr, .int .i64 mt, .int .i64 ml, .int .i64 mb, .int .i64 mr]] w' (Gives w' (.bool false)) from fun w' => by have := small_c (pt := pt) (pl := pl) (pb := pb) (pr := pr) (mt := mt) (ml := ml) (mb := mb) (mr := mr) w'; rwa [show (decide (pb ≤ 2000) && decide (pr ≤ 2000)) = false by simp; omega] at this)
    clear hsm
    go_enter Try.func5, Try.ntmps5
    go_upto_region 1 with (fail)
    (refine wp_region_free (by kernel_rfl) (by kernel_rfl) ?_)
    repeat (go_big_quiet_step (fail))
    refine wpQuiet_nil ?_; rintro _ ⟨x0, rfl⟩
    go_wp2_with (first | (go_at_call 15; ((with_reducible refine (awake13 _).mono ?_); rintro _ _ hgets; obtain ⟨rfl, _, rfl⟩ := hgets.get; clear hgets)) | (go_at_call 20; ((with_reducible refine (SM.out _).mono ?_); rintro _ _ hgets; obtain ⟨rfl, _, rfl⟩ := hgets.get; clear hgets)))
    go_returns
    exact ⟨rfl, by (repeat' (first | (with_reducible exact Below.refl _ _) | (with_reducible refine Below.alloc ?_ ?_ _) | (with_reducible refine below_ext ?_ ?_ _) | (with_reducible refine Below.drew ?_) | (with_reducible refine below_drewN ?_ _) | (with_reducible refine Below.setCell ?_ ?_ _) | go_size | (simp only [go_sem]; omega) | (simp [go_sem]; done) | (simp [go_sem]; omega)))⟩
end Go.Proofs.Ytdlngbmgcedbpaa
