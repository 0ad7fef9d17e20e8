/- The document's glyph.  -/
import Derived.Test.YtigmdokegiomaaaAhF
import Derived.Test.YtigmdokegiomaaaAhD
namespace Go.Proofs.Ytigmdokegiomaaa
open Go.RowKit
set_option linter.unusedVariables false
set_option linter.unusedSimpArgs false

theorem ref_in : ((List.range 17).all fun s => (List.range 128).all fun c => decide (0 ≤ refG ((s : Int) + 1) c) && decide (refG ((s : Int) + 1) c < 100000)) = true := by decide +kernel
theorem ref_range {s c : Int} (h1 : 1 ≤ s) (h2 : s ≤ 17) (h3 : 0 ≤ c) (h4 : c < 128) : 0 ≤ refG s c ∧ refG s c < 100000 := by
  obtain ⟨i, rfl⟩ : ∃ i : Nat, s = (i : Int) + 1 := ⟨(s - 1).toNat, by omega⟩
  obtain ⟨j, rfl⟩ := Int.eq_ofNat_of_zero_le h3
  have := List.all_eq_true.1 (List.all_eq_true.1 ref_in i (List.mem_range.2 (by omega))) j (List.mem_range.2 (by omega))
  simpa using this
set_option maxRecDepth 100000 in
set_option maxHeartbeats 16000000 in
theorem rglyph_c (s c : Int) (h1 : 1 ≤ s) (h2 : s ≤ 17) (h3 : 0 ≤ c) (h4 : c < 128) (w : World) : Calls Try.prog 10 #[.int .i64 s, .int .u8 c] w (Gives w (.int .i32 (refG s c))) := by
  have r := ref_range h1 h2 h3 h4
  have hi0 : IntKind.i32.wrap (refG s c) = refG s c := wrap_i32 r.1 (by omega)
  have hr : c % 128 = c := by omega
  have hl0 : IntKind.i64.wrap c = c := wrap_a (by omega) (by omega)
  have ha : IntKind.i64.wrap (c + 128) = c + 128 := wrap_a (by omega) (by omega)
  have WD := Lib.hid (fun w' => islatin_c s w')
  have d1 : decide (s < 1) = false := decide_eq_false (by omega)
  have d2 : decide (17 < s) = false := decide_eq_false (by omega)
  by_cases a1 : c < 32
  · have q : refG s c = 0 := if_pos a1
    have b1 : decide (c < 32) = true := decide_eq_true a1
    rw [q]
    clear q r hi0
    go_enter Try.func10, Try.ntmps10
    go_wp2_with (go_at_call 20; ((with_reducible refine (WD.out _).mono ?_); rintro _ _ hgets; obtain ⟨rfl, x1, rfl⟩ := hgets.get; clear hgets))
    go_returns
    exact ⟨rfl, by (repeat' (first | (with_reducible exact Below.refl _ _) | (with_reducible refine Below.alloc ?_ ?_ _) | (with_reducible refine below_ext ?_ ?_ _) | (with_reducible refine Below.drew ?_) | (with_reducible refine below_drewN ?_ _) | (with_reducible refine Below.setCell ?_ ?_ _) | go_size | (simp only [go_sem]; omega) | (simp [go_sem]; done) | (simp [go_sem]; omega)))⟩
  have b1 : decide (c < 32) = false := decide_eq_false a1
  by_cases a3 : s = 5
  · have q : refG s c = c + 128 := by unfold refG; rw [if_neg a1, if_pos a3]
    rw [q] at hi0 ⊢
    clear q r
    subst a3
    go_enter Try.func10, Try.ntmps10
    go_wp2_with (go_at_call 20; ((with_reducible refine (WD.out _).mono ?_); rintro _ _ hgets; obtain ⟨rfl, x1, rfl⟩ := hgets.get; clear hgets))
    go_returns
    exact ⟨rfl, by (repeat' (first | (with_reducible exact Below.refl _ _) | (with_reducible refine Below.alloc ?_ ?_ _) | (with_reducible refine below_ext ?_ ?_ _) | (with_reducible refine Below.drew ?_) | (with_reducible refine below_drewN ?_ _) | (with_reducible refine Below.setCell ?_ ?_ _) | go_size | (simp only [go_sem]; omega) | (simp [go_sem]; done) | (simp [go_sem]; omega)))⟩
  have b3 : (s == 5) = false := by simpa using a3
  by_cases a2 : c = 127
  · have q : refG s c = 0 := by unfold refG; rw [if_neg a1, if_neg a3, if_pos a2]
    rw [q]
    clear q r hi0
    have b2 : (c == 127) = true := by simpa using a2
    go_enter Try.func10, Try.ntmps10
    go_wp2_with (go_at_call 20; ((with_reducible refine (WD.out _).mono ?_); rintro _ _ hgets; obtain ⟨rfl, x1, rfl⟩ := hgets.get; clear hgets))
    go_returns
    exact ⟨rfl, by (repeat' (first | (with_reducible exact Below.refl _ _) | (with_reducible refine Below.alloc ?_ ?_ _) | (with_reducible refine below_ext ?_ ?_ _) | (with_reducible refine Below.drew ?_) | (with_reducible refine below_drewN ?_ _) | (with_reducible refine Below.setCell ?_ ?_ _) | go_size | (simp only [go_sem]; omega) | (simp [go_sem]; done) | (simp [go_sem]; omega)))⟩
  have b2 : (c == 127) = false := by simpa using a2
  by_cases a4 : c = 32
  · have q : refG s c = 32 := by unfold refG; rw [if_neg a1, if_neg a3, if_neg a2, if_pos a4]
    rw [q]
    clear q r hi0
    have b4 : (c == 32) = true := by simpa using a4
    go_enter Try.func10, Try.ntmps10
    go_wp2_with (go_at_call 20; ((with_reducible refine (WD.out _).mono ?_); rintro _ _ hgets; obtain ⟨rfl, x1, rfl⟩ := hgets.get; clear hgets))
    go_returns
    exact ⟨rfl, by (repeat' (first | (with_reducible exact Below.refl _ _) | (with_reducible refine Below.alloc ?_ ?_ _) | (with_reducible refine below_ext ?_ ?_ _) | (with_reducible refine Below.drew ?_) | (with_reducible refine below_drewN ?_ _) | (with_reducible refine Below.setCell ?_ ?_ _) | go_size | (simp only [go_sem]; omega) | (simp [go_sem]; done) | (simp [go_sem]; omega)))⟩
  have b4 : (c == 32) = false := by simpa using a4
  have SP := Lib.hid (fun w' => special_c c (by omega) (by omega) w')
  have TE := Lib.hid (fun w' => technical_c c (by omega) (by omega) w')
  have SU := Lib.hid (fun w' => rsupp_c c (by omega) (by omega) w')
  have NA := Lib.hid (fun w' => nation_c s c h1 h2 w')
  have q : refG s c = (if s = 2 then (if c < 95 then c else drawL.getD (c - 95).toNat 0) else if s = 3 then techL.getD (c - 33).toNat 0 else if s = 4 then lookI suppT c (c + 128)
    else lookI (rowI nationT s []) c c) := by unfold refG; rw [if_neg a1, if_neg a3, if_neg a2, if_neg a4]
  rw [q] at hi0 ⊢
  clear q r
  generalize (if c < 95 then c else drawL.getD (c - 95).toNat 0) = v1 at *
  generalize techL.getD (c - 33).toNat 0 = v2 at *
  generalize lookI suppT c (c + 128) = v3 at *
  generalize lookI (rowI nationT s []) c c = v4 at *
  by_cases e2 : s = 2
  · rw [if_pos e2] at *
    subst e2
    clear b3
    go_enter Try.func10, Try.ntmps10
    go_wp2_with (first
      | (go_at_call 20; ((with_reducible refine (WD.out _).mono ?_); rintro _ _ hgets; obtain ⟨rfl, x1, rfl⟩ := hgets.get; clear hgets))
      | (go_at_call 21; ((with_reducible refine (SP.out _).mono ?_); rintro _ _ hgets; obtain ⟨rfl, x2, rfl⟩ := hgets.get; clear hgets)))
    go_returns
    exact ⟨rfl, by (repeat' (first | (with_reducible exact Below.refl _ _) | (with_reducible refine Below.alloc ?_ ?_ _) | (with_reducible refine below_ext ?_ ?_ _) | (with_reducible refine Below.drew ?_) | (with_reducible refine below_drewN ?_ _) | (with_reducible refine Below.setCell ?_ ?_ _) | go_size | (simp only [go_sem]; omega) | (simp [go_sem]; done) | (simp [go_sem]; omega)))⟩
  have c2 : (s == 2) = false := by simpa using e2
  rw [if_neg e2] at *
  by_cases e3 : s = 3
  · rw [if_pos e3] at *
    subst e3
    clear b3
    go_enter Try.func10, Try.ntmps10
    go_wp2_with (first
      | (go_at_call 20; ((with_reducible refine (WD.out _).mono ?_); rintro _ _ hgets; obtain ⟨rfl, x1, rfl⟩ := hgets.get; clear hgets))
      | (go_at_call 22; ((with_reducible refine (TE.out _).mono ?_); rintro _ _ hgets; obtain ⟨rfl, x2, rfl⟩ := hgets.get; clear hgets)))
    go_returns
    exact ⟨rfl, by (repeat' (first | (with_reducible exact Below.refl _ _) | (with_reducible refine Below.alloc ?_ ?_ _) | (with_reducible refine below_ext ?_ ?_ _) | (with_reducible refine Below.drew ?_) | (with_reducible refine below_drewN ?_ _) | (with_reducible refine Below.setCell ?_ ?_ _) | go_size | (simp only [go_sem]; omega) | (simp [go_sem]; done) | (simp [go_sem]; omega)))⟩
  have c3 : (s == 3) = false := by simpa using e3
  rw [if_neg e3] at *
  by_cases e4 : s = 4
  · rw [if_pos e4] at *
    subst e4
    clear b3
    go_enter Try.func10, Try.ntmps10
    go_wp2_with (first
      | (go_at_call 20; ((with_reducible refine (WD.out _).mono ?_); rintro _ _ hgets; obtain ⟨rfl, x1, rfl⟩ := hgets.get; clear hgets))
      | (go_at_call 23; ((with_reducible refine (SU.out _).mono ?_); rintro _ _ hgets; obtain ⟨rfl, x2, rfl⟩ := hgets.get; clear hgets)))
    go_returns
    exact ⟨rfl, by (repeat' (first | (with_reducible exact Below.refl _ _) | (with_reducible refine Below.alloc ?_ ?_ _) | (with_reducible refine below_ext ?_ ?_ _) | (with_reducible refine Below.drew ?_) | (with_reducible refine below_drewN ?_ _) | (with_reducible refine Below.setCell ?_ ?_ _) | go_size | (simp only [go_sem]; omega) | (simp [go_sem]; done) | (simp [go_sem]; omega)))⟩
  have c4 : (s == 4) = false := by simpa using e4
  rw [if_neg e4] at *
  go_enter Try.func10, Try.ntmps10
  go_wp2_with (first
    | (go_at_call 20; ((with_reducible refine (WD.out _).mono ?_); rintro _ _ hgets; obtain ⟨rfl, x1, rfl⟩ := hgets.get; clear hgets))
    | (go_at_call 24; ((with_reducible refine (NA.out _).mono ?_); rintro _ _ hgets; obtain ⟨rfl, x2, rfl⟩ := hgets.get; clear hgets)))
  go_returns
  exact ⟨rfl, by (repeat' (first | (with_reducible exact Below.refl _ _) | (with_reducible refine Below.alloc ?_ ?_ _) | (with_reducible refine below_ext ?_ ?_ _) | (with_reducible refine Below.drew ?_) | (with_reducible refine below_drewN ?_ _) | (with_reducible refine Below.setCell ?_ ?_ _) | go_size | (simp only [go_sem]; omega) | (simp [go_sem]; done) | (simp [go_sem]; omega)))⟩
end Go.Proofs.Ytigmdokegiomaaa
