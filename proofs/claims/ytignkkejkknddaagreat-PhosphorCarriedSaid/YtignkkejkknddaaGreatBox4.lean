/- The reference's rectangle. -/
import Derived.Test.YtignkkejkknddaaGreatBox3
namespace Go.Proofs.YtignkkejkknddaaGreat
open Go.RowKit
set_option linter.unusedVariables false
set_option linter.unusedSimpArgs false
theorem lastA_le (n l : Int) : lastA n l ≤ n := by unfold lastA; split <;> omega

set_option maxRecDepth 100000 in
set_option maxHeartbeats 2000000 in
theorem rect_r (t l b r : Int) (a : Option Addr) (c : Nat) (xs : List Int) (i : Int) (w : World) (ht : -1000000 ≤ t ∧ t ≤ 1000000) (hl : -1000000 ≤ l ∧ l ≤ 1000000) (hb : -1000000 ≤ b ∧ b ≤ 1000000) (hr : -1000000 ≤ r ∧ r ≤ 1000000)
    (hx : Ints w a xs) (hm : xs.length ≤ 9223372036854775807) (hw : ∀ n ∈ xs, n ≤ 9223372036854775807) :
    Calls Tryz.prog 13 #[.agg #[.int .i64 t, .int .i64 l, .int .i64 b, .int .i64 r], .slice a xs.length c, .int .i64 i] w (Gives w (rectV t l b r xs i)) := by
  obtain ⟨ht1, ht2⟩ := ht
  obtain ⟨hl1, hl2⟩ := hl
  obtain ⟨hb1, hb2⟩ := hb
  obtain ⟨hr1, hr2⟩ := hr
  have N := Lib.hid (fun (w' : World) (h : Ints w' a xs) (m : Int) (hm0 : 0 ≤ m) => number_r a c xs i m w' h hm hm0)
  have W := Lib.hid (num0_le hw i)
  have X := Lib.hid hx
  clear hw hx
  by_cases he : b ≤ t ∨ r ≤ l
  · have hv := Lib.hid (rectV_no (t := t) (l := l) (b := b) (r := r) (xs := xs) (i := i) (by unfold rectOk; rw [decide_eq_false (by omega)]; rfl))
    go_enter Tryz.func13, Tryz.ntmps13
    go_wp2_with (first
      | (go_at_call 51; ((with_reducible refine (empty_r _ _ _ _ _).mono ?_); rintro _ _ hgets; obtain ⟨rfl, _, rfl⟩ := hgets.get; clear hgets))
      | (go_at_call 47; ((with_reducible refine (N.out _ (by repeat (first | exact X.out | exact X | refine Rd.ext ?_ _ | refine Rd.alloc ?_ _ | refine Rd.drew ?_)) _ (by omega)).mono ?_); rintro _ _ ⟨rfl, rfl⟩)))
    go_returns
    exact ⟨ret_of hv.out.symm, by (repeat' (first | (with_reducible exact Below.refl _ _) | (with_reducible refine Below.alloc ?_ ?_ _) | (with_reducible refine below_ext ?_ ?_ _) | (with_reducible refine Below.drew ?_) | (with_reducible refine below_drewN ?_ _) | (with_reducible refine Below.setCell ?_ ?_ _) | go_size | (simp only [go_sem]; omega) | (simp [go_sem]; done) | (simp [go_sem]; omega)))⟩
  · by_cases hn : num0 xs i 0 < 0 ∨ num0 xs i 1 < 0 ∨ num0 xs i 2 < 0 ∨ num0 xs i 3 < 0
    · have hv := Lib.hid (rectV_no (t := t) (l := l) (b := b) (r := r) (xs := xs) (i := i) (by
        unfold rectOk sideOk
        simp only [Bool.and_eq_false_iff, decide_eq_false_iff_not]
        omega))
      go_enter Tryz.func13, Tryz.ntmps13
      go_wp2_with (first
        | (go_at_call 51; ((with_reducible refine (empty_r _ _ _ _ _).mono ?_); rintro _ _ hgets; obtain ⟨rfl, _, rfl⟩ := hgets.get; clear hgets))
        | (go_at_call 47; ((with_reducible refine (N.out _ (by repeat (first | exact X.out | exact X | refine Rd.ext ?_ _ | refine Rd.alloc ?_ _ | refine Rd.drew ?_)) _ (by omega)).mono ?_); rintro _ _ ⟨rfl, rfl⟩)))
      refine wp_loop_rounds 4 ?_
      repeat any_goals (rw [rounds_succ]; go_wp2)
      all_goals go_returns
      all_goals exact ⟨ret_of hv.out.symm, by (repeat' (first | (with_reducible exact Below.refl _ _) | (with_reducible refine Below.alloc ?_ ?_ _) | (with_reducible refine below_ext ?_ ?_ _) | (with_reducible refine Below.drew ?_) | (with_reducible refine below_drewN ?_ _) | (with_reducible refine Below.setCell ?_ ?_ _) | go_size | (simp only [go_sem]; omega) | (simp [go_sem]; done) | (simp [go_sem]; omega)))⟩
    · have p0 : 0 ≤ num0 xs i 0 := by omega
      have p1 : 0 ≤ num0 xs i 1 := by omega
      have p2 : 0 ≤ num0 xs i 2 := by omega
      have p3 : 0 ≤ num0 xs i 3 := by omega
      clear hn
      go_enter Tryz.func13, Tryz.ntmps13
      go_wp2_with (first
        | (go_at_call 51; ((with_reducible refine (empty_r _ _ _ _ _).mono ?_); rintro _ _ hgets; obtain ⟨rfl, x1, rfl⟩ := hgets.get; clear hgets))
        | (go_at_call 47; ((with_reducible refine (N.out _ (by repeat (first | exact X.out | exact X | refine Rd.ext ?_ _ | refine Rd.alloc ?_ _ | refine Rd.drew ?_)) _ (by omega)).mono ?_); rintro _ _ ⟨rfl, rfl⟩)))
      go_loop [11] (fun i => ∃ k : Nat, k ≤ 4 ∧ i = .int .i64 k) (fun i => 4 - (intOf i).toNat)
      case atStart => exact ⟨0, by omega, rfl⟩
      case round =>
        obtain ⟨k, hk, rfl⟩ := hrel
        have hcases : k = 0 ∨ k = 1 ∨ k = 2 ∨ k = 3 ∨ k = 4 := by omega
        rcases hcases with rfl | rfl | rfl | rfl | rfl
        · go_wp2
          go_round
          case rel => exact ⟨1, by omega, by go_num⟩
          case measure => simp [intOf]
        · go_wp2
          go_round
          case rel => exact ⟨2, by omega, by go_num⟩
          case measure => simp [intOf]
        · go_wp2
          go_round
          case rel => exact ⟨3, by omega, by go_num⟩
          case measure => simp [intOf]
        · go_wp2
          go_round
          case rel => exact ⟨4, by omega, by go_num⟩
          case measure => simp [intOf]
        · go_upto_if 49 with fail
          go_cut [] (fun wx => wx = (ext ((w.alloc (.cells #[.int .i64 t, .int .i64 l, .int .i64 b, .int .i64 r] 31)).alloc (.cells #[.int .i64 0, .int .i64 0, .int .i64 0, .int .i64 0] 31)) x1).alloc (.cells #[.int .i64 (max (num0 xs i 0) 1), .int .i64 (num0 xs i 1), .int .i64 (num0 xs i 2), .int .i64 (num0 xs i 3)] 25))
          case first =>
            rcases Bool.eq_false_or_eq_true (num0 xs i 0 == 0) with h0 | h0
            · go_wp2
              go_meet
              rw [show max (num0 xs i 0) 1 = 1 by simp at h0; omega]
            · go_wp2
              go_meet
              rw [show max (num0 xs i 0) 1 = num0 xs i 0 by simp at h0; omega]
          subst hcut
          go_upto_if 53 with fail
          go_cut [] (fun wx => wx = (ext ((w.alloc (.cells #[.int .i64 t, .int .i64 l, .int .i64 b, .int .i64 r] 31)).alloc (.cells #[.int .i64 0, .int .i64 0, .int .i64 0, .int .i64 0] 31)) x1).alloc (.cells #[.int .i64 (max (num0 xs i 0) 1), .int .i64 (max (num0 xs i 1) 1), .int .i64 (num0 xs i 2), .int .i64 (num0 xs i 3)] 25))
          case first =>
            rcases Bool.eq_false_or_eq_true (num0 xs i 1 == 0) with h0 | h0
            · go_wp2
              go_meet
              rw [show max (num0 xs i 1) 1 = 1 by simp at h0; omega]
            · go_wp2
              go_meet
              rw [show max (num0 xs i 1) 1 = num0 xs i 1 by simp at h0; omega]
          subst hcut
          go_upto_region 15 with fail
          go_cut [63] (fun s wx => s = .bool (decide (num0 xs i 2 = 0 ∨ b - t < num0 xs i 2)) ∧ wx = (ext ((w.alloc (.cells #[.int .i64 t, .int .i64 l, .int .i64 b, .int .i64 r] 31)).alloc (.cells #[.int .i64 0, .int .i64 0, .int .i64 0, .int .i64 0] 31)) x1).alloc (.cells #[.int .i64 (max (num0 xs i 0) 1), .int .i64 (max (num0 xs i 1) 1), .int .i64 (num0 xs i 2), .int .i64 (num0 xs i 3)] 25))
          case first =>
            by_cases h0 : num0 xs i 2 = 0
            · have h0' : (num0 xs i 2 == 0) = true := by simpa using h0
              have hb := Lib.hid (show decide (num0 xs i 2 = 0 ∨ b - t < num0 xs i 2) = true by simp [h0])
              clear h0
              go_wp2
              go_meet
              exact ⟨by rw [hb.out], rfl⟩
            · have h0' : (num0 xs i 2 == 0) = false := by simpa using h0
              have hb := Lib.hid (show decide (num0 xs i 2 = 0 ∨ b - t < num0 xs i 2) = decide (b - t < num0 xs i 2) by simp [h0])
              clear h0
              go_wp2
              go_meet
              exact ⟨by rw [hb.out], rfl⟩
          obtain ⟨rfl, rfl⟩ := hcut
          go_upto_if 63 with fail
          go_cut [] (fun wx => wx = (ext ((w.alloc (.cells #[.int .i64 t, .int .i64 l, .int .i64 b, .int .i64 r] 31)).alloc (.cells #[.int .i64 0, .int .i64 0, .int .i64 0, .int .i64 0] 31)) x1).alloc (.cells #[.int .i64 (max (num0 xs i 0) 1), .int .i64 (max (num0 xs i 1) 1), .int .i64 (lastA (b - t) (num0 xs i 2)), .int .i64 (num0 xs i 3)] 25))
          case first =>
            by_cases h0 : num0 xs i 2 = 0 ∨ b - t < num0 xs i 2
            · go_wp2
              go_meet
              rw [show lastA (b - t) (num0 xs i 2) = b - t by unfold lastA; rw [if_pos h0]]
            · go_wp2
              go_meet
              rw [show lastA (b - t) (num0 xs i 2) = num0 xs i 2 by unfold lastA; rw [if_neg h0]]
          subst hcut
          go_upto_region 17 with fail
          go_cut [74] (fun s wx => s = .bool (decide (num0 xs i 3 = 0 ∨ r - l < num0 xs i 3)) ∧ wx = (ext ((w.alloc (.cells #[.int .i64 t, .int .i64 l, .int .i64 b, .int .i64 r] 31)).alloc (.cells #[.int .i64 0, .int .i64 0, .int .i64 0, .int .i64 0] 31)) x1).alloc (.cells #[.int .i64 (max (num0 xs i 0) 1), .int .i64 (max (num0 xs i 1) 1), .int .i64 (lastA (b - t) (num0 xs i 2)), .int .i64 (num0 xs i 3)] 25))
          case first =>
            by_cases h0 : num0 xs i 3 = 0
            · have h0' : (num0 xs i 3 == 0) = true := by simpa using h0
              have hb := Lib.hid (show decide (num0 xs i 3 = 0 ∨ r - l < num0 xs i 3) = true by simp [h0])
              clear h0
              go_wp2
              go_meet
              exact ⟨by rw [hb.out], rfl⟩
            · have h0' : (num0 xs i 3 == 0) = false := by simpa using h0
              have hb := Lib.hid (show decide (num0 xs i 3 = 0 ∨ r - l < num0 xs i 3) = decide (r - l < num0 xs i 3) by simp [h0])
              clear h0
              go_wp2
              go_meet
              exact ⟨by rw [hb.out], rfl⟩
          obtain ⟨rfl, rfl⟩ := hcut
          go_upto_if 74 with fail
          go_cut [] (fun wx => wx = (ext ((w.alloc (.cells #[.int .i64 t, .int .i64 l, .int .i64 b, .int .i64 r] 31)).alloc (.cells #[.int .i64 0, .int .i64 0, .int .i64 0, .int .i64 0] 31)) x1).alloc (.cells #[.int .i64 (max (num0 xs i 0) 1), .int .i64 (max (num0 xs i 1) 1), .int .i64 (lastA (b - t) (num0 xs i 2)), .int .i64 (lastA (r - l) (num0 xs i 3))] 25))
          case first =>
            by_cases h0 : num0 xs i 3 = 0 ∨ r - l < num0 xs i 3
            · go_wp2
              go_meet
              rw [show lastA (r - l) (num0 xs i 3) = r - l by unfold lastA; rw [if_pos h0]]
            · go_wp2
              go_meet
              rw [show lastA (r - l) (num0 xs i 3) = num0 xs i 3 by unfold lastA; rw [if_neg h0]]
          subst hcut
          have L2 : lastA (b - t) (num0 xs i 2) ≤ b - t := lastA_le _ _
          have L3 : lastA (r - l) (num0 xs i 3) ≤ r - l := lastA_le _ _
          by_cases hk : max (num0 xs i 0) 1 ≤ lastA (b - t) (num0 xs i 2) ∧ max (num0 xs i 1) 1 ≤ lastA (r - l) (num0 xs i 3)
          · obtain ⟨k1, k2⟩ := hk
            have o1 : sideOk (b - t) (num0 xs i 0) (num0 xs i 2) = true := by unfold sideOk; simp only [decide_eq_true_eq]; omega
            have o2 : sideOk (r - l) (num0 xs i 1) (num0 xs i 3) = true := by unfold sideOk; simp only [decide_eq_true_eq]; omega
            obtain ⟨-, -, -, -, -, s1, s2⟩ := side_bd o1
            obtain ⟨-, -, -, -, -, s3, s4⟩ := side_bd o2
            have hv := Lib.hid (rectV_yes (t := t) (l := l) (b := b) (r := r) (xs := xs) (i := i) (x := t + max (num0 xs i 0) 1 - 1) (y := l + max (num0 xs i 1) 1 - 1) (z := t + lastA (b - t) (num0 xs i 2)) (u := l + lastA (r - l) (num0 xs i 3))
              (by unfold rectOk; rw [decide_eq_true (by omega), o1, o2]; rfl) (by rw [s1]; omega) (by rw [s3]; omega) (by rw [s2]) (by rw [s4]))
            clear o1 o2 s1 s2 s3 s4
            go_wp2
            all_goals go_returns
            all_goals exact ⟨ret_of hv.out.symm, by (repeat' (first | (with_reducible exact Below.refl _ _) | (with_reducible refine Below.alloc ?_ ?_ _) | (with_reducible refine below_ext ?_ ?_ _) | (with_reducible refine Below.drew ?_) | (with_reducible refine below_drewN ?_ _) | (with_reducible refine Below.setCell ?_ ?_ _) | go_size | (simp only [go_sem]; omega) | (simp [go_sem]; done) | (simp [go_sem]; omega)))⟩
          · have hv := Lib.hid (rectV_no (t := t) (l := l) (b := b) (r := r) (xs := xs) (i := i) (by
              unfold rectOk sideOk
              simp only [Bool.and_eq_false_iff, decide_eq_false_iff_not]
              omega))
            go_wp2
            all_goals go_returns
            all_goals exact ⟨ret_of hv.out.symm, by (repeat' (first | (with_reducible exact Below.refl _ _) | (with_reducible refine Below.alloc ?_ ?_ _) | (with_reducible refine below_ext ?_ ?_ _) | (with_reducible refine Below.drew ?_) | (with_reducible refine below_drewN ?_ _) | (with_reducible refine Below.setCell ?_ ?_ _) | go_size | (simp only [go_sem]; omega) | (simp [go_sem]; done) | (simp [go_sem]; omega)))⟩

end Go.Proofs.YtignkkejkknddaaGreat
/- Places. -/
namespace Go.Proofs.YtignkkejkknddaaGreat
open Go.RowKit
set_option linter.unusedVariables false
set_option linter.unusedSimpArgs false

def placeI (lo hi n : Int) : Int := lo + max 1 (min n (hi - lo)) - 1
def placeV (t l b r : Int) (xs : List Int) (i : Int) : Value :=
  if b ≤ t ∨ r ≤ l then .agg #[.int .i64 t, .int .i64 l] else .agg #[.int .i64 (placeI t b (num0 xs i 0)), .int .i64 (placeI l r (num0 xs i 1))]

set_option maxHeartbeats 1000000 in
theorem place_c (t l b r : Int) (a : Option Addr) (c : Nat) (xs : List Int) (i : Int) (w : World) (ht : -1000000 ≤ t ∧ t ≤ 1000000) (hl : -1000000 ≤ l ∧ l ≤ 1000000) (hb : -1000000 ≤ b ∧ b ≤ 1000000) (hr : -1000000 ≤ r ∧ r ≤ 1000000)
    (hx : Ints w a xs) (hm : xs.length ≤ 9223372036854775807) (hc : xs.length ≤ c) (hcm : c ≤ 9223372036854775807) :
    Calls Tryz.prog 53 #[.agg #[.int .i64 t, .int .i64 l, .int .i64 b, .int .i64 r], .slice a xs.length c, .int .i64 i] w (Gives w (placeV t l b r xs i)) := by
  obtain ⟨ht1, ht2⟩ := ht
  obtain ⟨hl1, hl2⟩ := hl
  obtain ⟨hb1, hb2⟩ := hb
  obtain ⟨hr1, hr2⟩ := hr
  have N := Lib.hid (fun (w' : World) (h : Ints w' a xs) (m : Int) (hm0 : 0 ≤ m) => number_c a c xs i m w' h hm hc hcm hm0)
  have X := Lib.hid hx
  clear hx
  have hs := fun w' => size_c t l b r w' (by omega) (by omega) (by omega) (by omega)
  by_cases he : b ≤ t ∨ r ≤ l
  · simp only [if_pos he] at hs
    have S := Lib.hid hs
    clear hs
    have hv := Lib.hid (show placeV t l b r xs i = .agg #[.int .i64 t, .int .i64 l] by unfold placeV; rw [if_pos he])
    go_enter Tryz.func53, Tryz.ntmps53
    go_wp2_with (go_at_call 87; ((with_reducible refine (S.out _).mono ?_); rintro _ _ hgets; obtain ⟨rfl, _, rfl⟩ := hgets.get; clear hgets))
    go_returns
    exact ⟨ret_of hv.out.symm, by (repeat' (first | (with_reducible exact Below.refl _ _) | (with_reducible refine Below.alloc ?_ ?_ _) | (with_reducible refine below_ext ?_ ?_ _) | (with_reducible refine Below.drew ?_) | (with_reducible refine below_drewN ?_ _) | (with_reducible refine Below.setCell ?_ ?_ _) | go_size | (simp only [go_sem]; omega) | (simp [go_sem]; done) | (simp [go_sem]; omega)))⟩
  · simp only [if_neg he] at hs
    have S := Lib.hid hs
    clear hs
    have hv := Lib.hid (show placeV t l b r xs i = .agg #[.int .i64 (placeI t b (num0 xs i 0)), .int .i64 (placeI l r (num0 xs i 1))] by unfold placeV; rw [if_neg he])
    have hne : (b - t == 0) = false := by simp; omega
    go_enter Tryz.func53, Tryz.ntmps53
    go_wp2_with (go_at_call 87; ((with_reducible refine (S.out _).mono ?_); rintro _ _ hgets; obtain ⟨rfl, _, rfl⟩ := hgets.get; clear hgets))
    (refine wp_region_tail 18 (by kernel_rfl) (by kernel_rfl) ?_; simp only [List.take_succ_cons, List.take_zero, List.drop_succ_cons, List.drop_zero])
    repeat (go_big_quiet_step (first | ((go_at_call 89; with_reducible exact Calls.free_same (N.out _ (by repeat (first | exact X.out | exact X | refine Rd.ext ?_ _ | refine Rd.alloc ?_ _ | refine Rd.drew ?_)) _ (by omega)))) | ((go_at_call 91; with_reducible exact Calls.free_same (pclip_c _ _ _ _)))))
    refine wpQuiet_nil ?_; rintro _ ⟨x2, rfl⟩
    go_wp2
    go_returns
    refine ⟨ret_of ?_, by (repeat' (first | (with_reducible exact Below.refl _ _) | (with_reducible refine Below.alloc ?_ ?_ _) | (with_reducible refine below_ext ?_ ?_ _) | (with_reducible refine Below.drew ?_) | (with_reducible refine below_drewN ?_ _) | (with_reducible refine Below.setCell ?_ ?_ _) | go_size | (simp only [go_sem]; omega) | (simp [go_sem]; done) | (simp [go_sem]; omega)))⟩
    rw [hv.out]
    exact agg2_eq (by unfold placeI; omega) (by unfold placeI; omega)

end Go.Proofs.YtignkkejkknddaaGreat
