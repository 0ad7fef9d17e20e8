/- Places. -/
import Derived.Test.YtdmfcijcecogdaaBox3
namespace Go.Proofs.Ytdmfcijcecogdaa
open Go.RowKit
set_option linter.unusedVariables false
set_option linter.unusedSimpArgs false

def placeI (lo hi n : Int) : Int := lo + max 1 (min n (hi - lo)) - 1
def placeV (t l b r : Int) (xs : List Int) (i : Int) : Value :=
  if b ≤ t ∨ r ≤ l then .agg #[.int .i64 t, .int .i64 l] else .agg #[.int .i64 (placeI t b (num0 xs i 0)), .int .i64 (placeI l r (num0 xs i 1))]

set_option maxHeartbeats 1000000 in
theorem place_c (t l b r : Int) (a : Option Addr) (c : Nat) (xs : List Int) (i : Int) (w : World) (ht : -1000000 ≤ t ∧ t ≤ 1000000) (hl : -1000000 ≤ l ∧ l ≤ 1000000) (hb : -1000000 ≤ b ∧ b ≤ 1000000) (hr : -1000000 ≤ r ∧ r ≤ 1000000)
    (hx : Ints w a xs) (hm : xs.length ≤ 9223372036854775807) (hc : xs.length ≤ c) (hcm : c ≤ 9223372036854775807) :
    Calls Try.prog 37 #[.agg #[.int .i64 t, .int .i64 l, .int .i64 b, .int .i64 r], .slice a xs.length c, .int .i64 i] w (Gives w (placeV t l b r xs i)) := by
  obtain ⟨ht1, ht2⟩ := ht
  obtain ⟨hl1, hl2⟩ := hl
  obtain ⟨hb1, hb2⟩ := hb
  obtain ⟨hr1, hr2⟩ := hr
  have N := Lib.hid (fun (w' : World) (h : Ints w' a xs) (m : Int) (hm0 : 0 ≤ m) => number_c a c xs i m w' h hm hc hcm hm0)
  have X := Lib.hid hx
  clear hx
  have hs := fun w' => size_c t l b r w' (by omega) (by omega) (by omega) (by omega)
  by_cases he : b ≤ t ∨ r ≤ l
  · simp only [if_pos he] at hs
    have S := Lib.hid hs
    clear hs
    have hv := Lib.hid (show placeV t l b r xs i = .agg #[.int .i64 t, .int .i64 l] by unfold placeV; rw [if_pos he])
    go_enter Try.func37, Try.ntmps37
    go_wp2_with (go_at_call 44; ((with_reducible refine (S.out _).mono ?_); rintro _ _ hgets; obtain ⟨rfl, _, rfl⟩ := hgets.get; clear hgets))
    go_returns
    exact ⟨ret_of hv.out.symm, by (repeat' (first | (with_reducible exact Below.refl _ _) | (with_reducible refine Below.alloc ?_ ?_ _) | (with_reducible refine below_ext ?_ ?_ _) | (with_reducible refine Below.drew ?_) | (with_reducible refine below_drewN ?_ _) | (with_reducible refine Below.setCell ?_ ?_ _) | go_size | (simp only [go_sem]; omega) | (simp [go_sem]; done) | (simp [go_sem]; omega)))⟩
  · simp only [if_neg he] at hs
    have S := Lib.hid hs
    clear hs
    have hv := Lib.hid (show placeV t l b r xs i = .agg #[.int .i64 (placeI t b (num0 xs i 0)), .int .i64 (placeI l r (num0 xs i 1))] by unfold placeV; rw [if_neg he])
    have hne : (b - t == 0) = false := by simp; omega
    go_enter Try.func37, Try.ntmps37
    go_wp2_with (go_at_call 44; ((with_reducible refine (S.out _).mono ?_); rintro _ _ hgets; obtain ⟨rfl, _, rfl⟩ := hgets.get; clear hgets))
    (refine wp_region_tail 18 (by kernel_rfl) (by kernel_rfl) ?_; simp only [List.take_succ_cons, List.take_zero, List.drop_succ_cons, List.drop_zero])
    repeat (go_big_quiet_step (first | ((go_at_call 53; exact Calls.free_same (N.out _ (by repeat (first | exact X.out | exact X | refine Rd.ext ?_ _ | refine Rd.alloc ?_ _ | refine Rd.drew ?_)) _ (by omega)))) | ((go_at_call 55; exact Calls.free_same (clip_c _ _ _ _)))))
    refine wpQuiet_nil ?_; rintro _ ⟨x2, rfl⟩
    go_wp2
    go_returns
    refine ⟨ret_of ?_, by (repeat' (first | (with_reducible exact Below.refl _ _) | (with_reducible refine Below.alloc ?_ ?_ _) | (with_reducible refine below_ext ?_ ?_ _) | (with_reducible refine Below.drew ?_) | (with_reducible refine below_drewN ?_ _) | (with_reducible refine Below.setCell ?_ ?_ _) | go_size | (simp only [go_sem]; omega) | (simp [go_sem]; done) | (simp [go_sem]; omega)))⟩
    rw [hv.out]
    exact agg2_eq (by unfold placeI; omega) (by unfold placeI; omega)

set_option maxHeartbeats 1000000 in
theorem place_r (t l b r : Int) (a : Option Addr) (c : Nat) (xs : List Int) (i : Int) (w : World) (ht : -1000000 ≤ t ∧ t ≤ 1000000) (hl : -1000000 ≤ l ∧ l ≤ 1000000) (hb : -1000000 ≤ b ∧ b ≤ 1000000) (hr : -1000000 ≤ r ∧ r ≤ 1000000)
    (hx : Ints w a xs) (hm : xs.length ≤ 9223372036854775807) :
    Calls Try.prog 46 #[.agg #[.int .i64 t, .int .i64 l, .int .i64 b, .int .i64 r], .slice a xs.length c, .int .i64 i] w (Gives w (placeV t l b r xs i)) := by
  obtain ⟨ht1, ht2⟩ := ht
  obtain ⟨hl1, hl2⟩ := hl
  obtain ⟨hb1, hb2⟩ := hb
  obtain ⟨hr1, hr2⟩ := hr
  have N := Lib.hid (fun (w' : World) (h : Ints w' a xs) (m : Int) (hm0 : 0 ≤ m) => number_r a c xs i m w' h hm hm0)
  have X := Lib.hid hx
  clear hx
  by_cases he : b ≤ t ∨ r ≤ l
  · have hv := Lib.hid (show placeV t l b r xs i = .agg #[.int .i64 t, .int .i64 l] by unfold placeV; rw [if_pos he])
    go_enter Try.func46, Try.ntmps46
    go_wp2_with (go_at_call 39; ((with_reducible refine (empty_r _ _ _ _ _).mono ?_); rintro _ _ hgets; obtain ⟨rfl, _, rfl⟩ := hgets.get; clear hgets))
    go_returns
    exact ⟨ret_of hv.out.symm, by (repeat' (first | (with_reducible exact Below.refl _ _) | (with_reducible refine Below.alloc ?_ ?_ _) | (with_reducible refine below_ext ?_ ?_ _) | (with_reducible refine Below.drew ?_) | (with_reducible refine below_drewN ?_ _) | (with_reducible refine Below.setCell ?_ ?_ _) | go_size | (simp only [go_sem]; omega) | (simp [go_sem]; done) | (simp [go_sem]; omega)))⟩
  · have hv := Lib.hid (show placeV t l b r xs i = .agg #[.int .i64 (placeI t b (num0 xs i 0)), .int .i64 (placeI l r (num0 xs i 1))] by unfold placeV; rw [if_neg he])
    have q0 : nearI (num0 xs i 0) 1 (b - t + 1) ≤ 4000000 ∧ 0 ≤ nearI (num0 xs i 0) 1 (b - t + 1) := by unfold nearI; (repeat' split) <;> omega
    have q1 : nearI (num0 xs i 1) 1 (r - l + 1) ≤ 4000000 ∧ 0 ≤ nearI (num0 xs i 1) 1 (r - l + 1) := by unfold nearI; (repeat' split) <;> omega
    obtain ⟨q01, q02⟩ := q0
    obtain ⟨q11, q12⟩ := q1
    go_enter Try.func46, Try.ntmps46
    go_wp2_with (go_at_call 39; ((with_reducible refine (empty_r _ _ _ _ _).mono ?_); rintro _ _ hgets; obtain ⟨rfl, _, rfl⟩ := hgets.get; clear hgets))
    (refine wp_region_free (by kernel_rfl) (by kernel_rfl) ?_)
    repeat (go_big_quiet_step (first | ((go_at_call 54; exact Calls.free_same (N.out _ (by repeat (first | exact X.out | exact X | refine Rd.ext ?_ _ | refine Rd.alloc ?_ _ | refine Rd.drew ?_)) _ (by omega)))) | ((go_at_call 56; exact Calls.free_same (near_r _ _ _ _ (by omega))))))
    refine wpQuiet_nil ?_; rintro _ ⟨x2, rfl⟩
    go_wp2
    (refine wp_region_free (by kernel_rfl) (by kernel_rfl) ?_)
    repeat (go_big_quiet_step (first | ((go_at_call 54; exact Calls.free_same (N.out _ (by repeat (first | exact X.out | exact X | refine Rd.ext ?_ _ | refine Rd.alloc ?_ _ | refine Rd.drew ?_)) _ (by omega)))) | ((go_at_call 56; exact Calls.free_same (near_r _ _ _ _ (by omega))))))
    refine wpQuiet_nil ?_; rintro _ ⟨x3, rfl⟩
    go_wp2
    go_returns
    refine ⟨ret_of ?_, by (repeat' (first | (with_reducible exact Below.refl _ _) | (with_reducible refine Below.alloc ?_ ?_ _) | (with_reducible refine below_ext ?_ ?_ _) | (with_reducible refine Below.drew ?_) | (with_reducible refine below_drewN ?_ _) | (with_reducible refine Below.setCell ?_ ?_ _) | go_size | (simp only [go_sem]; omega) | (simp [go_sem]; done) | (simp [go_sem]; omega)))⟩
    rw [hv.out]
    refine agg2_eq ?_ ?_
    all_goals unfold placeI nearI
    all_goals (repeat' split)
    all_goals omega

end Go.Proofs.Ytdmfcijcecogdaa
