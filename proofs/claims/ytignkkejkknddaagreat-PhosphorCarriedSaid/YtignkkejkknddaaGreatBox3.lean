/- Rectangles and places. -/
import Derived.Test.YtignkkejkknddaaGreatBox2
namespace Go.Proofs.YtignkkejkknddaaGreat
open Go.RowKit
set_option linter.unusedVariables false
set_option linter.unusedSimpArgs false

theorem num0_le {xs : List Int} (hw : ∀ n ∈ xs, n ≤ 9223372036854775807) (i m : Int) : num0 xs i m ≤ 9223372036854775807 := by
  unfold num0
  split
  · omega
  · rw [List.getD_eq_getElem?_getD]
    cases h : xs[i.toNat + m.toNat]? with
    | none => simp
    | some v => exact hw v (List.mem_of_getElem? h)

def rectOk (t l b r : Int) (xs : List Int) (i : Int) : Bool :=
  decide (t < b ∧ l < r) && sideOk (b - t) (num0 xs i 0) (num0 xs i 2) && sideOk (r - l) (num0 xs i 1) (num0 xs i 3)
def rectT (t l b r : Int) (xs : List Int) (i : Int) : Int := if rectOk t l b r xs i = true then t + sideF (num0 xs i 0) (num0 xs i 2) else 0
def rectL (t l b r : Int) (xs : List Int) (i : Int) : Int := if rectOk t l b r xs i = true then l + sideF (num0 xs i 1) (num0 xs i 3) else 0
def rectB (t l b r : Int) (xs : List Int) (i : Int) : Int := if rectOk t l b r xs i = true then t + sideL (b - t) (num0 xs i 0) (num0 xs i 2) else 0
def rectR (t l b r : Int) (xs : List Int) (i : Int) : Int := if rectOk t l b r xs i = true then l + sideL (r - l) (num0 xs i 1) (num0 xs i 3) else 0
def rectV (t l b r : Int) (xs : List Int) (i : Int) : Value :=
  .tuple #[.agg #[.int .i64 (rectT t l b r xs i), .int .i64 (rectL t l b r xs i), .int .i64 (rectB t l b r xs i), .int .i64 (rectR t l b r xs i)], .bool (rectOk t l b r xs i)]
theorem rectV_no {t l b r : Int} {xs : List Int} {i : Int} (h : rectOk t l b r xs i = false) : rectV t l b r xs i = .tuple #[.agg #[.int .i64 0, .int .i64 0, .int .i64 0, .int .i64 0], .bool false] := by
  simp [rectV, rectT, rectL, rectB, rectR, h]
theorem rectV_yes {t l b r : Int} {xs : List Int} {i : Int} (h : rectOk t l b r xs i = true) {x y z u : Int} (h1 : x = t + sideF (num0 xs i 0) (num0 xs i 2)) (h2 : y = l + sideF (num0 xs i 1) (num0 xs i 3))
    (h3 : z = t + sideL (b - t) (num0 xs i 0) (num0 xs i 2)) (h4 : u = l + sideL (r - l) (num0 xs i 1) (num0 xs i 3)) :
    rectV t l b r xs i = .tuple #[.agg #[.int .i64 x, .int .i64 y, .int .i64 z, .int .i64 u], .bool true] := by
  simp [rectV, rectT, rectL, rectB, rectR, h, h1, h2, h3, h4]
theorem side_bd {n f l : Int} (h : sideOk n f l = true) : 0 ≤ f ∧ 0 ≤ l ∧ 0 ≤ sideF f l ∧ sideF f l < sideL n f l ∧ sideL n f l ≤ n ∧ sideF f l = max f 1 - 1 ∧ sideL n f l = lastA n l := by
  simp only [sideOk, decide_eq_true_eq] at h
  obtain ⟨h1, h2, h3⟩ := h
  have e1 : sideF f l = max f 1 - 1 := by unfold sideF; rw [if_neg (by omega)]
  have e2 : sideL n f l = lastA n l := by unfold sideL; rw [if_neg (by omega)]
  have h4 : lastA n l ≤ n := by unfold lastA; split <;> omega
  rw [e1, e2]
  exact ⟨h1, h2, by omega, by omega, h4, rfl, rfl⟩

set_option maxHeartbeats 1000000 in
theorem rect_c (t l b r : Int) (a : Option Addr) (c : Nat) (xs : List Int) (i : Int) (w : World) (ht : -1000000 ≤ t ∧ t ≤ 1000000) (hl : -1000000 ≤ l ∧ l ≤ 1000000) (hb : -1000000 ≤ b ∧ b ≤ 1000000) (hr : -1000000 ≤ r ∧ r ≤ 1000000)
    (hx : Ints w a xs) (hm : xs.length ≤ 9223372036854775807) (hc : xs.length ≤ c) (hcm : c ≤ 9223372036854775807) (hw : ∀ n ∈ xs, n ≤ 9223372036854775807) :
    Calls Tryz.prog 39 #[.agg #[.int .i64 t, .int .i64 l, .int .i64 b, .int .i64 r], .slice a xs.length c, .int .i64 i] w (Gives w (rectV t l b r xs i)) := by
  obtain ⟨ht1, ht2⟩ := ht
  obtain ⟨hl1, hl2⟩ := hl
  obtain ⟨hb1, hb2⟩ := hb
  obtain ⟨hr1, hr2⟩ := hr
  have N := Lib.hid (fun (w' : World) (h : Ints w' a xs) (m : Int) (hm0 : 0 ≤ m) => number_c a c xs i m w' h hm hc hcm hm0)
  have W := Lib.hid (num0_le hw i)
  have X := Lib.hid hx
  clear hw hx
  have hs := fun w' => size_c t l b r w' (by omega) (by omega) (by omega) (by omega)
  by_cases he : b ≤ t ∨ r ≤ l
  · simp only [if_pos he] at hs
    have S := Lib.hid hs
    clear hs
    have hv := Lib.hid (rectV_no (t := t) (l := l) (b := b) (r := r) (xs := xs) (i := i) (by unfold rectOk; rw [decide_eq_false (by omega)]; rfl))
    clear he
    go_enter Tryz.func39, Tryz.ntmps39
    go_wp2_with (first
      | (go_at_call 87; ((with_reducible refine (S.out _).mono ?_); rintro _ _ hgets; obtain ⟨rfl, _, rfl⟩ := hgets.get; clear hgets))
      | (go_at_call 89; ((with_reducible refine (N.out _ (by repeat (first | exact X.out | exact X | refine Rd.ext ?_ _ | refine Rd.alloc ?_ _ | refine Rd.drew ?_)) _ (by omega)).mono ?_); rintro _ _ ⟨rfl, rfl⟩))
      | (go_at_call 88; ((with_reducible refine (side_c _ _ _ _ (W.out _)).mono ?_); rintro _ _ ⟨rfl, rfl⟩)))
    go_returns
    exact ⟨ret_of hv.out.symm, by (repeat' (first | (with_reducible exact Below.refl _ _) | (with_reducible refine Below.alloc ?_ ?_ _) | (with_reducible refine below_ext ?_ ?_ _) | (with_reducible refine Below.drew ?_) | (with_reducible refine below_drewN ?_ _) | (with_reducible refine Below.setCell ?_ ?_ _) | go_size | (simp only [go_sem]; omega) | (simp [go_sem]; done) | (simp [go_sem]; omega)))⟩
  · simp only [if_neg he] at hs
    have S := Lib.hid hs
    clear hs
    by_cases k1 : sideOk (b - t) (num0 xs i 0) (num0 xs i 2) = true
    · by_cases k2 : sideOk (r - l) (num0 xs i 1) (num0 xs i 3) = true
      · obtain ⟨-, -, p1, p2, p3, -, -⟩ := side_bd k1
        obtain ⟨-, -, q1, q2, q3, -, -⟩ := side_bd k2
        have hok := Lib.hid (show rectOk t l b r xs i = true by unfold rectOk; rw [decide_eq_true (by omega), k1, k2]; rfl)
        have hne : (b - t == 0) = false := by simp; omega
        go_enter Tryz.func39, Tryz.ntmps39
        go_wp2_with (first
          | (go_at_call 87; ((with_reducible refine (S.out _).mono ?_); rintro _ _ hgets; obtain ⟨rfl, _, rfl⟩ := hgets.get; clear hgets))
          | (go_at_call 89; ((with_reducible refine (N.out _ (by repeat (first | exact X.out | exact X | refine Rd.ext ?_ _ | refine Rd.alloc ?_ _ | refine Rd.drew ?_)) _ (by omega)).mono ?_); rintro _ _ ⟨rfl, rfl⟩))
          | (go_at_call 88; ((with_reducible refine (side_c _ _ _ _ (W.out _)).mono ?_); rintro _ _ ⟨rfl, rfl⟩)))
        go_returns
        exact ⟨ret_of (rectV_yes hok.out rfl rfl rfl rfl).symm, by (repeat' (first | (with_reducible exact Below.refl _ _) | (with_reducible refine Below.alloc ?_ ?_ _) | (with_reducible refine below_ext ?_ ?_ _) | (with_reducible refine Below.drew ?_) | (with_reducible refine below_drewN ?_ _) | (with_reducible refine Below.setCell ?_ ?_ _) | go_size | (simp only [go_sem]; omega) | (simp [go_sem]; done) | (simp [go_sem]; omega)))⟩
      · have hv := Lib.hid (rectV_no (t := t) (l := l) (b := b) (r := r) (xs := xs) (i := i) (by unfold rectOk; rw [show sideOk (r - l) (num0 xs i 1) (num0 xs i 3) = false by simpa using k2]; simp))
        go_enter Tryz.func39, Tryz.ntmps39
        go_wp2_with (first
          | (go_at_call 87; ((with_reducible refine (S.out _).mono ?_); rintro _ _ hgets; obtain ⟨rfl, _, rfl⟩ := hgets.get; clear hgets))
          | (go_at_call 89; ((with_reducible refine (N.out _ (by repeat (first | exact X.out | exact X | refine Rd.ext ?_ _ | refine Rd.alloc ?_ _ | refine Rd.drew ?_)) _ (by omega)).mono ?_); rintro _ _ ⟨rfl, rfl⟩))
          | (go_at_call 88; ((with_reducible refine (side_c _ _ _ _ (W.out _)).mono ?_); rintro _ _ ⟨rfl, rfl⟩)))
        all_goals go_returns
        all_goals exact ⟨ret_of hv.out.symm, by (repeat' (first | (with_reducible exact Below.refl _ _) | (with_reducible refine Below.alloc ?_ ?_ _) | (with_reducible refine below_ext ?_ ?_ _) | (with_reducible refine Below.drew ?_) | (with_reducible refine below_drewN ?_ _) | (with_reducible refine Below.setCell ?_ ?_ _) | go_size | (simp only [go_sem]; omega) | (simp [go_sem]; done) | (simp [go_sem]; omega)))⟩
    · have hv := Lib.hid (rectV_no (t := t) (l := l) (b := b) (r := r) (xs := xs) (i := i) (by unfold rectOk; rw [show sideOk (b - t) (num0 xs i 0) (num0 xs i 2) = false by simpa using k1]; simp))
      go_enter Tryz.func39, Tryz.ntmps39
      go_wp2_with (first
        | (go_at_call 87; ((with_reducible refine (S.out _).mono ?_); rintro _ _ hgets; obtain ⟨rfl, _, rfl⟩ := hgets.get; clear hgets))
        | (go_at_call 89; ((with_reducible refine (N.out _ (by repeat (first | exact X.out | exact X | refine Rd.ext ?_ _ | refine Rd.alloc ?_ _ | refine Rd.drew ?_)) _ (by omega)).mono ?_); rintro _ _ ⟨rfl, rfl⟩))
        | (go_at_call 88; ((with_reducible refine (side_c _ _ _ _ (W.out _)).mono ?_); rintro _ _ ⟨rfl, rfl⟩)))
      all_goals go_returns
      all_goals exact ⟨ret_of hv.out.symm, by (repeat' (first | (with_reducible exact Below.refl _ _) | (with_reducible refine Below.alloc ?_ ?_ _) | (with_reducible refine below_ext ?_ ?_ _) | (with_reducible refine Below.drew ?_) | (with_reducible refine below_drewN ?_ _) | (with_reducible refine Below.setCell ?_ ?_ _) | go_size | (simp only [go_sem]; omega) | (simp [go_sem]; done) | (simp [go_sem]; omega)))⟩

end Go.Proofs.YtignkkejkknddaaGreat
