/- Lines: what the reference asks of a column; sizes. -/
import Derived.Test.YtdlngbmgcedbpaaLine5
namespace Go.Proofs.Ytdlngbmgcedbpaa
open Go.RowKit
set_option linter.unusedVariables false
set_option linter.unusedSimpArgs false

def inS (n : Nat) (i f t : Int) : Bool := decide (0 ≤ i ∧ i < n ∧ f ≤ i ∧ i < t)
set_option maxRecDepth 100000 in
theorem in_s (A : Option Addr) (n C : Nat) (sz i f t : Int) (w : World) (hn : n ≤ 9223372036854775807) : Calls Try.prog 99 #[lineV A n C sz, .int .i64 i, .int .i64 f, .int .i64 t] w (Gives w (.bool (inS n i f t))) := by
  by_cases h1 : 0 ≤ i
  · have q1 : decide (0 ≤ i) = true := by simpa using h1
    by_cases h2 : i < n
    · have q2 : decide (i < (n : Int)) = true := by simpa using h2
      by_cases h3 : f ≤ i
      · have q3 : decide (f ≤ i) = true := by simpa using h3
        rw [show inS n i f t = decide (i < t) by simp [inS, h1, h2, h3]]
        clear h1 h2 h3
        go_enter Try.func99, Try.ntmps99
        go_wp2
        go_returns
        exact ⟨rfl, by (repeat' (first | (with_reducible exact Below.refl _ _) | (with_reducible refine Below.alloc ?_ ?_ _) | (with_reducible refine below_ext ?_ ?_ _) | (with_reducible refine Below.drew ?_) | (with_reducible refine below_drewN ?_ _) | (with_reducible refine Below.setCell ?_ ?_ _) | go_size | (simp only [go_sem]; omega) | (simp [go_sem]; done) | (simp [go_sem]; omega)))⟩
      · have q3 : decide (f ≤ i) = false := by simpa using h3
        rw [show inS n i f t = false by simp [inS, h3]]
        clear h1 h2 h3
        go_enter Try.func99, Try.ntmps99
        go_wp2
        go_returns
        exact ⟨rfl, by (repeat' (first | (with_reducible exact Below.refl _ _) | (with_reducible refine Below.alloc ?_ ?_ _) | (with_reducible refine below_ext ?_ ?_ _) | (with_reducible refine Below.drew ?_) | (with_reducible refine below_drewN ?_ _) | (with_reducible refine Below.setCell ?_ ?_ _) | go_size | (simp only [go_sem]; omega) | (simp [go_sem]; done) | (simp [go_sem]; omega)))⟩
    · have q2 : decide (i < (n : Int)) = false := by simpa using h2
      rw [show inS n i f t = false by simp [inS, h2]]
      clear h1 h2
      go_enter Try.func99, Try.ntmps99
      go_wp2
      go_returns
      exact ⟨rfl, by (repeat' (first | (with_reducible exact Below.refl _ _) | (with_reducible refine Below.alloc ?_ ?_ _) | (with_reducible refine below_ext ?_ ?_ _) | (with_reducible refine Below.drew ?_) | (with_reducible refine below_drewN ?_ _) | (with_reducible refine Below.setCell ?_ ?_ _) | go_size | (simp only [go_sem]; omega) | (simp [go_sem]; done) | (simp [go_sem]; omega)))⟩
  · have q1 : decide (0 ≤ i) = false := by simpa using h1
    rw [show inS n i f t = false by simp [inS, h1]]
    clear h1
    go_enter Try.func99, Try.ntmps99
    go_wp2
    go_returns
    exact ⟨rfl, by (repeat' (first | (with_reducible exact Below.refl _ _) | (with_reducible refine Below.alloc ?_ ?_ _) | (with_reducible refine below_ext ?_ ?_ _) | (with_reducible refine Below.drew ?_) | (with_reducible refine below_drewN ?_ _) | (with_reducible refine Below.setCell ?_ ?_ _) | go_size | (simp only [go_sem]; omega) | (simp [go_sem]; done) | (simp [go_sem]; omega)))⟩
def clampR (n lo hi : Int) : Int := if n < lo then lo else if n > hi then hi else n
set_option maxRecDepth 100000 in
theorem clamp_l (n lo hi : Int) (w : World) : Calls Try.prog 57 #[.int .i64 n, .int .i64 lo, .int .i64 hi] w (Gives w (.int .i64 (clampR n lo hi))) := by
  unfold clampR
  by_cases h1 : n < lo
  · rw [if_pos h1]
    go_enter Try.func57, Try.ntmps57
    go_wp2
    go_returns
    exact ⟨rfl, by (repeat' (first | (with_reducible exact Below.refl _ _) | (with_reducible refine Below.alloc ?_ ?_ _) | (with_reducible refine below_ext ?_ ?_ _) | (with_reducible refine Below.drew ?_) | (with_reducible refine below_drewN ?_ _) | (with_reducible refine Below.setCell ?_ ?_ _) | go_size | (simp only [go_sem]; omega) | (simp [go_sem]; done) | (simp [go_sem]; omega)))⟩
  · rw [if_neg h1]
    by_cases h2 : n > hi
    · rw [if_pos h2]
      go_enter Try.func57, Try.ntmps57
      go_wp2
      go_returns
      exact ⟨rfl, by (repeat' (first | (with_reducible exact Below.refl _ _) | (with_reducible refine Below.alloc ?_ ?_ _) | (with_reducible refine below_ext ?_ ?_ _) | (with_reducible refine Below.drew ?_) | (with_reducible refine below_drewN ?_ _) | (with_reducible refine Below.setCell ?_ ?_ _) | go_size | (simp only [go_sem]; omega) | (simp [go_sem]; done) | (simp [go_sem]; omega)))⟩
    · rw [if_neg h2]
      go_enter Try.func57, Try.ntmps57
      go_wp2
      go_returns
      exact ⟨rfl, by (repeat' (first | (with_reducible exact Below.refl _ _) | (with_reducible refine Below.alloc ?_ ?_ _) | (with_reducible refine below_ext ?_ ?_ _) | (with_reducible refine Below.drew ?_) | (with_reducible refine below_drewN ?_ _) | (with_reducible refine Below.setCell ?_ ?_ _) | go_size | (simp only [go_sem]; omega) | (simp [go_sem]; done) | (simp [go_sem]; omega)))⟩
def sizeI (s : Int) : Int := if s < 0 ∨ 3 < s then 0 else s
set_option maxRecDepth 100000 in
set_option maxHeartbeats 4000000 in
theorem sized_l (A : Option Addr) (C : Nat) (sz s : Int) (xs : List Cl) (w : World) (rd : Rd encC 3 w A xs) (hC : A = none → C = 0) (hm : xs.length * 8 ≤ 140737488355328) (h63 : xs.length ≤ maxLen) :
    Calls Try.prog 61 #[lineV A xs.length C sz, .int .i64 s] w (NewL w xs (sizeI s)) := by
  have CP := Lib.hid (fun w' (h : Rd encC 3 w' A xs) => copy_l A C sz xs w' h hC hm h63)
  have X := Lib.hid rd
  clear rd hC hm h63
  have hs : (s < 0 ∧ sizeI s = 0) ∨ (¬ s < 0 ∧ 3 < s ∧ sizeI s = 0) ∨ (¬ s < 0 ∧ ¬ 3 < s ∧ sizeI s = s) := by unfold sizeI; split <;> omega
  rcases hs with ⟨h1, e⟩ | ⟨h1, h2, e⟩ | ⟨h1, h2, e⟩
  · rw [e]
    have q1 : decide (s < 0) = true := by simpa using h1
    clear e h1
    go_enter Try.func61, Try.ntmps61
    go_wp2_with (first
      | (go_at_call 67
         (with_reducible refine (CP.out _ (by repeat (first | exact X.out | exact X | refine Rd.ext ?_ _ | refine Rd.alloc ?_ _ | refine Rd.drew ?_))).mono ?_)
         rintro _ _ ⟨A1, c1, x1, rfl, rfl, hO1⟩
         have hO := Lib.hid hO1
         clear hO1))
    go_returns
    exact NewL.of (by (repeat' (first | (with_reducible exact Below.refl _ _) | (with_reducible refine Below.alloc ?_ ?_ _) | (with_reducible refine below_ext ?_ ?_ _) | (with_reducible refine Below.drew ?_) | (with_reducible refine below_drewN ?_ _) | (with_reducible refine Below.setCell ?_ ?_ _) | go_size | (simp only [go_sem]; omega) | (simp [go_sem]; done) | (simp [go_sem]; omega)))) (by first | (simp [go_sem]; done) | (simp [go_sem]; omega)) ((own_swap (w := w.alloc (.cells #[.slice A xs.length C, .int .i64 sz] 70)) (o := .cells #[.slice none 0 0, .int .i64 0] 70) (by simpa [go_sem] using hO.out)).alloc _)
  · rw [e]
    have q1 : decide (s < 0) = false := by simpa using h1
    have q2 : decide (3 < s) = true := by simpa using h2
    clear e h1 h2
    go_enter Try.func61, Try.ntmps61
    go_wp2_with (first
      | (go_at_call 67
         (with_reducible refine (CP.out _ (by repeat (first | exact X.out | exact X | refine Rd.ext ?_ _ | refine Rd.alloc ?_ _ | refine Rd.drew ?_))).mono ?_)
         rintro _ _ ⟨A1, c1, x1, rfl, rfl, hO1⟩
         have hO := Lib.hid hO1
         clear hO1))
    go_returns
    exact NewL.of (by (repeat' (first | (with_reducible exact Below.refl _ _) | (with_reducible refine Below.alloc ?_ ?_ _) | (with_reducible refine below_ext ?_ ?_ _) | (with_reducible refine Below.drew ?_) | (with_reducible refine below_drewN ?_ _) | (with_reducible refine Below.setCell ?_ ?_ _) | go_size | (simp only [go_sem]; omega) | (simp [go_sem]; done) | (simp [go_sem]; omega)))) (by first | (simp [go_sem]; done) | (simp [go_sem]; omega)) ((own_swap (w := w.alloc (.cells #[.slice A xs.length C, .int .i64 sz] 70)) (o := .cells #[.slice none 0 0, .int .i64 0] 70) (by simpa [go_sem] using hO.out)).alloc _)
  · rw [e]
    have q1 : decide (s < 0) = false := by simpa using h1
    have q2 : decide (3 < s) = false := by simpa using h2
    clear e h1 h2
    go_enter Try.func61, Try.ntmps61
    go_wp2_with (first
      | (go_at_call 67
         (with_reducible refine (CP.out _ (by repeat (first | exact X.out | exact X | refine Rd.ext ?_ _ | refine Rd.alloc ?_ _ | refine Rd.drew ?_))).mono ?_)
         rintro _ _ ⟨A1, c1, x1, rfl, rfl, hO1⟩
         have hO := Lib.hid hO1
         clear hO1))
    go_returns
    exact NewL.of (by (repeat' (first | (with_reducible exact Below.refl _ _) | (with_reducible refine Below.alloc ?_ ?_ _) | (with_reducible refine below_ext ?_ ?_ _) | (with_reducible refine Below.drew ?_) | (with_reducible refine below_drewN ?_ _) | (with_reducible refine Below.setCell ?_ ?_ _) | go_size | (simp only [go_sem]; omega) | (simp [go_sem]; done) | (simp [go_sem]; omega)))) (by first | (simp [go_sem]; done) | (simp [go_sem]; omega)) ((own_swap (w := w.alloc (.cells #[.slice A xs.length C, .int .i64 sz] 70)) (o := .cells #[.slice none 0 0, .int .i64 0] 70) (by simpa [go_sem] using hO.out)).alloc _)
end Go.Proofs.Ytdlngbmgcedbpaa
