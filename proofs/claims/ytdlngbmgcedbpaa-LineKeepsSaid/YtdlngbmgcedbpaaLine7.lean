/- Lines: how many columns a span has, and which is the first. -/
import Derived.Test.YtdlngbmgcedbpaaLine6
namespace Go.Proofs.Ytdlngbmgcedbpaa
open Go.RowKit
set_option linter.unusedVariables false
set_option linter.unusedSimpArgs false

/-- columns of the span that are j or more; the first of them -/
def cntN (n : Nat) (f t j : Int) : Int := max 0 (min t n - max (max f 0) j)
def cntA (n : Nat) (f t j : Int) : Int := if cntN n f t j = 0 then 0 else max (max f 0) j
set_option maxRecDepth 100000 in
set_option maxHeartbeats 4000000 in
theorem count_l (A : Option Addr) (n C : Nat) (sz f t : Int) (w : World) (hn : n ≤ 1000000) : Calls Try.prog 56 #[lineV A n C sz, .int .i64 f, .int .i64 t] w (Gives w (.tuple #[.int .i64 (cntN n f t 0), .int .i64 (cntA n f t 0)])) := by
  have IN := Lib.hid (fun i w' => in_s A n C sz i f t w' (by omega))
  go_enter Try.func56, Try.ntmps56
  go_wp2
  go_loopw [8, 9, 10] (fun cv av iv wr => ∃ (j : Nat) (x : More), j ≤ n ∧ iv = .int .i64 ((j : Int) - 1) ∧ cv = .int .i64 (cntN n f t j) ∧ av = .int .i64 (cntA n f t j) ∧ wr = ext (w.alloc (.cells #[.slice A n C, .int .i64 sz] 70)) x) (fun _ _ iv _ => (intOf iv + 1).toNat)
  case atStart => exact ⟨n, ⟨#[], _⟩, by omega, rfl, by rw [show cntN n f t n = 0 by unfold cntN; omega], by rw [show cntA n f t n = 0 by unfold cntA; rw [if_pos (by unfold cntN; omega)]], by simp [ext]; rfl⟩
  case round =>
    obtain ⟨j, x, hj, rfl, rfl, rfl, rfl⟩ := hrel
    rcases Nat.eq_zero_or_pos j with h0 | h0
    · subst h0
      go_wp2
      go_returns
      exact ⟨rfl, by (repeat' (first | (with_reducible exact Below.refl _ _) | (with_reducible refine Below.alloc ?_ ?_ _) | (with_reducible refine below_ext ?_ ?_ _) | (with_reducible refine Below.drew ?_) | (with_reducible refine below_drewN ?_ _) | (with_reducible refine Below.setCell ?_ ?_ _) | go_size | (simp only [go_sem]; omega) | (simp [go_sem]; done) | (simp [go_sem]; omega)))⟩
    · obtain ⟨k, rfl⟩ : ∃ k, j = k + 1 := ⟨j - 1, by omega⟩
      have e : (((k + 1 : Nat) : Int) - 1) = (k : Int) := by omega
      rw [e]
      have cn := Lib.hid (show cntN n f t k = cntN n f t (k + 1 : Nat) + (if inS n k f t then 1 else 0) by
        unfold cntN inS
        by_cases h : 0 ≤ (k : Int) ∧ (k : Int) < n ∧ f ≤ k ∧ (k : Int) < t
        · simp only [h, and_self, decide_true, if_true]; omega
        · simp only [h, decide_false, Bool.false_eq_true, if_false]; omega)
      have ca := Lib.hid (show cntA n f t k = (if inS n k f t then (k : Int) else cntA n f t (k + 1 : Nat)) by
        unfold cntA cntN inS
        by_cases h : 0 ≤ (k : Int) ∧ (k : Int) < n ∧ f ≤ k ∧ (k : Int) < t
        · simp only [h, and_self, decide_true, if_true]
          rw [if_neg (by omega)]
          omega
        · simp only [h, decide_false, Bool.false_eq_true, if_false]
          by_cases h2 : max 0 (min t (n : Int) - max (max f 0) (k : Int)) = 0
          · rw [if_pos h2, if_pos (by omega)]
          · rw [if_neg h2, if_neg (by omega)]
            omega)
      have b1 : 0 ≤ cntN n f t (k + 1 : Nat) ∧ cntN n f t (k + 1 : Nat) ≤ 1000000 := by unfold cntN; omega
      generalize cntN n f t (k + 1 : Nat) = c1 at cn b1
      generalize cntA n f t (k + 1 : Nat) = a1 at ca
      rcases Bool.eq_false_or_eq_true (inS n k f t) with hin | hin
      · have I1 := Lib.hid (fun w' => IN.out k w')
        rw [hin] at cn ca I1
        go_wp2_with (go_at_call 99; ((with_reducible refine (I1.out _).mono ?_); rintro _ _ hgets; obtain ⟨rfl, x2, rfl⟩ := hgets.get; clear hgets))
        go_roundw
        case rel => exact ⟨k, _, by omega, by go_num, by rw [cn.out]; simp, by rw [ca.out]; simp, ext_ext _ _ _⟩
        case measure => first | (simp [intOf]; done) | (simp [intOf]; omega)
      · have I1 := Lib.hid (fun w' => IN.out k w')
        rw [hin] at cn ca I1
        go_wp2_with (go_at_call 99; ((with_reducible refine (I1.out _).mono ?_); rintro _ _ hgets; obtain ⟨rfl, x2, rfl⟩ := hgets.get; clear hgets))
        go_roundw
        case rel => exact ⟨k, _, by omega, by go_num, by rw [cn.out]; simp, by rw [ca.out]; simp, ext_ext _ _ _⟩
        case measure => first | (simp [intOf]; done) | (simp [intOf]; omega)
end Go.Proofs.Ytdlngbmgcedbpaa
