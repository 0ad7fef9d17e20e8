/- One mode: is it set, with it set or not; by the code and by the reference. -/
import Derived.Test.YtdmfcijcecogdaaMode
import Derived.Test.YtdmfcijcecogdaaBits
namespace Go.Proofs.Ytdmfcijcecogdaa
open Go.RowKit
set_option linter.unusedVariables false
set_option linter.unusedSimpArgs false

def inM (x : Int) : Bool := decide (0 ≤ x) && decide (x < 17)
def hasF (m : Nat) (x : Int) : Bool := inM x && m.testBit x.toNat
def withF (m : Nat) (x : Int) (on : Bool) : Nat := if inM x then setN m x.toNat on else m
theorem in_true {x : Int} (h : inM x = true) : 0 ≤ x ∧ x < 17 := by simpa [inM] using h
theorem in_false {x : Int} (h : inM x = false) : x < 0 ∨ 17 ≤ x := by simp [inM] at h; omega
theorem withF_lt {m : Nat} (x : Int) (on : Bool) (hm : m < 4294967296) : withF m x on < 4294967296 := by
  unfold withF
  split
  · rename_i h
    have := in_true h
    exact setN_lt (n := 32) hm (by omega)
  · exact hm
theorem has_with (m : Nat) (x y : Int) (on : Bool) : hasF (withF m x on) y = if y = x then inM x && on else hasF m y := by
  unfold hasF withF
  cases hx : inM x
  · simp only [Bool.false_eq_true, if_false, Bool.false_and]
    split
    · rename_i h; subst h; rw [hx]; rfl
    · rfl
  · have h1 := in_true hx
    simp only [if_true]
    split
    · rename_i h; subst h; rw [hx, test_set, if_pos rfl]
    · rename_i h
      cases hy : inM y
      · rfl
      · have h2 := in_true hy
        rw [test_set, if_neg (by omega)]

theorem is_c (x : Int) (w : World) : Calls Try.prog 48 #[.int .i64 x] w (Same w (.bool (inM x))) := by
  unfold inM
  go_enter Try.func48, Try.ntmps48
  go_wp2_with fail
  all_goals go_returns
  all_goals (refine ⟨?_, rfl⟩; refine ret_bool ?_)
  · rename_i h; simp [h]
  · rename_i h; simp; omega
theorem with_c (m : Nat) (hm : m < 4294967296) (x : Int) (on : Bool) (w : World) : Calls Try.prog 15 #[.int .u32 m, .int .i64 x, .bool on] w (Same w (.int .u32 (withF m x on))) := by
  have C0 := Lib.hid (fun w' => is_c x w')
  unfold withF
  rcases Bool.eq_false_or_eq_true (inM x) with h | h
  · rw [h] at C0
    have h0 := (in_true h).1
    have h1 := (in_true h).2
    rw [if_pos h]
    clear h
    cases on
    · have E := Lib.hid (word_andNot m x.toNat (by omega) (by omega))
      go_enter Try.func15, Try.ntmps15
      go_wp2_with (go_at_call 48; ((with_reducible refine (C0.out _).mono ?_); rintro _ _ ⟨rfl, rfl⟩))
      all_goals go_returns
      refine ⟨ret_int ?_, rfl⟩
      rw [pow_word x h0 (by omega)]
      exact E.out
    · have E := Lib.hid (word_or m (2 ^ x.toNat) (by omega) (Nat.pow_lt_pow_right (by omega) (by omega)))
      go_enter Try.func15, Try.ntmps15
      go_wp2_with (go_at_call 48; ((with_reducible refine (C0.out _).mono ?_); rintro _ _ ⟨rfl, rfl⟩))
      all_goals go_returns
      refine ⟨ret_int ?_, rfl⟩
      rw [pow_word x h0 (by omega), ← or_set]
      exact E.out
  · rw [h] at C0
    rw [h, if_neg (by simp)]
    clear h
    go_enter Try.func15, Try.ntmps15
    all_goals go_wp2_with (go_at_call 48; ((with_reducible refine (C0.out _).mono ?_); rintro _ _ ⟨rfl, rfl⟩))
    all_goals go_returns
    exact ⟨rfl, rfl⟩
theorem has_c (m : Nat) (hm : m < 4294967296) (x : Int) (w : World) : Calls Try.prog 17 #[.int .u32 m, .int .i64 x] w (Same w (.bool (hasF m x))) := by
  have C0 := Lib.hid (fun w' => is_c x w')
  unfold hasF
  rcases Bool.eq_false_or_eq_true (inM x) with h | h
  · rw [h] at C0
    have h0 := (in_true h).1
    have h1 := (in_true h).2
    rw [h, Bool.true_and]
    clear h
    have E := Lib.hid (word_bit m x (by omega) h0)
    go_enter Try.func17, Try.ntmps17
    go_wp2_with (go_at_call 48; ((with_reducible refine (C0.out _).mono ?_); rintro _ _ ⟨rfl, rfl⟩))
    all_goals go_returns
    exact ⟨ret_bool E.out, rfl⟩
  · rw [h] at C0
    rw [h, Bool.false_and]
    clear h
    go_enter Try.func17, Try.ntmps17
    go_wp2_with (go_at_call 48; ((with_reducible refine (C0.out _).mono ?_); rintro _ _ ⟨rfl, rfl⟩))
    all_goals go_returns
    exact ⟨rfl, rfl⟩
theorem clear_c (m : Nat) (hm : m < 4294967296) (w : World) : Calls Try.prog 19 #[.int .u32 m] w (Same w (.int .u32 ((m % 131072 : Nat) : Int))) := by
  have E := Lib.hid (word_and m 131071 (by omega) (by omega))
  go_enter Try.func19, Try.ntmps19
  go_wp2
  go_returns
  refine ⟨ret_int ?_, rfl⟩
  refine E.out.trans ?_
  rw [show (131071 : Nat) = 2 ^ 17 - 1 by rfl, Nat.and_two_pow_sub_one_eq_mod]

theorem bit_c (x : Int) (h0 : 0 ≤ x) (h1 : x < 17) (w : World) : Calls Try.prog 49 #[.int .i64 x] w (Same w (.int .i64 ((2 ^ x.toNat : Nat) : Int))) := by
  go_enter Try.func49, Try.ntmps49
  go_wp2
  go_loopw [3, 4] (fun v i wr => ∃ j : Nat, (j : Int) ≤ x ∧ i = .int .i64 j ∧ v = .int .i64 ((2 ^ j : Nat) : Int) ∧ wr = w) (fun _ i _ => 17 - (intOf i).toNat)
  case atStart => exact ⟨0, h0, rfl, rfl, rfl⟩
  case round =>
    obtain ⟨j, hj, rfl, rfl, rfl⟩ := hrel
    by_cases hlt : (j : Int) < x
    · have HG := Lib.hid (Nat.pow_succ (m := j) (n := 2))
      have HB : 2 ^ j ≤ 2 ^ 17 := Nat.pow_le_pow_right (by omega) (by omega)
      generalize 2 ^ j = p at HG HB
      go_wp2
      go_roundw
      case rel =>
        refine ⟨j + 1, by omega, by go_num, ?_, by first | rfl | trivial⟩
        rw [HG.out]
        congr 1
        omega
      case measure => simp [intOf]; omega
    · have e : x.toNat = j := by omega
      rw [e]
      generalize hp : 2 ^ j = p
      go_wp2
      go_returns
      refine ⟨ret_int ?_, rfl⟩
      first | rfl | rw [pow_int, hp]
theorem rhas_c (m : Nat) (hm : m < 4294967296) (x : Int) (w : World) : Calls Try.prog 18 #[.int .i64 m, .int .i64 x] w (Same w (.bool (hasF m x))) := by
  unfold hasF
  rcases Bool.eq_false_or_eq_true (inM x) with h | h
  · have h0 := (in_true h).1
    have h1 := (in_true h).2
    have B := Lib.hid (fun w' => bit_c x h0 h1 w')
    rw [h, Bool.true_and]
    clear h
    have E := Lib.hid (bit_test m x.toNat)
    have hp : 0 < 2 ^ x.toNat := Nat.two_pow_pos _
    generalize 2 ^ x.toNat = p at B E hp
    generalize m.testBit x.toNat = T at E
    go_enter Try.func18, Try.ntmps18
    go_wp2_with (go_at_call 49; ((with_reducible refine (B.out _).mono ?_); rintro _ _ ⟨rfl, rfl⟩))
    all_goals go_returns
    refine ⟨ret_bool ?_, rfl⟩
    have hq : m / p ≤ m := Nat.div_le_self m p
    rw [← Int.natCast_ediv]
    generalize m / p = q at *
    have hw : wrap64 (q : Int) = q := by unfold wrap64; omega
    rw [hw, Int.tmod_eq_emod_of_nonneg (by omega), Bool.eq_iff_iff, ← E.out]
    simp
    omega
  · rw [h, Bool.false_and]
    rcases in_false h with h | h
    · have h' : (decide (0 ≤ x)) = false := by simp; omega
      go_enter Try.func18, Try.ntmps18
      go_wp2_with fail
      all_goals go_returns
      exact ⟨rfl, rfl⟩
    · have h0 : 0 ≤ x := by omega
      have h' : ¬ x < 17 := by omega
      go_enter Try.func18, Try.ntmps18
      go_wp2_with fail
      all_goals go_returns
      exact ⟨rfl, rfl⟩
end Go.Proofs.Ytdmfcijcecogdaa
