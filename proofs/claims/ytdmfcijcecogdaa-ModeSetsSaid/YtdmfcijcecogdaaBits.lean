/- Bits of a natural number: one set, one let go; 32-bit words as natural numbers. No program in sight. -/
import Derived.Test.YtdmfcijcecogdaaLib
namespace Go.Proofs.Ytdmfcijcecogdaa
open Go.RowKit

theorem test_parts (q r k j : Nat) (hr : r < 2 ^ k) : (2 ^ k * q + r).testBit j = if j < k then r.testBit j else q.testBit (j - k) := Nat.testBit_two_pow_mul_add q hr j
def setN (m k : Nat) (on : Bool) : Nat := if m.testBit k = on then m else if on then m + 2 ^ k else m - 2 ^ k
theorem test_set (m k j : Nat) (on : Bool) : (setN m k on).testBit j = if j = k then on else m.testBit j := by
  obtain ⟨q, r, rfl, hr⟩ : ∃ q r, m = 2 ^ k * q + r ∧ r < 2 ^ k := ⟨m / 2 ^ k, m % 2 ^ k, (Nat.div_add_mod m (2 ^ k)).symm, Nat.mod_lt _ (Nat.two_pow_pos k)⟩
  have hk : (2 ^ k * q + r).testBit k = q.testBit 0 := by rw [test_parts q r k k hr]; simp
  unfold setN
  rw [hk]
  by_cases h : q.testBit 0 = on
  · rw [if_pos h]
    split
    · rename_i e; subst e; rw [hk, h]
    · rfl
  · rw [if_neg h]
    rw [Nat.testBit_zero] at h
    have key : ∀ p, p / 2 = q / 2 → decide (p % 2 = 1) = on → (2 ^ k * p + r).testBit j = if j = k then on else (2 ^ k * q + r).testBit j := by
      intro p hp ho
      rw [test_parts p r k j hr, test_parts q r k j hr]
      by_cases h1 : j < k
      · rw [if_pos h1, if_pos h1, if_neg (by omega)]
      · rw [if_neg h1, if_neg h1]
        by_cases h2 : j = k
        · subst h2; rw [if_pos rfl, Nat.sub_self, Nat.testBit_zero, ho]
        · rw [if_neg h2]
          obtain ⟨i, hi⟩ : ∃ i, j - k = i + 1 := ⟨j - k - 1, by omega⟩
          rw [hi, Nat.testBit_succ, Nat.testBit_succ, hp]
    cases on
    · simp at h
      have e : 2 ^ k * q + r - 2 ^ k = 2 ^ k * (q - 1) + r := by
        rw [Nat.mul_sub, Nat.mul_one]
        have : 2 ^ k * 1 ≤ 2 ^ k * q := Nat.mul_le_mul_left _ (by omega)
        omega
      simp only [Bool.false_eq_true, if_false]
      rw [e]
      exact key (q - 1) (by omega) (by simp; omega)
    · simp at h
      have e : 2 ^ k * q + r + 2 ^ k = 2 ^ k * (q + 1) + r := by rw [Nat.mul_add, Nat.mul_one]; omega
      simp only [if_true]
      rw [e]
      exact key (q + 1) (by omega) (by simp; omega)
theorem or_set (m k : Nat) : m ||| 2 ^ k = setN m k true := by
  apply Nat.eq_of_testBit_eq
  intro j
  rw [test_set, Nat.testBit_or, Nat.testBit_two_pow]
  by_cases h : j = k
  · subst h; simp
  · simp [h, Ne.symm h]
theorem setN_lt {m k n : Nat} {on : Bool} (hm : m < 2 ^ n) (hk : k < n) : setN m k on < 2 ^ n := by
  apply Nat.lt_pow_two_of_testBit
  intro i hi
  rw [test_set, if_neg (by omega)]
  exact Nat.testBit_lt_two_pow (Nat.lt_of_lt_of_le hm (Nat.pow_le_pow_right (by omega) hi))
theorem word_and (a b : Nat) (ha : a < 2 ^ 32) (hb : b < 2 ^ 32) : bits .and .u32 (a : Int) (b : Int) = ((a &&& b : Nat) : Int) := by
  have hx : a &&& b < 2 ^ 32 := Nat.and_lt_two_pow _ (by omega)
  have h1 : (BitVec.ofInt 32 (a : Int)).toNat = a := by rw [BitVec.ofInt_natCast, BitVec.toNat_ofNat]; exact Nat.mod_eq_of_lt (by omega)
  have h2 : (BitVec.ofInt 32 (b : Int)).toNat = b := by rw [BitVec.ofInt_natCast, BitVec.toNat_ofNat]; exact Nat.mod_eq_of_lt (by omega)
  show IntKind.u32.wrap ((BitVec.ofInt 32 (a : Int) &&& BitVec.ofInt 32 (b : Int)).toNat : Int) = _
  rw [BitVec.toNat_and, h1, h2, IntKind.wrap_u32]
  omega
theorem word_or (a b : Nat) (ha : a < 2 ^ 32) (hb : b < 2 ^ 32) : bits .or .u32 (a : Int) (b : Int) = ((a ||| b : Nat) : Int) := by
  have hx : a ||| b < 2 ^ 32 := Nat.or_lt_two_pow (by omega) (by omega)
  have h1 : (BitVec.ofInt 32 (a : Int)).toNat = a := by rw [BitVec.ofInt_natCast, BitVec.toNat_ofNat]; exact Nat.mod_eq_of_lt (by omega)
  have h2 : (BitVec.ofInt 32 (b : Int)).toNat = b := by rw [BitVec.ofInt_natCast, BitVec.toNat_ofNat]; exact Nat.mod_eq_of_lt (by omega)
  show IntKind.u32.wrap ((BitVec.ofInt 32 (a : Int) ||| BitVec.ofInt 32 (b : Int)).toNat : Int) = _
  rw [BitVec.toNat_or, h1, h2, IntKind.wrap_u32]
  omega
theorem word_andNot (m k : Nat) (hm : m < 2 ^ 32) (hk : k < 32) : bits .andNot .u32 (m : Int) ((2 ^ k : Nat) : Int) = ((setN m k false : Nat) : Int) := by
  have hs : setN m k false < 2 ^ 32 := setN_lt hm hk
  show IntKind.u32.wrap ((BitVec.ofInt 32 (m : Int) &&& ~~~ (BitVec.ofInt 32 ((2 ^ k : Nat) : Int))).toNat : Int) = _
  have e : (BitVec.ofInt 32 (m : Int) &&& ~~~ (BitVec.ofInt 32 ((2 ^ k : Nat) : Int))) = BitVec.ofNat 32 (setN m k false) := by
    apply BitVec.eq_of_getLsbD_eq
    intro i hi
    rw [BitVec.ofInt_natCast, BitVec.ofInt_natCast, BitVec.getLsbD_and, BitVec.getLsbD_not, BitVec.getLsbD_ofNat, BitVec.getLsbD_ofNat, BitVec.getLsbD_ofNat, test_set, Nat.testBit_two_pow]
    by_cases h : i = k
    · subst h; simp [hi]
    · simp [hi, h, Ne.symm h]
  rw [e, BitVec.toNat_ofNat, Nat.mod_eq_of_lt hs, IntKind.wrap_u32]
  omega
theorem pow_int (n : Nat) : (2 : Int) ^ n = ((2 ^ n : Nat) : Int) := by rw [Int.natCast_pow]; rfl
theorem pow_word (x : Int) (h0 : 0 ≤ x) (h1 : x < 32) : (2 : Int) ^ x.toNat % 4294967296 = ((2 ^ x.toNat : Nat) : Int) := by
  have h : (2 : Nat) ^ x.toNat < 2 ^ 32 := Nat.pow_lt_pow_right (by omega) (by omega)
  rw [pow_int]
  generalize (2 : Nat) ^ x.toNat = p at *
  omega
theorem bit_word (m : Nat) (x : Int) : ((m : Int) / 2 ^ x.toNat) = ((m / 2 ^ x.toNat : Nat) : Int) := by
  rw [pow_int, Int.natCast_ediv]
theorem bit_test (m k : Nat) : (m / 2 ^ k % 2 = 1) = (m.testBit k = true) := by rw [Nat.testBit_eq_decide_div_mod_eq]; simp
theorem word_bit (m : Nat) (x : Int) (hm : m < 2 ^ 32) (h0 : 0 ≤ x) : (bits .and .u32 ((m : Int) / 2 ^ x.toNat) 1 == 1) = m.testBit x.toNat := by
  have h : m / 2 ^ x.toNat < 2 ^ 32 := Nat.lt_of_le_of_lt (Nat.div_le_self _ _) hm
  rw [bit_word, show (1 : Int) = ((1 : Nat) : Int) by rfl, word_and _ 1 h (by omega), Nat.and_one_is_mod, Nat.testBit_eq_decide_div_mod_eq]
  generalize m / 2 ^ x.toNat = q
  rw [Bool.eq_iff_iff]
  simp
  omega
end Go.Proofs.Ytdmfcijcecogdaa
