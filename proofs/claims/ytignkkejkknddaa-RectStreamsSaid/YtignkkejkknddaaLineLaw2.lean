/- Lines: the plain laws of moving back and of moving twice.  -/
import Derived.Test.YtignkkejkknddaaLineE
namespace Go.Proofs.Ytignkkejkknddaa
open Go.RowKit
set_option linter.unusedVariables false
set_option linter.unusedSimpArgs false

theorem movR_len (xs : List Cl) (f t k : Int) : (movR xs f t k).length = xs.length := updR_len _ _ _ _
theorem movR_get (xs : List Cl) (f t k : Int) (i : Nat) (hi : i < xs.length) : (movR xs f t k)[i]? = some (if inS xs.length i f t = true then (if inS xs.length ((i : Int) - k) f t = true then xs.getD ((i : Int) - k).toNat noC else erC) else xs.getD i noC) := by
  unfold movR
  rw [updR_opt, List.getElem?_eq_getElem hi, show xs.getD i noC = xs[i] by rw [List.getD_eq_getElem?_getD, List.getElem?_eq_getElem hi]; rfl]
  simp only [Option.map_some, hi, true_and]
  rfl
theorem inS_iff {n : Nat} {i f t : Int} : inS n i f t = true ↔ (0 ≤ i ∧ i < n ∧ f ≤ i ∧ i < t) := by unfold inS; simp
theorem getD_of {xs : List Cl} {i : Nat} {v : Cl} (h : xs[i]? = some v) : xs.getD i noC = v := by rw [List.getD_eq_getElem?_getD, h]; rfl
theorem back_law (xs : List Cl) (f t k : Int) (h0 : 0 ≤ k) (hk : k ≤ cntN xs.length f t 0) : movR (movR xs f t k) f t (-k) = eachR xs (cntA xs.length f t 0 + cntN xs.length f t 0 - k) (cntA xs.length f t 0 + cntN xs.length f t 0) (fun _ => erC) := by
  apply List.ext_getElem?
  intro i
  rcases Nat.lt_or_ge i xs.length with hi | hi
  · rw [movR_get _ _ _ _ _ (by rw [movR_len]; exact hi), movR_len]
    unfold eachR
    rw [updR_opt, List.getElem?_eq_getElem hi]
    simp only [Option.map_some, hi, true_and]
    congr 1
    have h1 := movR_get xs f t k i hi
    have h2 := getD_of h1
    rw [show xs[i] = xs.getD i noC by rw [List.getD_eq_getElem?_getD, List.getElem?_eq_getElem hi]; rfl]
    unfold cntA
    by_cases hin : inS xs.length i f t = true
    · rw [if_pos hin]
      have hi2 := inS_iff.1 hin
      have hc : ¬ cntN xs.length f t 0 = 0 := by unfold cntN; omega
      rw [if_neg hc]
      by_cases hin2 : inS xs.length ((i : Int) - -k) f t = true
      · have hi3 := inS_iff.1 hin2
        rw [if_pos hin2, if_neg (by rw [inS_iff]; unfold cntN at *; omega)]
        have h3 := movR_get xs f t k ((i : Int) - -k).toNat (by omega)
        rw [show ((((i : Int) - -k).toNat : Nat) : Int) = (i : Int) - -k by omega] at h3
        rw [getD_of h3, if_pos hin2, show (i : Int) - -k - k = (i : Int) by omega, if_pos hin, Int.toNat_natCast]
      · rw [if_neg hin2, if_pos (by
          rw [inS_iff] at hin2 ⊢
          unfold cntN at *
          omega)]
    · rw [if_neg hin, h2, if_neg hin, if_neg (by
        rw [inS_iff] at hin ⊢
        split <;> (unfold cntN at *; omega))]
  · rw [List.getElem?_eq_none (by rw [movR_len, movR_len]; exact hi), List.getElem?_eq_none (by rw [eachR_len]; exact hi)]
theorem cntN_mov (xs : List Cl) (f t k : Int) : cntN (movR xs f t k).length f t 0 = cntN xs.length f t 0 := by rw [movR_len]
/-- to the right by some and by some more -/
theorem mov_ins (xs : List Cl) (f t k m : Int) (h0 : 0 ≤ k) (h1 : 0 ≤ m) (hk : k ≤ cntN xs.length f t 0) (hm : m ≤ cntN xs.length f t 0) (s : Int) (hs : s = min (k + m) (cntN xs.length f t 0)) : movR (movR xs f t k) f t m = movR xs f t s := by
  apply List.ext_getElem?
  intro i
  rcases Nat.lt_or_ge i xs.length with hi | hi
  · rw [movR_get _ _ _ _ _ (by rw [movR_len]; exact hi), movR_len, movR_get _ _ _ _ _ hi]
    congr 1
    by_cases hin : inS xs.length i f t = true
    · rw [if_pos hin, if_pos hin]
      have hi2 := inS_iff.1 hin
      by_cases hin2 : inS xs.length ((i : Int) - m) f t = true
      · have hi3 := inS_iff.1 hin2
        rw [if_pos hin2]
        have h3 := movR_get xs f t k ((i : Int) - m).toNat (by omega)
        rw [show ((((i : Int) - m).toNat : Nat) : Int) = (i : Int) - m by omega] at h3
        rw [getD_of h3, if_pos hin2]
        by_cases hin4 : inS xs.length ((i : Int) - m - k) f t = true
        · have hi4 := inS_iff.1 hin4
          have e : s = k + m := by unfold cntN at hs; omega
          rw [e, show (i : Int) - (k + m) = (i : Int) - m - k by omega]
        · rw [if_neg hin4, if_neg]
          rw [inS_iff] at hin4 ⊢
          unfold cntN at *
          omega
      · rw [if_neg hin2, if_neg]
        rw [inS_iff] at hin2 ⊢
        unfold cntN at *
        omega
    · rw [if_neg hin, if_neg hin]
      have h3 := movR_get xs f t k i hi
      rw [if_neg hin] at h3
      exact getD_of h3
  · rw [List.getElem?_eq_none (by rw [movR_len, movR_len]; exact hi), List.getElem?_eq_none (by rw [movR_len]; exact hi)]
/-- to the left by some and by some more -/
theorem mov_del (xs : List Cl) (f t k m : Int) (h0 : 0 ≤ k) (h1 : 0 ≤ m) (hk : k ≤ cntN xs.length f t 0) (hm : m ≤ cntN xs.length f t 0) (s : Int) (hs : s = min (k + m) (cntN xs.length f t 0)) : movR (movR xs f t (-k)) f t (-m) = movR xs f t (-s) := by
  apply List.ext_getElem?
  intro i
  rcases Nat.lt_or_ge i xs.length with hi | hi
  · rw [movR_get _ _ _ _ _ (by rw [movR_len]; exact hi), movR_len, movR_get _ _ _ _ _ hi]
    congr 1
    by_cases hin : inS xs.length i f t = true
    · rw [if_pos hin, if_pos hin]
      have hi2 := inS_iff.1 hin
      by_cases hin2 : inS xs.length ((i : Int) - -m) f t = true
      · have hi3 := inS_iff.1 hin2
        rw [if_pos hin2]
        have h3 := movR_get xs f t (-k) ((i : Int) - -m).toNat (by omega)
        rw [show ((((i : Int) - -m).toNat : Nat) : Int) = (i : Int) - -m by omega] at h3
        rw [getD_of h3, if_pos hin2]
        by_cases hin4 : inS xs.length ((i : Int) - -m - -k) f t = true
        · have hi4 := inS_iff.1 hin4
          have e : s = k + m := by unfold cntN at hs; omega
          rw [e, show (i : Int) - -(k + m) = (i : Int) - -m - -k by omega]
        · rw [if_neg hin4, if_neg]
          rw [inS_iff] at hin4 ⊢
          unfold cntN at *
          omega
      · rw [if_neg hin2, if_neg]
        rw [inS_iff] at hin2 ⊢
        unfold cntN at *
        omega
    · rw [if_neg hin, if_neg hin]
      have h3 := movR_get xs f t (-k) i hi
      rw [if_neg hin] at h3
      exact getD_of h3
  · rw [List.getElem?_eq_none (by rw [movR_len, movR_len]; exact hi), List.getElem?_eq_none (by rw [movR_len]; exact hi)]
end Go.Proofs.Ytignkkejkknddaa
