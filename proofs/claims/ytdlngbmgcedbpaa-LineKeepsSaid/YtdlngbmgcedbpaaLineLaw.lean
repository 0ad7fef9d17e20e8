/- Lines: the plain laws of laying and cutting. -/
import Derived.Test.YtdlngbmgcedbpaaLine18
import Derived.Test.YtdlngbmgcedbpaaLine9
import Derived.Test.YtdlngbmgcedbpaaLine8
namespace Go.Proofs.Ytdlngbmgcedbpaa
open Go.RowKit
set_option linter.unusedVariables false
set_option linter.unusedSimpArgs false

theorem layOn_get {α : Type} (xs zs : List α) (o i : Nat) (h : o + zs.length ≤ xs.length) : (layOn xs o zs)[i]? = if o ≤ i ∧ i < o + zs.length then zs[i - o]? else xs[i]? := by
  unfold layOn
  rw [List.getElem?_append, List.length_take, show min o xs.length = o by omega]
  by_cases h1 : i < o
  · rw [if_pos h1, if_neg (by omega), List.getElem?_take, if_pos h1]
  · rw [if_neg h1, List.getElem?_append]
    by_cases h2 : i - o < zs.length
    · rw [if_pos h2, if_pos (by omega)]
    · rw [if_neg h2, if_neg (by omega), List.getElem?_drop]
      congr 1
      omega
/-- the cells of a span -/
def cutR (xs : List Cl) (f t : Int) : List Cl := (xs.drop (offN xs.length f t)).take (spanN xs.length f t).toNat
theorem cutR_len (xs : List Cl) (f t : Int) : (cutR xs f t).length = (spanN xs.length f t).toNat := by
  have h := offN_le xs.length f t (by omega)
  simp only [cutR, List.length_take, List.length_drop]
  omega
theorem cutTo_cutR (xs : List Cl) (f t : Int) : cutTo xs f t xs.length = cutR xs f t := by
  rw [cutTo_eq _ _ _ _ (Nat.le_refl _)]
  unfold cutR offN
  by_cases h : spanN xs.length f t = 0
  · rw [if_pos h, h]
    simp only [Int.toNat_zero, List.take_zero]
    apply List.eq_nil_of_length_eq_zero
    unfold spanN at h
    simp only [List.length_drop, List.length_take]
    omega
  · rw [if_neg h]
    unfold spanA
    apply List.ext_getElem?
    intro i
    unfold spanN at *
    rw [List.getElem?_drop, List.getElem?_take, List.getElem?_take, List.getElem?_drop]
    by_cases h2 : (max f 0).toNat + i < (min t (xs.length : Int)).toNat
    · rw [if_pos h2, if_pos (by omega)]
    · rw [if_neg h2, if_neg (by omega)]
theorem lay_same (xs : List Cl) (f t : Int) (ys : List Cl) : layR xs f t ys = updR xs (layP xs.length f t ys.length) (layG xs.length f t ys) xs.length := by
  have h := offN_le xs.length f t (by omega)
  apply List.ext_getElem?
  intro i
  unfold layR
  rw [layOn_get _ _ _ _ (by rw [List.length_take]; omega), updR_opt, List.length_take]
  rcases Nat.lt_or_ge i xs.length with hi | hi
  · rw [List.getElem?_eq_getElem hi]
    simp only [Option.map_some, hi, true_and]
    unfold layP layG
    by_cases hin : inS xs.length i f t = true
    · have h1 := (inS_off hi).1 hin
      have h2 := cntA_le hin
      have h3 : cntA xs.length f t 0 = offN xs.length f t := by
        rw [h2.2.2]
        unfold offN spanA
        rw [if_neg (by omega)]
        omega
      rw [h3]
      simp only [hin, Bool.true_and, decide_eq_true_eq]
      by_cases h4 : (i : Int) - offN xs.length f t < ys.length
      · rw [if_pos (by omega), if_pos h4, List.getElem?_take, if_pos (by omega)]
        rw [List.getElem?_eq_getElem (by omega)]
        rw [List.getD_eq_getElem?_getD, show ((i : Int) - offN xs.length f t).toNat = i - offN xs.length f t by omega, List.getElem?_eq_getElem (by omega)]
        rfl
      · rw [if_neg (by omega), if_neg h4]
    · have h1 : ¬ (offN xs.length f t ≤ i ∧ (i : Int) < offN xs.length f t + spanN xs.length f t) := fun q => hin ((inS_off hi).2 q)
      have h5 : inS xs.length i f t = false := by simpa using hin
      rw [if_neg (by omega)]
      simp [h5]
  · rw [List.getElem?_eq_none hi, if_neg (by omega)]
    rfl
theorem lay_back (xs : List Cl) (f t : Int) (ys : List Cl) : layR (layR xs f t ys) f t (cutR xs f t) = xs := by
  have h := offN_le xs.length f t (by omega)
  have hl := layR_len xs f t ys
  apply List.ext_getElem?
  intro i
  unfold layR at hl ⊢
  rw [hl, layOn_get _ _ _ _ (by rw [hl, List.length_take, cutR_len]; omega), List.length_take, cutR_len, layOn_get _ _ _ _ (by rw [List.length_take]; omega), List.length_take]
  by_cases h1 : offN xs.length f t ≤ i ∧ (i : Int) < offN xs.length f t + spanN xs.length f t
  · rw [if_pos (by omega), List.getElem?_take, if_pos (by omega)]
    unfold cutR
    rw [List.getElem?_take, if_pos (by omega), List.getElem?_drop]
    congr 1
    omega
  · rw [if_neg (by omega), if_neg (by omega)]
theorem CutL.at {w w' : World} {xs : List Cl} {f t : Int} {e : Ending} (hm : xs.length ≤ 1000000) (h : CutL w xs f t e w') : ∃ a k x, e = .returned (.slice a (cutR xs f t).length k) ∧ w' = ext w x ∧ Rd encC 3 (ext w x) a (cutR xs f t) ∧ (a = none → k = 0) ∧ (cutR xs f t).length ≤ k ∧ k ≤ 1000000 := by
  obtain ⟨A', c', x, rfl, hO, hr⟩ := h
  have hh := offN_le xs.length f t (by omega)
  have hl := cutR_len xs f t
  rcases hr with ⟨hn, rfl⟩ | ⟨g, rfl, rfl⟩
  · have e0 : (cutR xs f t).length = 0 := by omega
    exact ⟨none, 0, x, by rw [e0], rfl, fun q => by omega, fun _ => rfl, by omega, by omega⟩
  · by_cases q : spanN xs.length f t = 0
    · have e0 : (cutR xs f t).length = 0 := by omega
      exact ⟨none, 0, x, by rw [e0]; unfold cutW; rw [if_pos q], rfl, fun q => by omega, fun _ => rfl, by omega, by omega⟩
    · refine ⟨some ⟨g, (spanA f).toNat * 3, none⟩, (spanN xs.length f t).toNat, x, by rw [hl]; unfold cutW; rw [if_neg q], rfl, ?_, fun e => (by cases e), by omega, by omega⟩
      have e1 : offN xs.length f t = (spanA f).toNat := by unfold offN; rw [if_neg q]
      have hr := hO.rd encC_len
      obtain ⟨b, off, e2, hd⟩ := hr.drop (k := (spanA f).toNat) (by omega)
      injection e2 with e2
      injection e2 with e2 e3
      subst e2 e3
      have h4 := hd.take (spanN xs.length f t).toNat
      rw [Nat.zero_add] at h4
      unfold cutR
      rw [e1]
      exact h4
end Go.Proofs.Ytdlngbmgcedbpaa
