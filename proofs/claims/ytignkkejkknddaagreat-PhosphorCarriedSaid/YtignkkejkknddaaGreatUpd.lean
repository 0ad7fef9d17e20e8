/- A row that is changed place by place.  -/
import Derived.Test.YtignkkejkknddaaGreatClk
namespace Go.Proofs.YtignkkejkknddaaGreat
set_option linter.unusedVariables false
set_option linter.unusedSimpArgs false

/-- the places of a row below j of which p holds are changed by g -/
def updR (xs : List Cl) (p : Nat → Bool) (g : Nat → Cl → Cl) (j : Nat) : List Cl := xs.mapIdx fun i x => if i < j ∧ p i = true then g i x else x
theorem updR_len (xs : List Cl) (p : Nat → Bool) (g : Nat → Cl → Cl) (j : Nat) : (updR xs p g j).length = xs.length := by simp [updR]
theorem updR_get (xs : List Cl) (p : Nat → Bool) (g : Nat → Cl → Cl) (j i : Nat) (h : i < xs.length) (h' : i < (updR xs p g j).length) : (updR xs p g j)[i] = if i < j ∧ p i = true then g i xs[i] else xs[i] := by
  simp [updR]
theorem updR_opt (xs : List Cl) (p : Nat → Bool) (g : Nat → Cl → Cl) (j i : Nat) : (updR xs p g j)[i]? = (xs[i]?).map fun x => if i < j ∧ p i = true then g i x else x := by
  simp [updR]
theorem updR_zero (xs : List Cl) (p : Nat → Bool) (g : Nat → Cl → Cl) : updR xs p g 0 = xs := by
  apply List.ext_getElem?; intro i; rw [updR_opt]; simp
theorem updR_no (xs : List Cl) (p : Nat → Bool) (g : Nat → Cl → Cl) (j : Nat) (h : p j = false) : updR xs p g (j + 1) = updR xs p g j := by
  apply List.ext_getElem?; intro i; rw [updR_opt, updR_opt]
  congr 1; funext x
  by_cases e : i = j
  · subst e; simp [h]
  · by_cases h1 : i < j
    · simp only [show (i < j + 1) = (i < j) from propext ⟨fun _ => h1, fun _ => by omega⟩]
    · rw [if_neg (by omega), if_neg (by omega)]
theorem updR_yes (xs : List Cl) (p : Nat → Bool) (g : Nat → Cl → Cl) (j : Nat) (h : p j = true) (hj : j < xs.length) : updR xs p g (j + 1) = (updR xs p g j).set j (g j xs[j]) := by
  apply List.ext_getElem?; intro i
  rw [List.getElem?_set, updR_len]
  by_cases e : j = i
  · subst e
    rw [if_pos rfl, if_pos hj, updR_opt, List.getElem?_eq_getElem hj]
    simp [h]
  · rw [if_neg e, updR_opt, updR_opt]
    congr 1; funext x
    by_cases h1 : i < j
    · simp only [show (i < j + 1) = (i < j) from propext ⟨fun _ => h1, fun _ => by omega⟩]
    · rw [if_neg (by omega), if_neg (by omega)]
theorem updR_at (xs : List Cl) (p : Nat → Bool) (g : Nat → Cl → Cl) (j : Nat) (hj : j < xs.length) : (updR xs p g j)[j]'(by rw [updR_len]; exact hj) = xs[j] := by
  rw [updR_get xs p g j j hj]; simp
theorem updR_eq {xs : List Cl} {p q : Nat → Bool} {g h : Nat → Cl → Cl} {j k : Nat} (H : ∀ i (hi : i < xs.length), (if i < j ∧ p i = true then g i xs[i] else xs[i]) = (if i < k ∧ q i = true then h i xs[i] else xs[i])) : updR xs p g j = updR xs q h k := by
  apply List.ext_getElem (by rw [updR_len, updR_len])
  intro i h1 h2
  rw [updR_len] at h1
  rw [updR_get xs p g j i h1, updR_get xs q h k i h1]
  exact H i h1
theorem updR_id {xs : List Cl} {p : Nat → Bool} {g : Nat → Cl → Cl} {j : Nat} (H : ∀ i (hi : i < xs.length), i < j → p i = true → g i xs[i] = xs[i]) : updR xs p g j = xs := by
  rw [← updR_zero xs p g]
  conv => lhs; rw [updR_zero]
  apply updR_eq
  intro i hi
  simp only [Nat.not_lt_zero, false_and, if_false]
  split
  · rename_i h; exact H i hi h.1 h.2
  · rfl
end Go.Proofs.YtignkkejkknddaaGreat
