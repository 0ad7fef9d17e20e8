/- A map of texts as plain data: how many bytes it has.  -/
import Derived.Test.YtdjkjbkmmdmipaaOwn
import Derived.Maps.StringElems
import Derived.Maps.Ext
namespace Go.Proofs.Ytdjkjbkmmdmipaa
open Go.RowKit Go.Maps Go.WideShapes
set_option linter.unusedVariables false
set_option linter.unusedSimpArgs false

abbrev Dm := DataW Unit
def lenE (p : Lit × Dm) : Nat := match p.2 with | .lit (.string s) => s.length | _ => 0
/-- the bytes of all texts -/
def sumD : Dm → Nat
  | .map es => (es.map lenE).sum
  | _ => 0
/-- the bytes of those that are no longer to come -/
def doneD (left : Lit → Bool) : Dm → Nat
  | .map es => ((es.filter fun p => !left p.1).map lenE).sum
  | _ => 0
theorem done_start (D : Dm) (hD : ∃ es, D = .map es ∧ ∀ p ∈ es, WideAt.IsKeyLit p.1) : doneD (has D) D = 0 := by
  obtain ⟨es, rfl, hk⟩ := hD
  show ((es.filter fun p => !has (.map es) p.1).map lenE).sum = 0
  rw [List.filter_eq_nil_iff.2]
  · rfl
  · intro p hp
    have : has (.map es) p.1 = true := List.any_eq_true.2 ⟨p, hp, WideAt.sameKey_self (hk p hp)⟩
    simp [this]
theorem done_end (D : Dm) (left : Lit → Bool) (h : ∀ k, left k = false) : doneD left D = sumD D := by
  cases D <;> try rfl
  rename_i es
  show ((es.filter fun p => !left p.1).map lenE).sum = (es.map lenE).sum
  rw [List.filter_eq_self.2 (fun p _ => by simp [h])]
theorem done_le (D : Dm) (left : Lit → Bool) : doneD left D ≤ sumD D := by
  cases D <;> try exact Nat.le_refl _
  rename_i es
  show ((es.filter fun p => !left p.1).map lenE).sum ≤ (es.map lenE).sum
  induction es with
  | nil => exact Nat.le_refl _
  | cons p r ih =>
    simp only [List.filter_cons, List.map_cons, List.sum_cons]
    split
    · simp only [List.map_cons, List.sum_cons]; omega
    · omega
/-- the bytes at a key -/
def hitE (es : List (Lit × Dm)) (x : Lit) : Nat := match es.find? (fun p => p.1.sameKey x) with | some p => lenE p | none => 0
theorem done_strike (left : Lit → Bool) (x : Lit) (hx : WideAt.IsKeyLit x) (hl : left x = true) : ∀ (es : List (Lit × Dm)), es.Pairwise (fun p q => p.1 ≠ q.1) →
    ((es.filter fun p => !(left p.1 && !p.1.sameKey x)).map lenE).sum = ((es.filter fun p => !left p.1).map lenE).sum + hitE es x
  | [], _ => rfl
  | y :: r, h => by
    obtain ⟨h1, h2⟩ := List.pairwise_cons.1 h
    have ih := done_strike left x hx hl r h2
    cases hy : y.1.sameKey x
    · simp only [List.filter_cons, hy, hitE, List.find?_cons] at ih ⊢
      cases hly : left y.1
      · simp only [Bool.false_and, Bool.not_false, if_true, List.map_cons, List.sum_cons]
        rw [ih]
        omega
      · simp only [Bool.not_false, Bool.and_true, Bool.not_true, Bool.false_eq_true, if_false]
        rw [ih]
    · have e := WideAt.sameKey_eq hy
      have hr : ∀ p ∈ r, p.1.sameKey x = false := fun p hp => sameKey_ne (fun e2 => h1 p hp (e.trans e2.symm))
      have hly : left y.1 = true := by rw [e]; exact hl
      simp only [List.filter_cons, hy, hitE, List.find?_cons, hly]
      simp only [Bool.not_true, Bool.and_false, Bool.not_false, if_true, List.map_cons, List.sum_cons, Bool.false_eq_true, if_false]
      rw [show (r.filter fun p => !(left p.1 && !p.1.sameKey x)) = r.filter fun p => !left p.1 from List.filter_congr (fun p hp => by simp [hr p hp])]
      omega
theorem done_step {D : Dm} {left : Lit → Bool} {x : Lit} {c : List UInt8} (hD : Canon D) (hx : WideAt.IsKeyLit x) (hl : left x = true) (hat : ∀ zd, D.atKey x zd = .lit (.string c)) :
    doneD (fun z => left z && !z.sameKey x) D = doneD left D + c.length := by
  obtain ⟨es, rfl, hp, hk⟩ := hD
  have h1 := done_strike left x hx hl es (apart_of_rising hp)
  have h2 : hitE es x = c.length := by
    unfold hitE
    have h3 := hat .nil
    cases hf : es.find? (fun p => p.1.sameKey x) with
    | none => simp [DataW.atKey, hf] at h3
    | some p =>
      simp [DataW.atKey, hf] at h3
      simp only
      unfold lenE
      rw [h3]
  show ((es.filter fun p => !(left p.1 && !p.1.sameKey x)).map lenE).sum = ((es.filter fun p => !left p.1).map lenE).sum + c.length
  rw [h1, h2]
theorem perm_sum {a b : List Nat} (h : a.Perm b) : a.sum = b.sum := by
  induction h with
  | nil => rfl
  | cons x _ ih => simp only [List.sum_cons, ih]
  | swap x y l => simp only [List.sum_cons]; omega
  | trans _ _ h1 h2 => exact h1.trans h2
theorem sum_put {D : Dm} {x : Lit} {c : List UInt8} (hD : IsMap D) (hx : has D x = false) : sumD (D.put x (.lit (.string c))) = sumD D + c.length := by
  obtain ⟨es, rfl⟩ := hD
  show ((DataW.insert (x, .lit (.string c)) (es.filter fun p => !p.1.sameKey x)).map lenE).sum = (es.map lenE).sum + c.length
  rw [List.filter_eq_self.2 (fun p hp => by simpa using (List.any_eq_false.1 hx) p hp)]
  rw [perm_sum ((insert_perm (x, DataW.lit (Lit.string c)) es).map lenE)]
  simp only [List.map_cons, List.sum_cons, lenE]
  omega
theorem keyL (i : Int) : WideAt.IsKeyLit (.int .i64 i) := trivial
end Go.Proofs.Ytdjkjbkmmdmipaa
