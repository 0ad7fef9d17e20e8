/- A region that draws its order, under a condition on the world that need not hold behind its last operation, for which all others are waited: the law. -/
import Derived.Test.YtigmdokegiomaaaLib
import Derived.Deep.RegionHeld3
namespace Go.Proofs.Ytigmdokegiomaaa
open Go.RowKit

section
variable {P : Program} {ops : Array Oper} {Q : Exit → Act → World → Prop} {md : Region.Mode} {S : World → Prop} {z : Nat}
/-- Whatever order is picked from here on; S holds behind every operation but number z. -/
def wpAnyF (P : Program) (md : Region.Mode) (ops : Array Oper) (Q : Exit → Act → World → Prop) (S : World → Prop) (z : Nat) : Nat → Array Bool → Act → World → Prop
  | 0, listed, a, w => Region.ready md ops listed = [] ∧ Q .normal a w
  | fuel + 1, listed, a, w =>
    (Region.ready md ops listed = [] → Q .normal a w) ∧
    ∀ i ∈ Region.ready md ops listed, wpOp P ops Q i (fun a' w' => (i ≠ z → S w') ∧ wpAnyF P md ops Q S z fuel (listed.setIfInBounds i true) a' w') a w
theorem wpAny_of_F : ∀ (fuel : Nat) (listed : Array Bool) (a : Act) (w : World), wpAnyF P md ops Q S z fuel listed a w → wpAny P md ops Q fuel listed a w
  | 0, _, _, _, h => h
  | fuel + 1, _, _, _, h => ⟨h.1, fun i hi => wpOp_mono (fun a' w' h' => wpAny_of_F fuel _ a' w' h'.2) (h.2 i hi)⟩
theorem wpAnyF_first {i : Nat} {oi : Oper} {v : Value} (hi : ops[i]? = some oi) (hsel : ∀ (j : Nat) (o : Oper) cs b, ops[j]? = some o → o.op ≠ .select cs b)
    (hQ : ∀ c a w, Q (.panic c) (a.put oi.dst v) w → Q (.panic c) a w) (hs : Region.sinkB md ops z = true) (hz : ops.size = z + 1) (hiz : i < z) :
    ∀ (fuel : Nat) (listed : Array Bool) (a : Act) (w : World), HeadInv md ops z listed →
      (∀ j oj, ops[j]? = some oj → j ≠ i → listed.getD j true = false → (∀ e ∈ oj.after, Region.binds md e = true → e.on ≠ i) → oi.apart ops oj = true) →
      i ∈ Region.ready md ops listed → YieldsIf P ops S oi v a → S w →
      wpAnyF P md ops Q S z fuel (listed.setIfInBounds i true) (a.put oi.dst v) w → wpAnyF P md ops Q S z (fuel + 1) listed a w := by
  intro fuel
  induction fuel with
  | zero =>
    intro listed a w inv _ hr hy hS H
    refine ⟨fun h => (by rw [h] at hr; cases hr), fun j hj => ?_⟩
    by_cases hji : j = i
    · subst hji; exact hy.wpOp hi hS ⟨fun _ => hS, H⟩
    · have := ready_mono hj hji
      rw [H.1] at this
      cases this
  | succ fuel ih =>
    intro listed a w inv hfree hr hy hS H
    refine ⟨fun h => (by rw [h] at hr; cases hr), fun j hj => ?_⟩
    by_cases hji : j = i
    · subst hji; exact hy.wpOp hi hS ⟨fun _ => hS, H⟩
    · have h1 := H.2 j (ready_mono hj hji)
      obtain ⟨hjun, oj, hoj, hall⟩ := mem_ready.1 hj
      have hjz : j < z := by
        have hjs : j < ops.size := (Array.getElem?_eq_some_iff.1 hoj).1
        rcases Nat.lt_or_ge j z with h | h
        · exact h
        · exact absurd hj (tail_waits hs (by unfold Region.chainB; rw [List.all_eq_true]; intro t ht; have := List.mem_range.1 ht; simp; left; omega) (by omega) inv _ i rfl hiz (mem_ready.1 hr).1 j h)
      have hnot : ∀ e ∈ oj.after, Region.binds md e = true → e.on ≠ i := fun e he hb heq => by
        have h1 := hall e he hb
        have h0 := (mem_ready.1 hr).1
        rw [heq] at h1
        rcases Nat.lt_or_ge i listed.size with h' | h'
        · simp [h'] at h0 h1; rw [h0] at h1; cases h1
        · simp [Array.getElem?_eq_none h'] at h1
      have h1' : wpOp P ops Q j (fun a' w' => S w' ∧ wpAnyF P md ops Q S z fuel ((listed.setIfInBounds i true).setIfInBounds j true) a' w') (a.put oi.dst v) w := wpOp_mono (fun a' w' h => ⟨h.1 (by omega), h.2⟩) h1
      have h2 := wpOp_putIf hoj (hfree j oj hoj hji hjun hnot) (fun cs b => hsel i oi cs b hi) (fun cs b => hsel j oj cs b hoj) hQ hy h1'
      have hfree' : ∀ k ok, ops[k]? = some ok → k ≠ i → (listed.setIfInBounds j true).getD k true = false →
          (∀ e ∈ ok.after, Region.binds md e = true → e.on ≠ i) → oi.apart ops ok = true := fun k ok hk hki hun hno => by
        refine hfree k ok hk hki ?_ hno
        by_cases hjk : j = k
        · subst hjk; exact hjun
        · rw [getD_set_ne true hjk] at hun; exact hun
      refine wpOp_mono (fun a' w' h3 => ⟨fun _ => h3.2.1, ih (listed.setIfInBounds j true) a' w' (inv.set hj hjz) hfree' (ready_mono hr (Ne.symm hji)) h3.1 h3.2.1 ?_⟩) h2
      rw [Array.setIfInBounds_comm _ _ hji]
      exact h3.2.2

/-- where a walk stands -/
def AtF (P : Program) (md : Region.Mode) (l : List Oper) (Q : Exit → Act → World → Prop) (S : World → Prop) (z fuel : Nat) (listed : List Bool) (a : Act) (w : World) : Prop := HeadInv md l.toArray z listed.toArray → wpAnyF P md l.toArray Q S z fuel listed.toArray a w
variable {l : List Oper} {listed : List Bool} {a : Act} {w : World} {fuel : Nat}
theorem wp_region_F {id : Nat} (n : Nat) (L : List Bool) (hn : l.length = n + 1) (hL : List.replicate (n + 1) false = L) (hm : P.follows .mixedOrders = true) (hS : S w.drew) (h : S w.drew → AtF P .any l Q S n (n + 1) L a w.drew) : (Code.region id l.toArray true).wp P Q a w := by
  subst hL
  refine wp_region_any hm (wpAny_of_F (z := n) (S := S) _ _ _ _ ?_)
  have h1 := h hS
  unfold AtF at h1
  rw [← hn] at h1
  have e : (List.replicate l.length false).toArray = Array.replicate l.toArray.size false := by simp
  rw [e] at h1
  have h2 := h1 ⟨by simp, fun j oj _ hl => (by rw [getD_replicate_false] at hl; cases hl), fun t _ ht => getD_in (by simpa using ht) (getD_replicate_false _ _)⟩
  simpa using h2
/-- number i is taken first -/
theorem AtF.take (i : Nat) {oi : Oper} {v : Value} (hi : l[i]? = some oi) (hc : (Region.noSelect l.toArray && Region.sinkB md l.toArray z && decide (l.length = z + 1) && decide (i < z)) = true)
    (hf : (Region.free md l.toArray listed.toArray i && (Region.ready md l.toArray listed.toArray).contains i) = true) (hQ : ∀ c a w, Q (.panic c) (a.put oi.dst v) w → Q (.panic c) a w) (hy : YieldsIf P l.toArray S oi v a) (hS : S w)
    (h : AtF P md l Q S z fuel (listed.set i true) (a.put oi.dst v) w) : AtF P md l Q S z (fuel + 1) listed a w := by
  intro inv
  simp only [Bool.and_eq_true, decide_eq_true_eq] at hc hf
  have hi' : l.toArray[i]? = some oi := by simpa using hi
  have hr : i ∈ Region.ready md l.toArray listed.toArray := by simpa using hf.2
  refine wpAnyF_first hi' (Region.noSelect_spec hc.1.1.1) hQ hc.1.1.2 (by simpa using hc.1.2) hc.2 fuel _ a w inv (Region.free_spec hi' hf.1) hr hy hS ?_
  have := h (by have := inv.set hr hc.2; simpa using this)
  simpa using this
/-- number i alone may come up; S anew behind it -/
theorem AtF.only (i : Nat) {oi : Oper} (hi : l[i]? = some oi) (hc : (decide (i < z) && decide (Region.ready md l.toArray listed.toArray = [i])) = true)
    (h : ∀ K : Act → World → Prop, Shut (∀ a w, S w → (S w → AtF P md l Q S z fuel (listed.set i true) a w) → K a w) → if Region.wanted oi (yielded l.toArray a.tmps) = true then Oper.wp P oi a w K Q else K (a.put oi.dst undef) w) : AtF P md l Q S z (fuel + 1) listed a w := by
  intro inv
  simp only [Bool.and_eq_true, decide_eq_true_eq] at hc
  have hr : i ∈ Region.ready md l.toArray listed.toArray := by rw [hc.2]; simp
  refine ⟨fun h0 => (by rw [h0] at hr; cases hr), fun j hj => ?_⟩
  rw [hc.2] at hj
  obtain rfl : j = i := by simpa using hj
  have hi' : l.toArray[j]? = some oi := by simpa using hi
  refine wpOp_step hi' (fun K hK => h K ?_)
  intro a' w' hS' hA
  refine hK a' w' ⟨fun _ => hS', ?_⟩
  have := hA hS' (by have := inv.set hr hc.1; simpa using this)
  simpa using this
/-- the last one -/
theorem AtF.last {oi : Oper} (hi : l[z]? = some oi) (hc : (decide (Region.ready md l.toArray listed.toArray = [z]) && decide (Region.ready md l.toArray (listed.set z true).toArray = [])) = true)
    (h : ∀ K : Act → World → Prop, Shut (∀ a w, Q .normal a w → K a w) → if Region.wanted oi (yielded l.toArray a.tmps) = true then Oper.wp P oi a w K Q else K (a.put oi.dst undef) w) : AtF P md l Q S z (fuel + 1) listed a w := by
  intro inv
  simp only [Bool.and_eq_true, decide_eq_true_eq] at hc
  refine ⟨fun h0 => (by rw [h0] at hc; simp at hc), fun j hj => ?_⟩
  rw [hc.1] at hj
  obtain rfl : j = z := by simpa using hj
  have hi' : l.toArray[j]? = some oi := by simpa using hi
  refine wpOp_step hi' (fun K hK => h K ?_)
  intro a' w' hq
  refine hK a' w' ⟨fun e => absurd rfl e, ?_⟩
  have hr : Region.ready md l.toArray (listed.toArray.setIfInBounds j true) = [] := by have := hc.2; simpa using this
  cases fuel with
  | zero => exact ⟨hr, hq⟩
  | succ n => exact ⟨fun _ => hq, by rw [hr]; simp⟩
end
end Go.Proofs.Ytigmdokegiomaaa
/- A region that draws its order (XRegionF): two operations may come up. -/
namespace Go.Proofs.Ytigmdokegiomaaa
open Go.RowKit

section
variable {P : Program} {Q : Exit → Act → World → Prop} {md : Region.Mode} {S : World → Prop} {z : Nat} {l : List Oper} {listed : List Bool} {a : Act} {w : World} {fuel : Nat}
/-- number i or number j may come up; S anew behind it -/
theorem AtF.either (i j : Nat) {oi oj : Oper} (hi : l[i]? = some oi) (hj : l[j]? = some oj) (hc : (decide (i < z) && decide (j < z) && decide (Region.ready md l.toArray listed.toArray = [i, j])) = true)
    (h1 : ∀ K : Act → World → Prop, Shut (∀ a w, S w → (S w → AtF P md l Q S z fuel (listed.set i true) a w) → K a w) → if Region.wanted oi (yielded l.toArray a.tmps) = true then Oper.wp P oi a w K Q else K (a.put oi.dst undef) w)
    (h2 : ∀ K : Act → World → Prop, Shut (∀ a w, S w → (S w → AtF P md l Q S z fuel (listed.set j true) a w) → K a w) → if Region.wanted oj (yielded l.toArray a.tmps) = true then Oper.wp P oj a w K Q else K (a.put oj.dst undef) w) : AtF P md l Q S z (fuel + 1) listed a w := by
  intro inv
  simp only [Bool.and_eq_true, decide_eq_true_eq] at hc
  refine ⟨fun h0 => (by rw [h0] at hc; simp at hc), fun k hk => ?_⟩
  rw [hc.2] at hk
  simp only [List.mem_cons, List.not_mem_nil, or_false] at hk
  have hr : i ∈ Region.ready md l.toArray listed.toArray ∧ j ∈ Region.ready md l.toArray listed.toArray := by rw [hc.2]; simp
  rcases hk with rfl | rfl
  · have hi' : l.toArray[k]? = some oi := by simpa using hi
    refine wpOp_step hi' (fun K hK => h1 K ?_)
    intro a' w' hS' hA
    refine hK a' w' ⟨fun _ => hS', ?_⟩
    have := hA hS' (by have := inv.set hr.1 hc.1.1; simpa using this)
    simpa using this
  · have hj' : l.toArray[k]? = some oj := by simpa using hj
    refine wpOp_step hj' (fun K hK => h2 K ?_)
    intro a' w' hS' hA
    refine hK a' w' ⟨fun _ => hS', ?_⟩
    have := hA hS' (by have := inv.set hr.2 hc.1.2; simpa using this)
    simpa using this
end
end Go.Proofs.Ytigmdokegiomaaa
