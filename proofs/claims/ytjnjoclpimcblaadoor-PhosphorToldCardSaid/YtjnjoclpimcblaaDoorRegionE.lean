/- A region that draws its order (XRegionF): two operations may come up. -/
import Derived.Test.YtjnjoclpimcblaaDoorRegionF
namespace Go.Proofs.YtjnjoclpimcblaaDoor
open Go.RowKit

section
variable {P : Program} {Q : Exit → Act → World → Prop} {md : Region.Mode} {S : World → Prop} {z : Nat} {l : List Oper} {listed : List Bool} {a : Act} {w : World} {fuel : Nat}
/-- number i or number j may come up; S anew behind it -/
theorem AtF.either (i j : Nat) {oi oj : Oper} (hi : l[i]? = some oi) (hj : l[j]? = some oj) (hc : (decide (i < z) && decide (j < z) && decide (Region.ready md l.toArray listed.toArray = [i, j])) = true)
    (h1 : ∀ K : Act → World → Prop, Shut (∀ a w, S w → (S w → AtF P md l Q S z fuel (listed.set i true) a w) → K a w) → if Region.wanted oi (yielded l.toArray a.tmps) = true then Oper.wp P oi a w K Q else K (a.put oi.dst undef) w)
    (h2 : ∀ K : Act → World → Prop, Shut (∀ a w, S w → (S w → AtF P md l Q S z fuel (listed.set j true) a w) → K a w) → if Region.wanted oj (yielded l.toArray a.tmps) = true then Oper.wp P oj a w K Q else K (a.put oj.dst undef) w) : AtF P md l Q S z (fuel + 1) listed a w := by
  intro inv
  simp only [Bool.and_eq_true, decide_eq_true_eq] at hc
  refine ⟨fun h0 => (by rw [h0] at hc; simp at hc), fun k hk => ?_⟩
  rw [hc.2] at hk
  simp only [List.mem_cons, List.not_mem_nil, or_false] at hk
  have hr : i ∈ Region.ready md l.toArray listed.toArray ∧ j ∈ Region.ready md l.toArray listed.toArray := by rw [hc.2]; simp
  rcases hk with rfl | rfl
  · have hi' : l.toArray[k]? = some oi := by simpa using hi
    refine wpOp_step hi' (fun K hK => h1 K ?_)
    intro a' w' hS' hA
    refine hK a' w' ⟨fun _ => hS', ?_⟩
    have := hA hS' (by have := inv.set hr.1 hc.1.1; simpa using this)
    simpa using this
  · have hj' : l.toArray[k]? = some oj := by simpa using hj
    refine wpOp_step hj' (fun K hK => h2 K ?_)
    intro a' w' hS' hA
    refine hK a' w' ⟨fun _ => hS', ?_⟩
    have := hA hS' (by have := inv.set hr.2 hc.1.2; simpa using this)
    simpa using this
end
end Go.Proofs.YtjnjoclpimcblaaDoor
