/- The same behind operations that were taken first, under a condition on the world. -/
import Derived.Test.YtdlngbmgcedbpaaRegionInv
import Derived.Deep.RegionHeld3
namespace Go.Proofs.Ytdlngbmgcedbpaa
open Go.RowKit

section
variable {P : Program} {ops : Array Oper} {md : Region.Mode} {Q : Exit → Act → World → Prop}
theorem wpAnyH_inv {S : World → Prop} (hB : depsLower md ops = true) (I : (Nat → Bool) → Act → World → Prop) (hS : ∀ L a w, I L a w → S w)
    (hstep : ∀ i, i < ops.size → ∀ (L : Nat → Bool) a w, I L a w → L i = false → (∀ j ∈ depsOf md ops i, L j = true) → wpOp P ops Q i (I fun j => j == i || L j) a w)
    (hend : ∀ (L : Nat → Bool) a w, (∀ j, j < ops.size → L j = true) → I L a w → Q .normal a w) :
    ∀ (fuel : Nat) (listed : Array Bool) (a : Act) (w : World), listed.size = ops.size → unlisted listed ≤ fuel → I (seen listed) a w → wpAnyH P md ops Q S fuel listed a w
  | 0, listed, a, w, hs, hf, hI => by
    have h := wpAny_inv hB I hstep hend 0 listed a w hs hf hI
    exact h
  | fuel + 1, listed, a, w, hs, hf, hI => by
    refine ⟨fun hr => hend _ a w (ready_nil hs hB hr) hI, fun i hi => ?_⟩
    obtain ⟨h0, o, ho, hall⟩ := mem_ready.1 hi
    have hlt := (Array.getElem?_eq_some_iff.1 ho).1
    have h1 := hstep i hlt (seen listed) a w hI (seen_false h0) (fun j hj => by
      unfold depsOf at hj
      rw [ho] at hj
      simp only [Option.map_some, Option.getD_some, List.mem_map, List.mem_filter] at hj
      obtain ⟨e, ⟨he, hb⟩, rfl⟩ := hj
      exact hall e (by simpa using he) hb)
    refine wpOp_mono (fun a' w' hI' => ⟨hS _ _ _ hI', ?_⟩) h1
    refine wpAnyH_inv hB I hS hstep hend fuel _ a' w' (by simpa using hs) (by have := unlisted_set h0; omega) ?_
    have e : seen (listed.setIfInBounds i true) = fun j => j == i || seen listed j := funext fun j => seen_set h0 j
    rw [e]
    exact hI'
/-- from 'seen' of a written-out list -/
theorem seen_lit {l : List Bool} {j : Nat} (h : l[j]? = some true) : seen l.toArray j = true := by
  unfold seen
  simp [h]
end
end Go.Proofs.Ytdlngbmgcedbpaa
