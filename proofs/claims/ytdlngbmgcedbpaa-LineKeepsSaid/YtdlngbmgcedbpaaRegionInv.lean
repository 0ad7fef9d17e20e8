/- A region that draws its order, met by an invariant: what is known of each operation that has been done, whatever the order. -/
import Derived.Test.YtdlngbmgcedbpaaLib
namespace Go.Proofs.Ytdlngbmgcedbpaa
open Go.RowKit

section
variable {P : Program} {ops : Array Oper} {md : Region.Mode} {Q : Exit → Act → World → Prop}
/-- the operations that an operation waits for -/
def depsOf (md : Region.Mode) (ops : Array Oper) (i : Nat) : List Nat := ((ops[i]?).map fun o => (o.after.toList.filter fun e => Region.binds md e).map (·.on)).getD []
def depsLower (md : Region.Mode) (ops : Array Oper) : Bool := (List.range ops.size).all fun i => (depsOf md ops i).all fun j => decide (j < i)
def unlisted (listed : Array Bool) : Nat := (listed.toList.filter fun b => !b).length
def seen (listed : Array Bool) (j : Nat) : Bool := listed.getD j false
theorem filter_set : ∀ (l : List Bool) (i : Nat), l[i]? = some false → ((l.set i true).filter fun b => !b).length + 1 = (l.filter fun b => !b).length
  | [], i, hi => by simp at hi
  | b :: l, 0, hi => by
    simp at hi
    subst hi
    simp
  | b :: l, i + 1, hi => by
    have := filter_set l i (by simpa using hi)
    simp only [List.set_cons_succ, List.filter_cons]
    split
    · simp only [List.length_cons]; omega
    · omega
theorem unlisted_set {listed : Array Bool} {i : Nat} (h : listed.getD i true = false) : unlisted (listed.setIfInBounds i true) + 1 = unlisted listed := by
  have hlt : i < listed.size := by
    rcases Nat.lt_or_ge i listed.size with h' | h'
    · exact h'
    · simp [Array.getElem?_eq_none h'] at h
  have hi : listed.toList[i]? = some false := by
    have : listed[i]? = some listed[i] := Array.getElem?_eq_getElem hlt
    rw [Array.getElem?_toList, this]
    simp [this] at h
    rw [h]
  unfold unlisted
  rw [Array.toList_setIfInBounds]
  exact filter_set _ _ hi
theorem seen_set {listed : Array Bool} {i : Nat} (h : listed.getD i true = false) (j : Nat) : seen (listed.setIfInBounds i true) j = (j == i || seen listed j) := by
  have hlt : i < listed.size := by
    rcases Nat.lt_or_ge i listed.size with h' | h'
    · exact h'
    · simp [Array.getElem?_eq_none h'] at h
  unfold seen
  by_cases e : i = j
  · subst e
    simp [hlt]
  · rw [getD_set_ne false e]
    simp [Ne.symm e]
theorem seen_false {listed : Array Bool} {i : Nat} (h : listed.getD i true = false) : seen listed i = false := by
  unfold seen
  cases h2 : listed[i]? with
  | none => simp [h2] at h
  | some b => simp [h2] at h ⊢; exact h
theorem wpOp_at {i : Nat} {J : Act → World → Prop} {a : Act} {w : World} (o : Oper) (ho : ops[i]? = some o)
    (h : ∀ K : Act → World → Prop, (∀ a' w', J a' w' → K a' w') → if Region.wanted o (yielded ops a.tmps) = true then Oper.wp P o a w K Q else K (a.put o.dst undef) w) : wpOp P ops Q i J a w := by
  unfold wpOp
  rw [ho]
  have h1 := h J (fun _ _ h => h)
  simp only
  split
  · rename_i hw
    rw [if_pos hw] at h1
    exact .inl h1
  · rename_i hw
    rw [if_neg hw] at h1
    exact h1
theorem ready_nil {listed : Array Bool} (hs : listed.size = ops.size) (hB : depsLower md ops = true) (h : Region.ready md ops listed = []) : ∀ j, j < ops.size → seen listed j = true := by
  intro j
  induction j using Nat.strongRecOn with
  | _ j ih =>
    intro hj
    apply Classical.byContradiction
    intro hn
    have hf : listed.getD j true = false := by
      unfold seen at hn
      have : listed[j]? = some listed[j] := Array.getElem?_eq_getElem (by omega)
      simp [this] at hn ⊢
      exact hn
    have hr : j ∈ Region.ready md ops listed := by
      rw [mem_ready]
      refine ⟨hf, ops[j], Array.getElem?_eq_getElem hj, fun e he hb => ?_⟩
      have h1 : e.on ∈ depsOf md ops j := by
        unfold depsOf
        rw [Array.getElem?_eq_getElem hj]
        simp only [Option.map_some, Option.getD_some, List.mem_map, List.mem_filter]
        exact ⟨e, ⟨by simpa using he, hb⟩, rfl⟩
      have h2 : e.on < j := by
        unfold depsLower at hB
        rw [List.all_eq_true] at hB
        have h3 := hB j (List.mem_range.2 hj)
        rw [List.all_eq_true] at h3
        simpa using h3 _ h1
      exact ih e.on h2 (by omega)
    rw [h] at hr
    cases hr
theorem wpAny_inv (hB : depsLower md ops = true) (I : (Nat → Bool) → Act → World → Prop)
    (hstep : ∀ i, i < ops.size → ∀ (L : Nat → Bool) a w, I L a w → L i = false → (∀ j ∈ depsOf md ops i, L j = true) → wpOp P ops Q i (I fun j => j == i || L j) a w)
    (hend : ∀ (L : Nat → Bool) a w, (∀ j, j < ops.size → L j = true) → I L a w → Q .normal a w) :
    ∀ (fuel : Nat) (listed : Array Bool) (a : Act) (w : World), listed.size = ops.size → unlisted listed ≤ fuel → I (seen listed) a w → wpAny P md ops Q fuel listed a w
  | 0, listed, a, w, hs, hf, hI => by
    have hall : ∀ j, j < ops.size → seen listed j = true := by
      intro j hj
      apply Classical.byContradiction
      intro hn
      have h0 : listed.getD j true = false := by
        unfold seen at hn
        have : listed[j]? = some listed[j] := Array.getElem?_eq_getElem (by omega)
        simp [this] at hn ⊢
        exact hn
      have := unlisted_set h0
      omega
    refine ⟨?_, hend _ a w hall hI⟩
    cases hr : Region.ready md ops listed with
    | nil => rfl
    | cons x xs =>
      have hx : x ∈ Region.ready md ops listed := by rw [hr]; exact List.mem_cons_self ..
      obtain ⟨h0, o, ho, _⟩ := mem_ready.1 hx
      have := seen_false h0
      rw [hall x (Array.getElem?_eq_some_iff.1 ho).1] at this
      cases this
  | fuel + 1, listed, a, w, hs, hf, hI => by
    refine ⟨fun hr => hend _ a w (ready_nil hs hB hr) hI, fun i hi => ?_⟩
    obtain ⟨h0, o, ho, hall⟩ := mem_ready.1 hi
    have hlt := (Array.getElem?_eq_some_iff.1 ho).1
    have h1 := hstep i hlt (seen listed) a w hI (seen_false h0) (fun j hj => by
      unfold depsOf at hj
      rw [ho] at hj
      simp only [Option.map_some, Option.getD_some, List.mem_map, List.mem_filter] at hj
      obtain ⟨e, ⟨he, hb⟩, rfl⟩ := hj
      exact hall e (by simpa using he) hb)
    refine wpOp_mono (fun a' w' hI' => ?_) h1
    refine wpAny_inv hB I hstep hend fuel _ a' w' (by simpa using hs) (by have := unlisted_set h0; omega) ?_
    have e : seen (listed.setIfInBounds i true) = fun j => j == i || seen listed j := funext fun j => seen_set h0 j
    rw [e]
    exact hI'
theorem unlisted_none (n : Nat) : unlisted (Array.replicate n false) = n := by
  unfold unlisted
  rw [Array.toList_replicate]
  induction n with
  | zero => rfl
  | succ n ih => simp [List.replicate_succ] 
theorem seen_none (n : Nat) : seen (Array.replicate n false) = fun _ => false := by
  funext j
  unfold seen
  by_cases h : j < n <;> simp [h]
/-- a region that draws its order, by an invariant -/
theorem wp_region_inv {id : Nat} {a : Act} {w : World} (hm : P.follows .mixedOrders = true) (hB : depsLower .any ops = true) (I : (Nat → Bool) → Act → World → Prop) (h0 : I (fun _ => false) a w.drew)
    (hstep : ∀ i, i < ops.size → ∀ (L : Nat → Bool) a w, I L a w → L i = false → (∀ j ∈ depsOf .any ops i, L j = true) → wpOp P ops Q i (I fun j => j == i || L j) a w)
    (hend : ∀ (L : Nat → Bool) a w, (∀ j, j < ops.size → L j = true) → I L a w → Q .normal a w) : (Code.region id ops true).wp P Q a w := by
  refine wp_region_any hm ?_
  refine wpAny_inv hB I hstep hend _ _ _ _ (by simp) (by rw [unlisted_none]; exact Nat.le_refl _) ?_
  rw [seen_none]
  exact h0
end
end Go.Proofs.Ytdlngbmgcedbpaa
