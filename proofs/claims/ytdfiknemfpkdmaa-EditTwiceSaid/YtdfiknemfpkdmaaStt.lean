/- Several variables and several pages that share no memory.  -/
import Derived.Test.YtdfiknemfpkdmaaShA
import Derived.Test.YtdfiknemfpkdmaaRegionF
namespace Go.Proofs.Ytdfiknemfpkdmaa
open Go.RowKit
set_option linter.unusedVariables false
set_option linter.unusedSimpArgs false

/-- variables (block, what stands there) and pages, none of whose blocks are another's -/
structure Stt (B : Nat) (w0 w : World) (vs : List (Nat × Obj)) (ps : List (Nat × PgS)) : Prop where
  below : Below B w0 w
  bw : B ≤ w.heap.size
  var : ∀ v ∈ vs, w.heap[v.1]? = some v.2
  vge : ∀ v ∈ vs, B ≤ v.1
  key : (vs.map Prod.fst).Nodup
  ex : ∃ F : Nat → Nat → Prop, (∀ i (hi : i < ps.length), PageAt w (F i) ps[i].1 ps[i].2) ∧ (∀ i j b, i < ps.length → j < ps.length → i ≠ j → F i b → ¬ F j b) ∧ (∀ i b, i < ps.length → F i b → B ≤ b) ∧ (∀ i v, i < ps.length → v ∈ vs → ¬ F i v.1)
section
variable {B : Nat} {w0 w w1 w2 : World} {vs : List (Nat × Obj)} {ps : List (Nat × PgS)}
theorem Stt.lt (h : Stt B w0 w vs ps) {v : Nat × Obj} (hv : v ∈ vs) : v.1 < w.heap.size := heap_in (h.var v hv)
theorem Stt.grow (h : Stt B w0 w vs ps) (hb : Below w.heap.size w w1) : Stt B w0 w1 vs ps := by
  obtain ⟨F, f1, f2, f3, f4⟩ := h.ex
  exact ⟨h.below.trans (hb.mono h.bw), Nat.le_trans h.bw hb.size, fun v hv => (hb.block _ (h.lt hv)).trans (h.var v hv), h.vge, h.key, F, fun i hi => (f1 i hi).grow hb, f2, f3, f4⟩
theorem Stt.nil (hb : Below B w0 w) (hB : B ≤ w.heap.size) : Stt B w0 w [] [] :=
  ⟨hb, hB, fun v hv => by simp at hv, fun v hv => by simp at hv, by simp, fun _ _ => False, fun i hi => absurd hi (by simp), fun i j b hi => absurd hi (by simp), fun i b hi => absurd hi (by simp), fun i v hi => absurd hi (by simp)⟩
/-- a variable comes -/
theorem Stt.add (h : Stt B w0 w vs ps) (hb : Below w.heap.size w w1) {H : Nat} {o : Obj} (hH : w1.heap[H]? = some o) (hge : w.heap.size ≤ H) : Stt B w0 w1 (vs ++ [(H, o)]) ps := by
  have h1 := h.grow hb
  obtain ⟨F, f1, f2, f3, f4⟩ := h.ex
  refine ⟨h1.below, h1.bw, fun v hv => ?_, fun v hv => ?_, ?_, F, fun i hi => (f1 i hi).grow hb, f2, f3, fun i v hi hv f => ?_⟩
  · rcases List.mem_append.1 hv with hv | hv
    · exact h1.var v hv
    · rw [List.mem_singleton.1 hv]; exact hH
  · rcases List.mem_append.1 hv with hv | hv
    · exact h.vge v hv
    · rw [List.mem_singleton.1 hv]; exact Nat.le_trans h.bw hge
  · rw [List.map_append, List.nodup_append]
    refine ⟨h.key, by simp, fun a ha b hb2 e => ?_⟩
    obtain ⟨v, hv, rfl⟩ := List.mem_map.1 ha
    simp only [List.map_cons, List.map_nil, List.mem_singleton] at hb2
    have := h.lt hv
    omega
  · rcases List.mem_append.1 hv with hv | hv
    · exact f4 i v hi hv f
    · rw [List.mem_singleton.1 hv] at f
      have := (f1 i hi).lt _ f
      simp only at this
      omega
/-- a page comes -/
theorem Stt.page {G : Nat → Prop} {q : Nat} {T : PgS} (h : Stt B w0 w vs ps) (hb : Below w.heap.size w w1) (hq : PageAt w1 G q T) (hG : ∀ b, G b → w.heap.size ≤ b) : Stt B w0 w1 vs (ps ++ [(q, T)]) := by
  have h1 := h.grow hb
  obtain ⟨F, f1, f2, f3, f4⟩ := h.ex
  have hL : (ps ++ [(q, T)]).length = ps.length + 1 := by simp
  refine ⟨h1.below, h1.bw, h1.var, h.vge, h.key, fun i => if i < ps.length then F i else G, fun i hi => ?_, fun i j b hi hj hne f g => ?_, fun i b hi f => ?_, fun i v hi hv f => ?_⟩
  · by_cases e : i < ps.length
    · simp only [if_pos e, List.getElem_append_left e]
      exact (f1 i e).grow hb
    · obtain rfl : i = ps.length := by omega
      simp only [if_neg e]
      simpa using hq
  · by_cases e : i < ps.length <;> by_cases e2 : j < ps.length
    · simp only [if_pos e, if_pos e2] at f g; exact f2 i j b e e2 hne f g
    · simp only [if_pos e, if_neg e2] at f g
      have := (f1 i e).lt b f; have := hG b g; omega
    · simp only [if_neg e, if_pos e2] at f g
      have := (f1 j e2).lt b g; have := hG b f; omega
    · omega
  · by_cases e : i < ps.length
    · simp only [if_pos e] at f; exact f3 i b e f
    · simp only [if_neg e] at f; exact Nat.le_trans h.bw (hG b f)
  · by_cases e : i < ps.length
    · simp only [if_pos e] at f; exact f4 i v e hv f
    · simp only [if_neg e] at f
      have := hG _ f; have := h.lt hv; omega
/-- page i, and the way back behind a deed -/
theorem Stt.get (h : Stt B w0 w vs ps) (i : Nat) (hi : i < ps.length) : ∃ F, PageAt w F ps[i].1 ps[i].2 ∧ ∀ w1 w2 T, Below w.heap.size w w1 → Did F ps[i].1 T w1 w2 → Stt B w0 w2 vs (ps.set i (ps[i].1, T)) := by
  obtain ⟨F, f1, f2, f3, f4⟩ := h.ex
  refine ⟨F i, f1 i hi, fun w1 w2 T hb hD => ?_⟩
  have h1 := h.grow hb
  have hs := hD.1.size
  have hL : (ps.set i (ps[i].1, T)).length = ps.length := by simp
  have hfar : ∀ j b, j < ps.length → j ≠ i → F j b → ¬ more (F i) w1 w2 b := fun j b hj hne f g => by
    rcases g with g | g
    · exact f2 j i b hj hi hne f g
    · have := ((f1 j hj).grow hb).lt b f; omega
  refine ⟨h1.below.trans (hD.1.below (B := B) (fun b f => f3 i b hi f) h1.bw), Nat.le_trans h1.bw hs, fun v hv => (hD.1.block _ (h1.lt hv) (f4 i v hi hv)).trans (h1.var v hv), h.vge, h.key, fun j => if j = i then more (F i) w1 w2 else F j, fun j hj => ?_, fun j k b hj hk hne f g => ?_, fun j b hj f => ?_, fun j v hj hv f => ?_⟩
  · rw [hL] at hj
    by_cases e : j = i
    · subst e
      simp only [if_true, List.getElem_set_self]
      exact hD.2
    · simp only [if_neg e, List.getElem_set_ne (fun q => e q.symm)]
      exact ((f1 j hj).grow hb).keep hD.1 (fun b f g => f2 j i b hj hi e f g)
  · rw [hL] at hj hk
    by_cases e : j = i <;> by_cases e2 : k = i
    · omega
    · simp only [if_pos e, if_neg e2] at f g; exact hfar k b hk e2 g f
    · simp only [if_neg e, if_pos e2] at f g; exact hfar j b hj e f g
    · simp only [if_neg e, if_neg e2] at f g; exact f2 j k b hj hk hne f g
  · rw [hL] at hj
    by_cases e : j = i
    · simp only [if_pos e] at f
      rcases f with f | f
      · exact f3 i b hi f
      · have := h1.bw; omega
    · simp only [if_neg e] at f; exact f3 j b hj f
  · rw [hL] at hj
    by_cases e : j = i
    · simp only [if_pos e] at f
      rcases f with f | f
      · exact f4 i v hi hv f
      · have := h1.lt hv; omega
    · simp only [if_neg e] at f; exact f4 j v hj hv f
/-- the last variable is stored whole -/
theorem Stt.putL {H : Nat} {o o' : Obj} (h : Stt B w0 w (vs ++ [(H, o)]) ps) (hk : Keep (· = H) w w1) (hH : w1.heap[H]? = some o') : Stt B w0 w1 (vs ++ [(H, o')]) ps := by
  obtain ⟨F, f1, f2, f3, f4⟩ := h.ex
  have hm : (H, o) ∈ vs ++ [(H, o)] := by simp
  have hne : ∀ v ∈ vs, v.1 ≠ H := fun v hv e => by
    have hk2 := h.key
    rw [List.map_append, List.nodup_append] at hk2
    exact hk2.2.2 v.1 (List.mem_map_of_mem hv) H (by simp) e
  refine ⟨h.below.trans (hk.below (B := B) (fun b e => by have := h.vge _ hm; simp only at this; omega) h.bw), Nat.le_trans h.bw hk.size, fun v hv => ?_, fun v hv => ?_, by simpa using h.key, F, fun i hi => (f1 i hi).keep hk (fun b f e => f4 i _ hi hm (by simpa [← e] using f)), f2, f3, fun i v hi hv f => ?_⟩
  · rcases List.mem_append.1 hv with hv2 | hv2
    · exact (hk.block _ (h.lt (List.mem_append_left _ hv2)) (hne v hv2)).trans (h.var v (List.mem_append_left _ hv2))
    · rw [List.mem_singleton.1 hv2]; exact hH
  · rcases List.mem_append.1 hv with hv2 | hv2
    · exact h.vge v (List.mem_append_left _ hv2)
    · rw [List.mem_singleton.1 hv2]; exact h.vge (H, o) hm
  · rcases List.mem_append.1 hv with hv2 | hv2
    · exact f4 i v hi (List.mem_append_left _ hv2) f
    · rw [List.mem_singleton.1 hv2] at f
      exact f4 i _ hi hm f
/-- fewer variables, in another order -/
theorem Stt.sub {vs' : List (Nat × Obj)} (h : Stt B w0 w vs ps) (hs : ∀ v ∈ vs', v ∈ vs) (hk : (vs'.map Prod.fst).Nodup) : Stt B w0 w vs' ps := by
  obtain ⟨F, f1, f2, f3, f4⟩ := h.ex
  exact ⟨h.below, h.bw, fun v hv => h.var v (hs v hv), fun v hv => h.vge v (hs v hv), hk, F, f1, f2, f3, fun i v hi hv => f4 i v hi (hs v hv)⟩
theorem Stt.rng (h : Stt B w0 w vs ps) {H : Nat} {arr : Array Value} {t : TypeId} {fr : Nat × Nat} (hv : (H, Obj.cells arr t fr) ∈ vs) (o : Nat) (cs : List Value) (e : (arr.toList.drop o).take cs.length = cs) : w.rangeAt H o cs := range_blk (h.var _ hv) o cs e
/-- .. and what became of a store -/
theorem wp_store_all {P : Program} {op : Oper} {a : Act} {w : World} {K : Act → World → Prop} {Q : Exit → Act → World → Prop} (ty : TypeId) (x y : Operand) (ho : op.op = .store ty x y) (b : Nat) (cs : List Value) (hx : a.eval x = .pointer (some ⟨b, 0, none⟩)) (hy : a.eval y = .agg cs.toArray)
    {cur : Array Value} {t : TypeId} (hb : w.heap[b]? = some (.cells cur t (0, 0))) (hs : cur.size = cs.length) (hi : (P.info? ty).map (·.size) = some cs.toArray.size) (h1 : cs.all (·.oneCell') = true)
    (h : ∀ w', Keep (· = b) w w' → w'.heap[b]? = some (.cells cs.toArray t (0, 0)) → K (a.put op.dst undef) w') : op.wp P a w K Q := by
  obtain ⟨W', e, k, c⟩ := store_all hb cs hs
  refine wp_store_mid ty x y ho b 0 cs.toArray hx hy (there_blk hb (by simp; omega)) hi (all_one cs h1) ?_
  rw [List.toList_toArray, e]
  exact h W' k c
end
end Go.Proofs.Ytdfiknemfpkdmaa
/- A region that draws its order (XRegionF): three operations may come up. -/
namespace Go.Proofs.Ytdfiknemfpkdmaa
open Go.RowKit

section
variable {P : Program} {Q : Exit → Act → World → Prop} {md : Region.Mode} {S : World → Prop} {z : Nat} {l : List Oper} {listed : List Bool} {a : Act} {w : World} {fuel : Nat}
/-- number i or number j may come up; S anew behind it -/
theorem AtF.either (i j : Nat) {oi oj : Oper} (hi : l[i]? = some oi) (hj : l[j]? = some oj) (hc : (decide (i < z) && decide (j < z) && decide (Region.ready md l.toArray listed.toArray = [i, j])) = true)
    (h1 : ∀ K : Act → World → Prop, Shut (∀ a w, S w → (S w → AtF P md l Q S z fuel (listed.set i true) a w) → K a w) → if Region.wanted oi (yielded l.toArray a.tmps) = true then Oper.wp P oi a w K Q else K (a.put oi.dst undef) w)
    (h2 : ∀ K : Act → World → Prop, Shut (∀ a w, S w → (S w → AtF P md l Q S z fuel (listed.set j true) a w) → K a w) → if Region.wanted oj (yielded l.toArray a.tmps) = true then Oper.wp P oj a w K Q else K (a.put oj.dst undef) w) : AtF P md l Q S z (fuel + 1) listed a w := by
  intro inv
  simp only [Bool.and_eq_true, decide_eq_true_eq] at hc
  refine ⟨fun h0 => (by rw [h0] at hc; simp at hc), fun k hk => ?_⟩
  rw [hc.2] at hk
  simp only [List.mem_cons, List.not_mem_nil, or_false] at hk
  have hr : i ∈ Region.ready md l.toArray listed.toArray ∧ j ∈ Region.ready md l.toArray listed.toArray := by rw [hc.2]; simp
  rcases hk with rfl | rfl
  · have hi' : l.toArray[k]? = some oi := by simpa using hi
    refine wpOp_step hi' (fun K hK => h1 K ?_)
    intro a' w' hS' hA
    refine hK a' w' ⟨fun _ => hS', ?_⟩
    have := hA hS' (by have := inv.set hr.1 hc.1.1; simpa using this)
    simpa using this
  · have hj' : l.toArray[k]? = some oj := by simpa using hj
    refine wpOp_step hj' (fun K hK => h2 K ?_)
    intro a' w' hS' hA
    refine hK a' w' ⟨fun _ => hS', ?_⟩
    have := hA hS' (by have := inv.set hr.2 hc.1.2; simpa using this)
    simpa using this
theorem AtF.three (i j m : Nat) {oi oj om : Oper} (hi : l[i]? = some oi) (hj : l[j]? = some oj) (hm : l[m]? = some om) (hc : (decide (i < z) && decide (j < z) && decide (m < z) && decide (Region.ready md l.toArray listed.toArray = [i, j, m])) = true)
    (h1 : ∀ K : Act → World → Prop, Shut (∀ a w, S w → (S w → AtF P md l Q S z fuel (listed.set i true) a w) → K a w) → if Region.wanted oi (yielded l.toArray a.tmps) = true then Oper.wp P oi a w K Q else K (a.put oi.dst undef) w)
    (h2 : ∀ K : Act → World → Prop, Shut (∀ a w, S w → (S w → AtF P md l Q S z fuel (listed.set j true) a w) → K a w) → if Region.wanted oj (yielded l.toArray a.tmps) = true then Oper.wp P oj a w K Q else K (a.put oj.dst undef) w)
    (h3 : ∀ K : Act → World → Prop, Shut (∀ a w, S w → (S w → AtF P md l Q S z fuel (listed.set m true) a w) → K a w) → if Region.wanted om (yielded l.toArray a.tmps) = true then Oper.wp P om a w K Q else K (a.put om.dst undef) w) : AtF P md l Q S z (fuel + 1) listed a w := by
  intro inv
  simp only [Bool.and_eq_true, decide_eq_true_eq] at hc
  refine ⟨fun h0 => (by rw [h0] at hc; simp at hc), fun k hk => ?_⟩
  rw [hc.2] at hk
  simp only [List.mem_cons, List.not_mem_nil, or_false] at hk
  have hr : i ∈ Region.ready md l.toArray listed.toArray ∧ j ∈ Region.ready md l.toArray listed.toArray ∧ m ∈ Region.ready md l.toArray listed.toArray := by rw [hc.2]; simp
  rcases hk with rfl | rfl | rfl
  · have hi' : l.toArray[k]? = some oi := by simpa using hi
    refine wpOp_step hi' (fun K hK => h1 K ?_)
    intro a' w' hS' hA
    refine hK a' w' ⟨fun _ => hS', ?_⟩
    have := hA hS' (by have := inv.set hr.1 hc.1.1.1; simpa using this)
    simpa using this
  · have hj' : l.toArray[k]? = some oj := by simpa using hj
    refine wpOp_step hj' (fun K hK => h2 K ?_)
    intro a' w' hS' hA
    refine hK a' w' ⟨fun _ => hS', ?_⟩
    have := hA hS' (by have := inv.set hr.2.1 hc.1.1.2; simpa using this)
    simpa using this
  · have hm' : l.toArray[k]? = some om := by simpa using hm
    refine wpOp_step hm' (fun K hK => h3 K ?_)
    intro a' w' hS' hA
    refine hK a' w' ⟨fun _ => hS', ?_⟩
    have := hA hS' (by have := inv.set hr.2.2 hc.1.2; simpa using this)
    simpa using this
end
end Go.Proofs.Ytdfiknemfpkdmaa
