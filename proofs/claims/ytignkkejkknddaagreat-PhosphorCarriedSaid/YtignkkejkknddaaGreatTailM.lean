/- A region that draws its order: its first operation is pure and may float; the next ones read, or call what leaves all that was there alone; the others come behind them, one by one. -/
import Derived.Test.YtignkkejkknddaaGreatLib
namespace Go.Proofs.YtignkkejkknddaaGreat
open Go.RowKit

section
variable {P : Program} {ops : Array Oper} {md : Region.Mode} {C : World → Prop}
def sinkM (md : Region.Mode) (ops : Array Oper) (m n : Nat) : Bool :=
  (List.range n).all fun i => decide (i < m) || (List.range (n + 1)).any fun j => decide (i < j) && Region.waitsFor md ops j i

theorem tail_waitsM {m n : Nat} {listed : Array Bool} (hs : sinkM md ops m n = true) (hc : Region.chainB md ops n = true) (hn : n < ops.size) (inv : HeadInv md ops n listed) :
    ∀ (d i : Nat), n - i = d → m ≤ i → i < n → listed.getD i true = false → ∀ t, n ≤ t → t ∉ Region.ready md ops listed := by
  intro d
  induction d using Nat.strongRecOn with
  | _ d ih =>
    intro i hd hmi hi hun t ht hr
    obtain ⟨_, ot, hot, hall⟩ := mem_ready.1 hr
    have htlt : t < ops.size := (Array.getElem?_eq_some_iff.1 hot).1
    by_cases htn : t = n
    · subst htn
      have h1 := List.all_eq_true.1 hs i (List.mem_range.2 hi)
      simp only [Bool.or_eq_true, decide_eq_true_eq] at h1
      rcases h1 with h1 | h1
      · omega
      obtain ⟨j, hj, hj2⟩ := List.any_eq_true.1 h1
      simp only [Bool.and_eq_true, decide_eq_true_eq] at hj2
      obtain ⟨oj, hoj, e, he, hb, hon⟩ := Region.waitsFor_spec hj2.2
      have hjle : j ≤ t := by have := List.mem_range.1 hj; omega
      by_cases hjt : j = t
      · subst hjt
        have : oj = ot := Option.some.inj (hoj.symm.trans hot)
        subst this
        have h2 := hall e he hb
        rw [hon, getD_both hun] at h2
        cases h2
      · cases hl : listed.getD j false with
        | true =>
          have h2 := inv.closed j oj hoj hl e he hb
          rw [hon, getD_both hun] at h2
          cases h2
        | false =>
          have hjs : j < listed.size := by rw [inv.size]; omega
          exact ih (t - j) (by omega) j rfl (by omega) (by omega) (getD_in hjs hl) t (Nat.le_refl _) hr
    · have h1 := List.all_eq_true.1 hc t (List.mem_range.2 htlt)
      simp only [Bool.or_eq_true, decide_eq_true_eq] at h1
      rcases h1 with h1 | h1
      · omega
      · obtain ⟨o', ho', e, he, hb, hon⟩ := Region.waitsFor_spec h1
        have : o' = ot := Option.some.inj (ho'.symm.trans hot)
        subst this
        have h2 := hall e he hb
        rw [hon, getD_both (inv.tail (t - 1) (by omega) (by omega))] at h2
        cases h2

theorem anyLM_first {m n i : Nat} {oi : Oper} {v : Value} {L : Array Bool → Act → Prop} (hi : ops[i]? = some oi) (hsel : ∀ (j : Nat) (o : Oper) cs b, ops[j]? = some o → o.op ≠ .select cs b)
    (hs : sinkM md ops m n = true) (hc : Region.chainB md ops n = true) (hn : n < ops.size) (hmi : m ≤ i) (hin : i < n)
    (hdone : ∀ listed a, L listed a → ∀ j ∈ Region.ready md ops listed, n ≤ j) :
    ∀ (f : Nat) (listed : Array Bool) (a : Act), HeadInv md ops n listed →
      (∀ j oj, ops[j]? = some oj → j ≠ i → listed.getD j true = false → (∀ e ∈ oj.after, Region.binds md e = true → e.on ≠ i) → oi.apart ops oj = true) →
      i ∈ Region.ready md ops listed → YieldsIn P ops C oi v a →
      anyLQ P md ops C n L f (listed.setIfInBounds i true) (a.put oi.dst v) → anyLQ P md ops C n L (f + 1) listed a := by
  intro f
  induction f with
  | zero =>
    intro listed a inv _ hr hy H
    have hun := (mem_ready.1 hr).1
    refine ⟨fun h => (by rw [h] at hr; cases hr), fun j hj => ?_⟩
    have hjn : j < n := by
      rcases Nat.lt_or_ge j n with h | h
      · exact h
      · exact absurd hj (tail_waitsM hs hc hn inv _ i rfl hmi hin hun j h)
    refine ⟨hjn, ?_⟩
    by_cases hji : j = i
    · subst hji; exact hy.qOp hi H
    · have := hdone _ _ H j (ready_mono hj hji)
      omega
  | succ f ih =>
    intro listed a inv hfree hr hy H
    have hun := (mem_ready.1 hr).1
    refine ⟨fun h => (by rw [h] at hr; cases hr), fun j hj => ?_⟩
    have hjn : j < n := by
      rcases Nat.lt_or_ge j n with h | h
      · exact h
      · exact absurd hj (tail_waitsM hs hc hn inv _ i rfl hmi hin hun j h)
    refine ⟨hjn, ?_⟩
    by_cases hji : j = i
    · subst hji; exact hy.qOp hi H
    · have h1 := (H.2 j (ready_mono hj hji)).2
      obtain ⟨hjun, oj, hoj, hall⟩ := mem_ready.1 hj
      have hnot : ∀ e ∈ oj.after, Region.binds md e = true → e.on ≠ i := fun e he hb heq => by
        have h1 := hall e he hb
        rw [heq, getD_both hun] at h1
        cases h1
      have h2 := qOp_put hoj (hfree j oj hoj hji hjun hnot) (fun cs b => hsel i oi cs b hi) (fun cs b => hsel j oj cs b hoj) hy h1
      have hfree' : ∀ k ok, ops[k]? = some ok → k ≠ i → (listed.setIfInBounds j true).getD k true = false →
          (∀ e ∈ ok.after, Region.binds md e = true → e.on ≠ i) → oi.apart ops ok = true := fun k ok hk hki hun hno => by
        refine hfree k ok hk hki ?_ hno
        by_cases hjk : j = k
        · subst hjk; exact hjun
        · rw [getD_set_ne true hjk] at hun; exact hun
      refine qOp_mono (fun a' h3 => ih (listed.setIfInBounds j true) a' (inv.set hj hjn) hfree' (ready_mono hr (Ne.symm hji)) h3.1 ?_) h2
      rw [Array.setIfInBounds_comm _ _ hji]
      exact h3.2

theorem anyLM_lex {m n g : Nat} {Lq : Act → Prop} (hsel : Region.noSelect ops = true) (hs : sinkM md ops m n = true) (hc : Region.chainB md ops n = true) (hn : n < ops.size) :
    ∀ (l : List Oper) (k : Nat) (listed : Array Bool) (a : Act), (∀ j, j < l.length → l[j]? = ops[k + j]?) → m ≤ k → k + l.length = n → HeadInv md ops n listed →
    Region.lexHead md ops g l.length k listed = true → wpQuiet P ops C Lq l a →
    anyLQ P md ops C n (fun listed' a' => Region.seqB md ops g n listed' = true ∧ Lq a') l.length listed a
  | [], k, listed, a, _, _, hk, _, hB, h => by
    have : k = n := by simpa using hk
    subst this
    exact ⟨by simpa [Region.lexHead] using hB, h⟩
  | o :: l, k, listed, a, hl, hmk, hk, inv, hB, h => by
    have h0 : ops[k]? = some o := by simpa using (hl 0 (by simp)).symm
    simp only [List.length_cons, Region.lexHead, Bool.and_eq_true] at hB
    obtain ⟨⟨hr, hf⟩, hB'⟩ := hB
    have hkn : k < n := by simp only [List.length_cons] at hk; omega
    have hr' : k ∈ Region.ready md ops listed := by simpa using hr
    have hst : qOp P ops C k (wpQuiet P ops C Lq l) a := by unfold qOp; simp only [h0]; exact h
    obtain ⟨v, hy, hK⟩ := yieldsIn_of_qOp h0 hst
    exact anyLM_first h0 (Region.noSelect_spec hsel) hs hc hn hmk hkn (fun listed' a' hL => seqB_ready hL.1) l.length listed a inv (Region.free_spec h0 hf) hr' hy
      (anyLM_lex hsel hs hc hn l (k + 1) _ _ (fun j hj => by have := hl (j + 1) (by simp; omega); simpa [Nat.add_assoc, Nat.add_comm 1 j] using this) (by omega) (by simp only [List.length_cons] at hk; omega) (inv.set hr' hkn) hB' hK)

/-- what is asked of the region's text: op 0 may be taken first; then as 'lexTailB', but for op 0 -/
def lexTail1 (ops : Array Oper) (n : Nat) : Bool :=
  Region.noSelect ops && decide (0 < n) && decide (n < ops.size) && sinkM .any ops 1 n && Region.chainB .any ops n && (Region.ready .any ops (Array.replicate ops.size false)).contains 0 &&
    Region.free .any ops (Array.replicate ops.size false) 0 && Region.lexHead .any ops (ops.size - n) (n - 1) 1 ((Array.replicate ops.size false).setIfInBounds 0 true)

theorem wp_region_tail1 {id : Nat} {Q : Exit → Act → World → Prop} {a : Act} {w : World} {o0 : Oper} {l : List Oper} (n : Nat) (hm : P.follows .mixedOrders = true) (hB : lexTail1 (o0 :: l).toArray n = true)
    (hQ : ∀ c v a w, Q (.panic c) (a.put o0.dst v) w → Q (.panic c) a w) (x : Operand) (ho : o0.op = .move x) (hg : o0.guard = none)
    (h0 : wpQuiet P (o0 :: l).toArray (fun w' => ∃ x, w' = ext w x) (fun a' => ∀ w', (∃ x, w' = ext w x) → wpList P (o0 :: l).toArray Q ((o0 :: l).drop n) a' w') (o0 :: l.take (n - 1)) a) : (Code.region id (o0 :: l).toArray true).wp P Q a w := by
  obtain ⟨v, hx, h⟩ : ∃ v, a.eval x = v ∧ wpQuiet P (o0 :: l).toArray (fun w' => ∃ x, w' = ext w x) (fun a' => ∀ w', (∃ x, w' = ext w x) → wpList P (o0 :: l).toArray Q ((o0 :: l).drop n) a' w') (l.take (n - 1)) (a.put o0.dst v) := by
    have hst : qOp P (o0 :: l).toArray (fun w' => ∃ x, w' = ext w x) 0 (wpQuiet P (o0 :: l).toArray (fun w' => ∃ x, w' = ext w x) (fun a' => ∀ w', (∃ x, w' = ext w x) → wpList P (o0 :: l).toArray Q ((o0 :: l).drop n) a' w') (l.take (n - 1))) a := by
      unfold qOp
      simp only [List.getElem?_toArray, List.getElem?_cons_zero]
      exact h0
    obtain ⟨v, hy, hK⟩ := yieldsIn_of_qOp (i := 0) (o := o0) (by simp) hst
    refine ⟨v, ?_, hK⟩
    rcases hy with ⟨hw, hv⟩ | ⟨hw, _⟩
    · have := hv (ext w ⟨#[], 0⟩) ⟨_, rfl⟩
      unfold Oper.quietAt execOp at this
      simp only [ho, Sem.run_pure, Oper.quietUpon] at this
      exact this.2
    · unfold Region.wanted at hw; rw [hg] at hw; cases hw
  clear h0
  simp only [lexTail1, Bool.and_eq_true, decide_eq_true_eq] at hB
  obtain ⟨⟨⟨⟨⟨⟨⟨hsel, h0n⟩, hn⟩, hs⟩, hc⟩, hr⟩, hf⟩, hlex⟩ := hB
  have hsz : (o0 :: l).toArray.size = l.length + 1 := by simp
  have hn' : n < l.length + 1 := by rw [hsz] at hn; exact hn
  have htl : (l.take (n - 1)).length = n - 1 := by simp; omega
  have hdl : ((o0 :: l).drop n).length = (o0 :: l).toArray.size - n := by simp
  have h00 : (o0 :: l).toArray[0]? = some o0 := by simp
  have hr0 : 0 ∈ Region.ready .any (o0 :: l).toArray (Array.replicate (o0 :: l).toArray.size false) := by simpa using hr
  have inv0 : HeadInv .any (o0 :: l).toArray n (Array.replicate (o0 :: l).toArray.size false) :=
    ⟨by simp, fun j oj _ hl => (by rw [getD_replicate_false] at hl; cases hl), fun t _ ht => getD_in (by simpa using ht) (getD_replicate_false _ _)⟩
  have inv1 := inv0.set hr0 h0n
  have H := anyLM_lex (C := fun w' => ∃ x, w' = ext w x) (md := .any) (g := (o0 :: l).toArray.size - n) hsel hs hc hn (l.take (n - 1)) 1 _ (a.put o0.dst v) (fun j hj => by
    have hj' : j < n - 1 := by rw [htl] at hj; exact hj
    rw [List.getElem?_take, if_pos hj', Nat.add_comm 1 j]
    simp) (by omega) (by rw [htl]; omega) inv1 (by rw [htl]; exact hlex) h
  refine wp_region_any hm ?_
  have K := any_of_headQ (C := fun w' => ∃ x, w' = ext w x) (Q' := Q) (g := (o0 :: l).toArray.size - n) (fun listed a' w' hw' hL => by
    have := wpAny_of_seq (md := .any) (Q' := Q) ((o0 :: l).drop n) n listed a' w' (fun j => by simp [List.getElem?_drop]) (by rw [hdl]; exact hL.1) (hL.2 w' hw')
    rwa [hdl] at this) _ _ _ { w with drawn := w.drawn + 1 } ⟨⟨#[], w.drawn + 1⟩, by simp [ext]⟩ H
  have e : (l.take (n - 1)).length + ((o0 :: l).toArray.size - n) = (o0 :: l).toArray.size - 1 := by rw [htl, hsz]; omega
  rw [e] at K
  have hy : Yields P (o0 :: l).toArray o0 v a := .inl ⟨by unfold Region.wanted; rw [hg], fun w => by unfold execOp; simp only [ho]; simp [hx, Sem.run_pure]⟩
  have T := wpAny_take (md := .any) (Q := Q) (v := v) (fuel := (o0 :: l).toArray.size - 1) h00 hsel hf hr (fun c a w => hQ c v a w) hy K
  rwa [Nat.sub_add_cancel (by omega)] at T
end
end Go.Proofs.YtignkkejkknddaaGreat
