/- A region that draws its order: the first n operations read, or call what leaves all that was there alone, in whatever order; some pure ones behind them are taken first; the others come one by one. -/
import Derived.Test.YtdlngbmgcedbpaaLib
namespace Go.Proofs.Ytdlngbmgcedbpaa
open Go.RowKit

section
variable {P : Program} {ops : Array Oper} {md : Region.Mode} {C : World → Prop}
/-- each of the first n operations but the last one is waited for by a later one of them -/
def sinkD (md : Region.Mode) (ops : Array Oper) (n : Nat) : Bool :=
  (List.range (n - 1)).all fun i => (List.range n).any fun j => decide (i < j) && Region.waitsFor md ops j i
/-- each operation from n on waits for one from n - 1 on, ahead of it -/
def chainD (md : Region.Mode) (ops : Array Oper) (n : Nat) : Bool :=
  decide (0 < n) && (List.range ops.size).all fun t => decide (t < n) || (List.range t).any fun j => decide (n ≤ j + 1) && Region.waitsFor md ops t j
def lexD (md : Region.Mode) (ops : Array Oper) (B : Array Bool → Bool) : Nat → Nat → Array Bool → Bool
  | 0, _, listed => B listed
  | f + 1, k, listed => (Region.ready md ops listed).contains k && Region.free md ops listed k && lexD md ops B f (k + 1) (listed.setIfInBounds k true)

theorem last_unlisted {n : Nat} {listed : Array Bool} (hs : sinkD md ops n = true) (hn : n ≤ ops.size) (inv : HeadInv md ops n listed) :
    ∀ (d i : Nat), n - i = d → i < n → listed.getD i true = false → listed.getD (n - 1) true = false := by
  intro d
  induction d using Nat.strongRecOn with
  | _ d ih =>
    intro i hd hi hun
    by_cases hl : i = n - 1
    · rw [← hl]; exact hun
    · have h1 := List.all_eq_true.1 hs i (List.mem_range.2 (by omega))
      obtain ⟨j, hj, hj2⟩ := List.any_eq_true.1 h1
      simp only [Bool.and_eq_true, decide_eq_true_eq] at hj2
      obtain ⟨oj, hoj, e, he, hb, hon⟩ := Region.waitsFor_spec hj2.2
      have hjn : j < n := List.mem_range.1 hj
      cases hlj : listed.getD j false with
      | true =>
        have h2 := inv.closed j oj hoj hlj e he hb
        rw [hon, getD_both hun] at h2
        cases h2
      | false =>
        have hjs : j < listed.size := by rw [inv.size]; omega
        exact ih (n - j) (by omega) j rfl hjn (getD_in hjs hlj)

theorem tail_waitsD {n : Nat} {listed : Array Bool} (hs : sinkD md ops n = true) (hc : chainD md ops n = true) (hn : n < ops.size) (inv : HeadInv md ops n listed) :
    ∀ (d i : Nat), n - i = d → i < n → listed.getD i true = false → ∀ t, n ≤ t → t ∉ Region.ready md ops listed := by
  intro d i hd hi hun t ht hr
  have hlast := last_unlisted hs (Nat.le_of_lt hn) inv d i hd hi hun
  obtain ⟨_, ot, hot, hall⟩ := mem_ready.1 hr
  have htlt : t < ops.size := (Array.getElem?_eq_some_iff.1 hot).1
  simp only [chainD, Bool.and_eq_true, decide_eq_true_eq] at hc
  have h1 := List.all_eq_true.1 hc.2 t (List.mem_range.2 htlt)
  simp only [Bool.or_eq_true, decide_eq_true_eq] at h1
  rcases h1 with h1 | h1
  · omega
  · obtain ⟨j, hj, hj2⟩ := List.any_eq_true.1 h1
    simp only [Bool.and_eq_true, decide_eq_true_eq] at hj2
    obtain ⟨o', ho', e, he, hb, hon⟩ := Region.waitsFor_spec hj2.2
    have : o' = ot := Option.some.inj (ho'.symm.trans hot)
    subst this
    have h2 := hall e he hb
    have hjt : j < t := List.mem_range.1 hj
    have hju : listed.getD j true = false := by
      by_cases hjn : j = n - 1
      · rw [hjn]; exact hlast
      · exact inv.tail j (by omega) (by omega)
    rw [hon, getD_both hju] at h2
    cases h2

theorem anyLD_first {n i : Nat} {oi : Oper} {v : Value} {L : Array Bool → Act → Prop} (hi : ops[i]? = some oi) (hsel : ∀ (j : Nat) (o : Oper) cs b, ops[j]? = some o → o.op ≠ .select cs b)
    (hs : sinkD md ops n = true) (hc : chainD md ops n = true) (hn : n < ops.size) (hin : i < n)
    (hdone : ∀ listed a, L listed a → ∀ j ∈ Region.ready md ops listed, n ≤ j) :
    ∀ (f : Nat) (listed : Array Bool) (a : Act), HeadInv md ops n listed →
      (∀ j oj, ops[j]? = some oj → j ≠ i → listed.getD j true = false → (∀ e ∈ oj.after, Region.binds md e = true → e.on ≠ i) → oi.apart ops oj = true) →
      i ∈ Region.ready md ops listed → YieldsIn P ops C oi v a →
      anyLQ P md ops C n L f (listed.setIfInBounds i true) (a.put oi.dst v) → anyLQ P md ops C n L (f + 1) listed a := by
  intro f
  induction f with
  | zero =>
    intro listed a inv _ hr hy H
    have hun := (mem_ready.1 hr).1
    refine ⟨fun h => (by rw [h] at hr; cases hr), fun j hj => ?_⟩
    have hjn : j < n := by
      rcases Nat.lt_or_ge j n with h | h
      · exact h
      · exact absurd hj (tail_waitsD hs hc hn inv _ i rfl hin hun j h)
    refine ⟨hjn, ?_⟩
    by_cases hji : j = i
    · subst hji; exact hy.qOp hi H
    · have := hdone _ _ H j (ready_mono hj hji)
      omega
  | succ f ih =>
    intro listed a inv hfree hr hy H
    have hun := (mem_ready.1 hr).1
    refine ⟨fun h => (by rw [h] at hr; cases hr), fun j hj => ?_⟩
    have hjn : j < n := by
      rcases Nat.lt_or_ge j n with h | h
      · exact h
      · exact absurd hj (tail_waitsD hs hc hn inv _ i rfl hin hun j h)
    refine ⟨hjn, ?_⟩
    by_cases hji : j = i
    · subst hji; exact hy.qOp hi H
    · have h1 := (H.2 j (ready_mono hj hji)).2
      obtain ⟨hjun, oj, hoj, hall⟩ := mem_ready.1 hj
      have hnot : ∀ e ∈ oj.after, Region.binds md e = true → e.on ≠ i := fun e he hb heq => by
        have h1 := hall e he hb
        rw [heq, getD_both hun] at h1
        cases h1
      have h2 := qOp_put hoj (hfree j oj hoj hji hjun hnot) (fun cs b => hsel i oi cs b hi) (fun cs b => hsel j oj cs b hoj) hy h1
      have hfree' : ∀ k ok, ops[k]? = some ok → k ≠ i → (listed.setIfInBounds j true).getD k true = false →
          (∀ e ∈ ok.after, Region.binds md e = true → e.on ≠ i) → oi.apart ops ok = true := fun k ok hk hki hun hno => by
        refine hfree k ok hk hki ?_ hno
        by_cases hjk : j = k
        · subst hjk; exact hjun
        · rw [getD_set_ne true hjk] at hun; exact hun
      refine qOp_mono (fun a' h3 => ih (listed.setIfInBounds j true) a' (inv.set hj hjn) hfree' (ready_mono hr (Ne.symm hji)) h3.1 ?_) h2
      rw [Array.setIfInBounds_comm _ _ hji]
      exact h3.2

theorem anyLD_lex {n : Nat} {B : Array Bool → Bool} {Lq : Act → Prop} (hBr : ∀ listed, B listed = true → ∀ j ∈ Region.ready md ops listed, n ≤ j) (hsel : Region.noSelect ops = true) (hs : sinkD md ops n = true) (hc : chainD md ops n = true) (hn : n < ops.size) :
    ∀ (l : List Oper) (k : Nat) (listed : Array Bool) (a : Act), (∀ j, j < l.length → l[j]? = ops[k + j]?) → k + l.length = n → HeadInv md ops n listed →
    lexD md ops B l.length k listed = true → wpQuiet P ops C Lq l a →
    anyLQ P md ops C n (fun listed' a' => B listed' = true ∧ Lq a') l.length listed a
  | [], k, listed, a, _, hk, _, hB, h => by
    have : k = n := by simpa using hk
    subst this
    exact ⟨by simpa [lexD] using hB, h⟩
  | o :: l, k, listed, a, hl, hk, inv, hB, h => by
    have h0 : ops[k]? = some o := by simpa using (hl 0 (by simp)).symm
    simp only [List.length_cons, lexD, Bool.and_eq_true] at hB
    obtain ⟨⟨hr, hf⟩, hB'⟩ := hB
    have hkn : k < n := by simp only [List.length_cons] at hk; omega
    have hr' : k ∈ Region.ready md ops listed := by simpa using hr
    have hst : qOp P ops C k (wpQuiet P ops C Lq l) a := by unfold qOp; simp only [h0]; exact h
    obtain ⟨v, hy, hK⟩ := yieldsIn_of_qOp h0 hst
    exact anyLD_first h0 (Region.noSelect_spec hsel) hs hc hn hkn (fun listed' a' hL => hBr listed' hL.1) l.length listed a inv (Region.free_spec h0 hf) hr' hy
      (anyLD_lex hBr hsel hs hc hn l (k + 1) _ _ (fun j hj => by have := hl (j + 1) (by simp; omega); simpa [Nat.add_assoc, Nat.add_comm 1 j] using this) (by simp only [List.length_cons] at hk; omega) (inv.set hr' hkn) hB' hK)

/-- behind the head: pure operations, each taken first -/
def isExtract (ops : Array Oper) (k : Nat) : Bool :=
  match ops[k]? with
  | some o => match o.op, o.dst with
    | .extract _ _, some _ => true
    | _, _ => false
  | none => false
def takeB (ops : Array Oper) (g : Nat) : Nat → Nat → Array Bool → Bool
  | 0, k, listed => Region.seqB .any ops g k listed
  | f + 1, k, listed => isExtract ops k && (Region.ready .any ops listed).contains k && Region.free .any ops listed k && takeB ops g f (k + 1) (listed.setIfInBounds k true)
def onlyFrom (ops : Array Oper) (n : Nat) (listed : Array Bool) : Bool := (Region.ready .any ops listed).all fun j => decide (n ≤ j)
def lexMid (ops : Array Oper) (n m : Nat) : Bool :=
  Region.noSelect ops && decide (n < ops.size) && decide (n ≤ m) && decide (m ≤ ops.size) && sinkD .any ops n && chainD .any ops n &&
    lexD .any ops (fun listed => onlyFrom ops n listed && takeB ops (ops.size - m) (m - n) n listed) n 0 (Array.replicate ops.size false)

theorem any_take {Q : Exit → Act → World → Prop} {g m : Nat} (hsel : Region.noSelect ops = true) (hQ : ∀ c (d : Tmp) v a w, Q (.panic c) (a.put (some d) v) w → Q (.panic c) a w) (tl : List Oper) (htl : ∀ j, tl[j]? = ops[m + j]?) (hg : tl.length = g) :
    ∀ (l : List Oper) (k : Nat) (listed : Array Bool) (a : Act) (w : World), (∀ j, j < l.length → l[j]? = ops[k + j]?) → k + l.length = m → takeB ops g l.length k listed = true →
      wpQuiet P ops (fun _ => True) (fun a' => wpList P ops Q tl a' w) l a → wpAny P .any ops Q (l.length + g) listed a w
  | [], k, listed, a, w, _, hk, hB, h => by
    have hkm : k = m := by simpa using hk
    subst hkm
    have := wpAny_of_seq (md := .any) (Q' := Q) tl k listed a w htl (by rw [hg]; exact hB) h
    simpa [hg] using this
  | o :: l, k, listed, a, w, hl, hk, hB, h => by
    have h0 : ops[k]? = some o := by simpa using (hl 0 (by simp)).symm
    simp only [List.length_cons, takeB, Bool.and_eq_true] at hB
    obtain ⟨⟨⟨hx, hr⟩, hf⟩, hB'⟩ := hB
    have hst : qOp P ops (fun _ => True) k (wpQuiet P ops (fun _ => True) (fun a' => wpList P ops Q tl a' w) l) a := by unfold qOp; simp only [h0]; exact h
    obtain ⟨v, hy, hK⟩ := yieldsIn_of_qOp h0 hst
    obtain ⟨d, hd⟩ : ∃ d, o.dst = some d := by
      simp only [isExtract, h0] at hx
      split at hx
      · rename_i hd; exact ⟨_, hd⟩
      · cases hx
    have hY : Yields P ops o v a := by
      rcases hy with ⟨hw, hv⟩ | ⟨hw, e⟩
      · refine .inl ⟨hw, fun w' => ?_⟩
        have hq := hv w' trivial
        simp only [isExtract, h0] at hx
        unfold Oper.quietAt execOp at hq
        unfold execOp
        split at hx
        · rename_i x i _ ho _
          simp only [ho, Sem.run_bind] at hq ⊢
          generalize (Instr.extract _ _).run P w' = r at hq ⊢
          cases r with
          | ok u w'' =>
            simp only [Result.andThen_ok, Sem.run_pure, Oper.quietUpon] at hq ⊢
            obtain ⟨e1, e2⟩ := hq
            subst e1 e2
            rfl
          | halt e w'' => simp [Result.andThen, Oper.quietUpon] at hq
        · cases hx
      · exact .inr ⟨hw, e⟩
    rw [show (o :: l).length + g = (l.length + g) + 1 by simp; omega]
    exact wpAny_take (v := v) h0 hsel hf hr (fun c a w => by rw [hd]; exact hQ c d v a w) hY
      (any_take hsel hQ tl htl hg l (k + 1) _ _ w (fun j hj => by have := hl (j + 1) (by simp; omega); simpa [Nat.add_assoc, Nat.add_comm 1 j] using this) (by simp only [List.length_cons] at hk; omega) hB' hK)

theorem wp_region_mid {id : Nat} {Q : Exit → Act → World → Prop} {a : Act} {w : World} {l : List Oper} (n m : Nat) (hm : P.follows .mixedOrders = true) (hB : lexMid l.toArray n m = true)
    (hQ : ∀ c (d : Tmp) v a w, Q (.panic c) (a.put (some d) v) w → Q (.panic c) a w)
    (h : wpQuiet P l.toArray (fun w' => ∃ x, w' = ext w x) (fun a' => ∀ w', (∃ x, w' = ext w x) → wpQuiet P l.toArray (fun _ => True) (fun a'' => wpList P l.toArray Q (l.drop m) a'' w') ((l.drop n).take (m - n)) a') (l.take n) a) : (Code.region id l.toArray true).wp P Q a w := by
  simp only [lexMid, Bool.and_eq_true, decide_eq_true_eq] at hB
  obtain ⟨⟨⟨⟨⟨⟨hsel, hn⟩, hnm⟩, hms⟩, hs⟩, hc⟩, hlex⟩ := hB
  have hn' : n < l.length := by simpa using hn
  have hm' : m ≤ l.length := by simpa using hms
  have htl : (l.take n).length = n := by simp; omega
  have hdl : (l.drop m).length = l.toArray.size - m := by simp
  have hml : ((l.drop n).take (m - n)).length = m - n := by simp; omega
  have inv0 : HeadInv .any l.toArray n (Array.replicate l.toArray.size false) :=
    ⟨by simp, fun j oj _ hl => (by rw [getD_replicate_false] at hl; cases hl), fun t _ ht => getD_in (by simpa using ht) (getD_replicate_false _ _)⟩
  have H := anyLD_lex (C := fun w' => ∃ x, w' = ext w x) (md := .any) (B := fun listed => onlyFrom l.toArray n listed && takeB l.toArray (l.toArray.size - m) (m - n) n listed) (fun listed hb j hj => by
      simp only [Bool.and_eq_true] at hb
      have := List.all_eq_true.1 hb.1 j hj
      simpa using this) hsel hs hc hn (l.take n) 0 _ a (fun j hj => by
    have hj' : j < n := by rw [htl] at hj; exact hj
    simp [hj']) (by simpa using htl) inv0 (by rw [htl]; exact hlex) h
  refine wp_region_any hm ?_
  have := any_of_headQ (C := fun w' => ∃ x, w' = ext w x) (Q' := Q) (g := m - n + (l.toArray.size - m)) (fun listed a' w' hw' hL => by
    have hb := hL.1
    simp only [Bool.and_eq_true] at hb
    have := any_take (P := P) (ops := l.toArray) (Q := Q) (g := l.toArray.size - m) (m := m) hsel hQ (l.drop m) (fun j => by simp [List.getElem?_drop]) hdl ((l.drop n).take (m - n)) n listed a' w' (fun j hj => by
      rw [hml] at hj
      simp [List.getElem?_take, List.getElem?_drop, hj]) (by rw [hml]; omega) (by rw [hml]; exact hb.2) (hL.2 w' hw')
    rwa [hml] at this) _ _ _ { w with drawn := w.drawn + 1 } ⟨⟨#[], w.drawn + 1⟩, by simp [ext]⟩ H
  rw [htl, show n + (m - n + (l.toArray.size - m)) = l.toArray.size by omega] at this
  exact this
end
end Go.Proofs.Ytdlngbmgcedbpaa
