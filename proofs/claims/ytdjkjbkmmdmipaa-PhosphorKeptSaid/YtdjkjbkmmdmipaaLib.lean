/- What this seat's proofs share, with no function of the program in sight: a world that has only grown, with the walk's rules for it; regions that draw their order and hold calls that make memory; a law's frame. -/
import Derived.Test.YtdjkjbkmmdmipaaProg
import Derived.Handy
import Derived.WalkSpells
import Derived.WalkLawsBesides
import Derived.StillTail
import Derived.Deep.QuietTactic
import Derived.BigQuiet
import Derived.Lib.Hide
import Derived.Lib.MinMax
import Derived.Deep.DeepCutAuto
namespace Go.Proofs.Ytdjkjbkmmdmipaa
open Go.RowKit

/-- New blocks behind the old ones, and some draws. -/
structure More where
  objs : Array Obj
  drawn : Nat
instance : Nonempty More := ⟨⟨#[], 0⟩⟩
def More.sz (x : More) : Nat := x.objs.size
def ext (w : World) (x : More) : World := { w with heap := w.heap ++ x.objs, drawn := x.drawn }

@[simp, go_sem] theorem size_ext (w : World) (x : More) : (ext w x).heap.size = w.heap.size + x.sz := by simp [ext, More.sz]
theorem block_ext (w : World) (x : More) {b : Nat} (h : b < w.heap.size) : (ext w x).heap[b]? = w.heap[b]? := by
  simp only [ext]
  rw [Array.getElem?_append_left h]
@[go_sem] theorem cell_ext (w : World) (x : More) (b i : Nat) (h : b < w.heap.size) : (ext w x).cell? ⟨b, i, none⟩ = w.cell? ⟨b, i, none⟩ := by
  simp only [World.cell?, block_ext w x h]
@[go_sem] theorem frozen_ext (w : World) (x : More) (b i : Nat) (h : b < w.heap.size) : (ext w x).frozen? ⟨b, i, none⟩ = w.frozen? ⟨b, i, none⟩ := by
  simp only [World.frozen?, block_ext w x h]
theorem ext_ext (w : World) (x y : More) : ext (ext w x) y = ext w ⟨x.objs ++ y.objs, y.drawn⟩ := by simp [ext]
theorem sz_mk (a b : Array Obj) (n : Nat) : (More.mk (a ++ b) n).sz = a.size + b.size := by simp [More.sz]
@[go_sem] theorem ext_drew (w : World) (x : More) : ext w.drew x = ext w x := rfl
@[go_sem] theorem ext_drewN (w : World) (x : More) (n : Nat) : ext (w.drewN n) x = ext w x := rfl
@[go_sem] theorem setCell_ext (w : World) (x : More) (b i : Nat) (v : Value) (h : b < w.heap.size) : (ext w x).setCell ⟨b, i, none⟩ v = ext (w.setCell ⟨b, i, none⟩ v) x := by
  simp only [ext, World.setCell]
  congr 1
  apply Array.ext_getElem?
  intro k
  simp only [Array.getElem?_modify]
  rcases Nat.lt_or_ge k w.heap.size with hk | hk
  · rw [Array.getElem?_append_left hk, Array.getElem?_append_left (by simpa using hk)]
    simp only [Array.getElem?_modify]
  · have hne : b ≠ k := by omega
    rw [if_neg hne, Array.getElem?_append_right hk, Array.getElem?_append_right (by simpa using hk)]
    simp

theorem below_ext {B : Nat} {a w : World} (h : Below B a w) (hB : B ≤ w.heap.size) (x : More) : Below B a (ext w x) :=
  h.trans ⟨rfl, rfl, rfl, by simp, fun _ hk => block_ext w x (by omega)⟩
theorem ext_of {w w' : World} (h : Below w.heap.size w w') : ∃ x, w' = ext w x := by
  refine ⟨⟨w'.heap.extract w.heap.size w'.heap.size, w'.drawn⟩, ?_⟩
  obtain ⟨h1, h2, h3, h4, h5⟩ := h
  cases w with | mk hp tp dr os out =>
  cases w' with | mk hp' tp' dr' os' out' =>
  simp only at h1 h2 h3 h4 h5
  subst h1 h2 h3
  simp only [ext]
  congr 1
  apply Array.ext_getElem?
  intro k
  rcases Nat.lt_or_ge k hp.size with hk | hk
  · rw [h5 k hk, Array.getElem?_append_left hk]
  · rw [Array.getElem?_append_right hk, Array.getElem?_extract]
    simp only [Nat.min_self]
    split
    · rw [Nat.add_sub_cancel' hk]
    · rw [Array.getElem?_eq_none (by omega)]
theorem below_of_ext (w : World) (x : More) : Below w.heap.size w (ext w x) := below_ext (Below.refl _ _) (Nat.le_refl _) x

/-- A call that returns 'v' and leaves all that was there alone. -/
def Gives (w : World) (v : Value) (e : Ending) (w' : World) : Prop := e = .returned v ∧ Below w.heap.size w w'
/-- A call that returns 'v' and leaves the world as it was. -/
def Same (w : World) (v : Value) (e : Ending) (w' : World) : Prop := e = .returned v ∧ w = w'
theorem Gives.get {w w' : World} {v : Value} {e : Ending} (h : Gives w v e w') : e = .returned v ∧ ∃ x, w' = ext w x := ⟨h.1, ext_of h.2⟩
theorem Same.gives {w w' : World} {v : Value} {e : Ending} (h : Same w v e w') : Gives w v e w' := ⟨h.1, by rw [← h.2]; exact Below.refl _ _⟩

theorem ret_int {k : IntKind} {a b : Int} (h : a = b) : Ending.returned (.int k a) = .returned (.int k b) := by rw [h]
theorem ret_bool {a b : Bool} (h : a = b) : Ending.returned (.bool a) = .returned (.bool b) := by rw [h]
theorem agg4_eq {k : IntKind} {a b c d a' b' c' d' : Int} (h1 : a = a') (h2 : b = b') (h3 : c = c') (h4 : d = d') : Value.agg #[.int k a, .int k b, .int k c, .int k d] = .agg #[.int k a', .int k b', .int k c', .int k d'] := by
  subst h1 h2 h3 h4; rfl
theorem agg2_eq {k : IntKind} {a b a' b' : Int} (h1 : a = a') (h2 : b = b') : Value.agg #[.int k a, .int k b] = .agg #[.int k a', .int k b'] := by
  subst h1 h2; rfl
theorem ret_of {a b : Value} (h : a = b) : Ending.returned a = .returned b := by rw [h]

/- sizes, as the walk asks them -/
section
variable (a b c d e f : Nat)
@[go_sem] theorem lt_s1 : (a < a + 1 + b) = True := by simp; omega
@[go_sem] theorem lt_s2 : (a < a + 1 + b + c) = True := by simp; omega
@[go_sem] theorem lt_s3 : (a < a + 1 + b + c + d) = True := by simp; omega
@[go_sem] theorem lt_s4 : (a < a + 1 + b + c + d + e) = True := by simp; omega
@[go_sem] theorem lt_s5 : (a < a + 1 + b + c + d + e + f) = True := by simp; omega
@[go_sem] theorem lt_t1 : (a < a + b + 1) = True := by simp; omega
@[go_sem] theorem lt_t2 : (a < a + b + 1 + c) = True := by simp; omega
@[go_sem] theorem lt_t3 : (a < a + b + 1 + c + d) = True := by simp; omega
@[go_sem] theorem lt_m1 (h : a < b) : (a < b + c) = True := by simp; omega
@[go_sem] theorem lt_m2 (h : a < b) : (a < b + c + d) = True := by simp; omega
@[go_sem] theorem lt_m3 (h : a < b) : (a < b + c + d + e) = True := by simp; omega
@[go_sem] theorem lt_m4 (h : a < b) : (a < b + c + d + e + f) = True := by simp; omega
@[go_sem] theorem le_s1 : (a ≤ a + b) = True := by simp
@[go_sem] theorem le_s2 : (a ≤ a + b + c) = True := by simp; omega
@[go_sem] theorem le_s3 : (a ≤ a + b + c + d) = True := by simp; omega
@[go_sem] theorem le_s4 : (a ≤ a + b + c + d + e) = True := by simp; omega
@[go_sem] theorem le_s5 : (a ≤ a + b + c + d + e + f) = True := by simp; omega
end

/- regions that draw their order: every operation reads, or calls what leaves all that was there alone -/
section
variable {P : Program} {ops : Array Oper} {md : Region.Mode} {C : World → Prop}

def anyLQ (P : Program) (md : Region.Mode) (ops : Array Oper) (C : World → Prop) (n : Nat) (L : Array Bool → Act → Prop) : Nat → Array Bool → Act → Prop
  | 0, listed, a => L listed a
  | f + 1, listed, a =>
    Region.ready md ops listed ≠ [] ∧ ∀ i ∈ Region.ready md ops listed, i < n ∧ qOp P ops C i (anyLQ P md ops C n L f (listed.setIfInBounds i true)) a

theorem any_of_headQ {n g : Nat} {L : Array Bool → Act → Prop} {Q' : Exit → Act → World → Prop} (hL : ∀ listed a w, C w → L listed a → wpAny P md ops Q' g listed a w) :
    ∀ (f : Nat) (listed : Array Bool) (a : Act) (w : World), C w → anyLQ P md ops C n L f listed a → wpAny P md ops Q' (f + g) listed a w
  | 0, listed, a, w, hw, h => by rw [Nat.zero_add]; exact hL _ _ _ hw h
  | f + 1, listed, a, w, hw, h => by
    rw [show f + 1 + g = (f + g) + 1 by omega]
    exact ⟨fun h0 => absurd h0 h.1, fun i hi => wpOp_of_qOp hw (fun a' w' hw' h' => any_of_headQ hL f _ a' w' hw' h') (h.2 i hi).2⟩

theorem anyLQ_first {n i : Nat} {oi : Oper} {v : Value} {L : Array Bool → Act → Prop} (hi : ops[i]? = some oi) (hsel : ∀ (j : Nat) (o : Oper) cs b, ops[j]? = some o → o.op ≠ .select cs b)
    (hs : Region.sinkB md ops n = true) (hc : Region.chainB md ops n = true) (hn : n < ops.size) (hin : i < n)
    (hdone : ∀ listed a, L listed a → ∀ j ∈ Region.ready md ops listed, n ≤ j) :
    ∀ (f : Nat) (listed : Array Bool) (a : Act), HeadInv md ops n listed →
      (∀ j oj, ops[j]? = some oj → j ≠ i → listed.getD j true = false → (∀ e ∈ oj.after, Region.binds md e = true → e.on ≠ i) → oi.apart ops oj = true) →
      i ∈ Region.ready md ops listed → YieldsIn P ops C oi v a →
      anyLQ P md ops C n L f (listed.setIfInBounds i true) (a.put oi.dst v) → anyLQ P md ops C n L (f + 1) listed a := by
  intro f
  induction f with
  | zero =>
    intro listed a inv _ hr hy H
    have hun := (mem_ready.1 hr).1
    refine ⟨fun h => (by rw [h] at hr; cases hr), fun j hj => ?_⟩
    have hjn : j < n := by
      rcases Nat.lt_or_ge j n with h | h
      · exact h
      · exact absurd hj (tail_waits hs hc hn inv _ i rfl hin hun j h)
    refine ⟨hjn, ?_⟩
    by_cases hji : j = i
    · subst hji; exact hy.qOp hi H
    · have := hdone _ _ H j (ready_mono hj hji)
      omega
  | succ f ih =>
    intro listed a inv hfree hr hy H
    have hun := (mem_ready.1 hr).1
    refine ⟨fun h => (by rw [h] at hr; cases hr), fun j hj => ?_⟩
    have hjn : j < n := by
      rcases Nat.lt_or_ge j n with h | h
      · exact h
      · exact absurd hj (tail_waits hs hc hn inv _ i rfl hin hun j h)
    refine ⟨hjn, ?_⟩
    by_cases hji : j = i
    · subst hji; exact hy.qOp hi H
    · have h1 := (H.2 j (ready_mono hj hji)).2
      obtain ⟨hjun, oj, hoj, hall⟩ := mem_ready.1 hj
      have hnot : ∀ e ∈ oj.after, Region.binds md e = true → e.on ≠ i := fun e he hb heq => by
        have h1 := hall e he hb
        rw [heq, getD_both hun] at h1
        cases h1
      have h2 := qOp_put hoj (hfree j oj hoj hji hjun hnot) (fun cs b => hsel i oi cs b hi) (fun cs b => hsel j oj cs b hoj) hy h1
      have hfree' : ∀ k ok, ops[k]? = some ok → k ≠ i → (listed.setIfInBounds j true).getD k true = false →
          (∀ e ∈ ok.after, Region.binds md e = true → e.on ≠ i) → oi.apart ops ok = true := fun k ok hk hki hun hno => by
        refine hfree k ok hk hki ?_ hno
        by_cases hjk : j = k
        · subst hjk; exact hjun
        · rw [getD_set_ne true hjk] at hun; exact hun
      refine qOp_mono (fun a' h3 => ih (listed.setIfInBounds j true) a' (inv.set hj hjn) hfree' (ready_mono hr (Ne.symm hji)) h3.1 ?_) h2
      rw [Array.setIfInBounds_comm _ _ hji]
      exact h3.2

theorem anyLQ_lex {n g : Nat} {Lq : Act → Prop} (hsel : Region.noSelect ops = true) (hs : Region.sinkB md ops n = true) (hc : Region.chainB md ops n = true) (hn : n < ops.size) :
    ∀ (l : List Oper) (k : Nat) (listed : Array Bool) (a : Act), (∀ j, j < l.length → l[j]? = ops[k + j]?) → k + l.length = n → HeadInv md ops n listed →
    Region.lexHead md ops g l.length k listed = true → wpQuiet P ops C Lq l a →
    anyLQ P md ops C n (fun listed' a' => Region.seqB md ops g n listed' = true ∧ Lq a') l.length listed a
  | [], k, listed, a, _, hk, _, hB, h => by
    have : k = n := by simpa using hk
    subst this
    exact ⟨by simpa [Region.lexHead] using hB, h⟩
  | o :: l, k, listed, a, hl, hk, inv, hB, h => by
    have h0 : ops[k]? = some o := by simpa using (hl 0 (by simp)).symm
    simp only [List.length_cons, Region.lexHead, Bool.and_eq_true] at hB
    obtain ⟨⟨hr, hf⟩, hB'⟩ := hB
    have hkn : k < n := by simp only [List.length_cons] at hk; omega
    have hr' : k ∈ Region.ready md ops listed := by simpa using hr
    have hst : qOp P ops C k (wpQuiet P ops C Lq l) a := by unfold qOp; simp only [h0]; exact h
    obtain ⟨v, hy, hK⟩ := yieldsIn_of_qOp h0 hst
    exact anyLQ_first h0 (Region.noSelect_spec hsel) hs hc hn hkn (fun listed' a' hL => seqB_ready hL.1) l.length listed a inv (Region.free_spec h0 hf) hr' hy
      (anyLQ_lex hsel hs hc hn l (k + 1) _ _ (fun j hj => by have := hl (j + 1) (by simp; omega); simpa [Nat.add_assoc, Nat.add_comm 1 j] using this) (by simp only [List.length_cons] at hk; omega) (inv.set hr' hkn) hB' hK)

/-- The region's first n operations in whatever order, the others behind them, one by one. -/
theorem wp_region_tail {id : Nat} {Q : Exit → Act → World → Prop} {a : Act} {w : World} {l : List Oper} (n : Nat) (hm : P.follows .mixedOrders = true) (hB : Region.lexTailB .any l.toArray n = true)
    (h : wpQuiet P l.toArray (fun w' => ∃ x, w' = ext w x) (fun a' => ∀ w', (∃ x, w' = ext w x) → wpList P l.toArray Q (l.drop n) a' w') (l.take n) a) : (Code.region id l.toArray true).wp P Q a w := by
  simp only [Region.lexTailB, Bool.and_eq_true, decide_eq_true_eq] at hB
  obtain ⟨⟨⟨⟨hsel, hn⟩, hs⟩, hc⟩, hlex⟩ := hB
  have hn' : n < l.length := by simpa using hn
  have htl : (l.take n).length = n := by simp; omega
  have hdl : (l.drop n).length = l.toArray.size - n := by simp
  have inv0 : HeadInv .any l.toArray n (Array.replicate l.toArray.size false) :=
    ⟨by simp, fun j oj _ hl => (by rw [getD_replicate_false] at hl; cases hl), fun t _ ht => getD_in (by simpa using ht) (getD_replicate_false _ _)⟩
  have H := anyLQ_lex (C := fun w' => ∃ x, w' = ext w x) (md := .any) (g := l.toArray.size - n) hsel hs hc hn (l.take n) 0 _ a (fun j hj => by
    have hj' : j < n := by rw [htl] at hj; exact hj
    simp [hj']) (by simpa using htl) inv0 (by rw [htl]; exact hlex) h
  refine wp_region_any hm ?_
  have := any_of_headQ (C := fun w' => ∃ x, w' = ext w x) (Q' := Q) (g := l.toArray.size - n) (fun listed a' w' hw' hL => by
    have := wpAny_of_seq (md := .any) (Q' := Q) (l.drop n) n listed a' w' (fun j => by simp [List.getElem?_drop]) (by rw [hdl]; exact hL.1) (hL.2 w' hw')
    rwa [hdl] at this) _ _ _ { w with drawn := w.drawn + 1 } ⟨⟨#[], w.drawn + 1⟩, by simp [ext]⟩ H
  rw [htl, show n + (l.toArray.size - n) = l.toArray.size by omega] at this
  exact this

/-- The whole region in whatever order. -/
theorem wp_region_free {id : Nat} {Q : Exit → Act → World → Prop} {a : Act} {w : World} {l : List Oper} (hm : P.follows .mixedOrders = true) (hB : Region.lexB .any l.toArray = true)
    (h : wpQuiet P l.toArray (fun w' => ∃ x, w' = ext w x) (fun a' => ∀ w', (∃ x, w' = ext w x) → Q .normal a' w') l a) : (Code.region id l.toArray true).wp P Q a w :=
  wp_region_quiet (C := fun w' => ∃ x, w' = ext w x) hm hB ⟨⟨#[], w.drawn + 1⟩, by simp [ext]⟩ (by simpa using h)
end

theorem Calls.free {P : Program} {f : FuncId} {args : Array Value} {w : World} {x : More} {v : Value} (h : Calls P f args (ext w x) (Gives (ext w x) v)) :
    Calls P f args (ext w x) fun e w'' => e = .returned v ∧ ∃ y, w'' = ext w y :=
  h.mono fun _ _ ⟨he, hb⟩ => ⟨he, by obtain ⟨y, rfl⟩ := ext_of hb; exact ⟨_, ext_ext w x y⟩⟩
theorem Calls.free_same {P : Program} {f : FuncId} {args : Array Value} {w : World} {x : More} {v : Value} (h : Calls P f args (ext w x) (Same (ext w x) v)) :
    Calls P f args (ext w x) fun e w'' => e = .returned v ∧ ∃ y, w'' = ext w y :=
  h.mono fun _ _ ⟨he, hb⟩ => ⟨he, x, hb.symm⟩

theorem below_drewN {B : Nat} {a w : World} (h : Below B a w) (n : Nat) : Below B a (w.drewN n) := ⟨h.os, h.tape, h.output, h.size, h.block⟩

/-- A slice value that reads as the values xs, each of 'size' cells: wherever it lies. -/
def Rd {α : Type} (enc : α → List Value) (size : Nat) (w : World) (a : Option Addr) (xs : List α) : Prop :=
  0 < xs.length → ∃ b off, a = some ⟨b, off, none⟩ ∧ b < w.heap.size ∧ ∀ i (h : i < xs.length) j v, (enc xs[i])[j]? = some v → w.cell? ⟨b, off + (i * size + j), none⟩ = some v
def encI (k : IntKind) (n : Int) : List Value := [.int k n]
abbrev Ints (w : World) (a : Option Addr) (xs : List Int) : Prop := Rd (encI .i64) 1 w a xs

section
variable {α : Type} {enc : α → List Value} {size : Nat} {w w' : World} {a : Option Addr} {xs : List α}
theorem Rd.below (h : Rd enc size w a xs) (hb : Below w.heap.size w w') : Rd enc size w' a xs := fun h0 => by
  obtain ⟨b, off, e, hlt, hc⟩ := h h0
  exact ⟨b, off, e, Nat.lt_of_lt_of_le hlt hb.size, fun i hi j v hv => (hb.cell (p := ⟨b, _, none⟩) hlt).trans (hc i hi j v hv)⟩
theorem Rd.ext (h : Rd enc size w a xs) (x : More) : Rd enc size (ext w x) a xs := h.below (below_of_ext w x)
theorem Rd.alloc (h : Rd enc size w a xs) (o : Obj) : Rd enc size (w.alloc o) a xs := h.below ((Below.refl _ _).alloc (Nat.le_refl _) o)
theorem Rd.drew (h : Rd enc size w a xs) : Rd enc size w.drew a xs := h.below ((Below.refl _ _).drew)
theorem Rd.drop {k : Nat} (h : Rd enc size w a xs) (hk : k < xs.length) : ∃ b off, a = some ⟨b, off, none⟩ ∧ Rd enc size w (some ⟨b, off + k * size, none⟩) (xs.drop k) := by
  obtain ⟨b, off, e, hlt, hc⟩ := h (by omega)
  refine ⟨b, off, e, fun _ => ⟨b, off + k * size, rfl, hlt, fun i hi j v hv => ?_⟩⟩
  have := hc (k + i) (by simp at hi; omega) j v (by simpa using hv)
  rw [Nat.add_mul] at this
  rw [← this]
  congr 2
  omega
end
theorem Ints.cell {w : World} {a : Option Addr} {xs : List Int} (h : Ints w a xs) {k : Nat} (hk : k < xs.length) :
    ∃ b off, a = some ⟨b, off, none⟩ ∧ b < w.heap.size ∧ w.cell? ⟨b, off + k, none⟩ = some (.int .i64 xs[k]) := by
  obtain ⟨b, off, e, hlt, hc⟩ := h (by omega)
  exact ⟨b, off, e, hlt, by simpa using hc k hk 0 _ rfl⟩

end Go.Proofs.Ytdjkjbkmmdmipaa
