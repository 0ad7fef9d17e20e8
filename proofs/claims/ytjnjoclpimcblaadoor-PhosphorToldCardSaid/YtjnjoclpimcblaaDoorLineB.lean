/- Lines: a row laid over a span.  -/
import Derived.Test.YtjnjoclpimcblaaDoorLineA
import Derived.Test.YtjnjoclpimcblaaDoorCopyK
import Derived.Test.YtjnjoclpimcblaaDoorMul
import Derived.Test.YtjnjoclpimcblaaDoorTailM
namespace Go.Proofs.YtjnjoclpimcblaaDoor
open Go.RowKit
set_option linter.unusedVariables false
set_option linter.unusedSimpArgs false

theorem cell_of_heap {w w' : World} {b : Nat} (h : w'.heap[b]? = w.heap[b]?) {i : Nat} : w'.cell? ⟨b, i, none⟩ = w.cell? ⟨b, i, none⟩ := by unfold World.cell?; rw [h]
theorem frozen_of_heap {w w' : World} {b : Nat} (h : w'.heap[b]? = w.heap[b]?) {i : Nat} : w'.frozen? ⟨b, i, none⟩ = w.frozen? ⟨b, i, none⟩ := by unfold World.frozen?; rw [h]
/-- where a span begins, if it has cells -/
def offN (n f t : Int) : Nat := if spanN n f t = 0 then 0 else (spanA f).toNat
def layR (xs : List Cl) (f t : Int) (ys : List Cl) : List Cl := layOn xs (offN xs.length f t) (ys.take (spanN xs.length f t).toNat)
theorem offN_le (n f t : Int) (h : 0 ≤ n) : 0 ≤ spanN n f t ∧ ((offN n f t : Nat) : Int) + spanN n f t ≤ n := by
  unfold offN
  split
  · rename_i q; rw [q]; omega
  · unfold spanN spanA at *; omega
theorem layR_len (xs : List Cl) (f t : Int) (ys : List Cl) : (layR xs f t ys).length = xs.length := by
  have h := offN_le xs.length f t (by omega)
  exact layOn_len _ _ _ (by rw [List.length_take]; omega)
theorem PartL.at {w w' : World} {xs : List Cl} {sz f t : Int} {e : Ending} (h : PartL w xs sz f t e w') : ∃ A' c' x a n k, w' = ext w x ∧ Own encC 3 37 w.heap.size (ext w x) (.slice A' xs.length c') xs ∧ n = (spanN xs.length f t).toNat ∧
    e = .returned (.tuple #[lineV A' xs.length c' sz, .slice a n k]) ∧ (0 < n → ∃ g, A' = some ⟨g, 0, none⟩ ∧ a = some ⟨g, offN xs.length f t * 3, none⟩) := by
  obtain ⟨A', c', x, e1, hO, h⟩ := h
  rcases h with ⟨hn, e2⟩ | ⟨g, hg, e2⟩
  · exact ⟨A', c', x, none, 0, 0, e1, hO, by have h := offN_le xs.length f t (by omega); omega, e2, fun h => by omega⟩
  · by_cases q : spanN xs.length f t = 0
    · refine ⟨A', c', x, none, 0, 0, e1, hO, by rw [q]; rfl, ?_, fun h => by omega⟩
      rw [e2]; unfold cutV; rw [if_pos q]
    · exact ⟨A', c', x, some ⟨g, (spanA f).toNat * 3, none⟩, (spanN xs.length f t).toNat, c' - (spanA f).toNat, e1, hO, rfl, by rw [e2]; unfold cutV; rw [if_neg q], fun _ => ⟨g, hg, by unfold offN; rw [if_neg q]⟩⟩
end Go.Proofs.YtjnjoclpimcblaaDoor
/- Lines: rows of erased cells.  -/
namespace Go.Proofs.YtjnjoclpimcblaaDoor
open Go.RowKit
set_option linter.unusedVariables false
set_option linter.unusedSimpArgs false

/-- an erased cell -/
def erC : Cl := ⟨32, 0, false⟩
/-- the first k of n cells are y, the others are as made -/
def halfR (y : Cl) (n k : Nat) : List Cl := List.replicate k y ++ List.replicate (n - k) noC
theorem halfR_len (y : Cl) (n k : Nat) (h : k ≤ n) : (halfR y n k).length = n := by simp [halfR]; omega
theorem halfR_step (y : Cl) (n k m : Nat) (h : k ≤ n) (hm : m = Nat.min k (n - k)) : layOn (halfR y n k) k ((List.replicate k y).take (n - k)) = halfR y n (k + m) := by
  have e : (List.replicate k y).take (n - k) = List.replicate m y := by rw [List.take_replicate, hm, show min (n - k) k = Nat.min k (n - k) from Nat.min_comm _ _]
  have hm2 : m ≤ n - k := by rw [hm]; exact Nat.min_le_right _ _
  rw [e]
  unfold layOn halfR
  rw [List.take_append_of_le_length (by simp), List.take_of_length_le (by simp), List.drop_append, List.drop_of_length_le (by simp), List.length_replicate, List.length_replicate, List.drop_replicate]
  rw [List.nil_append, ← List.append_assoc, List.replicate_append_replicate]
  congr 2
  omega
theorem halfR_first (y : Cl) (n m : Nat) (hm : m = Nat.min 1 n) : layOn (List.replicate n noC) 0 ([y].take n) = halfR y n m := by
  have e : [y].take n = List.replicate m y := by
    rw [hm]
    match n with
    | 0 => rfl
    | k + 1 => rw [show Nat.min 1 (k + 1) = 1 from Nat.min_eq_left (by omega)]; simp
  rw [e]
  unfold layOn halfR
  rw [List.take_zero, List.nil_append, List.length_replicate, Nat.zero_add, List.drop_replicate]
end Go.Proofs.YtjnjoclpimcblaaDoor
/- Lines: new ones.  -/
namespace Go.Proofs.YtjnjoclpimcblaaDoor
open Go.RowKit
set_option linter.unusedVariables false
set_option linter.unusedSimpArgs false

theorem NewCs.of {w w' : World} {A : Option Addr} {c n : Nat} {xs : List Cl} {B : Nat} {V : Value} (hV : V = .slice A n c) (hn : n = xs.length) (hb : Below w.heap.size w w') (hB : w.heap.size ≤ B) (h : Own encC 3 37 B w' (.slice A xs.length c) xs) : NewCs w xs (.returned V) w' := by
  subst hV hn
  obtain ⟨x, rfl⟩ := ext_of hb
  exact ⟨A, c, x, rfl, rfl, h.mono hB⟩
theorem NewL.at {w w' : World} {A : Option Addr} {c n : Nat} {xs : List Cl} {sz : Int} {B : Nat} {V : Value} (hV : V = lineV A n c sz) (hn : n = xs.length) (hb : Below w.heap.size w w') (hB : w.heap.size ≤ B) (h : Own encC 3 37 B w' (.slice A xs.length c) xs) : NewL w xs sz (.returned V) w' := by
  subst hV hn
  exact NewL.of hb hB h
def newN (cols : Int) : Nat := (max 0 (min cols 500)).toNat
end Go.Proofs.YtjnjoclpimcblaaDoor
/- Lines: are they alike? what the reference counts.  -/
namespace Go.Proofs.YtjnjoclpimcblaaDoor
open Go.RowKit
set_option linter.unusedVariables false
set_option linter.unusedSimpArgs false

attribute [local go_sem ↓] cell_neq
/-- are two lines alike? -/
def sameL (xs : List Cl) (s : Int) (ys : List Cl) (t : Int) : Bool := decide (s = t) && decide (xs = ys)
end Go.Proofs.YtjnjoclpimcblaaDoor
/- Lines: what the reference asks of a column; sizes.  -/
namespace Go.Proofs.YtjnjoclpimcblaaDoor
open Go.RowKit
set_option linter.unusedVariables false
set_option linter.unusedSimpArgs false

def inS (n : Nat) (i f t : Int) : Bool := decide (0 ≤ i ∧ i < n ∧ f ≤ i ∧ i < t)
set_option maxRecDepth 100000 in
theorem in_s (A : Option Addr) (n C : Nat) (sz i f t : Int) (w : World) (hn : n ≤ 9223372036854775807) : Calls Tryd.prog 9 #[lineV A n C sz, .int .i64 i, .int .i64 f, .int .i64 t] w (Gives w (.bool (inS n i f t))) := by
  by_cases h1 : 0 ≤ i
  · have q1 : decide (0 ≤ i) = true := by simpa using h1
    by_cases h2 : i < n
    · have q2 : decide (i < (n : Int)) = true := by simpa using h2
      by_cases h3 : f ≤ i
      · have q3 : decide (f ≤ i) = true := by simpa using h3
        rw [show inS n i f t = decide (i < t) by simp [inS, h1, h2, h3]]
        clear h1 h2 h3
        go_enter Tryd.func9, Tryd.ntmps9
        go_wp2
        go_returns
        exact ⟨rfl, by (repeat' (first | (with_reducible exact Below.refl _ _) | (with_reducible refine Below.alloc ?_ ?_ _) | (with_reducible refine below_ext ?_ ?_ _) | (with_reducible refine Below.drew ?_) | (with_reducible refine below_drewN ?_ _) | (with_reducible refine Below.setCell ?_ ?_ _) | go_size | (simp only [go_sem]; omega) | (simp [go_sem]; done) | (simp [go_sem]; omega)))⟩
      · have q3 : decide (f ≤ i) = false := by simpa using h3
        rw [show inS n i f t = false by simp [inS, h3]]
        clear h1 h2 h3
        go_enter Tryd.func9, Tryd.ntmps9
        go_wp2
        go_returns
        exact ⟨rfl, by (repeat' (first | (with_reducible exact Below.refl _ _) | (with_reducible refine Below.alloc ?_ ?_ _) | (with_reducible refine below_ext ?_ ?_ _) | (with_reducible refine Below.drew ?_) | (with_reducible refine below_drewN ?_ _) | (with_reducible refine Below.setCell ?_ ?_ _) | go_size | (simp only [go_sem]; omega) | (simp [go_sem]; done) | (simp [go_sem]; omega)))⟩
    · have q2 : decide (i < (n : Int)) = false := by simpa using h2
      rw [show inS n i f t = false by simp [inS, h2]]
      clear h1 h2
      go_enter Tryd.func9, Tryd.ntmps9
      go_wp2
      go_returns
      exact ⟨rfl, by (repeat' (first | (with_reducible exact Below.refl _ _) | (with_reducible refine Below.alloc ?_ ?_ _) | (with_reducible refine below_ext ?_ ?_ _) | (with_reducible refine Below.drew ?_) | (with_reducible refine below_drewN ?_ _) | (with_reducible refine Below.setCell ?_ ?_ _) | go_size | (simp only [go_sem]; omega) | (simp [go_sem]; done) | (simp [go_sem]; omega)))⟩
  · have q1 : decide (0 ≤ i) = false := by simpa using h1
    rw [show inS n i f t = false by simp [inS, h1]]
    clear h1
    go_enter Tryd.func9, Tryd.ntmps9
    go_wp2
    go_returns
    exact ⟨rfl, by (repeat' (first | (with_reducible exact Below.refl _ _) | (with_reducible refine Below.alloc ?_ ?_ _) | (with_reducible refine below_ext ?_ ?_ _) | (with_reducible refine Below.drew ?_) | (with_reducible refine below_drewN ?_ _) | (with_reducible refine Below.setCell ?_ ?_ _) | go_size | (simp only [go_sem]; omega) | (simp [go_sem]; done) | (simp [go_sem]; omega)))⟩
def clampR (n lo hi : Int) : Int := if n < lo then lo else if n > hi then hi else n
def sizeI (s : Int) : Int := if s < 0 ∨ 3 < s then 0 else s
end Go.Proofs.YtjnjoclpimcblaaDoor
