/- Turning a rendition over twice, and letting go: what it does to a checksum. No program in sight. -/
import Derived.Test.YtmpbgjnkkapijaaCells
namespace Go.Proofs.Ytmpbgjnkkapijaa
open Go.RowKit

def xorF (f g : Fl) : Fl := ⟨f.b ^^ g.b, f.u ^^ g.u, f.k ^^ g.k, f.r ^^ g.r, f.h ^^ g.h⟩
theorem xorF_assoc (f g h : Fl) : xorF (xorF f g) h = xorF f (xorF g h) := by simp [xorF]
theorem xorF_no (f : Fl) : xorF f Fl.no = f := by simp [xorF, Fl.no]
theorem xorF_self (f : Fl) : xorF f f = Fl.no := by simp [xorF, Fl.no]
theorem turn_xor (f : Fl) (n : Int) : turnF f n = xorF f (turnF Fl.no n) := by
  unfold turnF xorF Fl.no
  repeat' split
  all_goals simp
theorem foldl_xor (xs : List Int) : ∀ f : Fl, xs.foldl turnF f = xorF f (xs.foldl turnF Fl.no) := by
  induction xs with
  | nil => intro f; simp [xorF_no]
  | cons n xs ih =>
    intro f
    rw [List.foldl_cons, List.foldl_cons, ih, turn_xor f n, xorF_assoc, ← ih]
theorem foldR_xor (xs : List Int) (f : Fl) : foldR turnF f xs = xorF f (foldR turnF Fl.no xs) := by
  unfold foldR
  split
  · exact turn_xor f 0
  · exact foldl_xor xs f
theorem foldR_twice (xs : List Int) (f : Fl) : foldR turnF (foldR turnF f xs) xs = f := by
  rw [foldR_xor xs (foldR turnF f xs), foldR_xor xs f, xorF_assoc, xorF_self, xorF_no]
def turned (c : Cl) : Cl := ⟨c.g, (Fl.of c.r).num, !c.k⟩
theorem turned_weight (c : Cl) : (turned c).weight = c.weight + (if c.k then -4 else 4) := by
  unfold turned Cl.weight
  simp only [Fl.num_of]
  cases c.k <;> simp [bi] <;> omega
def kept (cs : List Cl) : Nat := (cs.filter (·.k)).length
theorem turned_sum (cs : List Cl) : sumW (cs.map turned) = sumW cs + 4 * ((cs.length : Int) - 2 * (kept cs : Int)) := by
  induction cs with
  | nil => simp [sumW, kept]
  | cons c cs ih =>
    have e1 : sumW (c :: cs) = c.weight + sumW cs := by simp [sumW]
    have e2 : sumW ((c :: cs).map turned) = (turned c).weight + sumW (cs.map turned) := by simp [sumW]
    rw [e1, e2, ih, turned_weight]
    unfold kept
    simp only [List.filter_cons]
    cases c.k <;> simp <;> omega
theorem kept_take (cs : List Cl) (j : Nat) (h : j < cs.length) : kept (cs.take (j + 1)) = kept (cs.take j) + (if cs[j].k then 1 else 0) := by
  unfold kept
  rw [List.take_succ_eq_append_getElem h, List.filter_append, List.length_append]
  congr 1
  cases hk : cs[j].k <;> simp [hk]
theorem kept_le (cs : List Cl) : kept cs ≤ cs.length := List.length_filter_le _ _
end Go.Proofs.Ytmpbgjnkkapijaa
