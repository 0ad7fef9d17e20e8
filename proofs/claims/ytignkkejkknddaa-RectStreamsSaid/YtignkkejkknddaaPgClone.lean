/- Pages: Same, Clone.  -/
import Derived.Test.YtignkkejkknddaaPgD
import Derived.Test.YtignkkejkknddaaPgC
namespace Go.Proofs.Ytignkkejkknddaa
open Go.RowKit
set_option linter.unusedVariables false
set_option linter.unusedSimpArgs false

theorem sameL_eq (xs : List Cl) (s : Int) (ys : List Cl) (t : Int) : sameL xs s ys t = decide ((xs, s) = (ys, t)) := by
  unfold sameL
  by_cases h1 : s = t <;> by_cases h2 : xs = ys <;> simp [h1, h2]
def sameS (S T : PgS) : Bool := decide (S.cols = T.cols) && decide (S.rows = T.rows)
theorem sameS_iff (S T : PgS) : sameS S T = true ↔ S = T := by
  unfold sameS
  cases S; cases T
  simp
  exact And.comm
theorem lists_eq {α : Type} {xs ys : List α} (hl : xs.length = ys.length) (h : ∀ i (h1 : i < xs.length) (h2 : i < ys.length), xs[i] = ys[i]) : xs = ys := List.ext_getElem hl h
section
variable {F G : Nat → Prop} {p q : Nat} {S T : PgS} {w : World}
end
end Go.Proofs.Ytignkkejkknddaa
/- Pages: Clone.  -/
namespace Go.Proofs.Ytignkkejkknddaa
open Go.RowKit
set_option linter.unusedVariables false
set_option linter.unusedSimpArgs false

section
variable {F : Nat → Prop} {p : Nat} {S : PgS} {w : World}
theorem qt_page {H n c : Nat} {A : Option Addr} {rows : List RowM} {wr : World} (h : QT 83 w wr H S A n c rows) : NewPg S w (.returned (.pointer (some ⟨H, 0, none⟩))) wr := by
  obtain ⟨x, rfl⟩ := ext_of h.keep
  exact ⟨H, fun b => w.heap.size ≤ b ∧ b < (ext w x).heap.size, x, rfl, rfl, fun b hb => hb.1, ⟨⟨_, rows, h.blk, h.l, h.val, fun b hb => ⟨h.ft b hb, h.l.lt hb⟩⟩, ⟨h.ge, h.lt⟩, fun b hb => hb.2⟩⟩
end
end Go.Proofs.Ytignkkejkknddaa
