/- Append onto a slice of the call's own: what it leaves alone. -/
import Derived.Test.YtignkkejkknddaaGreatOwn
namespace Go.Proofs.YtignkkejkknddaaGreat
open Go.RowKit

/-- From one world to the next only the block of the slice v may have been written; v' lies in v's block or in a new one. -/
structure Far (w w' : World) (v v' : Value) : Prop where
  size : w.heap.size ≤ w'.heap.size
  cell : ∀ b, b < w.heap.size → v.ownBlock ≠ some b → ∀ i, w'.cell? ⟨b, i, none⟩ = w.cell? ⟨b, i, none⟩
  block : ∀ b, b < w.heap.size → v.ownBlock ≠ some b → v'.ownBlock ≠ some b
theorem Own.lt {α : Type} {enc : α → List Value} {size : Nat} {e : TypeId} {B : Nat} {w : World} {v : Value} {xs : List α} (h : Own enc size e B w v xs) : ∀ k, v.ownBlock = some k → B ≤ k ∧ k < w.heap.size := World.ownsRow.lt h
section
variable {α : Type} {enc : α → List Value} {size : Nat} {P : Program}
theorem own_swap {e : TypeId} {w : World} {o o' : Obj} {y : More} {v : Value} {xs : List α} (h : Own enc size e (w.heap.size + 1) (ext (w.alloc o) y) v xs) : Own enc size e (w.heap.size + 1) (ext (w.alloc o') y) v xs := by
  refine ⟨h.1, ?_⟩
  rcases h.2 with hn | ⟨g, cap, cur, rfl, hB, hg, rest⟩
  · exact .inl hn
  · refine .inr ⟨g, cap, cur, rfl, hB, ?_, rest⟩
    rw [← hg]
    simp only [ext, World.alloc]
    rw [Array.getElem?_append_right (by simpa using hB), Array.getElem?_append_right (by simpa using hB)]
    simp
end
end Go.Proofs.YtignkkejkknddaaGreat
