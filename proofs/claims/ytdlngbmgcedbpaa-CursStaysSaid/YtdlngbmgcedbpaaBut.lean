/- Worlds that differ from one another in two blocks alone. -/
import Derived.Test.YtdlngbmgcedbpaaLib
import Derived.Laws.OwnMore
namespace Go.Proofs.Ytdlngbmgcedbpaa
open Go.RowKit

/-- All blocks of W but p and q are in w' as they were. -/
def But (W : World) (p q : Nat) (w' : World) : Prop := W.heap.size ≤ w'.heap.size ∧ ∀ b, b < W.heap.size → b ≠ p → b ≠ q → w'.heap[b]? = W.heap[b]?
section
variable {W w' : World} {p q : Nat}
theorem But.refl (W : World) (p q : Nat) : But W p q W := ⟨Nat.le_refl _, fun _ _ _ _ => rfl⟩
theorem But.ext (h : But W p q w') (x : More) : But W p q (ext w' x) := ⟨by rw [size_ext]; have := h.1; omega, fun b h1 h2 h3 => (block_ext w' x (Nat.lt_of_lt_of_le h1 h.1)).trans (h.2 b h1 h2 h3)⟩
theorem But.drew (h : But W p q w') : But W p q w'.drew := h
theorem set_size (w : World) (a : Addr) (v : Value) : (w.setCell a v).heap.size = w.heap.size := by simp [World.setCell]
theorem set_block (w : World) (b i : Nat) (v : Value) {k : Nat} (h : k ≠ b) : (w.setCell ⟨b, i, none⟩ v).heap[k]? = w.heap[k]? := by
  simp only [World.setCell, Array.getElem?_modify]
  rw [if_neg (fun e => h e.symm)]
theorem But.setL (h : But W p q w') (i : Nat) (v : Value) : But W p q (w'.setCell ⟨p, i, none⟩ v) := ⟨by rw [set_size]; exact h.1, fun b h1 h2 h3 => (set_block w' p i v h2).trans (h.2 b h1 h2 h3)⟩
theorem But.setR (h : But W p q w') (i : Nat) (v : Value) : But W p q (w'.setCell ⟨q, i, none⟩ v) := ⟨by rw [set_size]; exact h.1, fun b h1 h2 h3 => (set_block w' q i v h3).trans (h.2 b h1 h2 h3)⟩
theorem But.alloc (h : But W p q w') (o : Obj) : But W p q (w'.alloc o) := ⟨by have := h.1; simp; omega, fun b h1 h2 h3 => (heap_alloc_old w' o (Nat.lt_of_lt_of_le h1 h.1)).trans (h.2 b h1 h2 h3)⟩
theorem But.cell (h : But W p q w') {b : Nat} (i : Nat) (h1 : b < W.heap.size) (h2 : b ≠ p) (h3 : b ≠ q) : w'.cell? ⟨b, i, none⟩ = W.cell? ⟨b, i, none⟩ := World.cell?_of_block (a := ⟨b, i, none⟩) (h.2 b h1 h2 h3)
end
end Go.Proofs.Ytdlngbmgcedbpaa
