/- Two worlds between which only some blocks were written.  -/
import Derived.Test.YtdjkjbkmmdmipaaOwn
namespace Go.Proofs.Ytdjkjbkmmdmipaa
open Go.RowKit
set_option linter.unusedVariables false
set_option linter.unusedSimpArgs false

/-- Between the two worlds only blocks of F may have been written; new ones have come. -/
structure Keep (F : Nat → Prop) (w w' : World) : Prop where
  os : w'.os = w.os
  tape : w'.tape = w.tape
  output : w'.output = w.output
  size : w.heap.size ≤ w'.heap.size
  block : ∀ k, k < w.heap.size → ¬ F k → w'.heap[k]? = w.heap[k]?
theorem heap_in {w : World} {H : Nat} {o : Obj} (h : w.heap[H]? = some o) : H < w.heap.size := (Array.getElem?_eq_some_iff.1 h).1
theorem cell_in {w : World} {H q : Nat} {cur : Array Value} {t : TypeId} {fr : Nat × Nat} (h : w.heap[H]? = some (.cells cur t fr)) : w.cell? ⟨H, q, none⟩ = cur[q]? := by
  simp [World.cell?, h]
theorem frozen_in {w : World} {H q : Nat} {cur : Array Value} {t : TypeId} (h : w.heap[H]? = some (.cells cur t (0, 0))) : w.frozen? ⟨H, q, none⟩ = false := by
  simp [World.frozen?, h]
section
variable {F G : Nat → Prop} {a b c w w' : World} {B : Nat}
theorem Keep.refl (F : Nat → Prop) (w : World) : Keep F w w := ⟨rfl, rfl, rfl, Nat.le_refl _, fun _ _ _ => rfl⟩
theorem Keep.trans (h : Keep F a b) (k : Keep G b c) (hG : ∀ x, G x → F x ∨ a.heap.size ≤ x) : Keep F a c :=
  ⟨k.os.trans h.os, k.tape.trans h.tape, k.output.trans h.output, Nat.le_trans h.size k.size, fun i hi hF =>
    (k.block i (Nat.lt_of_lt_of_le hi h.size) (fun g => (hG i g).elim hF (fun e => by omega))).trans (h.block i hi hF)⟩
theorem Keep.of_below (h : Below w.heap.size w w') : Keep F w w' := ⟨h.os, h.tape, h.output, h.size, fun k hk _ => h.block k hk⟩
theorem Keep.below (h : Keep F w w') (hF : ∀ b, F b → B ≤ b) (hB : B ≤ w.heap.size) : Below B w w' := ⟨h.os, h.tape, h.output, h.size, fun k hk => h.block k (by omega) (fun f => by have := hF k f; omega)⟩
theorem Keep.set (h : Keep F w w') {p : Addr} (hb : F p.block ∨ w.heap.size ≤ p.block) (u : Value) : Keep F w (w'.setCell p u) :=
  ⟨h.os, h.tape, h.output, by simpa [World.setCell] using h.size, fun k hk hF => (Below.heap_setCell _ _ _ _ (fun e => by subst e; exact hb.elim hF (fun e => by omega))).trans (h.block k hk hF)⟩
theorem Keep.mono (h : Keep F w w') (hG : ∀ x, F x → G x) : Keep G w w' := ⟨h.os, h.tape, h.output, h.size, fun k hk hF => h.block k hk (fun f => hF (hG k f))⟩
end
end Go.Proofs.Ytdjkjbkmmdmipaa
