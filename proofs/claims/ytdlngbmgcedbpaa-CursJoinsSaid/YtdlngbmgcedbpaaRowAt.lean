/- A struct variable that is read at once: the walk's rule, in a world that has only grown. -/
import Derived.Test.YtdlngbmgcedbpaaLib
import Derived.Deep.MidRow
import Derived.BigQuiet
namespace Go.Proofs.Ytdlngbmgcedbpaa
open Go.RowKit
set_option linter.unusedVariables false

/-- the first n cells of block b -/
def rowOf (w : World) (b n : Nat) : Array Value := ((List.range n).map fun i => (w.cell? ⟨b, i, none⟩).getD undef).toArray
/-- block b is there, with n cells -/
structure RowThere (w : World) (b n : Nat) : Prop where
  lt : b < w.heap.size
  at' : ∀ i, i < n → (w.cell? ⟨b, i, none⟩).isSome = true
theorem rowOf_ext {w : World} {b n : Nat} (x : More) (h : RowThere w b n) : rowOf (ext w x) b n = rowOf w b n := by
  unfold rowOf
  congr 2
  funext i
  rw [cell_ext w x b i h.lt]
theorem rowThere_ext {w : World} {b n : Nat} (x : More) (h : RowThere w b n) : RowThere (ext w x) b n = True :=
  eq_true ⟨by rw [size_ext]; have := h.lt; omega, fun i hi => by rw [cell_ext w x b i h.lt]; exact h.at' i hi⟩
theorem rowOf_range {w : World} {b n : Nat} (h : RowThere w b n) : w.rangeAt b 0 (rowOf w b n).toList := by
  intro j v hv
  simp only [rowOf, List.getElem?_map] at hv
  rcases Nat.lt_or_ge j n with hj | hj
  · rw [List.getElem?_range hj] at hv
    simp only [Option.map_some, Option.some.injEq] at hv
    obtain ⟨u, hu⟩ := Option.isSome_iff_exists.1 (h.at' j hj)
    rw [Nat.zero_add, hu, ← hv, hu]
    rfl
  · rw [List.getElem?_eq_none (by simpa using hj)] at hv
    cases hv
theorem load_row {P : Program} {w : World} {b n : Nat} {T : TypeId} {d : TypeDesc} (hu : P.underlying T = some d) (hd : d.isRow = true) (hi : (P.info? T).map (·.size) = some n) (h : RowThere w b n) :
    (Instr.loadAt T (.pointer (some ⟨b, 0, none⟩))).run P w = .ok (.agg (rowOf w b n)) w :=
  run_loadAt_mid w b 0 T (rowOf w b n).toList d (rowOf_range h) hu hd (by rw [hi]; simp [rowOf])
theorem row_there {w : World} {b : Nat} (cs : List Value) (hb : b < w.heap.size) (h : w.rangeAt b 0 cs) : RowThere w b cs.length ∧ rowOf w b cs.length = cs.toArray := by
  have key : ∀ i (hi : i < cs.length), w.cell? ⟨b, i, none⟩ = some cs[i] := fun i hi => by
    have := h i cs[i] (List.getElem?_eq_getElem hi)
    rwa [Nat.zero_add] at this
  refine ⟨⟨hb, fun i hi => by rw [key i hi]; rfl⟩, ?_⟩
  unfold rowOf
  congr 1
  apply List.ext_getElem
  · simp
  · intro i h1 h2
    simp [key i h2]
/-- one operation of a quiet walk: a load whose value is known in every world of the class -/
theorem quiet_load {P : Program} {o : Oper} {a : Act} {C : World → Prop} {K : Act → Prop} (T : TypeId) (x : Operand) (v : Value) (ho : o.op = .load T x)
    (h : ∀ w, C w → (Instr.loadAt T (a.eval x)).run P w = .ok v w) (hk : K (a.put o.dst v)) : o.quiet P a C K :=
  ⟨v, fun w hw => by
    unfold Oper.quietAt execOp
    simp only [ho, Sem.run_bind, h w hw, Result.andThen_ok, Sem.run_pure, Oper.quietUpon]
    exact ⟨trivial, trivial⟩, hk⟩
/-- .. a comparison whose answer is known -/
theorem quiet_bin {P : Program} {o : Oper} {a : Act} {C : World → Prop} {K : Act → Prop} (op : BinOp) (T U : TypeId) (x y : Operand) (v : Value) (ho : o.op = .binOp op T x y U)
    (h : ∀ w, ((eqGuard op T x y (a.eval x) (a.eval y)).run P w).andThen (fun _ w' => (binOp op T (a.eval x) (a.eval y)).run P w') = .ok v w) (hk : K (a.put o.dst v)) : o.quiet P a C K :=
  ⟨v, fun w hw => by
    unfold Oper.quietAt execOp
    have := h w
    simp only [ho, Sem.run_bind, Sem.run_pure, Oper.quietUpon]
    rw [this]
    exact ⟨rfl, rfl⟩, hk⟩
def RowPtr (w : World) (v : Value) (n : Nat) : Prop := ∃ b, v = .pointer (some ⟨b, 0, none⟩) ∧ RowThere w b n
def ptrBlk : Value → Nat
  | .pointer (some a) => a.block
  | _ => 0
theorem rowPtr_eq (w : World) (b n : Nat) : RowPtr w (.pointer (some ⟨b, 0, none⟩)) n = RowThere w b n := by
  unfold RowPtr
  exact propext ⟨fun ⟨b', e, h⟩ => by injection e with e; injection e with e; injection e with e1; subst e1; exact h, fun h => ⟨b, rfl, h⟩⟩
theorem ptrBlk_eq (b o : Nat) : ptrBlk (.pointer (some ⟨b, o, none⟩)) = b := rfl
end Go.Proofs.Ytdlngbmgcedbpaa
