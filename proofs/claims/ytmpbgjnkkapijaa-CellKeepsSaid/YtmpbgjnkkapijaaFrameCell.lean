/- Cells and rows of cells among a law's arguments. -/
import Derived.Test.YtmpbgjnkkapijaaFrame
import Derived.Test.YtmpbgjnkkapijaaSum
import Derived.Deep.Strs
namespace Go.Proofs.Ytmpbgjnkkapijaa
open Go.ChangeShapes Go.WideShapes Go.ChangeAt Go.RowKit

instance : Inhabited Cl := ⟨⟨0, 0, false⟩⟩
theorem ok_of {g r : Int} {k : Bool} (h1 : (Lit.int .i32 g).wf = true) (h2 : (Lit.int .u8 r).wf = true) : Cl.ok ⟨g, r, k⟩ := by
  have a := bounds_i32 h1
  have b := bounds_u8 h2
  unfold Cl.ok
  exact ⟨a, b⟩
theorem cell_read {H : Type} {enc : TypeId × Value → H} {W : World} (n : Nat) (cs : List Value) (x : DataW H × List MemPlace) (hl : cs.length = 3) (h : DataW.trod enc Try.prog W 0 (fun _ => true) true n 24 cs = some x) :
    ∃ y, cs = encC y ∧ Cl.ok y := by
  obtain ⟨y0, y1, y2, m, _, _, h0, h1, h2⟩ := Go.Deep.trod_struct3 Try.underlying24 h
  match cs, hl with
  | [c0, c1, c2], _ =>
    obtain ⟨g, e0, _, w0⟩ := DataW.trod_int Try.underlying21 h0
    obtain ⟨r, e1, _, w1⟩ := DataW.trod_int Try.underlying22 h1
    obtain ⟨k, e2, _⟩ := DataW.trod_bool Try.underlying4 h2
    have k0 : Try.prog.cellsOf 21 = 1 := by kernel_rfl
    have k1 : Try.prog.cellsOf 22 = 1 := by kernel_rfl
    have k2 : Try.prog.cellsOf 4 = 1 := by kernel_rfl
    simp [k0] at e0
    simp [k1] at e1
    simp [k2] at e2
    subst e0 e1 e2
    exact ⟨⟨g, r, k⟩, rfl, ok_of w0 w1⟩
theorem open_cells {H : Type} {enc : TypeId × Value → H} {W : World} {v : Value} {d : DataW H} {ps : List MemPlace} (hv : ∃ a n c, v = .slice a n c) (h : DataW.Trod enc Try.prog W 0 (fun _ => true) true 28 v d ps) :
    ∃ (a : Option Addr) (c : Nat) (xs : List Cl), v = .slice a xs.length c ∧ Rd encC 3 W a xs ∧ xs.length ≤ c ∧ c ≤ maxLen ∧ (∀ n ∈ xs, Cl.ok n) ∧ ((d = .nil ∧ c = 0) ∨ ∃ es sp, d = .slice es sp ∧ es.length + sp.length = c) :=
  open_slice_rd Try.underlying28 (by kernel_rfl) (by omega) encC_len (fun n cs x => cell_read n cs x) hv h
theorem open_cell {H : Type} {enc : TypeId × Value → H} {W : World} {base : Nat} {v : Value} {d : DataW H} {ps : List MemPlace} (hv : Value.okWide Try.prog W .any base 24 v)
    (h : DataW.Trod enc Try.prog W 0 (fun _ => true) true 24 v d ps) : ∃ g r : Int, ∃ k : Bool, v = .agg #[.int .i32 g, .int .u8 r, .bool k] ∧ Cl.ok ⟨g, r, k⟩ := by
  obtain ⟨v0, v1, v2, y0, y1, y2, n, rfl, _, _, h0, h1, h2⟩ := Joins.open_agg3 Try.underlying24 (by kernel_rfl) (by kernel_rfl) hv h
  obtain ⟨g, e0, _, w0⟩ := DataW.trod_int Try.underlying21 h0
  obtain ⟨r, e1, _, w1⟩ := DataW.trod_int Try.underlying22 h1
  obtain ⟨k, e2, _⟩ := DataW.trod_bool Try.underlying4 h2
  simp only [List.cons.injEq, and_true] at e0 e1 e2
  subst e0 e1 e2
  exact ⟨g, r, k, rfl, ok_of w0 w1⟩
end Go.Proofs.Ytmpbgjnkkapijaa
