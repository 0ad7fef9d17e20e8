/- Cells, rows of cells, lines and spans among a law's arguments.  -/
import Derived.Test.YtjnjoclpimcblaaDoorFrame
import Derived.Test.YtjnjoclpimcblaaDoorClk
import Derived.Deep.Strs
namespace Go.Proofs.YtjnjoclpimcblaaDoor
open Go.ChangeShapes Go.WideShapes Go.ChangeAt Go.RowKit

instance : Inhabited Cl := ⟨⟨0, 0, false⟩⟩
theorem ok_of {g r : Int} {k : Bool} (h1 : (Lit.int .i32 g).wf = true) (h2 : (Lit.int .u8 r).wf = true) : Cl.ok ⟨g, r, k⟩ := by
  have a := bounds_i32 h1
  have b := bounds_u8 h2
  unfold Cl.ok
  exact ⟨a, b⟩
set_option maxRecDepth 100000 in
theorem cell_read {H : Type} {enc : TypeId × Value → H} {W : World} (n : Nat) (cs : List Value) (x : DataW H × List MemPlace) (hl : cs.length = 3) (h : DataW.trod enc Tryd.prog W 0 (fun _ => true) true n 37 cs = some x) :
    ∃ y, cs = encC y ∧ Cl.ok y := by
  obtain ⟨y0, y1, y2, m, _, _, h0, h1, h2⟩ := Go.Deep.trod_struct3 Tryd.underlying37 h
  match cs, hl with
  | [c0, c1, c2], _ =>
    obtain ⟨g, e0, _, w0⟩ := DataW.trod_int Tryd.underlying21 h0
    obtain ⟨r, e1, _, w1⟩ := DataW.trod_int Tryd.underlying25 h1
    obtain ⟨k, e2, _⟩ := DataW.trod_bool Tryd.underlying4 h2
    have k0 : Tryd.prog.cellsOf 21 = 1 := by kernel_rfl
    have k1 : Tryd.prog.cellsOf 25 = 1 := by kernel_rfl
    have k2 : Tryd.prog.cellsOf 4 = 1 := by kernel_rfl
    simp [k0] at e0
    simp [k1] at e1
    simp [k2] at e2
    subst e0 e1 e2
    exact ⟨⟨g, r, k⟩, rfl, ok_of w0 w1⟩
set_option maxRecDepth 100000 in
theorem open_cells {H : Type} {enc : TypeId × Value → H} {W : World} {v : Value} {d : DataW H} {ps : List MemPlace} (hv : ∃ a n c, v = .slice a n c) (h : DataW.Trod enc Tryd.prog W 0 (fun _ => true) true 22 v d ps) :
    ∃ (a : Option Addr) (c : Nat) (xs : List Cl), v = .slice a xs.length c ∧ Rd encC 3 W a xs ∧ xs.length ≤ c ∧ c ≤ maxLen ∧ (∀ n ∈ xs, Cl.ok n) ∧ ((d = .nil ∧ c = 0) ∨ ∃ es sp, d = .slice es sp ∧ es.length + sp.length = c) :=
  open_slice_rd Tryd.underlying22 (by kernel_rfl) (by omega) encC_len (fun n cs x => cell_read n cs x) hv h
set_option maxRecDepth 100000 in
theorem open_cell {H : Type} {enc : TypeId × Value → H} {W : World} {base : Nat} {v : Value} {d : DataW H} {ps : List MemPlace} (hv : Value.okWide Tryd.prog W .any base 37 v)
    (h : DataW.Trod enc Tryd.prog W 0 (fun _ => true) true 37 v d ps) : ∃ g r : Int, ∃ k : Bool, v = .agg #[.int .i32 g, .int .u8 r, .bool k] ∧ Cl.ok ⟨g, r, k⟩ := by
  obtain ⟨v0, v1, v2, y0, y1, y2, n, rfl, _, _, h0, h1, h2⟩ := Joins.open_agg3 Tryd.underlying37 (by kernel_rfl) (by kernel_rfl) hv h
  obtain ⟨g, e0, _, w0⟩ := DataW.trod_int Tryd.underlying21 h0
  obtain ⟨r, e1, _, w1⟩ := DataW.trod_int Tryd.underlying25 h1
  obtain ⟨k, e2, _⟩ := DataW.trod_bool Tryd.underlying4 h2
  simp only [List.cons.injEq, and_true] at e0 e1 e2
  subst e0 e1 e2
  exact ⟨g, r, k, rfl, ok_of w0 w1⟩
set_option maxRecDepth 100000 in
theorem open_line {H : Type} {enc : TypeId × Value → H} {W : World} {base : Nat} {v : Value} {d : DataW H} {ps : List MemPlace} (hv : Value.okWide Tryd.prog W .any base 28 v)
    (h : DataW.Trod enc Tryd.prog W 0 (fun _ => true) true 28 v d ps) :
    ∃ (a : Option Addr) (c : Nat) (xs : List Cl) (sz : Int), v = .agg #[.slice a xs.length c, .int .i64 sz] ∧ Rd encC 3 W a xs ∧ xs.length ≤ c ∧ c ≤ maxLen ∧ (∀ n ∈ xs, Cl.ok n) ∧ (Lit.int .i64 sz).wf = true := by
  obtain ⟨v0, v1, y0, y1, n, rfl, _, _, h0, h1⟩ := Joins.open_agg2 Tryd.underlying28 (by kernel_rfl) (by kernel_rfl) hv h
  obtain ⟨t, e1, _, w1⟩ := DataW.trod_int Tryd.underlying3 h1
  simp only [List.cons.injEq, and_true] at e1
  subst e1
  have hs : ∃ a m c, v0 = .slice a m c := by
    rcases Go.Deep.open_slice Tryd.underlying22 h0 with ⟨hcs, _⟩ | ⟨x, len, cap, m, n, D, Pl, hcs, _⟩
    · simp at hcs; exact ⟨_, _, _, hcs⟩
    · simp at hcs; exact ⟨_, _, _, hcs⟩
  obtain ⟨a0, m0, c0, e0⟩ := hs
  obtain ⟨a, c, xs, e2, rd, hl, hc, hok, _⟩ := open_cells (v := v0) (d := y0.1) (ps := y0.2) ⟨a0, m0, c0, e0⟩ ⟨_, by rw [show v0.cells = #[v0] by rw [e0]; rfl]; exact h0⟩
  subst e2
  exact ⟨a, c, xs, t, rfl, rd, hl, hc, hok, w1⟩
end Go.Proofs.YtjnjoclpimcblaaDoor
