/- Boxes and places among a law's arguments. -/
import Derived.Test.YtgmbnnmckdjabaaGreatFrame
namespace Go.Proofs.YtgmbnnmckdjabaaGreat
open Go.ChangeShapes Go.WideShapes Go.ChangeAt Go.RowKit

set_option maxRecDepth 100000 in
theorem open_box {H : Type} {enc : TypeId × Value → H} {W : World} {base : Nat} {v : Value} {d : DataW H} {ps : List MemPlace} (hv : Value.okWide Tryz.prog W .any base 36 v)
    (h : DataW.Trod enc Tryz.prog W 0 (fun _ => true) true 36 v d ps) :
    ∃ t l b r : Int, v = .agg #[.int .i64 t, .int .i64 l, .int .i64 b, .int .i64 r] ∧ (Lit.int .i64 t).wf = true ∧ (Lit.int .i64 l).wf = true ∧ (Lit.int .i64 b).wf = true ∧ (Lit.int .i64 r).wf = true := by
  obtain ⟨v0, v1, v2, v3, y0, y1, y2, y3, n, rfl, _, _, h0, h1, h2, h3⟩ := Joins.open_agg4 Tryz.underlying36 (by kernel_rfl) (by kernel_rfl) hv h
  obtain ⟨t, e0, _, w0⟩ := DataW.trod_int Tryz.underlying3 h0
  obtain ⟨l, e1, _, w1⟩ := DataW.trod_int Tryz.underlying3 h1
  obtain ⟨b, e2, _, w2⟩ := DataW.trod_int Tryz.underlying3 h2
  obtain ⟨r, e3, _, w3⟩ := DataW.trod_int Tryz.underlying3 h3
  simp only [List.cons.injEq, and_true] at e0 e1 e2 e3
  subst e0 e1 e2 e3
  exact ⟨t, l, b, r, rfl, w0, w1, w2, w3⟩
set_option maxRecDepth 100000 in
theorem open_pos {H : Type} {enc : TypeId × Value → H} {W : World} {base : Nat} {v : Value} {d : DataW H} {ps : List MemPlace} (hv : Value.okWide Tryz.prog W .any base 39 v)
    (h : DataW.Trod enc Tryz.prog W 0 (fun _ => true) true 39 v d ps) :
    ∃ x y : Int, v = .agg #[.int .i64 x, .int .i64 y] ∧ (Lit.int .i64 x).wf = true ∧ (Lit.int .i64 y).wf = true := by
  obtain ⟨v0, v1, y0, y1, n, rfl, _, _, h0, h1⟩ := Joins.open_agg2 Tryz.underlying39 (by kernel_rfl) (by kernel_rfl) hv h
  obtain ⟨t, e0, _, w0⟩ := DataW.trod_int Tryz.underlying3 h0
  obtain ⟨l, e1, _, w1⟩ := DataW.trod_int Tryz.underlying3 h1
  simp only [List.cons.injEq, and_true] at e0 e1
  subst e0 e1
  exact ⟨t, l, rfl, w0, w1⟩

end Go.Proofs.YtgmbnnmckdjabaaGreat
