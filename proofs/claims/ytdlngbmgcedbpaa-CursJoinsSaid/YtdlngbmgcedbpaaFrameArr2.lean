/- A pair of numbers among a law's arguments. -/
import Derived.Test.YtdlngbmgcedbpaaFrame
namespace Go.Proofs.Ytdlngbmgcedbpaa
open Go.ChangeShapes Go.WideShapes Go.ChangeAt Go.RowKit

set_option maxRecDepth 100000 in
set_option maxHeartbeats 4000000 in
theorem open_arr2 {H : Type} {enc : TypeId × Value → H} {W : World} {base : Nat} {v : Value} {d : DataW H} {ps : List MemPlace} (hv : Value.okWide Try.prog W .any base 51 v)
    (h : DataW.Trod enc Try.prog W 0 (fun _ => true) true 51 v d ps) : ∃ n m : Int, v = .agg #[.int .i64 n, .int .i64 m] ∧ (Lit.int .i64 n).wf = true ∧ (Lit.int .i64 m).wf = true := by
  have hv2 : ∃ cs, v = .agg cs ∧ cs.size = Try.prog.cellsOf 51 := by
    simp only [Value.okWide, Try.underlying51] at hv
    obtain ⟨cs, h1, h2, _⟩ := hv
    exact ⟨cs, h1, h2⟩
  obtain ⟨cs, rfl, hsz⟩ := hv2
  rw [show Try.prog.cellsOf 51 = 2 by kernel_rfl] at hsz
  obtain ⟨cs⟩ := cs
  match cs, hsz with
  | [c0, c1], _ =>
  obtain ⟨fuel, hf⟩ := h
  obtain ⟨ts, mm, -, -, -, tlen, ht⟩ := DataW.trod_array Try.underlying51 hf
  have hz : ∀ i, i < 2 → ∃ y, ts[i]? = some y := fun i hi => ⟨_, List.getElem?_eq_getElem (by rw [tlen]; exact hi)⟩
  have ki : Try.prog.cellsOf 3 = 1 := by kernel_rfl
  obtain ⟨o0, r0⟩ := hz 0 (by omega)
  have s0 := (ht 0 (by omega)).trans r0
  obtain ⟨o1, r1⟩ := hz 1 (by omega)
  have s1 := (ht 1 (by omega)).trans r1
  obtain ⟨n, en, _, wn⟩ := DataW.trod_int Try.underlying3 s0
  obtain ⟨m, em, _, wm⟩ := DataW.trod_int Try.underlying3 s1
  simp [ki, Value.cells] at en em
  exact ⟨n, m, by rw [en, em], wn, wm⟩
end Go.Proofs.Ytdlngbmgcedbpaa
