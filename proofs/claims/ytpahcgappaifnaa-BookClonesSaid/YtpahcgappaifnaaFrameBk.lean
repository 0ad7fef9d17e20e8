/- Acts on books among a law's arguments.  -/
import Derived.Test.YtpahcgappaifnaaFrameLine
import Derived.Test.YtpahcgappaifnaaBkDo
namespace Go.Proofs.Ytpahcgappaifnaa
open Go.ChangeShapes Go.WideShapes Go.ChangeAt Go.RowKit
set_option linter.unusedVariables false
set_option linter.unusedSimpArgs false

instance : Inhabited ActB := ⟨⟨0, 0, 0, ⟨0, 0, 0, 0⟩, 0, 0, ⟨0, 0, false⟩⟩⟩
set_option maxRecDepth 100000 in
set_option maxHeartbeats 4000000 in
theorem act8_read {H : Type} {enc : TypeId × Value → H} {W : World} (n : Nat) (cs : List Value) (x : DataW H × List MemPlace) (hl : cs.length = 12) (h : DataW.trod enc Try.prog W 0 (fun _ => true) true n 43 cs = some x) :
    ∃ a : ActB, cs = a.cells ∧ a.Ok := by
  match cs, hl with
  | [c0, c1, c2, c3, c4, c5, c6, c7, c8, c9, c10, c11], _ =>
  obtain ⟨xs, n, -, -, -, hlen, hg⟩ := DataW.trod_struct Try.underlying43 h
  have hx : ∀ i, i < 6 → ∃ y, xs[i]? = some y := fun i hi => ⟨_, List.getElem?_eq_getElem (by rw [hlen]; exact hi)⟩
  have ki : Try.prog.cellsOf 3 = 1 := by kernel_rfl
  have k3 : Try.prog.cellsOf 21 = 1 := by kernel_rfl
  have kr : Try.prog.cellsOf 39 = 1 := by kernel_rfl
  have kb1 : Try.prog.cellsOf 4 = 1 := by kernel_rfl
  have kb : Try.prog.cellsOf 36 = 4 := by kernel_rfl
  have kp : Try.prog.cellsOf 38 = 2 := by kernel_rfl
  have kc : Try.prog.cellsOf 41 = 3 := by kernel_rfl
  obtain ⟨y0, z0⟩ := hx 0 (by omega)
  have g0 := (hg 0 _ rfl).trans z0
  obtain ⟨y1, z1⟩ := hx 1 (by omega)
  have g1 := (hg 1 _ rfl).trans z1
  obtain ⟨y2, z2⟩ := hx 2 (by omega)
  have g2 := (hg 2 _ rfl).trans z2
  obtain ⟨y3, z3⟩ := hx 3 (by omega)
  have g3 := (hg 3 _ rfl).trans z3
  obtain ⟨y4, z4⟩ := hx 4 (by omega)
  have g4 := (hg 4 _ rfl).trans z4
  obtain ⟨y5, z5⟩ := hx 5 (by omega)
  have g5 := (hg 5 _ rfl).trans z5
  obtain ⟨kd, ekd, _, _⟩ := DataW.trod_int Try.underlying3 g0
  simp [ki] at ekd
  obtain ⟨nn, enn, _, _⟩ := DataW.trod_int Try.underlying3 g1
  simp [ki] at enn
  obtain ⟨tt, ett, _, _⟩ := DataW.trod_int Try.underlying3 g2
  simp [ki] at ett
  obtain ⟨us, m, -, -, -, ulen, hu⟩ := DataW.trod_struct Try.underlying36 g3
  have hy : ∀ i, i < 4 → ∃ y, us[i]? = some y := fun i hi => ⟨_, List.getElem?_eq_getElem (by rw [ulen]; exact hi)⟩
  obtain ⟨v0, q0⟩ := hy 0 (by omega)
  obtain ⟨bt, ebt, _, _⟩ := DataW.trod_int Try.underlying3 ((hu 0 _ rfl).trans q0)
  simp [ki, kb] at ebt
  obtain ⟨v1, q1⟩ := hy 1 (by omega)
  obtain ⟨bl, ebl, _, _⟩ := DataW.trod_int Try.underlying3 ((hu 1 _ rfl).trans q1)
  simp [ki, kb] at ebl
  obtain ⟨v2, q2⟩ := hy 2 (by omega)
  obtain ⟨bb, ebb, _, _⟩ := DataW.trod_int Try.underlying3 ((hu 2 _ rfl).trans q2)
  simp [ki, kb] at ebb
  obtain ⟨v3, q3⟩ := hy 3 (by omega)
  obtain ⟨br, ebr, _, _⟩ := DataW.trod_int Try.underlying3 ((hu 3 _ rfl).trans q3)
  simp [ki, kb] at ebr
  obtain ⟨ts, m2, -, -, -, tlen, ht⟩ := DataW.trod_struct Try.underlying38 g4
  have hz : ∀ i, i < 2 → ∃ y, ts[i]? = some y := fun i hi => ⟨_, List.getElem?_eq_getElem (by rw [tlen]; exact hi)⟩
  obtain ⟨o0, r0⟩ := hz 0 (by omega)
  obtain ⟨pr, epr, _, wpr⟩ := DataW.trod_int Try.underlying3 ((ht 0 _ rfl).trans r0)
  simp [ki, kp] at epr
  obtain ⟨o1, r1⟩ := hz 1 (by omega)
  obtain ⟨pc', epc, _, wpc⟩ := DataW.trod_int Try.underlying3 ((ht 1 _ rfl).trans r1)
  simp [ki, kp] at epc
  obtain ⟨y, ey, oy⟩ := cell_read _ _ _ (by simp [kc]) g5
  simp [kc, encC] at ey
  refine ⟨⟨kd, nn, tt, ⟨bt, bl, bb, br⟩, pr, pc', y⟩, ?_, ?_⟩
  · obtain ⟨e8, e9, e10⟩ := ey
    rw [ekd, enn, ett, ebt, ebl, ebb, ebr, epr, epc, e8, e9, e10]
    rfl
  · exact ⟨(bounds_i64 wpr).1, (bounds_i64 wpc).1, oy⟩
set_option maxRecDepth 100000 in
theorem open_acts8 {H : Type} {enc : TypeId × Value → H} {W : World} {v : Value} {d : DataW H} {ps : List MemPlace} (hv : ∃ a n c, v = .slice a n c) (h : DataW.Trod enc Try.prog W 0 (fun _ => true) true 22 v d ps) :
    ∃ (a : Option Addr) (c : Nat) (xs : List ActB), v = .slice a xs.length c ∧ Rd ActB.cells 12 W a xs ∧ xs.length ≤ c ∧ c ≤ maxLen ∧ (∀ n ∈ xs, n.Ok) ∧ ((d = .nil ∧ c = 0) ∨ ∃ es sp, d = .slice es sp ∧ es.length + sp.length = c) :=
  open_slice_rd Try.underlying22 (by kernel_rfl) (by omega) (fun _ => rfl) (fun n cs x => act8_read n cs x) hv h
set_option maxRecDepth 100000 in
theorem open_act8 {H : Type} {enc : TypeId × Value → H} {W : World} {base : Nat} {v : Value} {d : DataW H} {ps : List MemPlace} (hv : Value.okWide Try.prog W .any base 43 v)
    (h : DataW.Trod enc Try.prog W 0 (fun _ => true) true 43 v d ps) : ∃ a : ActB, v = a.v ∧ a.Ok := by
  obtain ⟨cs, rfl, hsz⟩ := okWide_struct Try.underlying43 hv
  rw [show Try.prog.cellsOf 43 = 12 by kernel_rfl] at hsz
  obtain ⟨cs⟩ := cs
  obtain ⟨fuel, hf⟩ := h
  obtain ⟨a, e, ho⟩ := act8_read _ cs _ (by simpa using hsz) (by simpa [Value.cells] using hf)
  exact ⟨a, by rw [e]; rfl, ho⟩
end Go.Proofs.Ytpahcgappaifnaa
