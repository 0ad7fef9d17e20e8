/- Acts on pages among a law's arguments.  -/
import Derived.Test.YtgmbnnmckdjabaaGreatFrameLine
import Derived.Test.YtgmbnnmckdjabaaGreatPgAct
namespace Go.Proofs.YtgmbnnmckdjabaaGreat
open Go.ChangeShapes Go.WideShapes Go.ChangeAt Go.RowKit
set_option linter.unusedVariables false
set_option linter.unusedSimpArgs false

instance : Inhabited ActD := ⟨⟨0, 0, ⟨0, 0, 0, 0⟩, 0, 0, ⟨0, 0, false⟩, none, 0, [], none, 0, []⟩⟩
/-- a list of numbers, of cells, as it stands in one cell -/
theorem ints_cell {H : Type} {enc : TypeId × Value → H} {W : World} {n : Nat} {cs : List Value} {x : DataW H × List MemPlace} (h : DataW.trod enc Tryz.prog W 0 (fun _ => true) true n 23 cs = some x) :
    ∃ (a : Option Addr) (c : Nat) (xs : List Int), cs = [.slice a xs.length c] ∧ Ints W a xs ∧ xs.length ≤ c ∧ c ≤ maxLen ∧ (a = none → c = 0) := by
  have hs : (cs = [.slice none 0 0]) ∨ ∃ x m c, cs = [.slice (some x) m c] := by
    rcases Go.Deep.open_slice Tryz.underlying23 h with ⟨hcs, _⟩ | ⟨x, len, cap, m, n, D, Pl, hcs, _⟩
    · exact .inl hcs
    · exact .inr ⟨_, _, _, hcs⟩
  rcases hs with rfl | ⟨ad, m, c, rfl⟩
  · exact ⟨none, 0, [], rfl, fun h0 => absurd h0 (by simp), by simp, by simp, fun _ => rfl⟩
  · obtain ⟨a, c', xs, e, rd, hl, hc, _, _⟩ := open_ints_rd (v := .slice (some ad) m c) (d := x.1) (ps := x.2) Tryz.underlying23 Tryz.underlying3 (by kernel_rfl) ⟨_, _, _, rfl⟩ ⟨n, h⟩
    injection e with e1 e2 e3
    subst e1 e2 e3
    exact ⟨_, _, xs, rfl, rd, hl, hc, fun e => by cases e⟩
theorem cells_cell {H : Type} {enc : TypeId × Value → H} {W : World} {n : Nat} {cs : List Value} {x : DataW H × List MemPlace} (h : DataW.trod enc Tryz.prog W 0 (fun _ => true) true n 46 cs = some x) :
    ∃ (a : Option Addr) (c : Nat) (xs : List Cl), cs = [.slice a xs.length c] ∧ Rd encC 3 W a xs ∧ xs.length ≤ c ∧ c ≤ maxLen ∧ (a = none → c = 0) ∧ ∀ y ∈ xs, y.ok := by
  have hs : (cs = [.slice none 0 0]) ∨ ∃ x m c, cs = [.slice (some x) m c] := by
    rcases Go.Deep.open_slice Tryz.underlying46 h with ⟨hcs, _⟩ | ⟨x, len, cap, m, n, D, Pl, hcs, _⟩
    · exact .inl hcs
    · exact .inr ⟨_, _, _, hcs⟩
  rcases hs with rfl | ⟨ad, m, c, rfl⟩
  · exact ⟨none, 0, [], rfl, fun h0 => absurd h0 (by simp), by simp, by simp, fun _ => rfl, by simp⟩
  · obtain ⟨a, c', xs, e, rd, hl, hc, ho, _⟩ := open_cells (v := .slice (some ad) m c) (d := x.1) (ps := x.2) ⟨_, _, _, rfl⟩ ⟨n, h⟩
    injection e with e1 e2 e3
    subst e1 e2 e3
    exact ⟨_, _, xs, rfl, rd, hl, hc, (fun e => by cases e), ho⟩
set_option maxRecDepth 100000 in
set_option maxHeartbeats 4000000 in
theorem act_read {H : Type} {enc : TypeId × Value → H} {W : World} (n : Nat) (cs : List Value) (x : DataW H × List MemPlace) (hl : cs.length = 13) (h : DataW.trod enc Tryz.prog W 0 (fun _ => true) true n 60 cs = some x) :
    ∃ a : ActD, cs = a.cells ∧ a.Ok W := by
  match cs, hl with
  | [c0, c1, c2, c3, c4, c5, c6, c7, c8, c9, c10, c11, c12], _ =>
  obtain ⟨xs, n, -, -, -, hlen, hg⟩ := DataW.trod_struct Tryz.underlying60 h
  have hx : ∀ i, i < 7 → ∃ y, xs[i]? = some y := fun i hi => ⟨_, List.getElem?_eq_getElem (by rw [hlen]; exact hi)⟩
  have ki : Tryz.prog.cellsOf 3 = 1 := by kernel_rfl
  have k3 : Tryz.prog.cellsOf 21 = 1 := by kernel_rfl
  have kr : Tryz.prog.cellsOf 47 = 1 := by kernel_rfl
  have kb1 : Tryz.prog.cellsOf 4 = 1 := by kernel_rfl
  have kb : Tryz.prog.cellsOf 36 = 4 := by kernel_rfl
  have kp : Tryz.prog.cellsOf 39 = 2 := by kernel_rfl
  have kc : Tryz.prog.cellsOf 49 = 3 := by kernel_rfl
  have kl : Tryz.prog.cellsOf 23 = 1 := by kernel_rfl
  have kw : Tryz.prog.cellsOf 46 = 1 := by kernel_rfl
  obtain ⟨y0, z0⟩ := hx 0 (by omega)
  have g0 := (hg 0 _ rfl).trans z0
  obtain ⟨y1, z1⟩ := hx 1 (by omega)
  have g1 := (hg 1 _ rfl).trans z1
  obtain ⟨y2, z2⟩ := hx 2 (by omega)
  have g2 := (hg 2 _ rfl).trans z2
  obtain ⟨y3, z3⟩ := hx 3 (by omega)
  have g3 := (hg 3 _ rfl).trans z3
  obtain ⟨y4, z4⟩ := hx 4 (by omega)
  have g4 := (hg 4 _ rfl).trans z4
  obtain ⟨y5, z5⟩ := hx 5 (by omega)
  have g5 := (hg 5 _ rfl).trans z5
  obtain ⟨y6, z6⟩ := hx 6 (by omega)
  have g6 := (hg 6 _ rfl).trans z6
  obtain ⟨kd, ekd, _, _⟩ := DataW.trod_int Tryz.underlying3 g0
  simp [ki] at ekd
  obtain ⟨nn, enn, _, _⟩ := DataW.trod_int Tryz.underlying3 g1
  simp [ki] at enn
  obtain ⟨us, m, -, -, -, ulen, hu⟩ := DataW.trod_struct Tryz.underlying36 g2
  have hy : ∀ i, i < 4 → ∃ y, us[i]? = some y := fun i hi => ⟨_, List.getElem?_eq_getElem (by rw [ulen]; exact hi)⟩
  obtain ⟨v0, q0⟩ := hy 0 (by omega)
  obtain ⟨bt, ebt, _, _⟩ := DataW.trod_int Tryz.underlying3 ((hu 0 _ rfl).trans q0)
  simp [ki, kb] at ebt
  obtain ⟨v1, q1⟩ := hy 1 (by omega)
  obtain ⟨bl, ebl, _, _⟩ := DataW.trod_int Tryz.underlying3 ((hu 1 _ rfl).trans q1)
  simp [ki, kb] at ebl
  obtain ⟨v2, q2⟩ := hy 2 (by omega)
  obtain ⟨bb, ebb, _, _⟩ := DataW.trod_int Tryz.underlying3 ((hu 2 _ rfl).trans q2)
  simp [ki, kb] at ebb
  obtain ⟨v3, q3⟩ := hy 3 (by omega)
  obtain ⟨br, ebr, _, _⟩ := DataW.trod_int Tryz.underlying3 ((hu 3 _ rfl).trans q3)
  simp [ki, kb] at ebr
  obtain ⟨ts, m2, -, -, -, tlen, ht⟩ := DataW.trod_struct Tryz.underlying39 g3
  have hz : ∀ i, i < 2 → ∃ y, ts[i]? = some y := fun i hi => ⟨_, List.getElem?_eq_getElem (by rw [tlen]; exact hi)⟩
  obtain ⟨o0, r0⟩ := hz 0 (by omega)
  obtain ⟨pr, epr, _, wpr⟩ := DataW.trod_int Tryz.underlying3 ((ht 0 _ rfl).trans r0)
  simp [ki, kp] at epr
  obtain ⟨o1, r1⟩ := hz 1 (by omega)
  obtain ⟨pc', epc, _, wpc⟩ := DataW.trod_int Tryz.underlying3 ((ht 1 _ rfl).trans r1)
  simp [ki, kp] at epc
  obtain ⟨y, ey, oy⟩ := cell_read _ _ _ (by simp [kc]) g4
  simp [kc, encC] at ey
  obtain ⟨pa, pc, ps, eps, rps, hpl, hpm, hpn⟩ := ints_cell g5
  simp [kl] at eps
  obtain ⟨ra, rc, rw, erw, rrw, hrl, hrm, hrn, hro⟩ := cells_cell g6
  simp [kw] at erw
  refine ⟨⟨kd, nn, ⟨bt, bl, bb, br⟩, pr, pc', y, pa, pc, ps, ra, rc, rw⟩, ?_, ?_⟩
  · obtain ⟨e8, e9, e10⟩ := ey
    rw [ekd, enn, ebt, ebl, ebb, ebr, epr, epc, e8, e9, e10, eps, erw]
    rfl
  · simp only [maxLen] at hpm hrm
    exact ⟨(bounds_i64 wpr).1, (bounds_i64 wpc).1, oy, rps, hpl, hpm, hpn, rrw, hrl, hrm, hrn, hro⟩
set_option maxRecDepth 100000 in
theorem open_acts7 {H : Type} {enc : TypeId × Value → H} {W : World} {v : Value} {d : DataW H} {ps : List MemPlace} (hv : ∃ a n c, v = .slice a n c) (h : DataW.Trod enc Tryz.prog W 0 (fun _ => true) true 22 v d ps) :
    ∃ (a : Option Addr) (c : Nat) (xs : List ActD), v = .slice a xs.length c ∧ Rd ActD.cells 13 W a xs ∧ xs.length ≤ c ∧ c ≤ maxLen ∧ (∀ n ∈ xs, n.Ok W) ∧ ((d = .nil ∧ c = 0) ∨ ∃ es sp, d = .slice es sp ∧ es.length + sp.length = c) :=
  open_slice_rd Tryz.underlying22 (by kernel_rfl) (by omega) (fun _ => rfl) (fun n cs x => act_read n cs x) hv h
set_option maxRecDepth 100000 in
theorem open_act7 {H : Type} {enc : TypeId × Value → H} {W : World} {base : Nat} {v : Value} {d : DataW H} {ps : List MemPlace} (hv : Value.okWide Tryz.prog W .any base 60 v)
    (h : DataW.Trod enc Tryz.prog W 0 (fun _ => true) true 60 v d ps) : ∃ a : ActD, v = a.v ∧ a.Ok W := by
  obtain ⟨cs, rfl, hsz⟩ := okWide_struct Tryz.underlying60 hv
  rw [show Tryz.prog.cellsOf 60 = 13 by kernel_rfl] at hsz
  obtain ⟨cs⟩ := cs
  obtain ⟨fuel, hf⟩ := h
  obtain ⟨a, e, ho⟩ := act_read _ cs _ (by simpa using hsz) (by simpa [Value.cells] using hf)
  exact ⟨a, by rw [e]; rfl, ho⟩
end Go.Proofs.YtgmbnnmckdjabaaGreat
