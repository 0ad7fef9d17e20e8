/- Cursors and frames among a law's arguments. -/
import Derived.Test.YtdlngbmgcedbpaaFrame
import Derived.Test.YtdlngbmgcedbpaaCursA
namespace Go.Proofs.Ytdlngbmgcedbpaa
open Go.ChangeShapes Go.WideShapes Go.ChangeAt Go.RowKit
set_option linter.unusedVariables false
set_option linter.unusedSimpArgs false

set_option maxRecDepth 100000 in
set_option maxHeartbeats 4000000 in
theorem open_cursor {H : Type} {enc : TypeId × Value → H} {W : World} {base : Nat} {v : Value} {d : DataW H} {ps : List MemPlace} (hv : Value.okWide Try.prog W .any base 27 v)
    (h : DataW.Trod enc Try.prog W 0 (fun _ => true) true 27 v d ps) : ∃ (row col rd : Int) (kp wp og : Bool) (a b c d' l r s : Int), v = .agg #[.int .i64 row, .int .i64 col, .int .u8 rd, .bool kp, .bool wp, .bool og, .int .i64 a, .int .i64 b, .int .i64 c, .int .i64 d', .int .i64 l, .int .i64 r, .int .i64 s] ∧ (Lit.int .i64 row).wf = true ∧ (Lit.int .i64 col).wf = true := by
  obtain ⟨cs, rfl, hsz⟩ := okWide_struct Try.underlying27 hv
  rw [show Try.prog.cellsOf 27 = 13 by kernel_rfl] at hsz
  obtain ⟨cs⟩ := cs
  match cs, hsz with
  | [c0, c1, c2, c3, c4, c5, c6, c7, c8, c9, c10, c11, c12], _ =>
  obtain ⟨fuel, hf⟩ := h
  obtain ⟨xs, n, -, -, -, hlen, hg⟩ := DataW.trod_struct Try.underlying27 hf
  have hx : ∀ i, i < 7 → ∃ y, xs[i]? = some y := fun i hi => ⟨_, List.getElem?_eq_getElem (by rw [hlen]; exact hi)⟩
  have ki : Try.prog.cellsOf 3 = 1 := by kernel_rfl
  have kr : Try.prog.cellsOf 22 = 1 := by kernel_rfl
  have kb1 : Try.prog.cellsOf 4 = 1 := by kernel_rfl
  have ks : Try.prog.cellsOf 25 = 7 := by kernel_rfl
  have ka : Try.prog.cellsOf 23 = 4 := by kernel_rfl
  obtain ⟨y0, z0⟩ := hx 0 (by omega)
  have g0 := (hg 0 _ rfl).trans z0
  obtain ⟨y1, z1⟩ := hx 1 (by omega)
  have g1 := (hg 1 _ rfl).trans z1
  obtain ⟨y2, z2⟩ := hx 2 (by omega)
  have g2 := (hg 2 _ rfl).trans z2
  obtain ⟨y3, z3⟩ := hx 3 (by omega)
  have g3 := (hg 3 _ rfl).trans z3
  obtain ⟨y4, z4⟩ := hx 4 (by omega)
  have g4 := (hg 4 _ rfl).trans z4
  obtain ⟨y5, z5⟩ := hx 5 (by omega)
  have g5 := (hg 5 _ rfl).trans z5
  obtain ⟨y6, z6⟩ := hx 6 (by omega)
  have g6 := (hg 6 _ rfl).trans z6
  obtain ⟨row, erow, _, wrow⟩ := DataW.trod_int Try.underlying3 g0
  simp [ki, ks, ka, Value.cells] at erow
  obtain ⟨col, ecol, _, wcol⟩ := DataW.trod_int Try.underlying3 g1
  simp [ki, ks, ka, Value.cells] at ecol
  obtain ⟨rd, erd, _, wrd⟩ := DataW.trod_int Try.underlying22 g2
  simp [kr, Value.cells] at erd
  obtain ⟨kp, ekp, _⟩ := DataW.trod_bool Try.underlying4 g3
  simp [kb1, Value.cells] at ekp
  obtain ⟨wp, ewp, _⟩ := DataW.trod_bool Try.underlying4 g4
  simp [kb1, Value.cells] at ewp
  obtain ⟨og, eog, _⟩ := DataW.trod_bool Try.underlying4 g5
  simp [kb1, Value.cells] at eog
  obtain ⟨us, m, -, -, -, ulen, hu⟩ := DataW.trod_struct Try.underlying25 g6
  have hy : ∀ i, i < 4 → ∃ y, us[i]? = some y := fun i hi => ⟨_, List.getElem?_eq_getElem (by rw [ulen]; exact hi)⟩
  obtain ⟨v0, q0⟩ := hy 0 (by omega)
  have p0 := (hu 0 _ rfl).trans q0
  obtain ⟨v1, q1⟩ := hy 1 (by omega)
  have p1 := (hu 1 _ rfl).trans q1
  obtain ⟨v2, q2⟩ := hy 2 (by omega)
  have p2 := (hu 2 _ rfl).trans q2
  obtain ⟨v3, q3⟩ := hy 3 (by omega)
  have p3 := (hu 3 _ rfl).trans q3
  obtain ⟨l, el, _, wl⟩ := DataW.trod_int Try.underlying3 p1
  simp [ki, ks, ka, Value.cells] at el
  obtain ⟨r, er, _, wr⟩ := DataW.trod_int Try.underlying3 p2
  simp [ki, ks, ka, Value.cells] at er
  obtain ⟨s, es, _, ws⟩ := DataW.trod_int Try.underlying3 p3
  simp [ki, ks, ka, Value.cells] at es
  obtain ⟨ts, mm, -, -, -, tlen, ht⟩ := DataW.trod_array Try.underlying23 p0
  have hz : ∀ i, i < 4 → ∃ y, ts[i]? = some y := fun i hi => ⟨_, List.getElem?_eq_getElem (by rw [tlen]; exact hi)⟩
  obtain ⟨o0, r0⟩ := hz 0 (by omega)
  have s0 := (ht 0 (by omega)).trans r0
  obtain ⟨a, ea, _, wa⟩ := DataW.trod_int Try.underlying3 s0
  simp [ki, ks, ka, Value.cells] at ea
  obtain ⟨o1, r1⟩ := hz 1 (by omega)
  have s1 := (ht 1 (by omega)).trans r1
  obtain ⟨b, eb, _, wb⟩ := DataW.trod_int Try.underlying3 s1
  simp [ki, ks, ka, Value.cells] at eb
  obtain ⟨o2, r2⟩ := hz 2 (by omega)
  have s2 := (ht 2 (by omega)).trans r2
  obtain ⟨c, ec, _, wc⟩ := DataW.trod_int Try.underlying3 s2
  simp [ki, ks, ka, Value.cells] at ec
  obtain ⟨o3, r3⟩ := hz 3 (by omega)
  have s3 := (ht 3 (by omega)).trans r3
  obtain ⟨d, ed, _, wd⟩ := DataW.trod_int Try.underlying3 s3
  simp [ki, ks, ka, Value.cells] at ed
  exact ⟨row, col, rd, kp, wp, og, a, b, c, d, l, r, s, by rw [erow, ecol, erd, ekp, ewp, eog, ea, eb, ec, ed, el, er, es], wrow, wcol⟩

set_option maxRecDepth 100000 in
set_option maxHeartbeats 4000000 in
theorem open_frame {H : Type} {enc : TypeId × Value → H} {W : World} {base : Nat} {v : Value} {d : DataW H} {ps : List MemPlace} (hv : Value.okWide Try.prog W .any base 42 v)
    (h : DataW.Trod enc Try.prog W 0 (fun _ => true) true 42 v d ps) : ∃ (pt pl pb pr mt ml mb mr : Int), v = .agg #[.int .i64 pt, .int .i64 pl, .int .i64 pb, .int .i64 pr, .int .i64 mt, .int .i64 ml, .int .i64 mb, .int .i64 mr] := by
  obtain ⟨cs, rfl, hsz⟩ := okWide_struct Try.underlying42 hv
  rw [show Try.prog.cellsOf 42 = 8 by kernel_rfl] at hsz
  obtain ⟨cs⟩ := cs
  match cs, hsz with
  | [c0, c1, c2, c3, c4, c5, c6, c7], _ =>
  obtain ⟨fuel, hf⟩ := h
  obtain ⟨xs, n, -, -, -, hlen, hg⟩ := DataW.trod_struct Try.underlying42 hf
  have hx : ∀ i, i < 2 → ∃ y, xs[i]? = some y := fun i hi => ⟨_, List.getElem?_eq_getElem (by rw [hlen]; exact hi)⟩
  have ki : Try.prog.cellsOf 3 = 1 := by kernel_rfl
  have kb : Try.prog.cellsOf 40 = 4 := by kernel_rfl
  obtain ⟨y0, z0⟩ := hx 0 (by omega)
  have g0 := (hg 0 _ rfl).trans z0
  obtain ⟨y1, z1⟩ := hx 1 (by omega)
  have g1 := (hg 1 _ rfl).trans z1
  obtain ⟨us0, m0, -, -, -, ulen0, hu0⟩ := DataW.trod_struct Try.underlying40 g0
  have hy0 : ∀ i, i < 4 → ∃ y, us0[i]? = some y := fun i hi => ⟨_, List.getElem?_eq_getElem (by rw [ulen0]; exact hi)⟩
  obtain ⟨v00, q00⟩ := hy0 0 (by omega)
  have p00 := (hu0 0 _ rfl).trans q00
  obtain ⟨pt, ept, _, wpt⟩ := DataW.trod_int Try.underlying3 p00
  simp [ki, kb, Value.cells] at ept
  obtain ⟨v01, q01⟩ := hy0 1 (by omega)
  have p01 := (hu0 1 _ rfl).trans q01
  obtain ⟨pl, epl, _, wpl⟩ := DataW.trod_int Try.underlying3 p01
  simp [ki, kb, Value.cells] at epl
  obtain ⟨v02, q02⟩ := hy0 2 (by omega)
  have p02 := (hu0 2 _ rfl).trans q02
  obtain ⟨pb, epb, _, wpb⟩ := DataW.trod_int Try.underlying3 p02
  simp [ki, kb, Value.cells] at epb
  obtain ⟨v03, q03⟩ := hy0 3 (by omega)
  have p03 := (hu0 3 _ rfl).trans q03
  obtain ⟨pr, epr, _, wpr⟩ := DataW.trod_int Try.underlying3 p03
  simp [ki, kb, Value.cells] at epr
  obtain ⟨us1, m1, -, -, -, ulen1, hu1⟩ := DataW.trod_struct Try.underlying40 g1
  have hy1 : ∀ i, i < 4 → ∃ y, us1[i]? = some y := fun i hi => ⟨_, List.getElem?_eq_getElem (by rw [ulen1]; exact hi)⟩
  obtain ⟨v10, q10⟩ := hy1 0 (by omega)
  have p10 := (hu1 0 _ rfl).trans q10
  obtain ⟨mt, emt, _, wmt⟩ := DataW.trod_int Try.underlying3 p10
  simp [ki, kb, Value.cells] at emt
  obtain ⟨v11, q11⟩ := hy1 1 (by omega)
  have p11 := (hu1 1 _ rfl).trans q11
  obtain ⟨ml, eml, _, wml⟩ := DataW.trod_int Try.underlying3 p11
  simp [ki, kb, Value.cells] at eml
  obtain ⟨v12, q12⟩ := hy1 2 (by omega)
  have p12 := (hu1 2 _ rfl).trans q12
  obtain ⟨mb, emb, _, wmb⟩ := DataW.trod_int Try.underlying3 p12
  simp [ki, kb, Value.cells] at emb
  obtain ⟨v13, q13⟩ := hy1 3 (by omega)
  have p13 := (hu1 3 _ rfl).trans q13
  obtain ⟨mr, emr, _, wmr⟩ := DataW.trod_int Try.underlying3 p13
  simp [ki, kb, Value.cells] at emr
  exact ⟨pt, pl, pb, pr, mt, ml, mb, mr, by rw [ept, epl, epb, epr, emt, eml, emb, emr]⟩
end Go.Proofs.Ytdlngbmgcedbpaa
