/- The beginnings and acts of layers 14 and 15 among a law's arguments.  -/
import Derived.Test.YtignkkejkknddaaGreatFrame
import Derived.Test.YtignkkejkknddaaGreatEdM
namespace Go.Proofs.YtignkkejkknddaaGreat
open Go.ChangeShapes Go.WideShapes Go.ChangeAt Go.RowKit
set_option linter.unusedVariables false
set_option linter.unusedSimpArgs false

instance : Inhabited A14 := ⟨⟨0, false, false, none, 0, []⟩⟩
instance : Inhabited A15 := ⟨⟨0, 0, 0, false⟩⟩
theorem ints_cell {H : Type} {enc : TypeId × Value → H} {W : World} {n : Nat} {cs : List Value} {x : DataW H × List MemPlace} (h : DataW.trod enc Tryz.prog W 0 (fun _ => true) true n 22 cs = some x) :
    ∃ (a : Option Addr) (c : Nat) (xs : List Int), cs = [.slice a xs.length c] ∧ Ints W a xs ∧ xs.length ≤ c ∧ c ≤ maxLen ∧ (a = none → c = 0) := by
  have hs : (cs = [.slice none 0 0]) ∨ ∃ x m c, cs = [.slice (some x) m c] := by
    rcases Go.Deep.open_slice Tryz.underlying22 h with ⟨hcs, _⟩ | ⟨x, len, cap, m, n, D, Pl, hcs, _⟩
    · exact .inl hcs
    · exact .inr ⟨_, _, _, hcs⟩
  rcases hs with rfl | ⟨ad, m, c, rfl⟩
  · exact ⟨none, 0, [], rfl, fun h0 => absurd h0 (by simp), by simp, by simp, fun _ => rfl⟩
  · obtain ⟨a, c', xs, e, rd, hl, hc, _, _⟩ := open_ints_rd (v := .slice (some ad) m c) (d := x.1) (ps := x.2) Tryz.underlying22 Tryz.underlying3 (by kernel_rfl) ⟨_, _, _, rfl⟩ ⟨n, h⟩
    injection e with e1 e2 e3
    subst e1 e2 e3
    exact ⟨_, _, xs, rfl, rd, hl, hc, fun e => by cases e⟩
theorem runes_cell {H : Type} {enc : TypeId × Value → H} {W : World} {n : Nat} {cs : List Value} {x : DataW H × List MemPlace} (h : DataW.trod enc Tryz.prog W 0 (fun _ => true) true n 23 cs = some x) :
    ∃ (a : Option Addr) (c : Nat) (xs : List Int), cs = [.slice a xs.length c] ∧ Rd (encI .i32) 1 W a xs ∧ xs.length ≤ c ∧ c ≤ maxLen ∧ (a = none → c = 0) ∧ ∀ n ∈ xs, -2147483648 ≤ n ∧ n ≤ 2147483647 := by
  have hs : (cs = [.slice none 0 0]) ∨ ∃ x m c, cs = [.slice (some x) m c] := by
    rcases Go.Deep.open_slice Tryz.underlying23 h with ⟨hcs, _⟩ | ⟨x, len, cap, m, n, D, Pl, hcs, _⟩
    · exact .inl hcs
    · exact .inr ⟨_, _, _, hcs⟩
  rcases hs with rfl | ⟨ad, m, c, rfl⟩
  · exact ⟨none, 0, [], rfl, fun h0 => absurd h0 (by simp), by simp, by simp, fun _ => rfl, by simp⟩
  · obtain ⟨a, c', xs, e, rd, hl, hc, hw, _⟩ := open_ints_rd (v := .slice (some ad) m c) (d := x.1) (ps := x.2) Tryz.underlying23 Tryz.underlying21 (by kernel_rfl) ⟨_, _, _, rfl⟩ ⟨n, h⟩
    injection e with e1 e2 e3
    subst e1 e2 e3
    refine ⟨_, _, xs, rfl, rd, hl, hc, (fun e => by cases e), fun n hn => ?_⟩
    exact bounds_i32 (hw n hn)
set_option maxRecDepth 100000 in
set_option maxHeartbeats 4000000 in
theorem bg14_read {H : Type} {enc : TypeId × Value → H} {W : World} (n : Nat) (cs : List Value) (x : DataW H × List MemPlace) (hl : cs.length = 21) (h : DataW.trod enc Tryz.prog W 0 (fun _ => true) true n 33 cs = some x) :
    ∃ a : BgD, cs = a.cells ∧ a.Ok W := by
  match cs, hl with
  | [c0, c1, c2, c3, c4, c5, c6, c7, c8, c9, c10, c11, c12, c13, c14, c15, c16, c17, c18, c19, c20], _ =>
  have k0 : Tryz.prog.cellsOf 25 = 4 := by kernel_rfl
  have k1 : Tryz.prog.cellsOf 22 = 1 := by kernel_rfl
  have k2 : Tryz.prog.cellsOf 23 = 1 := by kernel_rfl
  have k3 : Tryz.prog.cellsOf 31 = 4 := by kernel_rfl
  have k4 : Tryz.prog.cellsOf 24 = 1 := by kernel_rfl
  have k5 : Tryz.prog.cellsOf 4 = 1 := by kernel_rfl
  have k6 : Tryz.prog.cellsOf 3 = 1 := by kernel_rfl
  have k8 : Tryz.prog.cellsOf 27 = 7 := by kernel_rfl
  have k9 : Tryz.prog.cellsOf 29 = 13 := by kernel_rfl
  obtain ⟨xs1, m2, -, -, -, hl3, hg4⟩ := DataW.trod_struct Tryz.underlying33 h
  have hx5 : ∀ i, i < 6 → ∃ y, xs1[i]? = some y := fun i hi => ⟨_, List.getElem?_eq_getElem (by rw [hl3]; exact hi)⟩
  obtain ⟨y6, z7⟩ := hx5 0 (by omega)
  have q8 := (hg4 0 _ rfl).trans z7
  obtain ⟨rows, e_rows, _, w_rows⟩ := DataW.trod_int Tryz.underlying3 q8
  simp [k0, k1, k2, k3, k4, k5, k6, k8, k9, Value.cells] at e_rows
  obtain ⟨y9, z10⟩ := hx5 1 (by omega)
  have q11 := (hg4 1 _ rfl).trans z10
  obtain ⟨cols, e_cols, _, w_cols⟩ := DataW.trod_int Tryz.underlying3 q11
  simp [k0, k1, k2, k3, k4, k5, k6, k8, k9, Value.cells] at e_cols
  obtain ⟨y12, z13⟩ := hx5 2 (by omega)
  have q14 := (hg4 2 _ rfl).trans z13
  obtain ⟨ss_a, ss_c, ss, e_ss, r_ss, l_ss, m_ss, z_ss⟩ := ints_cell q14
  simp [k0, k1, k2, k3, k4, k5, k6, k8, k9, Value.cells] at e_ss
  obtain ⟨y15, z16⟩ := hx5 3 (by omega)
  have q17 := (hg4 3 _ rfl).trans z16
  obtain ⟨ts_a, ts_c, ts, e_ts, r_ts, l_ts, m_ts, z_ts, o_ts⟩ := runes_cell q17
  simp [k0, k1, k2, k3, k4, k5, k6, k8, k9, Value.cells] at e_ts
  obtain ⟨y18, z19⟩ := hx5 4 (by omega)
  have q20 := (hg4 4 _ rfl).trans z19
  obtain ⟨xs21, m22, -, -, -, hl23, hg24⟩ := DataW.trod_struct Tryz.underlying29 q20
  have hx25 : ∀ i, i < 7 → ∃ y, xs21[i]? = some y := fun i hi => ⟨_, List.getElem?_eq_getElem (by rw [hl23]; exact hi)⟩
  obtain ⟨y26, z27⟩ := hx25 0 (by omega)
  have q28 := (hg24 0 _ rfl).trans z27
  obtain ⟨row, e_row, _, w_row⟩ := DataW.trod_int Tryz.underlying3 q28
  simp [k0, k1, k2, k3, k4, k5, k6, k8, k9, Value.cells] at e_row
  obtain ⟨y29, z30⟩ := hx25 1 (by omega)
  have q31 := (hg24 1 _ rfl).trans z30
  obtain ⟨col, e_col, _, w_col⟩ := DataW.trod_int Tryz.underlying3 q31
  simp [k0, k1, k2, k3, k4, k5, k6, k8, k9, Value.cells] at e_col
  obtain ⟨y32, z33⟩ := hx25 2 (by omega)
  have q34 := (hg24 2 _ rfl).trans z33
  obtain ⟨rd, e_rd, _, w_rd⟩ := DataW.trod_int Tryz.underlying24 q34
  simp [k0, k1, k2, k3, k4, k5, k6, k8, k9, Value.cells] at e_rd
  obtain ⟨y35, z36⟩ := hx25 3 (by omega)
  have q37 := (hg24 3 _ rfl).trans z36
  obtain ⟨kp, e_kp, _⟩ := DataW.trod_bool Tryz.underlying4 q37
  simp [k0, k1, k2, k3, k4, k5, k6, k8, k9, Value.cells] at e_kp
  obtain ⟨y38, z39⟩ := hx25 4 (by omega)
  have q40 := (hg24 4 _ rfl).trans z39
  obtain ⟨wp, e_wp, _⟩ := DataW.trod_bool Tryz.underlying4 q40
  simp [k0, k1, k2, k3, k4, k5, k6, k8, k9, Value.cells] at e_wp
  obtain ⟨y41, z42⟩ := hx25 5 (by omega)
  have q43 := (hg24 5 _ rfl).trans z42
  obtain ⟨og, e_og, _⟩ := DataW.trod_bool Tryz.underlying4 q43
  simp [k0, k1, k2, k3, k4, k5, k6, k8, k9, Value.cells] at e_og
  obtain ⟨y44, z45⟩ := hx25 6 (by omega)
  have q46 := (hg24 6 _ rfl).trans z45
  obtain ⟨xs47, m48, -, -, -, hl49, hg50⟩ := DataW.trod_struct Tryz.underlying27 q46
  have hx51 : ∀ i, i < 4 → ∃ y, xs47[i]? = some y := fun i hi => ⟨_, List.getElem?_eq_getElem (by rw [hl49]; exact hi)⟩
  obtain ⟨y52, z53⟩ := hx51 0 (by omega)
  have q54 := (hg50 0 _ rfl).trans z53
  obtain ⟨xs55, m56, -, -, -, hl57, hg58⟩ := DataW.trod_array Tryz.underlying25 q54
  have hx59 : ∀ i, i < 4 → ∃ y, xs55[i]? = some y := fun i hi => ⟨_, List.getElem?_eq_getElem (by rw [hl57]; exact hi)⟩
  obtain ⟨y60, z61⟩ := hx59 0 (by omega)
  have q62 := (hg58 0 (by omega)).trans z61
  obtain ⟨a, e_a, _, w_a⟩ := DataW.trod_int Tryz.underlying3 q62
  simp [k0, k1, k2, k3, k4, k5, k6, k8, k9, Value.cells] at e_a
  obtain ⟨y63, z64⟩ := hx59 1 (by omega)
  have q65 := (hg58 1 (by omega)).trans z64
  obtain ⟨b, e_b, _, w_b⟩ := DataW.trod_int Tryz.underlying3 q65
  simp [k0, k1, k2, k3, k4, k5, k6, k8, k9, Value.cells] at e_b
  obtain ⟨y66, z67⟩ := hx59 2 (by omega)
  have q68 := (hg58 2 (by omega)).trans z67
  obtain ⟨c, e_c, _, w_c⟩ := DataW.trod_int Tryz.underlying3 q68
  simp [k0, k1, k2, k3, k4, k5, k6, k8, k9, Value.cells] at e_c
  obtain ⟨y69, z70⟩ := hx59 3 (by omega)
  have q71 := (hg58 3 (by omega)).trans z70
  obtain ⟨d, e_d, _, w_d⟩ := DataW.trod_int Tryz.underlying3 q71
  simp [k0, k1, k2, k3, k4, k5, k6, k8, k9, Value.cells] at e_d
  obtain ⟨y72, z73⟩ := hx51 1 (by omega)
  have q74 := (hg50 1 _ rfl).trans z73
  obtain ⟨l, e_l, _, w_l⟩ := DataW.trod_int Tryz.underlying3 q74
  simp [k0, k1, k2, k3, k4, k5, k6, k8, k9, Value.cells] at e_l
  obtain ⟨y75, z76⟩ := hx51 2 (by omega)
  have q77 := (hg50 2 _ rfl).trans z76
  obtain ⟨r, e_r, _, w_r⟩ := DataW.trod_int Tryz.underlying3 q77
  simp [k0, k1, k2, k3, k4, k5, k6, k8, k9, Value.cells] at e_r
  obtain ⟨y78, z79⟩ := hx51 3 (by omega)
  have q80 := (hg50 3 _ rfl).trans z79
  obtain ⟨s, e_s, _, w_s⟩ := DataW.trod_int Tryz.underlying3 q80
  simp [k0, k1, k2, k3, k4, k5, k6, k8, k9, Value.cells] at e_s
  obtain ⟨y81, z82⟩ := hx5 5 (by omega)
  have q83 := (hg4 5 _ rfl).trans z82
  obtain ⟨xs84, m85, -, -, -, hl86, hg87⟩ := DataW.trod_struct Tryz.underlying31 q83
  have hx88 : ∀ i, i < 4 → ∃ y, xs84[i]? = some y := fun i hi => ⟨_, List.getElem?_eq_getElem (by rw [hl86]; exact hi)⟩
  obtain ⟨y89, z90⟩ := hx88 0 (by omega)
  have q91 := (hg87 0 _ rfl).trans z90
  obtain ⟨bt, e_bt, _, w_bt⟩ := DataW.trod_int Tryz.underlying3 q91
  simp [k0, k1, k2, k3, k4, k5, k6, k8, k9, Value.cells] at e_bt
  obtain ⟨y92, z93⟩ := hx88 1 (by omega)
  have q94 := (hg87 1 _ rfl).trans z93
  obtain ⟨bl, e_bl, _, w_bl⟩ := DataW.trod_int Tryz.underlying3 q94
  simp [k0, k1, k2, k3, k4, k5, k6, k8, k9, Value.cells] at e_bl
  obtain ⟨y95, z96⟩ := hx88 2 (by omega)
  have q97 := (hg87 2 _ rfl).trans z96
  obtain ⟨bb, e_bb, _, w_bb⟩ := DataW.trod_int Tryz.underlying3 q97
  simp [k0, k1, k2, k3, k4, k5, k6, k8, k9, Value.cells] at e_bb
  obtain ⟨y98, z99⟩ := hx88 3 (by omega)
  have q100 := (hg87 3 _ rfl).trans z99
  obtain ⟨br, e_br, _, w_br⟩ := DataW.trod_int Tryz.underlying3 q100
  simp [k0, k1, k2, k3, k4, k5, k6, k8, k9, Value.cells] at e_br
  refine ⟨⟨rows, cols, ss_a, ss_c, ss, ts_a, ts_c, ts, ⟨row, col, rd, kp, wp, og, a, b, c, d, l, r, s⟩, ⟨bt, bl, bb, br⟩⟩, ?_, ?_⟩
  · rw [e_rows, e_cols, e_ss, e_ts, e_row, e_col, e_rd, e_kp, e_wp, e_og, e_a, e_b, e_c, e_d, e_l, e_r, e_s, e_bt, e_bl, e_bb, e_br]
    rfl
  · exact ⟨r_ss, l_ss, m_ss, z_ss, r_ts, l_ts, m_ts, z_ts, o_ts, bounds_i64 w_row, bounds_i64 w_col⟩
set_option maxRecDepth 100000 in
theorem open_bg14 {H : Type} {enc : TypeId × Value → H} {W : World} {base : Nat} {v : Value} {d : DataW H} {ps : List MemPlace} (hv : Value.okWide Tryz.prog W .any base 33 v)
    (h : DataW.Trod enc Tryz.prog W 0 (fun _ => true) true 33 v d ps) : ∃ a : BgD, v = a.v ∧ a.Ok W := by
  obtain ⟨cs, rfl, hsz⟩ := okWide_struct Tryz.underlying33 hv
  rw [show Tryz.prog.cellsOf 33 = 21 by kernel_rfl] at hsz
  obtain ⟨cs⟩ := cs
  obtain ⟨fuel, hf⟩ := h
  obtain ⟨a, e, ho⟩ := bg14_read _ cs _ (by simpa using hsz) (by simpa [Value.cells] using hf)
  exact ⟨a, by rw [e]; rfl, ho⟩
end Go.Proofs.YtignkkejkknddaaGreat
