/- phosphorref16: Change.  -/
import Derived.Test.YtignkkejkknddaaGreatRecN
namespace Go.Proofs.YtignkkejkknddaaGreat
open Go.RowKit
set_option linter.unusedVariables false
set_option linter.unusedSimpArgs false

section
variable {w : World}
theorem two {b : Nat} {v0 v1 : Value} {t : TypeId} (h : w.heap[b]? = some (.cells #[v0, v1] t (0, 0))) : w.cell? ⟨b, 0, none⟩ = some v0 ∧ w.cell? ⟨b, 1, none⟩ = some v1 ∧ b < w.heap.size ∧ ∀ q, w.frozen? ⟨b, q, none⟩ = false := by
  refine ⟨?_, ?_, heap_in h, fun q => frozen_in h⟩ <;> (rw [cell_in h]; rfl)
theorem stow2 {b : Nat} {u0 u1 : Value} {t : TypeId} (h : w.heap[b]? = some (.cells #[u0, u1] t (0, 0))) (v0 v1 : Value) :
    ∃ W', (w.setCell ⟨b, 0, none⟩ v0).setCell ⟨b, 1, none⟩ v1 = W' ∧ Keep (· = b) w W' ∧ W'.heap[b]? = some (.cells #[v0, v1] t (0, 0)) := by
  refine ⟨_, rfl, (keep_set w b 0 v0).set (F := (· = b)) (p := ⟨b, 1, none⟩) (.inl rfl) v1, ?_⟩
  have := set_cellA (k := 1) v1 (set_cellA (k := 0) v0 h)
  simpa using this
theorem four {b : Nat} {v0 v1 v2 v3 : Value} {t : TypeId} (h : w.heap[b]? = some (.cells #[v0, v1, v2, v3] t (0, 0))) : w.cell? ⟨b, 0, none⟩ = some v0 ∧ w.cell? ⟨b, 1, none⟩ = some v1 ∧ w.cell? ⟨b, 2, none⟩ = some v2 ∧ w.cell? ⟨b, 3, none⟩ = some v3 ∧ b < w.heap.size ∧ ∀ q, w.frozen? ⟨b, q, none⟩ = false := by
  refine ⟨?_, ?_, ?_, ?_, heap_in h, fun q => frozen_in h⟩ <;> (rw [cell_in h]; rfl)
theorem three {b : Nat} {v0 v1 v2 : Value} {t : TypeId} (h : w.heap[b]? = some (.cells #[v0, v1, v2] t (0, 0))) : w.cell? ⟨b, 0, none⟩ = some v0 ∧ w.cell? ⟨b, 1, none⟩ = some v1 ∧ w.cell? ⟨b, 2, none⟩ = some v2 ∧ b < w.heap.size ∧ ∀ q, w.frozen? ⟨b, q, none⟩ = false := by
  refine ⟨?_, ?_, ?_, heap_in h, fun q => frozen_in h⟩ <;> (rw [cell_in h]; rfl)
end
theorem wrap_back {a b r : Nat} (h : r + 1 = a + b) (ha : a ≤ 1000) (hb : b ≤ 1000) : IntKind.i64.wrap (IntKind.i64.wrap ((a : Int) + b) - 1) = r := by
  rw [wrap_i64 (m := (a : Int) + b) (by omega) (by omega), wrap_i64 (by omega) (by omega)]
  omega
/-- the numbers of a stream, as Change reads them -/
structure StN (y : BxI) (xs : List Int) (R C n0 n1 n2 n3 : Nat) : Prop where
  b0 : 1 ≤ n0
  b1 : 1 ≤ n1
  b2 : n2 ≤ R
  b3 : n3 ≤ C
  e0 : stT y xs = y.t + n0 - 1
  e1 : stL y xs = y.l + n1 - 1
  e2 : stB y xs = y.t + n2
  e3 : stR y xs = y.l + n3
def stv (x : Int) : Int := if x = 0 then 1 else x
def stw (R x : Int) : Int := if x ≠ 0 ∧ x < R then x else R
theorem stn {y : BxI} {xs : List Int} {R C : Nat} (hR : y.b = y.t + R) (hC : y.r = y.l + C) (h0 : 0 ≤ at0 xs 0) (h1 : 0 ≤ at0 xs 1) (h2 : 0 ≤ at0 xs 2) (h3 : 0 ≤ at0 xs 3) :
    ∃ n0 n1 n2 n3 : Nat, stv (at0 xs 0) = n0 ∧ stv (at0 xs 1) = n1 ∧ stw R (at0 xs 2) = n2 ∧ stw C (at0 xs 3) = n3 ∧ StN y xs R C n0 n1 n2 n3 := by
  have q0 : 1 ≤ stv (at0 xs 0) := by unfold stv; split <;> omega
  have q1 : 1 ≤ stv (at0 xs 1) := by unfold stv; split <;> omega
  have q2 : 0 ≤ stw R (at0 xs 2) ∧ stw R (at0 xs 2) ≤ R := by unfold stw; split <;> omega
  have q3 : 0 ≤ stw C (at0 xs 3) ∧ stw C (at0 xs 3) ≤ C := by unfold stw; split <;> omega
  have a0 : stT y xs = y.t + stv (at0 xs 0) - 1 := by unfold stT stv; split <;> omega
  have a1 : stL y xs = y.l + stv (at0 xs 1) - 1 := by unfold stL stv; split <;> omega
  have a2 : stB y xs = y.t + stw R (at0 xs 2) := by unfold stB stw lastA; split <;> split <;> omega
  have a3 : stR y xs = y.l + stw C (at0 xs 3) := by unfold stR stw lastA; split <;> split <;> omega
  refine ⟨(stv (at0 xs 0)).toNat, (stv (at0 xs 1)).toNat, (stw R (at0 xs 2)).toNat, (stw C (at0 xs 3)).toNat, by omega, by omega, by omega, by omega, by omega, by omega, by omega, by omega, by omega, by omega, by omega, by omega⟩
section
variable {y : BxI} {xs : List Int} {R C n0 n1 n2 n3 : Nat}
theorem StN.ok (h : StN y xs R C n0 n1 n2 n3) (hR : y.b = y.t + R) (hC : y.r = y.l + C) (h0 : 0 ≤ at0 xs 0) (h1 : 0 ≤ at0 xs 1) (h2 : 0 ≤ at0 xs 2) (h3 : 0 ≤ at0 xs 3) (hR0 : 0 < R) (hC0 : 0 < C) :
    stOk y xs = decide (n0 ≤ n2 ∧ n1 ≤ C ∧ ¬ (n0 = n2 ∧ n3 < n1)) := by
  obtain ⟨b0, b1, b2, b3, e0, e1, e2, e3⟩ := h
  unfold stOk stPre
  rw [e0, e1, e2, e3, Bool.eq_iff_iff]
  simp only [Bool.and_eq_true, decide_eq_true_eq]
  omega
theorem StN.inn (h : StN y xs R C n0 n1 n2 n3) (hC : y.r = y.l + C) {row col ri ci : Nat} (h1 : n0 ≤ row) (h2 : row ≤ n2) (h3 : 1 ≤ col) (h4 : col ≤ C) (hr : (ri : Int) = y.t + row - 1) (hc : (ci : Int) = y.l + col - 1) :
    inSt y xs ri ci = !((decide (row = n0) && decide (col < n1)) || (decide (row = n2) && decide (n3 < col))) := by
  obtain ⟨b0, b1, b2, b3, e0, e1, e2, e3⟩ := h
  unfold inSt
  rw [e0, e1, e2, e3, hr, hc, Bool.eq_iff_iff]
  simp only [decide_eq_true_eq, Bool.not_eq_true', Bool.or_eq_false_iff, Bool.and_eq_false_iff, decide_eq_false_iff_not]
  split <;> split <;> omega
theorem StN.below (h : StN y xs R C n0 n1 n2 n3) (hC : y.r = y.l + C) {i k : Nat} (hi : (i : Int) < y.t + n0 - 1 ∨ (k : Int) < y.l) : inSt y xs i k = false := by
  obtain ⟨b0, b1, b2, b3, e0, e1, e2, e3⟩ := h
  unfold inSt
  rw [e0, e1, e2, e3, decide_eq_false_iff_not]
  split <;> split <;> omega
theorem StN.beside (h : StN y xs R C n0 n1 n2 n3) (hC : y.r = y.l + C) {i k : Nat} (hi : (k : Int) < y.l ∨ y.l + C ≤ (k : Int)) : inSt y xs i k = false := by
  obtain ⟨b0, b1, b2, b3, e0, e1, e2, e3⟩ := h
  unfold inSt
  rw [e0, e1, e2, e3, decide_eq_false_iff_not]
  split <;> split <;> omega
theorem StN.behind (h : StN y xs R C n0 n1 n2 n3) {i k : Nat} (hi : y.t + n2 ≤ (i : Int)) : inSt y xs i k = false := by
  obtain ⟨b0, b1, b2, b3, e0, e1, e2, e3⟩ := h
  unfold inSt
  rw [e0, e1, e2, e3, decide_eq_false_iff_not]
  omega
end
section
variable {w : World} {F : Nat → Prop} {P : PgS} {r : RPg} {a : Option Addr} {c : Nat} {xs : List Int}
attribute [local go_sem ↓] slice_ints
set_option maxRecDepth 100000 in
set_option maxHeartbeats 16000000 in
theorem change16_str (h : RefAt w F r.v P) (hP : P.Ok) (hF : ∀ x, F x → x < w.heap.size) (hx : NumL w a c xs) (x : BxI) (st fl : Bool) (hst0 : st = true) :
    Calls Tryz.prog 58 #[r.v, boxV x.t x.l x.b x.r, .slice a xs.length c, .bool st, .bool fl] w (NewPo F (chS P (chB (arB P x) xs st) (chF fl (xs.drop 4))) (chOk (arB P x) xs st) w) := by
  replace hst0 := Lib.hid hst0
  have hbd : (0 ≤ (arB P x).t ∧ (arB P x).t ≤ 500) ∧ (0 ≤ (arB P x).l ∧ (arB P x).l ≤ 500) ∧ (0 ≤ (arB P x).b ∧ (arB P x).b ≤ 500 ∧ (arB P x).b ≤ P.rows.length) ∧ (0 ≤ (arB P x).r ∧ (arB P x).r ≤ 500 ∧ (arB P x).r ≤ P.cols) := by
    have := onB_in P.rows.length P.cols x
    have := hP.r2
    have := hP.c2
    unfold arB
    omega
  obtain ⟨⟨ht0, ht1⟩, ⟨hl0, hl1⟩, ⟨hb0, hb1, hb2⟩, ⟨hr0, hr1, hr2⟩⟩ := hbd
  have hlc := hx.lc
  have hcm := hx.cm
  have hxl : xs.length ≤ 9223372036854775807 := Nat.le_trans hx.lc hx.cm
  have AR := Lib.hid (fun w' (hb : Below w.heap.size w w') => area16_c (h.grow hb).v x)
  have RC : Hid (∀ w', Below w.heap.size w w' → Calls Tryz.prog 13 #[boxV (arB P x).t (arB P x).l (arB P x).b (arB P x).r, .slice a xs.length c, .int .i64 0] w' (Gives w' (.tuple #[boxV (reB (arB P x) xs 0).t (reB (arB P x) xs 0).l (reB (arB P x) xs 0).b (reB (arB P x) xs 0).r, .bool (reOk (arB P x) xs 0)]))) := Lib.hid (fun w' hb => rect_r _ _ _ _ a c xs 0 w' (by omega) (by omega) (by omega) (by omega) (hx.grow hb).rd hxl hx.hi)
  have ND : NumL w (cutN a c (min 4 xs.length)) (c - min 4 xs.length) (xs.drop 4) := num_cut hx 4
  have NN := Lib.hid (fun i w' (h : Below w.heap.size w w') => number_r a c xs i 0 w' (hx.grow h).rd hxl (by omega))
  have EM := Lib.hid (fun w' => empty_r (arB P x).t (arB P x).l (arB P x).b (arB P x).r w')
  have OLD := Lib.hid (fun w' (hb : Below w.heap.size w w') => NewPo.old (ok := false) h hb)
  have hok4 := Lib.hid hP
  have hTE : st = true → chS P (chB (arB P x) xs st) (chF fl (xs.drop 4)) = if stOk (arB P x) xs = true then mapS P (fun i k y => if inSt (arB P x) xs i k = true then chF fl (xs.drop 4) y else y) else P := fun e => by
    rw [chS_form hP _ _ _ (chF_ok fl _), e]
    unfold chIn
    simp only [if_true]
    by_cases q : stOk (arB P x) xs = true
    · rw [if_pos q]
      simp only [q, Bool.true_and]
    · rw [if_neg q]
      rw [Bool.not_eq_true] at q
      exact mapS_id fun i hi k hk => by simp [q]
  have hTF : st = false → chS P (chB (arB P x) xs st) (chF fl (xs.drop 4)) = if reOk (arB P x) xs 0 = true then eachS P (onB P.rows.length P.cols (reB (arB P x) xs 0)) (fun zs l r => eachR zs l r (chF fl (xs.drop 4))) else P := fun e => by
    rw [e]
    unfold chB
    simp only [Bool.false_eq_true, if_false]
    split <;> rfl
  have hOT : st = true → chOk (arB P x) xs st = stOk (arB P x) xs := fun e => by rw [e]; rfl
  have hOF : st = false → chOk (arB P x) xs st = reOk (arB P x) xs 0 := fun e => by rw [e]; rfl
  generalize chS P (chB (arB P x) xs st) (chF fl (xs.drop 4)) = T at *
  generalize chOk (arB P x) xs st = ok at *
  obtain ⟨K, hK⟩ : ∃ K : Int, K = if fl = true then 4 else 3 := ⟨_, rfl⟩
  have hd : ∀ y : Cl, Deed K y (xs.drop 4) (chF fl (xs.drop 4)) := fun y => by
    rw [hK]
    cases fl
    · exact Deed.change y _
    · exact Deed.flip y _
  have NO : ok = false → T = P → Hid (∀ w', Below w.heap.size w w' → NewPo F T ok w (.returned (.tuple #[r.v, .bool false])) w') := fun e1 e2 => by
    rw [e1, e2]
    exact OLD
  clear OLD
  obtain ⟨f, hf⟩ : ∃ f, f = chF fl (xs.drop 4) := ⟨_, rfl⟩
  rw [← hf] at hTE hTF hd
  have hns : (xs.drop 4).length ≤ 9223372036854775807 := by rw [List.length_drop]; omega
  obtain ⟨ns, hns'⟩ : ∃ ns, ns = xs.drop 4 := ⟨_, rfl⟩
  have hnl : ns.length = xs.length - 4 := by rw [hns', List.length_drop]
  rw [← hns'] at hd hns ND
  have EA := Lib.hid (fun A4 C4 w' (hb : Below w.heap.size w w') (hi : Ints w' A4 ns) => refeach_c K r.v (reB (arB P x) xs 0) ⟨0, 0, false⟩ (.slice A4 ns.length C4) f (h.grow hb).v hP (fun z hz w2 hb2 => one_r K ⟨0, 0, false⟩ A4 C4 ns f (hd _) z w2 hz (hi.below hb2) hns))
  have ON := Lib.hid (fun A4 C4 (x : Cl) (hx : x.ok) w' (hi : Ints w' A4 ns) => one_r K x A4 C4 ns f (hd _) x w' hx hi hns)
  have CP := Lib.hid (fun w' (hb : Below w.heap.size w w') => refcopy_c _ _ w' (h.grow hb).v hP.r2 hP.small)
  obtain ⟨y, hy⟩ : ∃ y, y = arB P x := ⟨_, rfl⟩
  rw [← hy] at AR RC EM hTE hTF hOT hOF EA ht0 ht1 hl0 hl1 hb0 hb1 hb2 hr0 hr1 hr2
  clear hy hf hns'
  obtain ⟨rA, rm, rc, rn⟩ := r
  obtain ⟨erm, ern⟩ := h.form
  simp only at erm ern
  subst erm ern
  obtain ⟨V4, rows4, eV4, hlb, hvb, -⟩ := h
  simp only [RPg.v, RPg.V] at eV4
  injection eV4 with eV4
  simp only [Array.mk.injEq, List.cons.injEq, and_true] at eV4
  subst eV4
  have hrow := Lib.hid (fun i (hi : i < P.rows.length) => hlb.at hvb hi)
  have NDh := Lib.hid ND
  clear hlb hvb ND hx
  obtain ⟨xt, xl, xb, xr⟩ := x
  simp only [RPg.v, RPg.V, cellV] at AR EA NO CP ⊢
  obtain ⟨zt, zl, zb, zr⟩ := y
  simp only at AR RC EM ht0 ht1 hl0 hl1 hb0 hb1 hb2 hr0 hr1 hr2
  replace hTE := Lib.hid hTE
  replace hTF := Lib.hid hTF
  replace hOT := Lib.hid hOT
  replace hOF := Lib.hid hOF
  replace hF := Lib.hid hF
  replace hK := Lib.hid hK
  replace hnl := Lib.hid hnl
  clear hd hP
  go_enter Tryz.func58, Tryz.ntmps58
  go_upto_region 1 with fail
  generalize hW : (((w.alloc (.cells #[.slice rA P.rows.length rc, .int .i64 P.cols] 39)).alloc (.cells #[.int .i64 xt, .int .i64 xl, .int .i64 xb, .int .i64 xr] 31)).alloc (.cells #[.slice none 0 0, .int .i64 0] 39)) = W
  have hsz : W.heap.size = w.heap.size + 1 + 1 + 1 := by subst hW; simp [go_sem]
  have hB : Below w.heap.size w W := by subst hW; (repeat' (first | (with_reducible exact Below.refl _ _) | (with_reducible refine Below.alloc ?_ ?_ _) | (with_reducible refine below_ext ?_ ?_ _) | (with_reducible refine Below.drew ?_) | (with_reducible refine below_drewN ?_ _) | (with_reducible refine Below.setCell ?_ ?_ _) | go_size | (simp only [go_sem]; omega) | (simp [go_sem]; done) | (simp [go_sem]; omega)))
  have b0 : W.heap[w.heap.size]? = some (.cells #[.slice rA P.rows.length rc, .int .i64 P.cols] 39 (0, 0)) := by subst hW; (repeat (first | ((with_reducible refine heap_at _ _ ?_); (focus (first | rfl | (simp [go_sem]; done) | (simp [go_sem]; omega)))) | ((with_reducible refine (heap_old _ _ ?_).trans ?_); (focus (first | (simp [go_sem]; done) | (simp [go_sem]; omega)))) | ((with_reducible refine (block_ext _ _ ?_).trans ?_); (focus (first | (simp [go_sem]; done) | (simp [go_sem]; omega)))) | ((with_reducible refine (heap_drew _ _).trans ?_))))
  have b1 : W.heap[w.heap.size + 1]? = some (.cells #[.int .i64 xt, .int .i64 xl, .int .i64 xb, .int .i64 xr] 31 (0, 0)) := by subst hW; (repeat (first | ((with_reducible refine heap_at _ _ ?_); (focus (first | rfl | (simp [go_sem]; done) | (simp [go_sem]; omega)))) | ((with_reducible refine (heap_old _ _ ?_).trans ?_); (focus (first | (simp [go_sem]; done) | (simp [go_sem]; omega)))) | ((with_reducible refine (block_ext _ _ ?_).trans ?_); (focus (first | (simp [go_sem]; done) | (simp [go_sem]; omega)))) | ((with_reducible refine (heap_drew _ _).trans ?_))))
  have b2 : W.heap[w.heap.size + 1 + 1]? = some (.cells #[.slice none 0 0, .int .i64 0] 39 (0, 0)) := by subst hW; (repeat (first | ((with_reducible refine heap_at _ _ ?_); (focus (first | rfl | (simp [go_sem]; done) | (simp [go_sem]; omega)))) | ((with_reducible refine (heap_old _ _ ?_).trans ?_); (focus (first | (simp [go_sem]; done) | (simp [go_sem]; omega)))) | ((with_reducible refine (block_ext _ _ ?_).trans ?_); (focus (first | (simp [go_sem]; done) | (simp [go_sem]; omega)))) | ((with_reducible refine (heap_drew _ _).trans ?_))))
  clear hW
  go_cut [] from 26 to 28 (fun wx => Below w.heap.size w wx ∧ W.heap.size ≤ wx.heap.size ∧ wx.heap[w.heap.size]? = some (.cells #[.slice rA P.rows.length rc, .int .i64 P.cols] 39 (0, 0)) ∧ wx.heap[w.heap.size + 1]? = some (.cells #[.int .i64 zt, .int .i64 zl, .int .i64 zb, .int .i64 zr] 31 (0, 0)) ∧ wx.heap[w.heap.size + 1 + 1]? = some (.cells #[.slice none 0 0, .int .i64 0] 39 (0, 0)))
  case first =>
    obtain ⟨f0, f1, hl0', -⟩ := two b0
    obtain ⟨g0, g1, g2, g3, hl1', gz⟩ := four b1
    have gz0 := gz 0
    have gz1 := gz 1
    have gz2 := gz 2
    have gz3 := gz 3
    clear gz
    go_wp2_with (go_at_call 46; ((with_reducible refine (AR.out _ hB).mono ?_); rintro _ _ hgets; obtain ⟨rfl, x1, rfl⟩ := hgets.get; clear hgets))
    go_meet
    have hk : Keep (· = w.heap.size + 1) W ((((W.setCell ⟨w.heap.size + 1, 0, none⟩ (.int .i64 zt)).setCell ⟨w.heap.size + 1, 1, none⟩ (.int .i64 zl)).setCell ⟨w.heap.size + 1, 2, none⟩ (.int .i64 zb)).setCell ⟨w.heap.size + 1, 3, none⟩ (.int .i64 zr)) := (((keep_set W (w.heap.size + 1) 0 _).set (F := (· = w.heap.size + 1)) (p := ⟨w.heap.size + 1, 1, none⟩) (.inl rfl) _).set (F := (· = w.heap.size + 1)) (p := ⟨w.heap.size + 1, 2, none⟩) (.inl rfl) _).set (F := (· = w.heap.size + 1)) (p := ⟨w.heap.size + 1, 3, none⟩) (.inl rfl) _
    have c1 : ((((W.setCell ⟨w.heap.size + 1, 0, none⟩ (.int .i64 zt)).setCell ⟨w.heap.size + 1, 1, none⟩ (.int .i64 zl)).setCell ⟨w.heap.size + 1, 2, none⟩ (.int .i64 zb)).setCell ⟨w.heap.size + 1, 3, none⟩ (.int .i64 zr)).heap[w.heap.size + 1]? = some (.cells #[.int .i64 zt, .int .i64 zl, .int .i64 zb, .int .i64 zr] 31 (0, 0)) := by
      have := set_cellA (k := 3) (.int .i64 zr) (set_cellA (k := 2) (.int .i64 zb) (set_cellA (k := 1) (.int .i64 zl) (set_cellA (k := 0) (.int .i64 zt) b1)))
      simpa using this
    have c0 := (hk.block _ hl0' (by omega)).trans b0
    have c2 := (hk.block _ (heap_in b2) (by omega)).trans b2
    have hbx := hB.trans (hk.below (B := w.heap.size) (fun x e => by omega) hB.size)
    have hks := hk.size
    generalize (((W.setCell ⟨w.heap.size + 1, 0, none⟩ (.int .i64 zt)).setCell ⟨w.heap.size + 1, 1, none⟩ (.int .i64 zl)).setCell ⟨w.heap.size + 1, 2, none⟩ (.int .i64 zb)).setCell ⟨w.heap.size + 1, 3, none⟩ (.int .i64 zr) = V at c0 c1 c2 hbx hks ⊢
    have hbe := below_of_ext V x1
    exact ⟨below_ext hbx hbx.size x1, Nat.le_trans hks hbe.size, (hbe.block _ (heap_in c0)).trans c0, (hbe.block _ (heap_in c1)).trans c1, (hbe.block _ (heap_in c2)).trans c2⟩
  obtain ⟨hB1, hs1, c0, c1, c2⟩ := hcut
  obtain ⟨W1, eW1⟩ : ∃ W1, W1 = wc := ⟨_, rfl⟩
  rw [← eW1] at hB1 hs1 c0 c1 c2 ⊢
  clear eW1 wc b0 b1 b2 hB AR
  go_upto_if 29 with fail
  go_cut [12] (fun v wx => v = .int .i64 K ∧ wx = W1)
  case first =>
    cases fl
    · have e := hK.out
      rw [if_neg (by decide)] at e
      replace e := Lib.hid e
      go_wp2
      go_meet
      exact ⟨by rw [e.out], rfl⟩
    · have e := hK.out
      rw [if_pos rfl] at e
      replace e := Lib.hid e
      go_wp2
      go_meet
      exact ⟨by rw [e.out], rfl⟩
  obtain ⟨rfl, e⟩ := hcut
  rw [e]
  clear e wc hK
  go_upto_if 32 with fail
  go_cut [13] (fun v wx => (∃ A4 C4, v = .slice A4 ns.length C4 ∧ Ints w A4 ns) ∧ wx = W1)
  case first =>
    by_cases h4 : (4 : Int) < (xs.length : Int)
    · have d4 : decide ((4 : Int) < (xs.length : Int)) = true := decide_eq_true h4
      have h4' : (4 : Int) ≤ (xs.length : Int) := by omega
      have h4n : 4 ≤ xs.length := by omega
      go_wp2
      go_meet
      have q := NDh.out.rd
      rw [show min 4 xs.length = 4 by omega] at q
      have e := hnl.out
      exact ⟨⟨cutN a c 4, c - 4, by rw [e]; unfold cutN; rw [if_neg (by omega)]; rfl, q⟩, rfl⟩
    · have d4 : decide ((4 : Int) < (xs.length : Int)) = false := decide_eq_false h4
      go_wp2
      go_meet
      have e := hnl.out
      exact ⟨⟨none, 0, by rw [show ns.length = 0 by omega], fun h0 => by omega⟩, rfl⟩
  obtain ⟨⟨A4, C4, rfl, hI4⟩, e⟩ := hcut
  rw [e]
  clear e wc NDh
  obtain ⟨nl, hnl2⟩ : ∃ nl, nl = ns.length := ⟨_, rfl⟩
  have EA1 := Lib.hid (EA.out A4 C4)
  have ON1 := Lib.hid (ON.out A4 C4)
  rw [← hnl2] at EA1 ON1 ⊢
  clear EA ON hnl2 hnl
  have hI4 := Lib.hid hI4
  have FV := Lib.hid (fun V (hV : Below W1.heap.size W1 V) => (by
    obtain ⟨p0, p1, pl, -⟩ := two ((hV.block _ (heap_in c0)).trans c0)
    obtain ⟨s0, s1, sl, sz⟩ := two ((hV.block _ (heap_in c2)).trans c2)
    exact ⟨p0, p1, pl, s0, s1, sl, sz 0, sz 1⟩ : V.cell? ⟨w.heap.size, 0, none⟩ = some (.slice rA P.rows.length rc) ∧ V.cell? ⟨w.heap.size, 1, none⟩ = some (.int .i64 P.cols) ∧ w.heap.size < V.heap.size ∧
      V.cell? ⟨w.heap.size + 1 + 1, 0, none⟩ = some (.slice none 0 0) ∧ V.cell? ⟨w.heap.size + 1 + 1, 1, none⟩ = some (.int .i64 0) ∧ w.heap.size + 1 + 1 < V.heap.size ∧ V.frozen? ⟨w.heap.size + 1 + 1, 0, none⟩ = false ∧ V.frozen? ⟨w.heap.size + 1 + 1, 1, none⟩ = false))
  have FB := Lib.hid (fun V (hV : Below W1.heap.size W1 V) => (by
    obtain ⟨g0, g1, g2, g3, gl, -⟩ := four ((hV.block _ (heap_in c1)).trans c1)
    exact ⟨g0, g1, g2, g3, gl⟩ : V.cell? ⟨w.heap.size + 1, 0, none⟩ = some (.int .i64 zt) ∧ V.cell? ⟨w.heap.size + 1, 1, none⟩ = some (.int .i64 zl) ∧ V.cell? ⟨w.heap.size + 1, 2, none⟩ = some (.int .i64 zb) ∧ V.cell? ⟨w.heap.size + 1, 3, none⟩ = some (.int .i64 zr) ∧ w.heap.size + 1 < V.heap.size))
  have hB1h := Lib.hid hB1
  have BV := Lib.hid (fun V (hV : Below W1.heap.size W1 V) => hB1.trans (hV.mono hB1.size))
  have NOS := Lib.hid (fun V (hV : Below W1.heap.size W1 V) => (by
    have c2V := (hV.block _ (heap_in c2)).trans c2
    obtain ⟨W2, h2, hk2, hs2⟩ := stow2 c2V (.slice rA P.rows.length rc) (.int .i64 P.cols)
    obtain ⟨t0, t1, -, -⟩ := two hs2
    have hbV := BV.out V hV
    exact ⟨W2, h2, t0, t1, fun e1 e2 => (NO e1 e2).out _ (hbV.trans (hk2.below (fun x e => by omega) hbV.size))⟩ :
      ∃ W2, (V.setCell ⟨w.heap.size + 1 + 1, 0, none⟩ (.slice rA P.rows.length rc)).setCell ⟨w.heap.size + 1 + 1, 1, none⟩ (.int .i64 P.cols) = W2 ∧ W2.cell? ⟨w.heap.size + 1 + 1, 0, none⟩ = some (.slice rA P.rows.length rc) ∧ W2.cell? ⟨w.heap.size + 1 + 1, 1, none⟩ = some (.int .i64 P.cols) ∧
        (ok = false → T = P → NewPo F T ok w (.returned (.tuple #[.agg #[.slice rA P.rows.length rc, .int .i64 P.cols], .bool false])) W2)))
  have NYS := Lib.hid (fun V (hV : Below W1.heap.size W1 V) (r' : RPg) (hr : RefAt V (fun x => F x ∨ x = w.heap.size + 1 + 1) r'.v T) (ho : ok = true) => (by
    have c2V := (hV.block _ (heap_in c2)).trans c2
    obtain ⟨W2, h2, hk2, hs2⟩ := stow2 c2V (.slice r'.A r'.m r'.c) (.int .i64 r'.n)
    obtain ⟨t0, t1, -, -⟩ := two hs2
    have hbV := BV.out V hV
    refine ⟨W2, h2, t0, t1, ?_⟩
    rw [ho]
    exact NewPo.at hr hk2 (hbV.trans (hk2.below (fun x e => by omega) hbV.size)) :
      ∃ W2, (V.setCell ⟨w.heap.size + 1 + 1, 0, none⟩ (.slice r'.A r'.m r'.c)).setCell ⟨w.heap.size + 1 + 1, 1, none⟩ (.int .i64 r'.n) = W2 ∧ W2.cell? ⟨w.heap.size + 1 + 1, 0, none⟩ = some (.slice r'.A r'.m r'.c) ∧ W2.cell? ⟨w.heap.size + 1 + 1, 1, none⟩ = some (.int .i64 r'.n) ∧
        NewPo F T ok w (.returned (.tuple #[r'.v, .bool true])) W2))
  clear c0 c1 c2 hB1 NO
  replace hst0 := hst0.out
  subst hst0
  have hst : true = true := rfl
  · have te0 := hTE.out hst
    have oe0 := hOT.out hst
    clear hTF hOF hTE hOT RC EA1 hst
    have bad : stOk ⟨zt, zl, zb, zr⟩ xs = false → Hid (ok = false ∧ T = P) := fun e => Lib.hid ⟨by rw [oe0, e], by rw [te0, e]; rfl⟩
    have sp : stOk ⟨zt, zl, zb, zr⟩ xs = true → (zt < zb ∧ zl < zr ∧ 0 ≤ at0 xs 0 ∧ 0 ≤ at0 xs 1 ∧ 0 ≤ at0 xs 2 ∧ 0 ≤ at0 xs 3) := fun e => by
      unfold stOk stPre at e
      simp only [Bool.and_eq_true, decide_eq_true_eq] at e
      omega
    replace te0 := Lib.hid te0
    replace oe0 := Lib.hid oe0
    replace bad := Lib.hid bad
    replace sp := Lib.hid sp
    have hBr := Below.refl W1.heap.size W1
    go_upto_region 13 with fail
    go_wp2
    go_loopw [16] (fun iv wr => ∃ i : Nat, i ≤ 4 ∧ iv = .int .i64 i ∧ wr = W1 ∧ ∀ j : Nat, j < i → 0 ≤ at0 xs j) (fun iv _ => 4 - (intOf iv).toNat)
    case atStart => exact ⟨0, by omega, rfl, rfl, fun j hj => by omega⟩
    case round =>
      obtain ⟨i, hi, rfl, rfl, hall⟩ := hrel
      replace hall := Lib.hid hall
      by_cases h4 : i < 4
      · have d4 : decide ((i : Int) < 4) = true := decide_eq_true (by omega)
        have N := NN.out (i : Int) wr hB1h.out
        rw [num_pos _ _ (by omega)] at N
        replace N := Lib.hid N
        by_cases hn : at0 xs i < 0
        · have dn : decide (at0 xs i < 0) = true := decide_eq_true hn
          have bd := bad.out (by
            rw [Bool.eq_false_iff]
            intro e
            have := sp.out e
            have : i = 0 ∨ i = 1 ∨ i = 2 ∨ i = 3 := by omega
            rcases this with rfl | rfl | rfl | rfl <;> simp only [Int.natCast_zero, Int.natCast_one, Int.cast_ofNat_Int] at hn <;> omega)
          go_upto_if 59 with (go_at_call 47; ((with_reducible refine (N.out).mono ?_); rintro _ _ ⟨rfl, rfl⟩))
          obtain ⟨p0, p1, pl, s0, s1, sl, sz0, sz1⟩ := FV.out wr hBr
          obtain ⟨W2, h2, t0, t1, no⟩ := NOS.out wr hBr
          have no2 := Lib.hid (no bd.out.1 bd.out.2)
          clear no
          repeat (first | go_values | go_skip | go_guarded | go_step)
          simp [bodyPost, go_sem, t0, t1]
          exact ⟨_, by simp [results, Tryz.f58, go_sem, t0, t1] <;> rfl, no2.out⟩
        · have dn : decide (at0 xs i < 0) = false := decide_eq_false hn
          have hall2 := Lib.hid (fun (j : Nat) (hj : j < i + 1) => (by
            rcases Nat.lt_or_ge j i with h | h
            · exact hall.out j h
            · obtain rfl : j = i := by omega
              omega : 0 ≤ at0 xs j))
          clear hn
          go_wp2_with (go_at_call 47; ((with_reducible refine (N.out).mono ?_); rintro _ _ ⟨rfl, rfl⟩))
          exact ⟨⟨i + 1, h4, rfl, by first | rfl | trivial, hall2.out⟩, loop_meas h4⟩
      · obtain rfl : i = 4 := by omega
        have a0 : 0 ≤ at0 xs 0 := hall.out 0 (by omega)
        have a1 : 0 ≤ at0 xs 1 := hall.out 1 (by omega)
        have a2 : 0 ≤ at0 xs 2 := hall.out 2 (by omega)
        have a3 : 0 ≤ at0 xs 3 := hall.out 3 (by omega)
        clear hall hi
        obtain ⟨g0, g1, g2, g3, gl⟩ := FB.out wr hBr
        have EM1 := EM.out wr
        by_cases he : zt < zb ∧ zl < zr
        · rw [show (decide (zb ≤ zt) || decide (zr ≤ zl)) = false by rw [decide_eq_false (by omega), decide_eq_false (by omega)]; rfl] at EM1
          replace EM1 := Lib.hid EM1
          clear EM
          go_upto_region 20 with (go_at_call 51; ((with_reducible refine (EM1.out).mono ?_); rintro _ _ hgets; obtain ⟨rfl, x5, rfl⟩ := hgets.get; clear hgets))
          have hV : Below wr.heap.size wr (ext wr x5) := below_of_ext wr x5
          generalize ext wr x5 = V at hV ⊢
          clear g0 g1 g2 g3 gl EM1 h4
          obtain ⟨g0, g1, g2, g3, gl⟩ := FB.out V hV
          obtain ⟨t0, rfl⟩ : ∃ j : Nat, zt = j := Int.eq_ofNat_of_zero_le (by omega)
          obtain ⟨l0, rfl⟩ : ∃ j : Nat, zl = j := Int.eq_ofNat_of_zero_le (by omega)
          obtain ⟨R, hR⟩ : ∃ j : Nat, zb = (t0 : Int) + j := ⟨(zb - t0).toNat, by omega⟩
          obtain ⟨C, hC⟩ : ∃ j : Nat, zr = (l0 : Int) + j := ⟨(zr - l0).toNat, by omega⟩
          have hRC : 0 < R ∧ 0 < C ∧ t0 + R ≤ 500 ∧ l0 + C ≤ 500 ∧ t0 + R ≤ P.rows.length ∧ l0 + C ≤ P.cols := by omega
          obtain ⟨n0, n1, n2, n3, v0, v1, v2, v3, HS⟩ := stn (y := ⟨(t0 : Int), l0, zb, zr⟩) (xs := xs) (R := R) (C := C) hR hC a0 a1 a2 a3
          have SO := HS.ok (C := C) hR hC a0 a1 a2 a3 hRC.1 hRC.2.1
          have hR' := Lib.hid hR
          have hC' := Lib.hid hC
          have hw1 : IntKind.i64.wrap (zb - t0) = R := by rw [wrap_i64 (by omega) (by omega)]; omega
          have hw2 : IntKind.i64.wrap (zr - l0) = C := by rw [wrap_i64 (by omega) (by omega)]; omega
          have sw1 : zb - (t0 : Int) = R := by omega
          have sw2 : zr - (l0 : Int) = C := by omega
          clear hR hC
          replace v0 := Lib.hid v0
          replace v1 := Lib.hid v1
          replace v2 := Lib.hid v2
          replace v3 := Lib.hid v3
          replace HS := Lib.hid HS
          replace SO := Lib.hid SO
          replace a0 := Lib.hid a0
          replace a1 := Lib.hid a1
          replace a2 := Lib.hid a2
          replace a3 := Lib.hid a3
          go_cut [17] from 64 to 68 (fun v wx => v = .int .i64 R ∧ wx = V)
          case first =>
            go_wp2
            go_meet
            exact ⟨by first | rfl | rw [hw1] | rw [sw1], rfl⟩
          obtain ⟨rfl, e⟩ := hcut
          rw [e]
          clear e wc
          go_upto_region 21 with fail
          go_cut [18] from 69 to 73 (fun v wx => v = .int .i64 C ∧ wx = V)
          case first =>
            go_wp2
            go_meet
            exact ⟨by first | rfl | rw [hw2] | rw [sw2], rfl⟩
          obtain ⟨rfl, e⟩ := hcut
          rw [e]
          clear e wc hw1 hw2 sw1 sw2 g0 g1 g2 g3 gl
          go_upto_region 22 with fail
          go_cut [19] from 74 to 76 (fun v wx => ∃ B, v = .pointer (some ⟨B, 0, none⟩) ∧ Below V.heap.size V wx ∧ V.heap.size ≤ B ∧ wx.heap[B]? = some (.cells #[.int .i64 1, .int .i64 1, .int .i64 R, .int .i64 C] 25 (0, 0)))
          case first =>
            go_wp2
            go_meet
            refine ⟨_, rfl, by (repeat' (first | (with_reducible exact Below.refl _ _) | (with_reducible refine Below.alloc ?_ ?_ _) | (with_reducible refine below_ext ?_ ?_ _) | (with_reducible refine Below.drew ?_) | (with_reducible refine below_drewN ?_ _) | (with_reducible refine Below.setCell ?_ ?_ _) | go_size | (simp only [go_sem]; omega) | (simp [go_sem]; done) | (simp [go_sem]; omega))), by (try simp), ?_⟩
            (repeat (first | ((with_reducible refine heap_at _ _ ?_); (focus (first | rfl | (simp [go_sem]; done) | (simp [go_sem]; omega)))) | ((with_reducible refine (heap_old _ _ ?_).trans ?_); (focus (first | (simp [go_sem]; done) | (simp [go_sem]; omega)))) | ((with_reducible refine (block_ext _ _ ?_).trans ?_); (focus (first | (simp [go_sem]; done) | (simp [go_sem]; omega)))) | ((with_reducible refine (heap_drew _ _).trans ?_))))
          obtain ⟨B, rfl, hU, hBV, bB⟩ := hcut
          obtain ⟨U, eU⟩ : ∃ U, U = wc := ⟨_, rfl⟩
          rw [← eU] at hU bB ⊢
          clear eU wc
          have hNN := Lib.hid (fun k wz (hz : Below V.heap.size V wz) (hk : 0 ≤ k) => (by
            have := NN.out k wz (BV.out wz (hV.trans (hz.mono hV.size)))
            rw [num_pos _ _ hk] at this
            exact this : Calls Tryz.prog 47 #[.slice a xs.length c, .int .i64 k, .int .i64 0] wz (Same wz (.int .i64 (at0 xs k)))))
          go_upto_region 23 with fail
          go_wp2
          go_loopw [20] (fun iv wr => Below V.heap.size V wr ∧ (
            (iv = .int .i64 0 ∧ wr.heap[B]? = some (.cells #[.int .i64 1, .int .i64 1, .int .i64 R, .int .i64 C] 25 (0, 0))) ∨
            (iv = .int .i64 1 ∧ wr.heap[B]? = some (.cells #[.int .i64 n0, .int .i64 1, .int .i64 R, .int .i64 C] 25 (0, 0))) ∨
            (iv = .int .i64 2 ∧ wr.heap[B]? = some (.cells #[.int .i64 n0, .int .i64 n1, .int .i64 R, .int .i64 C] 25 (0, 0))) ∨
            (iv = .int .i64 3 ∧ wr.heap[B]? = some (.cells #[.int .i64 n0, .int .i64 n1, .int .i64 n2, .int .i64 C] 25 (0, 0))) ∨
            (iv = .int .i64 4 ∧ wr.heap[B]? = some (.cells #[.int .i64 n0, .int .i64 n1, .int .i64 n2, .int .i64 n3] 25 (0, 0))))) (fun iv _ => 4 - (intOf iv).toNat)
          case atStart => exact ⟨hU, .inl ⟨rfl, bB⟩⟩
          case round =>
            obtain ⟨hz, hrel⟩ := hrel
            rcases hrel with ⟨rfl, bz⟩ | ⟨rfl, bz⟩ | ⟨rfl, bz⟩ | ⟨rfl, bz⟩ | ⟨rfl, bz⟩
            · have N := Lib.hid (hNN.out 0 wr hz (by omega))
              obtain ⟨e0, e1, e2, e3, el, ez⟩ := four bz
              have ezk := ez 0
              clear ez
              have hx0 := a0.out
              have vk := v0.out
              unfold stv at vk
              generalize at0 xs 0 = x at N hx0 vk
              by_cases q : x = 0
              · rw [if_pos q] at vk
                have dn : (x != 0) = false := by simp [q]
                have bz' : wr.heap[B]? = some (.cells #[.int .i64 n0, .int .i64 1, .int .i64 R, .int .i64 C] 25 (0, 0)) := by rw [← vk]; exact bz
                replace bz' := Lib.hid bz'
                replace q := Lib.hid q
                clear vk bz
                go_wp2_with (go_at_call 47; ((with_reducible refine (N.out).mono ?_); rintro _ _ ⟨rfl, rfl⟩))
                exact ⟨⟨hz, (.inr (.inl ⟨rfl, bz'.out⟩))⟩, by simp [intOf]⟩
              · rw [if_neg q] at vk
                have dn : (x != 0) = true := by simp [q]
                have bz' := Lib.hid (set_cellA (k := 0) (.int .i64 x) bz)
                have hz' := Lib.hid (below_set hz ⟨B, 0, none⟩ (.int .i64 x) hBV)
                replace q := Lib.hid q
                replace vk := Lib.hid vk
                clear bz
                go_wp2_with (go_at_call 47; ((with_reducible refine (N.out).mono ?_); rintro _ _ ⟨rfl, rfl⟩))
                refine ⟨⟨hz'.out, (.inr (.inl ⟨rfl, ?_⟩))⟩, by simp [intOf]⟩
                rw [← vk.out]
                simpa using bz'.out
            · have N := Lib.hid (hNN.out 1 wr hz (by omega))
              obtain ⟨e0, e1, e2, e3, el, ez⟩ := four bz
              have ezk := ez 1
              clear ez
              have hx0 := a1.out
              have vk := v1.out
              unfold stv at vk
              generalize at0 xs 1 = x at N hx0 vk
              by_cases q : x = 0
              · rw [if_pos q] at vk
                have dn : (x != 0) = false := by simp [q]
                have bz' : wr.heap[B]? = some (.cells #[.int .i64 n0, .int .i64 n1, .int .i64 R, .int .i64 C] 25 (0, 0)) := by rw [← vk]; exact bz
                replace bz' := Lib.hid bz'
                replace q := Lib.hid q
                clear vk bz
                go_wp2_with (go_at_call 47; ((with_reducible refine (N.out).mono ?_); rintro _ _ ⟨rfl, rfl⟩))
                exact ⟨⟨hz, (.inr (.inr (.inl ⟨rfl, bz'.out⟩)))⟩, by simp [intOf]⟩
              · rw [if_neg q] at vk
                have dn : (x != 0) = true := by simp [q]
                have bz' := Lib.hid (set_cellA (k := 1) (.int .i64 x) bz)
                have hz' := Lib.hid (below_set hz ⟨B, 1, none⟩ (.int .i64 x) hBV)
                replace q := Lib.hid q
                replace vk := Lib.hid vk
                clear bz
                go_wp2_with (go_at_call 47; ((with_reducible refine (N.out).mono ?_); rintro _ _ ⟨rfl, rfl⟩))
                refine ⟨⟨hz'.out, (.inr (.inr (.inl ⟨rfl, ?_⟩)))⟩, by simp [intOf]⟩
                rw [← vk.out]
                simpa using bz'.out
            · have N := Lib.hid (hNN.out 2 wr hz (by omega))
              obtain ⟨e0, e1, e2, e3, el, ez⟩ := four bz
              have ezk := ez 2
              clear ez
              have hx0 := a2.out
              have vk := v2.out
              unfold stw at vk
              generalize at0 xs 2 = x at N hx0 vk
              by_cases q : x = 0
              · rw [if_neg (by omega)] at vk
                have dn : (x != 0) = false := by simp [q]
                have bz' : wr.heap[B]? = some (.cells #[.int .i64 n0, .int .i64 n1, .int .i64 n2, .int .i64 C] 25 (0, 0)) := by rw [← vk]; exact bz
                replace bz' := Lib.hid bz'
                replace q := Lib.hid q
                clear vk bz
                go_wp2_with (go_at_call 47; ((with_reducible refine (N.out).mono ?_); rintro _ _ ⟨rfl, rfl⟩))
                exact ⟨⟨hz, (.inr (.inr (.inr (.inl ⟨rfl, bz'.out⟩))))⟩, by simp [intOf]⟩
              · have dn : (x != 0) = true := by simp [q]
                by_cases q2 : x < R
                · rw [if_pos ⟨q, q2⟩] at vk
                  have d2 : decide (x < (R : Int)) = true := decide_eq_true q2
                  have bz' := Lib.hid (set_cellA (k := 2) (.int .i64 x) bz)
                  have hz' := Lib.hid (below_set hz ⟨B, 2, none⟩ (.int .i64 x) hBV)
                  replace q := Lib.hid q
                  replace vk := Lib.hid vk
                  clear bz q2
                  go_wp2_with (go_at_call 47; ((with_reducible refine (N.out).mono ?_); rintro _ _ ⟨rfl, rfl⟩))
                  refine ⟨⟨hz'.out, (.inr (.inr (.inr (.inl ⟨rfl, ?_⟩))))⟩, by simp [intOf]⟩
                  rw [← vk.out]
                  simpa using bz'.out
                · rw [if_neg (fun h => q2 h.2)] at vk
                  have d2 : decide (x < (R : Int)) = false := decide_eq_false q2
                  have bz' : wr.heap[B]? = some (.cells #[.int .i64 n0, .int .i64 n1, .int .i64 n2, .int .i64 C] 25 (0, 0)) := by rw [← vk]; exact bz
                  replace bz' := Lib.hid bz'
                  replace q := Lib.hid q
                  clear vk bz q2
                  go_wp2_with (go_at_call 47; ((with_reducible refine (N.out).mono ?_); rintro _ _ ⟨rfl, rfl⟩))
                  exact ⟨⟨hz, (.inr (.inr (.inr (.inl ⟨rfl, bz'.out⟩))))⟩, by simp [intOf]⟩
            · have N := Lib.hid (hNN.out 3 wr hz (by omega))
              obtain ⟨e0, e1, e2, e3, el, ez⟩ := four bz
              have ezk := ez 3
              clear ez
              have hx0 := a3.out
              have vk := v3.out
              unfold stw at vk
              generalize at0 xs 3 = x at N hx0 vk
              by_cases q : x = 0
              · rw [if_neg (by omega)] at vk
                have dn : (x != 0) = false := by simp [q]
                have bz' : wr.heap[B]? = some (.cells #[.int .i64 n0, .int .i64 n1, .int .i64 n2, .int .i64 n3] 25 (0, 0)) := by rw [← vk]; exact bz
                replace bz' := Lib.hid bz'
                replace q := Lib.hid q
                clear vk bz
                go_wp2_with (go_at_call 47; ((with_reducible refine (N.out).mono ?_); rintro _ _ ⟨rfl, rfl⟩))
                exact ⟨⟨hz, (.inr (.inr (.inr (.inr ⟨rfl, bz'.out⟩))))⟩, by simp [intOf]⟩
              · have dn : (x != 0) = true := by simp [q]
                by_cases q2 : x < C
                · rw [if_pos ⟨q, q2⟩] at vk
                  have d2 : decide (x < (C : Int)) = true := decide_eq_true q2
                  have bz' := Lib.hid (set_cellA (k := 3) (.int .i64 x) bz)
                  have hz' := Lib.hid (below_set hz ⟨B, 3, none⟩ (.int .i64 x) hBV)
                  replace q := Lib.hid q
                  replace vk := Lib.hid vk
                  clear bz q2
                  go_wp2_with (go_at_call 47; ((with_reducible refine (N.out).mono ?_); rintro _ _ ⟨rfl, rfl⟩))
                  refine ⟨⟨hz'.out, (.inr (.inr (.inr (.inr ⟨rfl, ?_⟩))))⟩, by simp [intOf]⟩
                  rw [← vk.out]
                  simpa using bz'.out
                · rw [if_neg (fun h => q2 h.2)] at vk
                  have d2 : decide (x < (C : Int)) = false := decide_eq_false q2
                  have bz' : wr.heap[B]? = some (.cells #[.int .i64 n0, .int .i64 n1, .int .i64 n2, .int .i64 n3] 25 (0, 0)) := by rw [← vk]; exact bz
                  replace bz' := Lib.hid bz'
                  replace q := Lib.hid q
                  clear vk bz q2
                  go_wp2_with (go_at_call 47; ((with_reducible refine (N.out).mono ?_); rintro _ _ ⟨rfl, rfl⟩))
                  exact ⟨⟨hz, (.inr (.inr (.inr (.inr ⟨rfl, bz'.out⟩))))⟩, by simp [intOf]⟩
            · have hzU := hV.trans (hz.mono hV.size)
              have hBw := BV.out wr hzU
              have hzs := hz.size
              obtain ⟨e0, e1, e2, e3, el, -⟩ := four bz
              go_upto_region 29 with fail
              obtain ⟨ob, hob⟩ : ∃ ob, ob = !stOk ⟨(t0 : Int), l0, zb, zr⟩ xs := ⟨_, rfl⟩
              go_cut [124] from 100 to 124 (fun v wx => v = .bool ob ∧ wx = wr)
              case first =>
                rw [SO.out] at hob
                by_cases q1 : n0 ≤ n2
                · have d1 : decide (n2 < n0) = false := (by first | exact decide_eq_true (by omega) | exact decide_eq_false (by omega))
                  by_cases q2 : n1 ≤ C
                  · have d2 : decide (C < n1) = false := (by first | exact decide_eq_true (by omega) | exact decide_eq_false (by omega))
                    by_cases q3 : n0 = n2
                    · have d3 : ((n0 : Int) == (n2 : Int)) = true := by rw [q3]; exact beq_self_eq_true _
                      by_cases q4 : n3 < n1
                      · have d4 : decide (n3 < n1) = true := (by first | exact decide_eq_true (by omega) | exact decide_eq_false (by omega))
                        rw [decide_eq_false (by omega)] at hob
                        replace hob := Lib.hid hob
                        replace q3 := Lib.hid q3
                        clear q1 q2 q4
                        go_wp2
                        go_meet
                        exact ⟨by rw [hob.out]; rfl, rfl⟩
                      · have d4 : decide (n3 < n1) = false := (by first | exact decide_eq_true (by omega) | exact decide_eq_false (by omega))
                        rw [decide_eq_true (by omega)] at hob
                        replace hob := Lib.hid hob
                        replace q3 := Lib.hid q3
                        clear q1 q2 q4
                        go_wp2
                        go_meet
                        exact ⟨by rw [hob.out]; rfl, rfl⟩
                    · have d3 : ((n0 : Int) == (n2 : Int)) = false := by rw [beq_eq_false_iff_ne]; omega
                      rw [decide_eq_true (by omega)] at hob
                      replace hob := Lib.hid hob
                      clear q1 q2 q3
                      go_wp2
                      go_meet
                      exact ⟨by rw [hob.out]; rfl, rfl⟩
                  · have d2 : decide (C < n1) = true := (by first | exact decide_eq_true (by omega) | exact decide_eq_false (by omega))
                    rw [decide_eq_false (by omega)] at hob
                    replace hob := Lib.hid hob
                    clear q1 q2
                    go_wp2
                    go_meet
                    exact ⟨by rw [hob.out]; rfl, rfl⟩
                · have d1 : decide (n2 < n0) = true := (by first | exact decide_eq_true (by omega) | exact decide_eq_false (by omega))
                  rw [decide_eq_false (by omega)] at hob
                  replace hob := Lib.hid hob
                  clear q1
                  go_wp2
                  go_meet
                  exact ⟨by rw [hob.out]; rfl, rfl⟩
              obtain ⟨rfl, e⟩ := hcut
              rw [e]
              clear e wc
              cases hso : stOk ⟨(t0 : Int), l0, zb, zr⟩ xs
              · have bd := bad.out hso
                obtain rfl : ob = true := by rw [hob, hso]; rfl
                clear hso hob
                obtain ⟨p0, p1, pl, s0, s1, sl, sz0, sz1⟩ := FV.out wr hzU
                obtain ⟨W2, h2, t0, t1, no⟩ := NOS.out wr hzU
                have no2 := Lib.hid (no bd.out.1 bd.out.2)
                clear no
                repeat (first | go_values | go_skip | go_guarded | go_step)
                simp [bodyPost, go_sem, t0, t1]
                exact ⟨_, by simp [results, Tryz.f58, go_sem, t0, t1] <;> rfl, no2.out⟩
              · obtain rfl : ob = false := by rw [hob, hso]; rfl
                clear hob
                have te := te0.out
                rw [if_pos hso] at te
                have oe : ok = true := by rw [oe0.out, hso]
                have so := SO.out
                rw [hso] at so
                replace so := of_decide_eq_true so.symm
                obtain ⟨G, hG⟩ : ∃ G : Nat → Nat → Cl → Cl, G = fun i k y => if inSt ⟨(t0 : Int), l0, zb, zr⟩ xs i k = true then f y else y := ⟨_, rfl⟩
                rw [← hG] at te
                replace te := Lib.hid te
                replace oe := Lib.hid oe
                have h00 := Lib.hid HS.out.b0
                obtain ⟨so1, so2, -⟩ := so
                have hb2 := HS.out.b2
                have hdim := Lib.hid (fun (row col ri ci : Nat) (h1 : n0 ≤ row) (h2 : row ≤ n2) (h3 : 1 ≤ col) (h4 : col ≤ C) (h5 : ri + 1 = t0 + row) (h6 : ci + 1 = l0 + col) => (by have := h00.out; omega : ri < P.rows.length ∧ ci < P.cols ∧ ri < 500 ∧ ci < 500))
                have G1 := Lib.hid (fun (row col ri ci : Nat) (h1 : n0 ≤ row) (h2 : row ≤ n2) (h3 : 1 ≤ col) (h4 : col ≤ C) (h5 : ri + 1 = t0 + row) (h6 : ci + 1 = l0 + col) => HS.out.inn hC'.out h1 h2 h3 h4 (show (ri : Int) = (t0 : Int) + row - 1 by omega) (show (ci : Int) = (l0 : Int) + col - 1 by omega))
                have G2 := Lib.hid (fun (i k : Nat) (y : Cl) (h : (i : Int) < (t0 : Int) + n0 - 1 ∨ (k : Int) < l0) => (by rw [hG]; exact if_neg (by rw [HS.out.below hC'.out h]; decide) : G i k y = y))
                have G3 := Lib.hid (fun (i k : Nat) (y : Cl) (h : (k : Int) < l0 ∨ (l0 : Int) + C ≤ k) => (by rw [hG]; exact if_neg (by rw [HS.out.beside hC'.out h]; decide) : G i k y = y))
                have G4 := Lib.hid (fun (i k : Nat) (y : Cl) (h : (t0 : Int) + n2 ≤ i) => (by rw [hG]; exact if_neg (by rw [HS.out.behind h]; decide) : G i k y = y))
                replace hG := Lib.hid hG
                clear HS SO hso te0 oe0 bad sp v0 v1 v2 v3 a0 a1 a2 a3 NOS NN hNN he hBr hV hU bB
                obtain ⟨p0, p1, pl, -, -, -, -, -⟩ := FV.out wr hzU
                have CP1 := Lib.hid (CP.out _ hBw)
                go_upto_region 31 with fail
                go_cut [22] from 126 to 127 (fun v wx => ∃ H A n c rows, v = .pointer (some ⟨H, 0, none⟩) ∧ QAt wr wx H P A n c rows)
                case first =>
                  go_wp2_with (
                    (go_at_call 84
                     (with_reducible refine CP1.out.mono ?_)
                     rintro _ _ ⟨V, rws, x2, rfl, rfl, hl1, hv1, hf1⟩
                     obtain ⟨A1, c1, rfl, _, _⟩ := hl1.form))
                  go_meet
                  exact ⟨_, _, _, _, _, rfl, q_start hl1 hv1 hf1 rfl⟩
                obtain ⟨H, A1, nn1, c1, rws, rfl, hQ⟩ := hcut
                obtain ⟨wi, ewi⟩ : ∃ wi, wi = wc := ⟨_, rfl⟩
                rw [← ewi] at hQ ⊢
                clear ewi wc CP CP1
                have nr : nn1 = P.rows.length := hQ.num
                subst nr
                obtain ⟨W5, rfl⟩ : ∃ W5, W5 = wr := ⟨_, rfl⟩
                obtain ⟨g0, g1, g2, g3, gl⟩ := FB.out W5 hzU
                have u0 := hQ.old el e0
                have hBl := Nat.lt_of_lt_of_le el hQ.keep.size
                obtain ⟨r0, hr0⟩ : ∃ r0 : Nat, r0 + 1 = t0 + n0 := ⟨t0 + n0 - 1, by have := h00.out; omega⟩
                replace hQ : QAt W5 wi H (mapIJ P G r0 l0) A1 P.rows.length c1 rws := by rw [mapIJ_from (fun i k y h => G2.out i k y (by omega))]; exact hQ
                replace hQ := Lib.hid hQ
                have hrW := Lib.hid (fun i (hi : i < P.rows.length) => (by
                  obtain ⟨L, g, k, xs, z, h1, h2, h3, h4, h5, h6, h7, h8⟩ := hrow.out i hi
                  exact ⟨L, g, k, xs, z, h1, h2, h3.grow hBw, Nat.lt_of_lt_of_le h8 hBw.size, (hBw.cell (p := ⟨L, _, none⟩) h8).trans h6⟩ : ∃ L g k xs z, rA = some ⟨L, 0, none⟩ ∧ P.rows[i] = (xs, z) ∧ RowM.At W5 ⟨g, k, xs, z⟩ ∧ L < W5.heap.size ∧ W5.cell? ⟨L, i * 2, none⟩ = some (.slice (some ⟨g, 0, none⟩) xs.length k)))
                have hI5 := Lib.hid (hI4.out.below hBw)
                have hO := Lib.hid (And.intro e0 (And.intro e1 (And.intro e2 (And.intro e3 (And.intro g0 (And.intro g1 (And.intro p0 p1)))))))
                have hlts := Lib.hid (And.intro el (And.intro gl pl))
                have hzUh := Lib.hid hzU
                have hBwh := Lib.hid hBw
                have hr0h := Lib.hid hr0
                clear e1 e2 e3 g0 g1 g2 g3 p0 p1 hrow hI4 hzU hBw hz bz BV FB hr0
                go_upto_region 32 with fail
                go_wp2
                clear u0 hBl e0 gl pl
                go_loopw [23] (fun iv wr => ∃ (row ri : Nat) (rows' : List RowM), ri + 1 = t0 + row ∧ n0 ≤ row ∧ row ≤ n2 + 1 ∧ iv = .int .i64 row ∧ Hid (QAt W5 wr H (mapIJ P G ri l0) A1 P.rows.length c1 rows')) (fun iv _ => n2 + 1 - (intOf iv).toNat)
                case atStart => exact ⟨n0, r0, rws, hr0h.out, Nat.le_refl _, by omega, rfl, hQ⟩
                case round =>
                  obtain ⟨row, ri, rows', er, hr1, hr2, rfl, hQ⟩ := hrel
                  obtain ⟨E0, E1, E2, E3, Z0, Z1, P0, P1⟩ := hO.out
                  obtain ⟨Lb, Lz, Lp⟩ := hlts.out
                  have hS0 := hQ.out.keep.size
                  replace er := Lib.hid er
                  by_cases hlt : row ≤ n2
                  · have d1 : decide (row ≤ n2) = true := (by first | exact decide_eq_true (by omega) | exact decide_eq_false (by omega))
                    have k2 := hQ.out.old Lb E2
                    have hBl := Nat.lt_of_lt_of_le Lb hS0
                    go_wp2
                    clear k2 hBl d1 hS0
                    go_loopw [24] (fun kv wr => ∃ (col ci : Nat) (rows2 : List RowM), ci + 1 = l0 + col ∧ 1 ≤ col ∧ col ≤ C + 1 ∧ kv = .int .i64 col ∧ Hid (QAt W5 wr H (mapIJ P G ri ci) A1 P.rows.length c1 rows2)) (fun kv _ => C + 1 - (intOf kv).toNat)
                    case atStart => exact ⟨1, l0, rows', rfl, Nat.le_refl _, by omega, rfl, hQ⟩
                    case round =>
                      obtain ⟨col, ci, rows2, ec, hc1, hc2, rfl, hQ⟩ := hrel
                      have hS0 := hQ.out.keep.size
                      replace ec := Lib.hid ec
                      by_cases hkl : col ≤ C
                      · have d2 : decide (col ≤ C) = true := (by first | exact decide_eq_true (by omega) | exact decide_eq_false (by omega))
                        obtain ⟨hri, hci, hri5, hci5⟩ := hdim.out row col ri ci hr1 hlt hc1 hkl er.out ec.out
                        have gin := G1.out row col ri ci hr1 hlt hc1 hkl er.out ec.out
                        have hrow5 : row < 1000 := by omega
                        have hcol5 : col < 1000 := by omega
                        have k0 := hQ.out.old Lb E0
                        have k1 := hQ.out.old Lb E1
                        have k2 := hQ.out.old Lb E2
                        have k3 := hQ.out.old Lb E3
                        have hBl := Nat.lt_of_lt_of_le Lb hS0
                        go_upto_region 38 with fail
                        clear d2
                        obtain ⟨ob, hob⟩ : ∃ ob, ob = !inSt ⟨(t0 : Int), l0, zb, zr⟩ xs ri ci := ⟨_, rfl⟩
                        go_cut [162] from 141 to 162 (fun v wx => v = .bool ob ∧ wx = wr)
                        case first =>
                          rw [gin, Bool.not_not] at hob
                          clear gin
                          by_cases q1 : row = n0
                          · by_cases q2 : col < n1
                            · skip
                              have b1 : ((row : Int) == (n0 : Int)) = true := by rw [beq_iff_eq]; omega
                              have b2 : decide (col < n1) = true := decide_eq_true (by omega)
                              rw [decide_eq_true (p := row = n0) (by omega), b2] at hob
                              simp only [Bool.and_true, Bool.and_false, Bool.or_true, Bool.or_false, Bool.true_and, Bool.false_and, Bool.true_or, Bool.false_or] at hob
                              replace hob := Lib.hid hob
                              clear q1 q2
                              go_wp2
                              go_meet
                              exact ⟨by rw [hob.out], rfl⟩
                            · skip
                              by_cases q3 : row = n2
                              · by_cases q4 : n3 < col
                                · skip
                                  have b1 : ((row : Int) == (n0 : Int)) = true := by rw [beq_iff_eq]; omega
                                  have b2 : decide (col < n1) = false := decide_eq_false (by omega)
                                  have b3 : ((row : Int) == (n2 : Int)) = true := by rw [beq_iff_eq]; omega
                                  have b4 : decide (n3 < col) = true := decide_eq_true (by omega)
                                  rw [decide_eq_true (p := row = n0) (by omega), b2, decide_eq_true (p := row = n2) (by omega), b4] at hob
                                  simp only [Bool.and_true, Bool.and_false, Bool.or_true, Bool.or_false, Bool.true_and, Bool.false_and, Bool.true_or, Bool.false_or] at hob
                                  replace hob := Lib.hid hob
                                  clear q1 q2 q3 q4
                                  go_wp2
                                  go_meet
                                  exact ⟨by rw [hob.out], rfl⟩
                                · skip
                                  have b1 : ((row : Int) == (n0 : Int)) = true := by rw [beq_iff_eq]; omega
                                  have b2 : decide (col < n1) = false := decide_eq_false (by omega)
                                  have b3 : ((row : Int) == (n2 : Int)) = true := by rw [beq_iff_eq]; omega
                                  have b4 : decide (n3 < col) = false := decide_eq_false (by omega)
                                  rw [decide_eq_true (p := row = n0) (by omega), b2, decide_eq_true (p := row = n2) (by omega), b4] at hob
                                  simp only [Bool.and_true, Bool.and_false, Bool.or_true, Bool.or_false, Bool.true_and, Bool.false_and, Bool.true_or, Bool.false_or] at hob
                                  replace hob := Lib.hid hob
                                  clear q1 q2 q3 q4
                                  go_wp2
                                  go_meet
                                  exact ⟨by rw [hob.out], rfl⟩
                              · skip
                                have b1 : ((row : Int) == (n0 : Int)) = true := by rw [beq_iff_eq]; omega
                                have b2 : decide (col < n1) = false := decide_eq_false (by omega)
                                have b3 : ((row : Int) == (n2 : Int)) = false := by rw [beq_eq_false_iff_ne]; omega
                                rw [decide_eq_true (p := row = n0) (by omega), b2, decide_eq_false (p := row = n2) (by omega)] at hob
                                simp only [Bool.and_true, Bool.and_false, Bool.or_true, Bool.or_false, Bool.true_and, Bool.false_and, Bool.true_or, Bool.false_or] at hob
                                replace hob := Lib.hid hob
                                clear q1 q2 q3
                                go_wp2
                                go_meet
                                exact ⟨by rw [hob.out], rfl⟩
                          · skip
                            by_cases q3 : row = n2
                            · by_cases q4 : n3 < col
                              · skip
                                have b1 : ((row : Int) == (n0 : Int)) = false := by rw [beq_eq_false_iff_ne]; omega
                                have b3 : ((row : Int) == (n2 : Int)) = true := by rw [beq_iff_eq]; omega
                                have b4 : decide (n3 < col) = true := decide_eq_true (by omega)
                                rw [decide_eq_false (p := row = n0) (by omega), decide_eq_true (p := row = n2) (by omega), b4] at hob
                                simp only [Bool.and_true, Bool.and_false, Bool.or_true, Bool.or_false, Bool.true_and, Bool.false_and, Bool.true_or, Bool.false_or] at hob
                                replace hob := Lib.hid hob
                                clear q1 q3 q4
                                go_wp2
                                go_meet
                                exact ⟨by rw [hob.out], rfl⟩
                              · skip
                                have b1 : ((row : Int) == (n0 : Int)) = false := by rw [beq_eq_false_iff_ne]; omega
                                have b3 : ((row : Int) == (n2 : Int)) = true := by rw [beq_iff_eq]; omega
                                have b4 : decide (n3 < col) = false := decide_eq_false (by omega)
                                rw [decide_eq_false (p := row = n0) (by omega), decide_eq_true (p := row = n2) (by omega), b4] at hob
                                simp only [Bool.and_true, Bool.and_false, Bool.or_true, Bool.or_false, Bool.true_and, Bool.false_and, Bool.true_or, Bool.false_or] at hob
                                replace hob := Lib.hid hob
                                clear q1 q3 q4
                                go_wp2
                                go_meet
                                exact ⟨by rw [hob.out], rfl⟩
                            · skip
                              have b1 : ((row : Int) == (n0 : Int)) = false := by rw [beq_eq_false_iff_ne]; omega
                              have b3 : ((row : Int) == (n2 : Int)) = false := by rw [beq_eq_false_iff_ne]; omega
                              rw [decide_eq_false (p := row = n0) (by omega), decide_eq_false (p := row = n2) (by omega)] at hob
                              simp only [Bool.and_true, Bool.and_false, Bool.or_true, Bool.or_false, Bool.true_and, Bool.false_and, Bool.true_or, Bool.false_or] at hob
                              replace hob := Lib.hid hob
                              clear q1 q3
                              go_wp2
                              go_meet
                              exact ⟨by rw [hob.out], rfl⟩
                        obtain ⟨rfl, e⟩ := hcut
                        rw [e]
                        clear e wc k0 k1 k2 k3 hBl gin
                        cases hin : inSt ⟨(t0 : Int), l0, zb, zr⟩ xs ri ci
                        · obtain rfl : ob = true := by rw [hob, hin]; rfl
                          have h9 := hQ.out
                          rw [← mapIJ_pass (P := P) (G := G) (i0 := ri) (k0 := ci) (fun y => by rw [hG.out]; exact if_neg (by rw [hin]; decide))] at h9
                          replace h9 := Lib.hid h9
                          clear hob hin
                          go_wp2
                          exact ⟨⟨col + 1, ci + 1, rows2, congrArg (· + 1) ec.out, by omega, by omega, rfl, h9⟩, loop_meas (by omega)⟩
                        · obtain rfl : ob = false := by rw [hob, hin]; rfl
                          have eGy : ∀ y, G ri ci y = f y := fun y => by rw [hG.out]; exact if_pos hin
                          replace eGy := Lib.hid eGy
                          clear hob hin
                          obtain ⟨Lq, gp, kp, xp, zp, erA, p1, p2, p3, p4⟩ := hrW.out ri hri
                          have hpw := hok4.out.len hri
                          have hyok := hok4.out.get hri (k := ci) (by omega)
                          have hPc : P.rows[ri].1.length = P.cols := hpw
                          simp only [p1] at hpw hyok
                          obtain ⟨gq, eg, _, hltp, v0, v1, v2, _⟩ := own_at p2 ci (by simp only; omega)
                          injection eg with eg
                          injection eg with eg
                          subst eg
                          simp only at v0 v1 v2 hltp
                          have hk1 : ci < P.rows[ri].1.length := by omega
                          have hxk : ci < xp.length := by omega
                          have eP : P.rows[ri].1[ci]'hk1 = xp[ci]'hxk := by simp only [p1]
                          have eG : G ri ci (P.rows[ri].1[ci]'hk1) = f (xp[ci]'hxk) := (eGy.out _).trans (congrArg f eP)
                          clear eP
                          generalize xp[ci]'hxk = y at v0 v1 v2 hyok eG
                          have ON2 := Lib.hid (fun w' (hb : Below W5.heap.size W5 w') => ON1.out y hyok w' (hI5.out.below hb))
                          generalize f y = fy at ON2 eG
                          obtain ⟨yg, yr, yk⟩ := y
                          obtain ⟨fg, fr, fk⟩ := fy
                          simp only [cellV] at v0 v1 v2 ON2
                          have z0 := hQ.out.old Lz Z0
                          have z1 := hQ.out.old Lz Z1
                          have w0 := hQ.out.old Lp P0
                          replace v0 := hQ.out.old hltp v0
                          replace v1 := hQ.out.old hltp v1
                          replace v2 := hQ.out.old hltp v2
                          replace p4 := hQ.out.old p3 p4
                          have hlz := Nat.lt_of_lt_of_le Lz hS0
                          have hlp := Nat.lt_of_lt_of_le Lp hS0
                          have hlq := Nat.lt_of_lt_of_le p3 hS0
                          have hlg := Nat.lt_of_lt_of_le hltp hS0
                          have er1 : (t0 : Int) + (row : Int) - 1 = (ri : Int) := by have := er.out; omega
                          have ec1 : (l0 : Int) + (col : Int) - 1 = (ci : Int) := by have := ec.out; omega
                          have hKS := Lib.hid (fun w' (h : Below wr.heap.size wr w') => (by
                            exact ⟨(h.cell (p := ⟨w.heap.size, 0, none⟩) hlp).trans w0, (h.cell (p := ⟨w.heap.size + 1, 0, none⟩) hlz).trans z0, (h.cell (p := ⟨w.heap.size + 1, 1, none⟩) hlz).trans z1, (h.cell (p := ⟨Lq, ri * 2, none⟩) hlq).trans p4, (h.cell (p := ⟨gp, ci * 3, none⟩) hlg).trans v0, (h.cell (p := ⟨gp, ci * 3 + 1, none⟩) hlg).trans v1, (h.cell (p := ⟨gp, ci * 3 + 2, none⟩) hlg).trans v2⟩ :
                            w'.cell? ⟨w.heap.size, 0, none⟩ = some (.slice rA P.rows.length rc) ∧ w'.cell? ⟨w.heap.size + 1, 0, none⟩ = some (.int .i64 t0) ∧ w'.cell? ⟨w.heap.size + 1, 1, none⟩ = some (.int .i64 l0) ∧ w'.cell? ⟨Lq, ri * 2, none⟩ = some (.slice (some ⟨gp, 0, none⟩) xp.length kp) ∧
                            w'.cell? ⟨gp, ci * 3, none⟩ = some (.int .i32 yg) ∧ w'.cell? ⟨gp, ci * 3 + 1, none⟩ = some (.int .u8 yr) ∧ w'.cell? ⟨gp, ci * 3 + 2, none⟩ = some (.bool yk)))
                          subst erA
                          clear p1 p2 E0 E1 E2 E3 Z0 Z1 P0 P1 hyok
                          replace hpw := Lib.hid hpw
                          go_upto_region 39 with fail
                          go_cut [25] from 163 to 179 (fun v wx => ∃ H25, v = .pointer (some ⟨H25, 0, none⟩) ∧ Below wr.heap.size wr wx ∧ wr.heap.size ≤ H25 ∧ wx.heap[H25]? = some (.cells #[.int .i32 yg, .int .u8 yr, .bool yk] 60 (0, 0)))
                          case first =>
                            have hwA : IntKind.i64.wrap (IntKind.i64.wrap ((t0 : Int) + (row : Int)) - 1) = (ri : Int) := wrap_back er.out (by omega) (by omega)
                            have hwB : IntKind.i64.wrap (IntKind.i64.wrap ((l0 : Int) + (col : Int)) - 1) = (ci : Int) := wrap_back ec.out (by omega) (by omega)
                            clear w0 z0 z1 v0 v1 v2 p4
                            go_region_held3 (fun w' => w'.cell? ⟨w.heap.size, 0, none⟩ = some (.slice (some ⟨Lq, 0, none⟩) P.rows.length rc) ∧ w'.cell? ⟨w.heap.size + 1, 0, none⟩ = some (.int .i64 t0) ∧ w'.cell? ⟨w.heap.size + 1, 1, none⟩ = some (.int .i64 l0) ∧ w'.cell? ⟨Lq, ri * 2, none⟩ = some (.slice (some ⟨gp, 0, none⟩) xp.length kp) ∧ w'.cell? ⟨gp, ci * 3, none⟩ = some (.int .i32 yg) ∧ w'.cell? ⟨gp, ci * 3 + 1, none⟩ = some (.int .u8 yr) ∧ w'.cell? ⟨gp, ci * 3 + 2, none⟩ = some (.bool yk)) (exact hKS.out _ (by (repeat' (first | (with_reducible exact Below.refl _ _) | (with_reducible refine Below.alloc ?_ ?_ _) | (with_reducible refine below_ext ?_ ?_ _) | (with_reducible refine Below.drew ?_) | (with_reducible refine below_drewN ?_ _) | (with_reducible refine Below.setCell ?_ ?_ _) | go_size | (simp only [go_sem]; omega) | (simp [go_sem]; done) | (simp [go_sem]; omega))))) (fail)
                            all_goals go_wp2
                            all_goals go_meet
                            all_goals (refine ⟨_, rfl, by (repeat' (first | (with_reducible exact Below.refl _ _) | (with_reducible refine Below.alloc ?_ ?_ _) | (with_reducible refine below_ext ?_ ?_ _) | (with_reducible refine Below.drew ?_) | (with_reducible refine below_drewN ?_ _) | (with_reducible refine Below.setCell ?_ ?_ _) | go_size | (simp only [go_sem]; omega) | (simp [go_sem]; done) | (simp [go_sem]; omega))), by (try simp), ?_⟩; (repeat (first | ((with_reducible refine heap_at _ _ ?_); (focus (first | rfl | (simp [go_sem]; done) | (simp [go_sem]; omega)))) | ((with_reducible refine (heap_old _ _ ?_).trans ?_); (focus (first | (simp [go_sem]; done) | (simp [go_sem]; omega)))) | ((with_reducible refine (block_ext _ _ ?_).trans ?_); (focus (first | (simp [go_sem]; done) | (simp [go_sem]; omega)))) | ((with_reducible refine (heap_drew _ _).trans ?_)))))
                          obtain ⟨H25, rfl, hV25, hH25, b25⟩ := hcut
                          obtain ⟨V, eV⟩ : ∃ V, V = wc := ⟨_, rfl⟩
                          rw [← eV] at hV25 b25 ⊢
                          clear eV wc z0 z1 w0 v0 v1 v2 p4 hlz hlp hlq hlg
                          obtain ⟨w0, z0, z1, -, -, -, -⟩ := hKS.out V hV25
                          have hV5 : Below W5.heap.size W5 V := hQ.out.keep.trans (hV25.mono hQ.out.keep.size)
                          have hlz := Nat.lt_of_lt_of_le Lz hV5.size
                          have hlp := Nat.lt_of_lt_of_le Lp hV5.size
                          replace hQ := Lib.hid (hQ.out.grow hV25)
                          obtain ⟨x0, x1, x2, hx25, -⟩ := three b25
                          have hV5h := Lib.hid (fun x => hV5.trans ((below_of_ext V x).mono hV5.size))
                          have hVx := Lib.hid (fun w' (h : Below V.heap.size V w') => hV5.trans (h.mono hV5.size))
                          obtain ⟨L', rfl⟩ := hQ.out.some (by rw [mapIJ_len]; omega)
                          have q0 := hQ.out.c0
                          have hQl := hQ.out.lt
                          obtain ⟨g5, k5, xs5, z5, c1', c2, c3, c4, c5, c6, c7, c8, c9⟩ := hQ.out.at (i := ri) (by rw [mapIJ_len]; exact hri)
                          have hx5 : xs5.length = P.cols := by
                            rw [mapIJ_row hri] at c1'
                            injection c1' with c1a c1b
                            rw [← c1a, List.length_mapIdx]
                            exact hPc
                          have hbl5 : ci < xs5.length := by omega
                          obtain ⟨g', eg, _, hlt5, u0, u1, u2, hz5⟩ := own_at c3 ci hbl5
                          injection eg with eg
                          injection eg with eg
                          subst eg
                          simp only at u0 u1 u2 hlt5 hz5
                          have y0 := hz5 (ci * 3)
                          have y1 := hz5 (ci * 3 + 1)
                          have y2 := hz5 (ci * 3 + 2)
                          generalize xs5[ci] = v5 at u0 u1 u2
                          have hstep := mapIJ_step (S := P) (G := G) hri hk1 c1'
                          rw [eG] at hstep
                          have hput := Lib.hid (fun x => (hQ.out.grow (below_of_ext V x)).put c2 hbl5 ⟨fg, fr, fk⟩)
                          simp only at hput
                          rw [← hstep] at hput
                          replace hx5 := Lib.hid hx5
                          replace hPc := Lib.hid hPc
                          clear c1' c3 c8 hz5 hstep eG hKS hV5 b25
                          go_upto_region 40 with fail
                          (refine wp_region_tail 21 (by kernel_rfl) (by kernel_rfl) ?_; simp only [List.take_succ_cons, List.take_zero, List.drop_succ_cons, List.drop_zero])
                          repeat (go_big_quiet_step (((go_at_call 102; with_reducible exact Calls.free (ON2.out _ (hVx.out _ (by (repeat' (first | (with_reducible exact Below.refl _ _) | (with_reducible refine Below.alloc ?_ ?_ _) | (with_reducible refine below_ext ?_ ?_ _) | (with_reducible refine Below.drew ?_) | (with_reducible refine below_drewN ?_ _) | (with_reducible refine Below.setCell ?_ ?_ _) | go_size | (simp only [go_sem]; omega) | (simp [go_sem]; done) | (simp [go_sem]; omega))))))))))
                          refine wpQuiet_nil ?_; rintro _ ⟨x6, rfl⟩
                          obtain ⟨rows8, h9⟩ := hput.out x6
                          simp [go_sem, hlt5] at h9
                          replace h9 := Lib.hid h9
                          clear hput
                          go_wp2
                          exact ⟨⟨col + 1, ci + 1, rows8, congrArg (· + 1) ec.out, by omega, by omega, rfl, h9⟩, loop_meas (by omega)⟩
                      · have d2 : decide (col ≤ C) = false := decide_eq_false (by omega)
                        have h9 := hQ.out
                        rw [show ci = l0 + C by have := ec.out; omega, mapIJ_over (P := P) (G := G) (i0 := ri) (C0 := l0) (C1 := l0 + C) (fun i k y h => G3.out i k y (by omega))] at h9
                        replace h9 := Lib.hid h9
                        have hri2 : ri + 1 + 1 = t0 + (row + 1) := congrArg (· + 1) er.out
                        replace hri2 := Lib.hid hri2
                        have hrow5 : row < 1000 := by omega
                        have hcol5 : col < 1000 := by omega
                        go_wp2
                        exact ⟨⟨row + 1, ri + 1, rows2, hri2.out, by omega, by omega, rfl, h9⟩, loop_meas (by omega)⟩
                  · have d1 : decide (row ≤ n2) = false := decide_eq_false (by omega)
                    have h9 := hQ.out
                    rw [mapIJ_fin (P := P) (G := G) (i0 := ri) (k0 := l0) (fun i k y h => G4.out i k y (by have := er.out; omega))] at h9
                    have q0 := h9.c0
                    have q1 := h9.c1
                    rw [show (mapS P G).cols = P.cols from rfl] at q1
                    have hQl := h9.lt
                    have k2 := h9.old Lb E2
                    have hBl := Nat.lt_of_lt_of_le Lb hS0
                    have hVw := hzUh.out.trans (h9.keep.mono hzUh.out.size)
                    have hww := hBwh.out.size
                    have hwz := hzUh.out.size
                    obtain ⟨W2, h2, t1, t2, no⟩ := NYS.out wr hVw ⟨A1, P.rows.length, c1, P.cols⟩ (by
                      rw [te.out]
                      exact ⟨_, _, rfl, h9.l, h9.val, fun b hb f => by
                        have := h9.ft b hb
                        rcases f with f | f
                        · have := hF.out b f; omega
                        · omega⟩) oe.out
                    obtain ⟨-, -, -, s0, s1, sl, sz0, sz1⟩ := FV.out wr hVw
                    simp only [RPg.v, RPg.V] at h2 t1 t2 no
                    have no2 := Lib.hid no
                    clear no NYS FV h9 hVw E0 E1 E2 E3 Z0 Z1 P0 P1
                    go_upto_region 41 with fail
                    repeat (first | go_values | go_skip | go_guarded | go_step)
                    simp [bodyPost, go_sem, t1, t2]
                    exact ⟨_, by simp [results, Tryz.f58, go_sem, t1, t2] <;> rfl, no2.out⟩
        · have bd := bad.out (by
            rw [Bool.eq_false_iff]
            intro e
            have := sp.out e
            omega)
          rw [show (decide (zb ≤ zt) || decide (zr ≤ zl)) = true by
            rcases Int.lt_or_le zt zb with h | h
            · rw [decide_eq_true (p := zr ≤ zl) (by omega), Bool.or_true]
            · rw [decide_eq_true h]; rfl] at EM1
          replace EM1 := Lib.hid EM1
          replace he := Lib.hid he
          go_upto_if 62 with (go_at_call 51; ((with_reducible refine (EM1.out).mono ?_); rintro _ _ hgets; obtain ⟨rfl, x5, rfl⟩ := hgets.get; clear hgets))
          have hV : Below wr.heap.size wr (ext wr x5) := below_of_ext wr x5
          generalize ext wr x5 = V at hV ⊢
          clear g0 g1 g2 g3 gl
          obtain ⟨p0, p1, pl, s0, s1, sl, sz0, sz1⟩ := FV.out V hV
          obtain ⟨W2, h2, t0, t1, no⟩ := NOS.out V hV
          have no2 := Lib.hid (no bd.out.1 bd.out.2)
          clear no
          repeat (first | go_values | go_skip | go_guarded | go_step)
          simp [bodyPost, go_sem, t0, t1]
          exact ⟨_, by simp [results, Tryz.f58, go_sem, t0, t1] <;> rfl, no2.out⟩
end
end Go.Proofs.YtignkkejkknddaaGreat
