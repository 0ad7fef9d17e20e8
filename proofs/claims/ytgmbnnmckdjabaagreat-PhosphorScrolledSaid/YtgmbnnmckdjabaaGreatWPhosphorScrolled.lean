/- PhosphorScrolled: the walk.  -/
import Derived.Test.YtgmbnnmckdjabaaGreatPgTwin
import Derived.Test.YtgmbnnmckdjabaaGreatPgClone
import Derived.Test.YtgmbnnmckdjabaaGreatPgSame
import Derived.Test.YtgmbnnmckdjabaaGreatPgJoin
import Derived.Test.YtgmbnnmckdjabaaGreatPages
namespace Go.Proofs.YtgmbnnmckdjabaaGreat
open Go.RowKit
set_option linter.unusedVariables false
set_option linter.unusedSimpArgs false

attribute [local go_sem ↓] cell_neq
set_option maxRecDepth 100000 in
set_option maxHeartbeats 8000000 in
theorem PhosphorScrolled_walk (w : World) (A : Option Addr) (C : Nat) (xs : List ActD) (rd : Rd ActD.cells 13 w A xs) (hl : xs.length ≤ C) (hm : C ≤ maxLen) (ha : ∀ a ∈ xs, a.Ok w)
    (bt bl bb br : Int) (_ : (Lit.int .i64 bt).wf = true) (_ : (Lit.int .i64 bl).wf = true) (_ : (Lit.int .i64 bb).wf = true) (_ : (Lit.int .i64 br).wf = true) (n : Int) (_hn : (Lit.int .i64 n).wf = true) :
    Calls Tryz.prog 4 #[.slice A xs.length C, .agg #[.int .i64 bt, .int .i64 bl, .int .i64 bb, .int .i64 br], .int .i64 n] w (fun e w' => e = .returned (.bool true) ∧ Below w.heap.size w w') := by
  have P1 := Lib.hid (play_at 6 8 xs A C rd hl hm ha)
  have okS := playNew_ok 6 8 xs ha
  generalize playNew 6 8 xs = S at P1 okS
  clear rd ha
  have CL0 := Lib.hid (fun w' => clamp_l n 0 9 w')
  obtain ⟨m, hmm⟩ : ∃ m, m = clampR n 0 9 := ⟨_, rfl⟩
  have hm0 : 0 ≤ m ∧ m ≤ 9 := by rw [hmm]; unfold clampR; split <;> (try split) <;> omega
  rw [← hmm] at CL0
  obtain ⟨hm0, hm9⟩ := hm0
  clear hmm
  obtain ⟨b, hb0⟩ : ∃ b : BxI, b = ⟨bt, bl, bb, br⟩ := ⟨_, rfl⟩
  obtain ⟨B, hB0⟩ : ∃ B : BxI, B = onB S.rows.length S.cols b := ⟨_, rfl⟩
  have hfit : B.Fits S.rows.length S.cols := by rw [hB0]; exact onB_fits _ _ _
  replace hb0 := Lib.hid hb0
  replace hB0 := Lib.hid hB0
  have hr2 := okS.r2
  have hc2 := okS.c2
  replace hfit := Lib.hid hfit
  go_enter Tryz.func4, Tryz.ntmps4
  go_upto_region 5 with (first
    | ((go_at_call 5); (with_reducible refine (P1.out _ (by (repeat' (first | (with_reducible exact Below.refl _ _) | (with_reducible refine Below.alloc ?_ ?_ _) | (with_reducible refine below_ext ?_ ?_ _) | (with_reducible refine Below.drew ?_) | (with_reducible refine below_drewN ?_ _) | (with_reducible refine Below.setCell ?_ ?_ _) | go_size | (simp only [go_sem]; omega) | (simp [go_sem]; done) | (simp [go_sem]; omega))))).mono ?_); (rintro _ W ⟨p, _, F, rfl, hb, hp, hr, hf⟩); (obtain ⟨V, ru, rfl, e1, e2, e3⟩ := hr); (obtain ⟨A1, c1, rfl, _, _⟩ := e1.form); clear e1 e2 e3; replace hb := Lib.hid hb; replace hp := Lib.hid hp; replace hf := Lib.hid hf)
    | (go_at_call 19; ((with_reducible refine (CL0.out _).mono ?_); rintro _ _ hgets; obtain ⟨rfl, y0, rfl⟩ := hgets.get; clear hgets)))
  obtain ⟨W1, hW1⟩ : ∃ W1, W1 = ext (W.alloc (.cells #[.slice A1 ru.length c1, .int .i64 S.cols] 27)) y0 := ⟨_, rfl⟩
  have hg1 : Below W.heap.size W W1 := by rw [hW1]; (repeat' (first | (with_reducible exact Below.refl _ _) | (with_reducible refine Below.alloc ?_ ?_ _) | (with_reducible refine below_ext ?_ ?_ _) | (with_reducible refine Below.drew ?_) | (with_reducible refine below_drewN ?_ _) | (with_reducible refine Below.setCell ?_ ?_ _) | go_size | (simp only [go_sem]; omega) | (simp [go_sem]; done) | (simp [go_sem]; omega)))
  obtain ⟨W0, hW0⟩ : ∃ W0, W0 = w.alloc (.cells #[.int .i64 bt, .int .i64 bl, .int .i64 bb, .int .i64 br] 36) := ⟨_, rfl⟩
  have hbw : Below w.heap.size w W0 := by rw [hW0]; (repeat' (first | (with_reducible exact Below.refl _ _) | (with_reducible refine Below.alloc ?_ ?_ _) | (with_reducible refine below_ext ?_ ?_ _) | (with_reducible refine Below.drew ?_) | (with_reducible refine below_drewN ?_ _) | (with_reducible refine Below.setCell ?_ ?_ _) | go_size | (simp only [go_sem]; omega) | (simp [go_sem]; done) | (simp [go_sem]; omega)))
  have B0 : W0.heap[w.heap.size]? = some (.cells #[.int .i64 bt, .int .i64 bl, .int .i64 bb, .int .i64 br] 36 (0, 0)) := by rw [hW0]; exact heap_alloc_new _ _
  have hb' : Below W0.heap.size W0 W := by rw [hW0]; exact hb.out
  have hG := Lib.hid (show Pages W0.heap.size W0 W1 [(p, S)] from Pages.one (hb'.trans (hg1.mono hb'.size)) (Nat.le_refl _) (hp.out.grow hg1) (by rw [hW0]; exact hf.out))
  rw [← hW1]
  replace hbw := Lib.hid hbw
  replace B0 := Lib.hid B0
  clear hW1 hg1 hW0 hb' hb hp hf P1 CL0
  obtain ⟨F, hP, -⟩ := hG.out.get 0 (by simp)
  simp only [List.getElem_cons_succ, List.getElem_cons_zero, List.set_cons_succ, List.set_cons_zero, List.cons_append, List.nil_append] at hP
  have CP := Lib.hid (fun w' (hb : Below W1.heap.size W1 w') => clone_p (hP.grow hb) okS)
  clear hP
  go_upto_region 6 with (first
    | ((fail_if_success (have := markq1)); (go_at_call 20); (with_reducible refine (CP.out _ (by (repeat' (first | (with_reducible exact Below.refl _ _) | (with_reducible refine Below.alloc ?_ ?_ _) | (with_reducible refine below_ext ?_ ?_ _) | (with_reducible refine Below.drew ?_) | (with_reducible refine below_drewN ?_ _) | (with_reducible refine Below.setCell ?_ ?_ _) | go_size | (simp only [go_sem]; omega) | (simp [go_sem]; done) | (simp [go_sem]; omega))))).mono ?_); (rintro _ _ ⟨q1, Fq1, xq1, rfl, rfl, hq1, hNq1⟩); (replace hG := Lib.hid (hG.out.new hq1 hNq1)); (have markq1 := Lib.hid trivial); clear hq1 hNq1)
    | ((fail_if_success (have := markq2)); (go_at_call 20); (with_reducible refine (CP.out _ (by (repeat' (first | (with_reducible exact Below.refl _ _) | (with_reducible refine Below.alloc ?_ ?_ _) | (with_reducible refine below_ext ?_ ?_ _) | (with_reducible refine Below.drew ?_) | (with_reducible refine below_drewN ?_ _) | (with_reducible refine Below.setCell ?_ ?_ _) | go_size | (simp only [go_sem]; omega) | (simp [go_sem]; done) | (simp [go_sem]; omega))))).mono ?_); (rintro _ _ ⟨q2, Fq2, xq2, rfl, rfl, hq2, hNq2⟩); (replace hG := Lib.hid (hG.out.new hq2 hNq2)); (have markq2 := Lib.hid trivial); clear hq2 hNq2)
    | ((fail_if_success (have := markq3)); (go_at_call 20); (with_reducible refine (CP.out _ (by (repeat' (first | (with_reducible exact Below.refl _ _) | (with_reducible refine Below.alloc ?_ ?_ _) | (with_reducible refine below_ext ?_ ?_ _) | (with_reducible refine Below.drew ?_) | (with_reducible refine below_drewN ?_ _) | (with_reducible refine Below.setCell ?_ ?_ _) | go_size | (simp only [go_sem]; omega) | (simp [go_sem]; done) | (simp [go_sem]; omega))))).mono ?_); (rintro _ _ ⟨q3, Fq3, xq3, rfl, rfl, hq3, hNq3⟩); (replace hG := Lib.hid (hG.out.new hq3 hNq3)); (have markq3 := Lib.hid trivial); clear hq3 hNq3))
  simp only [List.getElem_cons_succ, List.getElem_cons_zero, List.set_cons_succ, List.set_cons_zero, List.cons_append, List.nil_append] at hG
  obtain ⟨W2, hW⟩ : ∃ W', W' = (ext (ext (ext W1 xq1) xq2) xq3) := ⟨_, rfl⟩
  rw [← hW] at hG ⊢
  clear hW CP markq1 markq2 markq3
  obtain ⟨F, hP, hD⟩ := hG.out.get 1 (by simp)
  simp only [List.getElem_cons_succ, List.getElem_cons_zero, List.set_cons_succ, List.set_cons_zero, List.cons_append, List.nil_append] at hP hD
  have B1 := (hG.out.below.block _ (heap_in B0.out)).trans B0.out
  have d0 : W2.cell? ⟨w.heap.size, 0, none⟩ = some (.int .i64 bt) := by rw [cell_in B1]; rfl
  have d1 : W2.cell? ⟨w.heap.size, 1, none⟩ = some (.int .i64 bl) := by rw [cell_in B1]; rfl
  have d2 : W2.cell? ⟨w.heap.size, 2, none⟩ = some (.int .i64 bb) := by rw [cell_in B1]; rfl
  have d3 : W2.cell? ⟨w.heap.size, 3, none⟩ = some (.int .i64 br) := by rw [cell_in B1]; rfl
  have dl := heap_in B1
  clear B1
  have CC := Lib.hid (fun w' (hb : Below W2.heap.size W2 w') => up_p (hP.grow hb) okS ⟨bt, bl, bb, br⟩ m)
  clear hP
  replace hD := Lib.hid hD
  go_upto_region 7 with ((go_at_call 21); (with_reducible refine (CC.out _ (by (repeat' (first | (with_reducible exact Below.refl _ _) | (with_reducible refine Below.alloc ?_ ?_ _) | (with_reducible refine below_ext ?_ ?_ _) | (with_reducible refine Below.drew ?_) | (with_reducible refine below_drewN ?_ _) | (with_reducible refine Below.setCell ?_ ?_ _) | go_size | (simp only [go_sem]; omega) | (simp [go_sem]; done) | (simp [go_sem]; omega))))).mono ?_); (rintro _ W3 ⟨rfl, hd⟩); (replace hG := Lib.hid (hD.out _ _ _ (by (repeat' (first | (with_reducible exact Below.refl _ _) | (with_reducible refine Below.alloc ?_ ?_ _) | (with_reducible refine below_ext ?_ ?_ _) | (with_reducible refine Below.drew ?_) | (with_reducible refine below_drewN ?_ _) | (with_reducible refine Below.setCell ?_ ?_ _) | go_size | (simp only [go_sem]; omega) | (simp [go_sem]; done) | (simp [go_sem]; omega)))) hd)); clear hd)
  clear CC hD d0 d1 d2 d3 dl
  have okS1 := moveS_ok okS ⟨bt, bl, bb, br⟩ (clampR m 0 1000)
  obtain ⟨S1, hS1⟩ : ∃ T, T = moveS S (onB S.rows.length S.cols ⟨bt, bl, bb, br⟩) (clampR m 0 1000) := ⟨_, rfl⟩
  rw [← hS1] at hG okS1
  replace hS1 := Lib.hid hS1
  obtain ⟨F, hP, hD⟩ := hG.out.get 1 (by simp)
  simp only [List.getElem_cons_succ, List.getElem_cons_zero, List.set_cons_succ, List.set_cons_zero, List.cons_append, List.nil_append] at hP hD
  have B1 := (hG.out.below.block _ (heap_in B0.out)).trans B0.out
  have d0 : W3.cell? ⟨w.heap.size, 0, none⟩ = some (.int .i64 bt) := by rw [cell_in B1]; rfl
  have d1 : W3.cell? ⟨w.heap.size, 1, none⟩ = some (.int .i64 bl) := by rw [cell_in B1]; rfl
  have d2 : W3.cell? ⟨w.heap.size, 2, none⟩ = some (.int .i64 bb) := by rw [cell_in B1]; rfl
  have d3 : W3.cell? ⟨w.heap.size, 3, none⟩ = some (.int .i64 br) := by rw [cell_in B1]; rfl
  have dl := heap_in B1
  clear B1
  have CC := Lib.hid (fun w' (hb : Below W3.heap.size W3 w') => up_p (hP.grow hb) okS1 ⟨bt, bl, bb, br⟩ 2)
  clear hP
  replace hD := Lib.hid hD
  go_upto_region 8 with ((go_at_call 21); (with_reducible refine (CC.out _ (by (repeat' (first | (with_reducible exact Below.refl _ _) | (with_reducible refine Below.alloc ?_ ?_ _) | (with_reducible refine below_ext ?_ ?_ _) | (with_reducible refine Below.drew ?_) | (with_reducible refine below_drewN ?_ _) | (with_reducible refine Below.setCell ?_ ?_ _) | go_size | (simp only [go_sem]; omega) | (simp [go_sem]; done) | (simp [go_sem]; omega))))).mono ?_); (rintro _ W4 ⟨rfl, hd⟩); (replace hG := Lib.hid (hD.out _ _ _ (by (repeat' (first | (with_reducible exact Below.refl _ _) | (with_reducible refine Below.alloc ?_ ?_ _) | (with_reducible refine below_ext ?_ ?_ _) | (with_reducible refine Below.drew ?_) | (with_reducible refine below_drewN ?_ _) | (with_reducible refine Below.setCell ?_ ?_ _) | go_size | (simp only [go_sem]; omega) | (simp [go_sem]; done) | (simp [go_sem]; omega)))) hd)); clear hd)
  clear CC hD d0 d1 d2 d3 dl
  have okS2 := moveS_ok okS1 ⟨bt, bl, bb, br⟩ (clampR 2 0 1000)
  obtain ⟨S2, hS2⟩ : ∃ T, T = moveS S1 (onB S1.rows.length S1.cols ⟨bt, bl, bb, br⟩) (clampR 2 0 1000) := ⟨_, rfl⟩
  rw [← hS2] at hG okS2
  replace hS2 := Lib.hid hS2
  obtain ⟨F, hP, hD⟩ := hG.out.get 2 (by simp)
  simp only [List.getElem_cons_succ, List.getElem_cons_zero, List.set_cons_succ, List.set_cons_zero, List.cons_append, List.nil_append] at hP hD
  have B1 := (hG.out.below.block _ (heap_in B0.out)).trans B0.out
  have d0 : W4.cell? ⟨w.heap.size, 0, none⟩ = some (.int .i64 bt) := by rw [cell_in B1]; rfl
  have d1 : W4.cell? ⟨w.heap.size, 1, none⟩ = some (.int .i64 bl) := by rw [cell_in B1]; rfl
  have d2 : W4.cell? ⟨w.heap.size, 2, none⟩ = some (.int .i64 bb) := by rw [cell_in B1]; rfl
  have d3 : W4.cell? ⟨w.heap.size, 3, none⟩ = some (.int .i64 br) := by rw [cell_in B1]; rfl
  have dl := heap_in B1
  clear B1
  have CC := Lib.hid (fun w' (hb : Below W4.heap.size W4 w') => up_p (hP.grow hb) okS ⟨bt, bl, bb, br⟩ (m + 2))
  clear hP
  replace hD := Lib.hid hD
  go_upto_region 9 with ((go_at_call 21); (with_reducible refine (CC.out _ (by (repeat' (first | (with_reducible exact Below.refl _ _) | (with_reducible refine Below.alloc ?_ ?_ _) | (with_reducible refine below_ext ?_ ?_ _) | (with_reducible refine Below.drew ?_) | (with_reducible refine below_drewN ?_ _) | (with_reducible refine Below.setCell ?_ ?_ _) | go_size | (simp only [go_sem]; omega) | (simp [go_sem]; done) | (simp [go_sem]; omega))))).mono ?_); (rintro _ W5 ⟨rfl, hd⟩); (replace hG := Lib.hid (hD.out _ _ _ (by (repeat' (first | (with_reducible exact Below.refl _ _) | (with_reducible refine Below.alloc ?_ ?_ _) | (with_reducible refine below_ext ?_ ?_ _) | (with_reducible refine Below.drew ?_) | (with_reducible refine below_drewN ?_ _) | (with_reducible refine Below.setCell ?_ ?_ _) | go_size | (simp only [go_sem]; omega) | (simp [go_sem]; done) | (simp [go_sem]; omega)))) hd)); clear hd)
  clear CC hD d0 d1 d2 d3 dl
  have okS3 := moveS_ok okS ⟨bt, bl, bb, br⟩ (clampR (m + 2) 0 1000)
  obtain ⟨S3, hS3⟩ : ∃ T, T = moveS S (onB S.rows.length S.cols ⟨bt, bl, bb, br⟩) (clampR (m + 2) 0 1000) := ⟨_, rfl⟩
  rw [← hS3] at hG okS3
  replace hS3 := Lib.hid hS3
  obtain ⟨F, hP, hD⟩ := hG.out.get 3 (by simp)
  simp only [List.getElem_cons_succ, List.getElem_cons_zero, List.set_cons_succ, List.set_cons_zero, List.cons_append, List.nil_append] at hP hD
  have B1 := (hG.out.below.block _ (heap_in B0.out)).trans B0.out
  have d0 : W5.cell? ⟨w.heap.size, 0, none⟩ = some (.int .i64 bt) := by rw [cell_in B1]; rfl
  have d1 : W5.cell? ⟨w.heap.size, 1, none⟩ = some (.int .i64 bl) := by rw [cell_in B1]; rfl
  have d2 : W5.cell? ⟨w.heap.size, 2, none⟩ = some (.int .i64 bb) := by rw [cell_in B1]; rfl
  have d3 : W5.cell? ⟨w.heap.size, 3, none⟩ = some (.int .i64 br) := by rw [cell_in B1]; rfl
  have dl := heap_in B1
  clear B1
  have CC := Lib.hid (fun w' (hb : Below W5.heap.size W5 w') => left_p (hP.grow hb) okS ⟨bt, bl, bb, br⟩ m)
  clear hP
  replace hD := Lib.hid hD
  go_upto_region 10 with ((go_at_call 22); (with_reducible refine (CC.out _ (by (repeat' (first | (with_reducible exact Below.refl _ _) | (with_reducible refine Below.alloc ?_ ?_ _) | (with_reducible refine below_ext ?_ ?_ _) | (with_reducible refine Below.drew ?_) | (with_reducible refine below_drewN ?_ _) | (with_reducible refine Below.setCell ?_ ?_ _) | go_size | (simp only [go_sem]; omega) | (simp [go_sem]; done) | (simp [go_sem]; omega))))).mono ?_); (rintro _ W6 ⟨rfl, hd⟩); (replace hG := Lib.hid (hD.out _ _ _ (by (repeat' (first | (with_reducible exact Below.refl _ _) | (with_reducible refine Below.alloc ?_ ?_ _) | (with_reducible refine below_ext ?_ ?_ _) | (with_reducible refine Below.drew ?_) | (with_reducible refine below_drewN ?_ _) | (with_reducible refine Below.setCell ?_ ?_ _) | go_size | (simp only [go_sem]; omega) | (simp [go_sem]; done) | (simp [go_sem]; omega)))) hd)); clear hd)
  clear CC hD d0 d1 d2 d3 dl
  have okL1 := eachS_ok okS (onB S.rows.length S.cols ⟨bt, bl, bb, br⟩) (f := fun xs l r => movR xs l r (-clampR m 0 (cntN xs.length l r 0))) (fun _ _ _ => updR_len _ _ _ _) (fun _ _ _ h => movR_ok h)
  obtain ⟨L1, hL1⟩ : ∃ T, T = eachS S (onB S.rows.length S.cols ⟨bt, bl, bb, br⟩) (fun xs l r => movR xs l r (-clampR m 0 (cntN xs.length l r 0))) := ⟨_, rfl⟩
  rw [← hL1] at hG okL1
  replace hL1 := Lib.hid hL1
  obtain ⟨F, hP, hD⟩ := hG.out.get 3 (by simp)
  simp only [List.getElem_cons_succ, List.getElem_cons_zero, List.set_cons_succ, List.set_cons_zero, List.cons_append, List.nil_append] at hP hD
  have B1 := (hG.out.below.block _ (heap_in B0.out)).trans B0.out
  have d0 : W6.cell? ⟨w.heap.size, 0, none⟩ = some (.int .i64 bt) := by rw [cell_in B1]; rfl
  have d1 : W6.cell? ⟨w.heap.size, 1, none⟩ = some (.int .i64 bl) := by rw [cell_in B1]; rfl
  have d2 : W6.cell? ⟨w.heap.size, 2, none⟩ = some (.int .i64 bb) := by rw [cell_in B1]; rfl
  have d3 : W6.cell? ⟨w.heap.size, 3, none⟩ = some (.int .i64 br) := by rw [cell_in B1]; rfl
  have dl := heap_in B1
  clear B1
  have CC := Lib.hid (fun w' (hb : Below W6.heap.size W6 w') => left_p (hP.grow hb) okL1 ⟨bt, bl, bb, br⟩ 1)
  clear hP
  replace hD := Lib.hid hD
  go_upto_region 11 with ((go_at_call 22); (with_reducible refine (CC.out _ (by (repeat' (first | (with_reducible exact Below.refl _ _) | (with_reducible refine Below.alloc ?_ ?_ _) | (with_reducible refine below_ext ?_ ?_ _) | (with_reducible refine Below.drew ?_) | (with_reducible refine below_drewN ?_ _) | (with_reducible refine Below.setCell ?_ ?_ _) | go_size | (simp only [go_sem]; omega) | (simp [go_sem]; done) | (simp [go_sem]; omega))))).mono ?_); (rintro _ W7 ⟨rfl, hd⟩); (replace hG := Lib.hid (hD.out _ _ _ (by (repeat' (first | (with_reducible exact Below.refl _ _) | (with_reducible refine Below.alloc ?_ ?_ _) | (with_reducible refine below_ext ?_ ?_ _) | (with_reducible refine Below.drew ?_) | (with_reducible refine below_drewN ?_ _) | (with_reducible refine Below.setCell ?_ ?_ _) | go_size | (simp only [go_sem]; omega) | (simp [go_sem]; done) | (simp [go_sem]; omega)))) hd)); clear hd)
  clear CC hD d0 d1 d2 d3 dl
  have okL2 := eachS_ok okL1 (onB L1.rows.length L1.cols ⟨bt, bl, bb, br⟩) (f := fun xs l r => movR xs l r (-clampR 1 0 (cntN xs.length l r 0))) (fun _ _ _ => updR_len _ _ _ _) (fun _ _ _ h => movR_ok h)
  obtain ⟨L2, hL2⟩ : ∃ T, T = eachS L1 (onB L1.rows.length L1.cols ⟨bt, bl, bb, br⟩) (fun xs l r => movR xs l r (-clampR 1 0 (cntN xs.length l r 0))) := ⟨_, rfl⟩
  rw [← hL2] at hG okL2
  replace hL2 := Lib.hid hL2
  obtain ⟨F, hP, -⟩ := hG.out.get 0 (by simp)
  simp only [List.getElem_cons_succ, List.getElem_cons_zero, List.set_cons_succ, List.set_cons_zero, List.cons_append, List.nil_append] at hP
  have CP := Lib.hid (fun w' (hb : Below W7.heap.size W7 w') => clone_p (hP.grow hb) okS)
  clear hP
  go_upto_region 12 with (first
    | ((fail_if_success (have := markq4)); (go_at_call 20); (with_reducible refine (CP.out _ (by (repeat' (first | (with_reducible exact Below.refl _ _) | (with_reducible refine Below.alloc ?_ ?_ _) | (with_reducible refine below_ext ?_ ?_ _) | (with_reducible refine Below.drew ?_) | (with_reducible refine below_drewN ?_ _) | (with_reducible refine Below.setCell ?_ ?_ _) | go_size | (simp only [go_sem]; omega) | (simp [go_sem]; done) | (simp [go_sem]; omega))))).mono ?_); (rintro _ _ ⟨q4, Fq4, xq4, rfl, rfl, hq4, hNq4⟩); (replace hG := Lib.hid (hG.out.new hq4 hNq4)); (have markq4 := Lib.hid trivial); clear hq4 hNq4))
  simp only [List.getElem_cons_succ, List.getElem_cons_zero, List.set_cons_succ, List.set_cons_zero, List.cons_append, List.nil_append] at hG
  obtain ⟨W8, hW⟩ : ∃ W', W' = (ext W7 xq4) := ⟨_, rfl⟩
  rw [← hW] at hG ⊢
  clear hW CP markq4
  obtain ⟨F, hP, hD⟩ := hG.out.get 4 (by simp)
  simp only [List.getElem_cons_succ, List.getElem_cons_zero, List.set_cons_succ, List.set_cons_zero, List.cons_append, List.nil_append] at hP hD
  have B1 := (hG.out.below.block _ (heap_in B0.out)).trans B0.out
  have d0 : W8.cell? ⟨w.heap.size, 0, none⟩ = some (.int .i64 bt) := by rw [cell_in B1]; rfl
  have d1 : W8.cell? ⟨w.heap.size, 1, none⟩ = some (.int .i64 bl) := by rw [cell_in B1]; rfl
  have d2 : W8.cell? ⟨w.heap.size, 2, none⟩ = some (.int .i64 bb) := by rw [cell_in B1]; rfl
  have d3 : W8.cell? ⟨w.heap.size, 3, none⟩ = some (.int .i64 br) := by rw [cell_in B1]; rfl
  have dl := heap_in B1
  clear B1
  have CC := Lib.hid (fun w' (hb : Below W8.heap.size W8 w') => left_p (hP.grow hb) okS ⟨bt, bl, bb, br⟩ (m + 1))
  clear hP
  replace hD := Lib.hid hD
  go_upto_region 13 with ((go_at_call 22); (with_reducible refine (CC.out _ (by (repeat' (first | (with_reducible exact Below.refl _ _) | (with_reducible refine Below.alloc ?_ ?_ _) | (with_reducible refine below_ext ?_ ?_ _) | (with_reducible refine Below.drew ?_) | (with_reducible refine below_drewN ?_ _) | (with_reducible refine Below.setCell ?_ ?_ _) | go_size | (simp only [go_sem]; omega) | (simp [go_sem]; done) | (simp [go_sem]; omega))))).mono ?_); (rintro _ W9 ⟨rfl, hd⟩); (replace hG := Lib.hid (hD.out _ _ _ (by (repeat' (first | (with_reducible exact Below.refl _ _) | (with_reducible refine Below.alloc ?_ ?_ _) | (with_reducible refine below_ext ?_ ?_ _) | (with_reducible refine Below.drew ?_) | (with_reducible refine below_drewN ?_ _) | (with_reducible refine Below.setCell ?_ ?_ _) | go_size | (simp only [go_sem]; omega) | (simp [go_sem]; done) | (simp [go_sem]; omega)))) hd)); clear hd)
  clear CC hD d0 d1 d2 d3 dl
  have okL3 := eachS_ok okS (onB S.rows.length S.cols ⟨bt, bl, bb, br⟩) (f := fun xs l r => movR xs l r (-clampR (m + 1) 0 (cntN xs.length l r 0))) (fun _ _ _ => updR_len _ _ _ _) (fun _ _ _ h => movR_ok h)
  obtain ⟨L3, hL3⟩ : ∃ T, T = eachS S (onB S.rows.length S.cols ⟨bt, bl, bb, br⟩) (fun xs l r => movR xs l r (-clampR (m + 1) 0 (cntN xs.length l r 0))) := ⟨_, rfl⟩
  rw [← hL3] at hG okL3
  replace hL3 := Lib.hid hL3
  have eS : S2 = S3 := by
    have h1 := hfit.out
    have e1 := hB0.out
    rw [hb0.out] at e1
    rw [hS2.out, hS3.out, hS1.out, ← e1]
    rw [show onB (moveS S B (clampR m 0 1000)).rows.length (moveS S B (clampR m 0 1000)).cols ⟨bt, bl, bb, br⟩ = B by rw [moveS_len]; exact e1.symm]
    rw [show clampR m 0 1000 = m by unfold clampR; split <;> (try split) <;> omega, show clampR 2 0 1000 = 2 from rfl, show clampR (m + 2) 0 1000 = m + 2 by unfold clampR; split <;> (try split) <;> omega]
    exact up_join okS h1 hm0 (by omega)
  have eL : L2 = L3 := by
    have h1 := hfit.out
    have e1 := hB0.out
    rw [hb0.out] at e1
    rw [hL2.out, hL3.out, hL1.out, ← e1]
    rw [show onB (eachS S B (fun xs l r => movR xs l r (-clampR m 0 (cntN xs.length l r 0)))).rows.length (eachS S B (fun xs l r => movR xs l r (-clampR m 0 (cntN xs.length l r 0)))).cols ⟨bt, bl, bb, br⟩ = B by rw [eachS_len]; exact e1.symm]
    exact left_join h1 m 1 hm0 (by omega)
  obtain ⟨F, hP, -⟩ := hG.out.get 1 (by simp)
  simp only [List.getElem_cons_succ, List.getElem_cons_zero, List.set_cons_succ, List.set_cons_zero, List.cons_append, List.nil_append] at hP
  obtain ⟨F', hQ, -⟩ := hG.out.get 2 (by simp)
  simp only [List.getElem_cons_succ, List.getElem_cons_zero, List.set_cons_succ, List.set_cons_zero, List.cons_append, List.nil_append] at hQ
  have SA := Lib.hid (fun w' (hb : Below W9.heap.size W9 w') => same_p (hP.grow hb) okS2 (hQ.grow hb) okS3)
  rw [(sameS_iff S2 S3).2 eS] at SA
  clear hP hQ
  obtain ⟨F, hP, -⟩ := hG.out.get 3 (by simp)
  simp only [List.getElem_cons_succ, List.getElem_cons_zero, List.set_cons_succ, List.set_cons_zero, List.cons_append, List.nil_append] at hP
  obtain ⟨F', hQ, -⟩ := hG.out.get 4 (by simp)
  simp only [List.getElem_cons_succ, List.getElem_cons_zero, List.set_cons_succ, List.set_cons_zero, List.cons_append, List.nil_append] at hQ
  have SB := Lib.hid (fun w' (hb : Below W9.heap.size W9 w') => same_p (hP.grow hb) okL2 (hQ.grow hb) okL3)
  rw [(sameS_iff L2 L3).2 eL] at SB
  clear hP hQ eS eL
  go_upto_region 15 with (first | (go_at_call 23; ((with_reducible refine (SA.out _ (by (repeat' (first | (with_reducible exact Below.refl _ _) | (with_reducible refine Below.alloc ?_ ?_ _) | (with_reducible refine below_ext ?_ ?_ _) | (with_reducible refine Below.drew ?_) | (with_reducible refine below_drewN ?_ _) | (with_reducible refine Below.setCell ?_ ?_ _) | go_size | (simp only [go_sem]; omega) | (simp [go_sem]; done) | (simp [go_sem]; omega))))).mono ?_); rintro _ _ hgets; obtain ⟨rfl, y1, rfl⟩ := hgets.get; clear hgets)) | (go_at_call 23; ((with_reducible refine (SB.out _ (by (repeat' (first | (with_reducible exact Below.refl _ _) | (with_reducible refine Below.alloc ?_ ?_ _) | (with_reducible refine below_ext ?_ ?_ _) | (with_reducible refine Below.drew ?_) | (with_reducible refine below_drewN ?_ _) | (with_reducible refine Below.setCell ?_ ?_ _) | go_size | (simp only [go_sem]; omega) | (simp [go_sem]; done) | (simp [go_sem]; omega))))).mono ?_); rintro _ _ hgets; obtain ⟨rfl, y2, rfl⟩ := hgets.get; clear hgets)))
  obtain ⟨W10, hW⟩ : ∃ W', W' = ext (ext W9 y1) y2 := ⟨_, rfl⟩
  replace hG := Lib.hid (hG.out.grow (show Below W9.heap.size W9 W10 by rw [hW]; (repeat' (first | (with_reducible exact Below.refl _ _) | (with_reducible refine Below.alloc ?_ ?_ _) | (with_reducible refine below_ext ?_ ?_ _) | (with_reducible refine Below.drew ?_) | (with_reducible refine below_drewN ?_ _) | (with_reducible refine Below.setCell ?_ ?_ _) | go_size | (simp only [go_sem]; omega) | (simp [go_sem]; done) | (simp [go_sem]; omega)))))
  rw [← hW]
  clear hW SA SB
  obtain ⟨F, hP, -⟩ := hG.out.get 0 (by simp)
  simp only [List.getElem_cons_succ, List.getElem_cons_zero, List.set_cons_succ, List.set_cons_zero, List.cons_append, List.nil_append] at hP
  have CP := Lib.hid (fun w' (hb : Below W10.heap.size W10 w') => clone_p (hP.grow hb) okS)
  clear hP
  go_upto_region 16 with (first
    | ((fail_if_success (have := markq5)); (go_at_call 20); (with_reducible refine (CP.out _ (by (repeat' (first | (with_reducible exact Below.refl _ _) | (with_reducible refine Below.alloc ?_ ?_ _) | (with_reducible refine below_ext ?_ ?_ _) | (with_reducible refine Below.drew ?_) | (with_reducible refine below_drewN ?_ _) | (with_reducible refine Below.setCell ?_ ?_ _) | go_size | (simp only [go_sem]; omega) | (simp [go_sem]; done) | (simp [go_sem]; omega))))).mono ?_); (rintro _ _ ⟨q5, Fq5, xq5, rfl, rfl, hq5, hNq5⟩); (replace hG := Lib.hid (hG.out.new hq5 hNq5)); (have markq5 := Lib.hid trivial); clear hq5 hNq5)
    | ((fail_if_success (have := markq6)); (go_at_call 20); (with_reducible refine (CP.out _ (by (repeat' (first | (with_reducible exact Below.refl _ _) | (with_reducible refine Below.alloc ?_ ?_ _) | (with_reducible refine below_ext ?_ ?_ _) | (with_reducible refine Below.drew ?_) | (with_reducible refine below_drewN ?_ _) | (with_reducible refine Below.setCell ?_ ?_ _) | go_size | (simp only [go_sem]; omega) | (simp [go_sem]; done) | (simp [go_sem]; omega))))).mono ?_); (rintro _ _ ⟨q6, Fq6, xq6, rfl, rfl, hq6, hNq6⟩); (replace hG := Lib.hid (hG.out.new hq6 hNq6)); (have markq6 := Lib.hid trivial); clear hq6 hNq6))
  simp only [List.getElem_cons_succ, List.getElem_cons_zero, List.set_cons_succ, List.set_cons_zero, List.cons_append, List.nil_append] at hG
  obtain ⟨W11, hW⟩ : ∃ W', W' = (ext (ext W10 xq5) xq6) := ⟨_, rfl⟩
  rw [← hW] at hG ⊢
  clear hW CP markq5 markq6
  obtain ⟨F, hP, hD⟩ := hG.out.get 5 (by simp)
  simp only [List.getElem_cons_succ, List.getElem_cons_zero, List.set_cons_succ, List.set_cons_zero, List.cons_append, List.nil_append] at hP hD
  have B1 := (hG.out.below.block _ (heap_in B0.out)).trans B0.out
  have d0 : W11.cell? ⟨w.heap.size, 0, none⟩ = some (.int .i64 bt) := by rw [cell_in B1]; rfl
  have d1 : W11.cell? ⟨w.heap.size, 1, none⟩ = some (.int .i64 bl) := by rw [cell_in B1]; rfl
  have d2 : W11.cell? ⟨w.heap.size, 2, none⟩ = some (.int .i64 bb) := by rw [cell_in B1]; rfl
  have d3 : W11.cell? ⟨w.heap.size, 3, none⟩ = some (.int .i64 br) := by rw [cell_in B1]; rfl
  have dl := heap_in B1
  clear B1
  have CC := Lib.hid (fun w' (hb : Below W11.heap.size W11 w') => up_p (hP.grow hb) okS ⟨bt, bl, bb, br⟩ 600)
  clear hP
  replace hD := Lib.hid hD
  go_upto_region 17 with ((go_at_call 21); (with_reducible refine (CC.out _ (by (repeat' (first | (with_reducible exact Below.refl _ _) | (with_reducible refine Below.alloc ?_ ?_ _) | (with_reducible refine below_ext ?_ ?_ _) | (with_reducible refine Below.drew ?_) | (with_reducible refine below_drewN ?_ _) | (with_reducible refine Below.setCell ?_ ?_ _) | go_size | (simp only [go_sem]; omega) | (simp [go_sem]; done) | (simp [go_sem]; omega))))).mono ?_); (rintro _ W12 ⟨rfl, hd⟩); (replace hG := Lib.hid (hD.out _ _ _ (by (repeat' (first | (with_reducible exact Below.refl _ _) | (with_reducible refine Below.alloc ?_ ?_ _) | (with_reducible refine below_ext ?_ ?_ _) | (with_reducible refine Below.drew ?_) | (with_reducible refine below_drewN ?_ _) | (with_reducible refine Below.setCell ?_ ?_ _) | go_size | (simp only [go_sem]; omega) | (simp [go_sem]; done) | (simp [go_sem]; omega)))) hd)); clear hd)
  clear CC hD d0 d1 d2 d3 dl
  have okE1 := moveS_ok okS ⟨bt, bl, bb, br⟩ (clampR 600 0 1000)
  obtain ⟨E1, hE1⟩ : ∃ T, T = moveS S (onB S.rows.length S.cols ⟨bt, bl, bb, br⟩) (clampR 600 0 1000) := ⟨_, rfl⟩
  rw [← hE1] at hG okE1
  replace hE1 := Lib.hid hE1
  obtain ⟨F, hP, hD⟩ := hG.out.get 6 (by simp)
  simp only [List.getElem_cons_succ, List.getElem_cons_zero, List.set_cons_succ, List.set_cons_zero, List.cons_append, List.nil_append] at hP hD
  have B1 := (hG.out.below.block _ (heap_in B0.out)).trans B0.out
  have d0 : W12.cell? ⟨w.heap.size, 0, none⟩ = some (.int .i64 bt) := by rw [cell_in B1]; rfl
  have d1 : W12.cell? ⟨w.heap.size, 1, none⟩ = some (.int .i64 bl) := by rw [cell_in B1]; rfl
  have d2 : W12.cell? ⟨w.heap.size, 2, none⟩ = some (.int .i64 bb) := by rw [cell_in B1]; rfl
  have d3 : W12.cell? ⟨w.heap.size, 3, none⟩ = some (.int .i64 br) := by rw [cell_in B1]; rfl
  have dl := heap_in B1
  clear B1
  have CC := Lib.hid (fun w' (hb : Below W12.heap.size W12 w') => erase_p (hP.grow hb) okS ⟨bt, bl, bb, br⟩)
  clear hP
  replace hD := Lib.hid hD
  go_upto_region 18 with ((go_at_call 15); (with_reducible refine (CC.out _ (by (repeat' (first | (with_reducible exact Below.refl _ _) | (with_reducible refine Below.alloc ?_ ?_ _) | (with_reducible refine below_ext ?_ ?_ _) | (with_reducible refine Below.drew ?_) | (with_reducible refine below_drewN ?_ _) | (with_reducible refine Below.setCell ?_ ?_ _) | go_size | (simp only [go_sem]; omega) | (simp [go_sem]; done) | (simp [go_sem]; omega))))).mono ?_); (rintro _ W13 ⟨rfl, hd⟩); (replace hG := Lib.hid (hD.out _ _ _ (by (repeat' (first | (with_reducible exact Below.refl _ _) | (with_reducible refine Below.alloc ?_ ?_ _) | (with_reducible refine below_ext ?_ ?_ _) | (with_reducible refine Below.drew ?_) | (with_reducible refine below_drewN ?_ _) | (with_reducible refine Below.setCell ?_ ?_ _) | go_size | (simp only [go_sem]; omega) | (simp [go_sem]; done) | (simp [go_sem]; omega)))) hd)); clear hd)
  clear CC hD d0 d1 d2 d3 dl
  have okE2 := eachS_ok okS (onB S.rows.length S.cols ⟨bt, bl, bb, br⟩) (f := fun xs l r => eachR xs l r fun _ => erC) (fun _ _ _ => updR_len _ _ _ _) (fun _ _ _ h => eachR_ok h fun _ _ => erC_ok)
  obtain ⟨E2, hE2⟩ : ∃ T, T = eachS S (onB S.rows.length S.cols ⟨bt, bl, bb, br⟩) (fun xs l r => eachR xs l r fun _ => erC) := ⟨_, rfl⟩
  rw [← hE2] at hG okE2
  replace hE2 := Lib.hid hE2
  have eE := Lib.hid (show ∀ i k : Nat, atS E1 i k = atS E2 i k from fun i k => by
    have h1 := hfit.out
    have e1 := hB0.out
    rw [hb0.out] at e1
    rw [hE1.out, hE2.out, ← e1, show clampR 600 0 1000 = 600 from rfl]
    exact away okS h1 (by omega) i k)
  go_wp2
  go_loopw [14] (fun iv wr => ∃ j : Nat, j ≤ S.rows.length ∧ iv = .int .i64 j ∧ Hid (Below W13.heap.size W13 wr)) (fun iv _ => S.rows.length - (intOf iv).toNat)
  case atStart => exact ⟨0, by omega, rfl, Lib.hid (Below.refl _ _)⟩
  case round =>
    obtain ⟨i, hi, rfl, hbr⟩ := hrel
    obtain ⟨Wa, hWa⟩ : ∃ Wa, Wa = wr := ⟨_, rfl⟩
    subst hWa
    have hGa := hG.out.grow hbr.out
    obtain ⟨F, hP, -⟩ := hGa.get 0 (by simp)
    simp only [List.getElem_cons_succ, List.getElem_cons_zero, List.set_cons_succ, List.set_cons_zero, List.cons_append, List.nil_append] at hP
    have RW := Lib.hid (fun w' (hb : Below Wa.heap.size Wa w') => rows_p (hP.grow hb))
    clear hGa hP
    by_cases hlt : i < S.rows.length
    · have e1 : decide ((i : Int) < (S.rows.length : Int)) = true := decide_eq_true (by omega)
      have e1' : decide (i < S.rows.length) = true := decide_eq_true hlt
      go_wp2_with (go_at_call 7; ((with_reducible refine (RW.out _ (by (repeat' (first | (with_reducible exact Below.refl _ _) | (with_reducible refine Below.alloc ?_ ?_ _) | (with_reducible refine below_ext ?_ ?_ _) | (with_reducible refine Below.drew ?_) | (with_reducible refine below_drewN ?_ _) | (with_reducible refine Below.setCell ?_ ?_ _) | go_size | (simp only [go_sem]; omega) | (simp [go_sem]; done) | (simp [go_sem]; omega))))).mono ?_); rintro _ _ hgets; obtain ⟨rfl, y3, rfl⟩ := hgets.get; clear hgets))
      go_loopw [15] (fun kv wr => ∃ k : Nat, k ≤ S.cols ∧ kv = .int .i64 k ∧ Hid (Below W13.heap.size W13 wr)) (fun kv _ => S.cols - (intOf kv).toNat)
      case atStart => exact ⟨0, by omega, rfl, Lib.hid (hbr.out.trans (Below.mono (B := Wa.heap.size) (by (repeat' (first | (with_reducible exact Below.refl _ _) | (with_reducible refine Below.alloc ?_ ?_ _) | (with_reducible refine below_ext ?_ ?_ _) | (with_reducible refine Below.drew ?_) | (with_reducible refine below_drewN ?_ _) | (with_reducible refine Below.setCell ?_ ?_ _) | go_size | (simp only [go_sem]; omega) | (simp [go_sem]; done) | (simp [go_sem]; omega)))) hbr.out.size))⟩
      case round =>
        obtain ⟨k, hk, rfl, hbr2⟩ := hrel
        have hGa := hG.out.grow hbr2.out
        obtain ⟨F, hP, -⟩ := hGa.get 0 (by simp)
        simp only [List.getElem_cons_succ, List.getElem_cons_zero, List.set_cons_succ, List.set_cons_zero, List.cons_append, List.nil_append] at hP
        have CW := Lib.hid (fun w' (hb : Below wr.heap.size wr w') => cols_p (hP.grow hb))
        clear hP
        obtain ⟨F, hP, -⟩ := hGa.get 5 (by simp)
        simp only [List.getElem_cons_succ, List.getElem_cons_zero, List.set_cons_succ, List.set_cons_zero, List.cons_append, List.nil_append] at hP
        have AT1 := Lib.hid (fun w' (hb : Below wr.heap.size wr w') => at_p (hP.grow hb) okE1 i k)
        clear hP
        obtain ⟨F, hP, -⟩ := hGa.get 6 (by simp)
        simp only [List.getElem_cons_succ, List.getElem_cons_zero, List.set_cons_succ, List.set_cons_zero, List.cons_append, List.nil_append] at hP
        have AT2 := Lib.hid (fun w' (hb : Below wr.heap.size wr w') => at_p (hP.grow hb) okE2 i k)
        clear hP hGa
        rw [eE.out i k] at AT1
        generalize atS E2 i k = y at AT1 AT2
        obtain ⟨yg, yr, yk⟩ := y
        have he0 := eqC_t (rfl : (⟨yg, yr, yk⟩ : Cl) = ⟨yg, yr, yk⟩)
        by_cases hlt2 : k < S.cols
        · have e2 : decide ((k : Int) < (S.cols : Int)) = true := decide_eq_true (by omega)
          have e2' : decide (k < S.cols) = true := decide_eq_true hlt2
          go_upto_region 25 with (go_at_call 8; ((with_reducible refine (CW.out _ (by (repeat' (first | (with_reducible exact Below.refl _ _) | (with_reducible refine Below.alloc ?_ ?_ _) | (with_reducible refine below_ext ?_ ?_ _) | (with_reducible refine Below.drew ?_) | (with_reducible refine below_drewN ?_ _) | (with_reducible refine Below.setCell ?_ ?_ _) | go_size | (simp only [go_sem]; omega) | (simp [go_sem]; done) | (simp [go_sem]; omega))))).mono ?_); rintro _ _ hgets; obtain ⟨rfl, y4, rfl⟩ := hgets.get; clear hgets))
          (refine wp_region_free (by kernel_rfl) (by kernel_rfl) ?_)
          repeat (go_big_quiet_step (first | ((go_at_call 24; with_reducible exact Calls.free (AT1.out _ (by (repeat' (first | (with_reducible exact Below.refl _ _) | (with_reducible refine Below.alloc ?_ ?_ _) | (with_reducible refine below_ext ?_ ?_ _) | (with_reducible refine Below.drew ?_) | (with_reducible refine below_drewN ?_ _) | (with_reducible refine Below.setCell ?_ ?_ _) | go_size | (simp only [go_sem]; omega) | (simp [go_sem]; done) | (simp [go_sem]; omega))))))) | ((go_at_call 24; with_reducible exact Calls.free (AT2.out _ (by (repeat' (first | (with_reducible exact Below.refl _ _) | (with_reducible refine Below.alloc ?_ ?_ _) | (with_reducible refine below_ext ?_ ?_ _) | (with_reducible refine Below.drew ?_) | (with_reducible refine below_drewN ?_ _) | (with_reducible refine Below.setCell ?_ ?_ _) | go_size | (simp only [go_sem]; omega) | (simp [go_sem]; done) | (simp [go_sem]; omega)))))))))
          refine wpQuiet_nil ?_; rintro _ ⟨x9, rfl⟩
          go_wp2
          exact ⟨⟨k + 1, by omega, by go_num, Lib.hid (hbr2.out.trans (Below.mono (B := wr.heap.size) (by (repeat' (first | (with_reducible exact Below.refl _ _) | (with_reducible refine Below.alloc ?_ ?_ _) | (with_reducible refine below_ext ?_ ?_ _) | (with_reducible refine Below.drew ?_) | (with_reducible refine below_drewN ?_ _) | (with_reducible refine Below.setCell ?_ ?_ _) | go_size | (simp only [go_sem]; omega) | (simp [go_sem]; done) | (simp [go_sem]; omega)))) hbr2.out.size))⟩, by simp [intOf]; omega⟩
        · obtain rfl : k = S.cols := by omega
          have e2 : decide ((S.cols : Int) < (S.cols : Int)) = false := by simp
          have e2' : decide (S.cols < S.cols) = false := by simp
          go_wp2_with (go_at_call 8; ((with_reducible refine (CW.out _ (by (repeat' (first | (with_reducible exact Below.refl _ _) | (with_reducible refine Below.alloc ?_ ?_ _) | (with_reducible refine below_ext ?_ ?_ _) | (with_reducible refine Below.drew ?_) | (with_reducible refine below_drewN ?_ _) | (with_reducible refine Below.setCell ?_ ?_ _) | go_size | (simp only [go_sem]; omega) | (simp [go_sem]; done) | (simp [go_sem]; omega))))).mono ?_); rintro _ _ hgets; obtain ⟨rfl, y4, rfl⟩ := hgets.get; clear hgets))
          exact ⟨⟨i + 1, by omega, by go_num, Lib.hid (hbr2.out.trans (Below.mono (B := wr.heap.size) (by (repeat' (first | (with_reducible exact Below.refl _ _) | (with_reducible refine Below.alloc ?_ ?_ _) | (with_reducible refine below_ext ?_ ?_ _) | (with_reducible refine Below.drew ?_) | (with_reducible refine below_drewN ?_ _) | (with_reducible refine Below.setCell ?_ ?_ _) | go_size | (simp only [go_sem]; omega) | (simp [go_sem]; done) | (simp [go_sem]; omega)))) hbr2.out.size))⟩, by simp [intOf]; omega⟩
    · obtain rfl : i = S.rows.length := by omega
      have e1 : decide ((S.rows.length : Int) < (S.rows.length : Int)) = false := by simp
      have e1' : decide (S.rows.length < S.rows.length) = false := by simp
      go_wp2_with (go_at_call 7; ((with_reducible refine (RW.out _ (by (repeat' (first | (with_reducible exact Below.refl _ _) | (with_reducible refine Below.alloc ?_ ?_ _) | (with_reducible refine below_ext ?_ ?_ _) | (with_reducible refine Below.drew ?_) | (with_reducible refine below_drewN ?_ _) | (with_reducible refine Below.setCell ?_ ?_ _) | go_size | (simp only [go_sem]; omega) | (simp [go_sem]; done) | (simp [go_sem]; omega))))).mono ?_); rintro _ _ hgets; obtain ⟨rfl, y3, rfl⟩ := hgets.get; clear hgets))
      go_returns
      have hz : Below w.heap.size w W13 := hbw.out.trans (hG.out.below.mono hbw.out.size)
      have hz2 : Below w.heap.size w Wa := hz.trans (hbr.out.mono hz.size)
      exact ⟨rfl, hz2.trans (Below.mono (B := Wa.heap.size) (by (repeat' (first | (with_reducible exact Below.refl _ _) | (with_reducible refine Below.alloc ?_ ?_ _) | (with_reducible refine below_ext ?_ ?_ _) | (with_reducible refine Below.drew ?_) | (with_reducible refine below_drewN ?_ _) | (with_reducible refine Below.setCell ?_ ?_ _) | go_size | (simp only [go_sem]; omega) | (simp [go_sem]; done) | (simp [go_sem]; omega)))) hz2.size)⟩
end Go.Proofs.YtgmbnnmckdjabaaGreat
