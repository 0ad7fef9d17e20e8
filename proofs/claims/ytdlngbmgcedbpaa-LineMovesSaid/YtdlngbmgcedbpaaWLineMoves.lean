/- LineMoves: the walk. -/
import Derived.Test.YtdlngbmgcedbpaaLineAt
namespace Go.Proofs.Ytdlngbmgcedbpaa
open Go.RowKit
set_option linter.unusedVariables false
set_option linter.unusedSimpArgs false

def TwoIn (wb : World) (R Q : List Cl) (sz : Int) (s q : Value) (wx : World) : Prop := LineAt wb R sz s wx ∧ LineAt wb Q sz q wx ∧ Below wb.heap.size wb wx
def OneIn (wb : World) (R : List Cl) (sz : Int) (s : Value) (wx : World) : Prop := LineAt wb R sz s wx ∧ Below wb.heap.size wb wx
set_option maxRecDepth 100000 in
set_option maxHeartbeats 8000000 in
theorem LineMoves_walk (w : World) (A : Option Addr) (C : Nat) (xs0 : List Cl) (sz : Int) (rd : Rd encC 3 w A xs0) (lc : xs0.length ≤ C) (cm : C ≤ maxLen) (hok : ∀ y ∈ xs0, y.ok)
    (f t n : Int) (hf : (Lit.int .i64 f).wf = true) (ht : (Lit.int .i64 t).wf = true) (hn : (Lit.int .i64 n).wf = true) :
    Calls Try.prog 9 #[lineV A xs0.length C sz, .agg #[.int .i64 f, .int .i64 t, .int .i64 n]] w (Gives w (.bool true)) := by
  have hf2 := (bounds_i64 hf).2
  have ht2 := bounds_i64 ht
  have hn2 := bounds_i64 hn
  have OW := Lib.hid (fun w' (h : Rd encC 3 w' A xs0) => own_l A C sz xs0 w' h lc cm)
  have X := Lib.hid rd
  have hx : (xs0.take 300).length ≤ 300 := by simp; omega
  have hokx : ∀ y ∈ xs0.take 300, y.ok := fun y hy => hok y (List.mem_of_mem_take hy)
  generalize hxs : xs0.take 300 = xs at OW hx hokx
  clear hxs rd hok hf ht hn lc cm
  have hokx := Lib.hid hokx
  go_enter Try.func9, Try.ntmps9
  go_upto_region 4 with (first
    | (go_at_call 43; ((with_reducible refine (awake_3 _).mono ?_); rintro _ _ hgets; obtain ⟨rfl, x0, rfl⟩ := hgets.get; clear hgets))
    | (go_at_call 44
       (with_reducible refine (OW.out _ (by repeat (first | exact X.out | exact X | refine Rd.ext ?_ _ | refine Rd.alloc ?_ _ | refine Rd.drew ?_))).mono ?_)
       rintro _ _ ⟨A1, c1, x1, rfl, rfl, hO1⟩
       have hO := Lib.hid hO1
       clear hO1))
  have hL := LawL.start hO.out (by simp [go_sem])
  clear hO
  generalize ext (ext ((w.alloc (.cells #[.slice A1 xs.length c1, .int .i64 sz] 70)).alloc (.cells #[.int .i64 f, .int .i64 t, .int .i64 n] 72)) x0) x1 = wa at hL ⊢
  clear OW X
  have hcap := hL.cap
  have OA := Lib.hid (fun w' (h : Rd encC 3 w' A1 xs) => show Calls Try.prog 44 #[lineV A1 xs.length c1 sz] w' (NewL w' xs sz) by
    have h2 := own_l A1 c1 sz xs w' h hcap.2.2 (by simpa only [maxLen] using hcap.2.1)
    rw [List.take_of_length_le hx] at h2
    exact h2)
  obtain ⟨hba, l0, l1, s0, s1, s2, hsa, XA1, -⟩ := hL
  have XAa := Lib.hid XA1
  have hza := Nat.lt_of_succ_lt hsa
  clear XA1
  go_cut [5] (fun s wx => OneIn wa xs sz s wx)
  case first =>
    go_wp2_with (first
      | (go_at_call 44
         (with_reducible refine (OA.out _ (by repeat (first | exact XAa.out | exact XAa | refine Rd.ext ?_ _ | refine Rd.alloc ?_ _ | refine Rd.drew ?_))).mono ?_)
         rintro _ _ ⟨A4, c4, x4, rfl, rfl, hO1⟩
         have hO4 := Lib.hid hO1
         clear hO1))
    go_meet
    exact ⟨LineAt.mk rfl (by simp [go_sem]) (by simp [go_sem]) (by simp [go_sem]) (by simp [go_sem]) (by repeat (first | with_reducible exact (own_over hO4.out (by simp [go_sem]) (by simp [go_sem])).rd encC_len | with_reducible exact hO4.out.rd encC_len | with_reducible refine Rd.ext ?_ _ | with_reducible refine Rd.alloc ?_ _ | with_reducible refine Rd.drew ?_)) (own_cap hO4.out), by (repeat' (first | (with_reducible exact Below.refl _ _) | (with_reducible refine Below.alloc ?_ ?_ _) | (with_reducible refine below_ext ?_ ?_ _) | (with_reducible refine Below.drew ?_) | (with_reducible refine below_drewN ?_ _) | (with_reducible refine Below.setCell ?_ ?_ _) | go_size | (simp only [go_sem]; omega) | (simp [go_sem]; done) | (simp [go_sem]; omega)))⟩
  obtain ⟨⟨HI, AI, cI, rfl, hI1, hI2, i0, i1, XI1, hIc⟩, hB1⟩ := hcut
  have hL := LawL.grow ⟨hba, l0, l1, s0, s1, s2, hsa, XAa.out, hcap⟩ hB1
  have XI := Lib.hid XI1
  clear hba l0 l1 s0 s1 s2 hsa XAa hB1 XI1 hza hI1 OA
  have hIA := Lib.hid hIc.1
  have hcl := cutR_len xs f t
  have hR6 : (movR xs f t (clampR n 0 (cntN xs.length f t 0))).length ≤ 300 := by unfold movR; rw [updR_len]; exact hx
  have hR7 : (movR xs f t (-clampR n 0 (cntN xs.length f t 0))).length ≤ 300 := by unfold movR; rw [updR_len]; exact hx
  have IC := Lib.hid (fun w' (h : Rd encC 3 w' AI xs) => show Calls Try.prog 52 #[lineV AI xs.length cI sz, .int .i64 f, .int .i64 t, .int .i64 n] w' (NewL w' (movR xs f t (clampR n 0 (cntN xs.length f t 0))) sz) by
    rw [← ins_mov]; exact insert_l AI cI sz xs f t n w' h hIA.out (by omega) hf2)
  have DC := Lib.hid (fun w' (h : Rd encC 3 w' AI xs) => show Calls Try.prog 53 #[lineV AI xs.length cI sz, .int .i64 f, .int .i64 t, .int .i64 n] w' (NewL w' (movR xs f t (-clampR n 0 (cntN xs.length f t 0))) sz) by
    rw [← del_mov]; exact delete_l AI cI sz xs f t n w' h hIA.out (by omega) hf2)
  have IR := Lib.hid (fun w' (h : Rd encC 3 w' A1 xs) => insert_r A1 c1 sz xs f t n w' h (by omega))
  have DR := Lib.hid (fun w' (h : Rd encC 3 w' A1 xs) => delete_r A1 c1 sz xs f t n w' h (by omega))
  generalize movR xs f t (clampR n 0 (cntN xs.length f t 0)) = R6 at IC IR hR6
  generalize movR xs f t (-clampR n 0 (cntN xs.length f t 0)) = R7 at DC DR hR7
  clear hcl
  obtain ⟨hbb, l0, l1, s0, s1, s2, hsb, XA1, -⟩ := hL
  have XAb := Lib.hid XA1
  have hzb := Nat.lt_of_succ_lt hsb
  clear XA1
  go_upto_region 5 with (fail)
  go_cut [6, 7] (fun s q wx => TwoIn wc R6 R7 sz s q wx)
  case first =>
    go_region_held3 (fun w' => w'.cell? ⟨w.heap.size, 0, none⟩ = some (.slice A1 xs.length c1) ∧ w'.cell? ⟨w.heap.size, 1, none⟩ = some (.int .i64 sz) ∧ w'.cell? ⟨w.heap.size + 1, 0, none⟩ = some (.int .i64 f) ∧ w'.cell? ⟨w.heap.size + 1, 1, none⟩ = some (.int .i64 t) ∧ w'.cell? ⟨w.heap.size + 1, 2, none⟩ = some (.int .i64 n) ∧ w'.cell? ⟨HI, 0, none⟩ = some (.slice AI xs.length cI) ∧ w'.cell? ⟨HI, 1, none⟩ = some (.int .i64 sz)) ((refine ⟨?_, ?_, ?_, ?_, ?_, ?_, ?_⟩ <;> simp [go_sem, *])) ((first
      | (go_at_call 52
         (with_reducible refine (IC.out _ (by repeat (first | exact XI.out | exact XI | refine Rd.ext ?_ _ | refine Rd.alloc ?_ _ | refine Rd.drew ?_))).mono ?_)
         rintro _ _ ⟨A6, c6, x6, rfl, rfl, hO1⟩
         have hO6 := Lib.hid hO1
         clear hO1)
      | (go_at_call 53
         (with_reducible refine (DC.out _ (by repeat (first | exact XI.out | exact XI | refine Rd.ext ?_ _ | refine Rd.alloc ?_ _ | refine Rd.drew ?_))).mono ?_)
         rintro _ _ ⟨A7, c7, x7, rfl, rfl, hO1⟩
         have hO7 := Lib.hid hO1
         clear hO1)))
    all_goals go_wp2
    all_goals go_meet
    all_goals exact ⟨LineAt.mk rfl (by simp [go_sem]) (by simp [go_sem]) (by simp [go_sem]) (by simp [go_sem]) (by repeat (first | with_reducible exact (own_over hO6.out (by simp [go_sem]) (by simp [go_sem])).rd encC_len | with_reducible exact hO6.out.rd encC_len | with_reducible refine Rd.ext ?_ _ | with_reducible refine Rd.alloc ?_ _ | with_reducible refine Rd.drew ?_)) (own_cap hO6.out), LineAt.mk rfl (by simp [go_sem]) (by simp [go_sem]) (by simp [go_sem]) (by simp [go_sem]) (by repeat (first | with_reducible exact (own_over hO7.out (by simp [go_sem]) (by simp [go_sem])).rd encC_len | with_reducible exact hO7.out.rd encC_len | with_reducible refine Rd.ext ?_ _ | with_reducible refine Rd.alloc ?_ _ | with_reducible refine Rd.drew ?_)) (own_cap hO7.out), by (repeat' (first | (with_reducible exact Below.refl _ _) | (with_reducible refine Below.alloc ?_ ?_ _) | (with_reducible refine below_ext ?_ ?_ _) | (with_reducible refine Below.drew ?_) | (with_reducible refine below_drewN ?_ _) | (with_reducible refine Below.setCell ?_ ?_ _) | go_size | (simp only [go_sem]; omega) | (simp [go_sem]; done) | (simp [go_sem]; omega)))⟩
  obtain ⟨⟨H6, A6, c6, rfl, h61, h62, j0, j1, X61, h6c⟩, ⟨H7, A7, c7, rfl, h71, h72, k0, k1, X71, h7c⟩, hB2⟩ := hcut
  have hL := LawL.grow ⟨hbb, l0, l1, s0, s1, s2, hsb, XAb.out, hcap⟩ hB2
  have X6 := Lib.hid X61
  have X7 := Lib.hid X71
  have XI2 := Lib.hid (XI.out.below hB2)
  replace i0 := (hB2.cell (p := ⟨HI, 0, none⟩) hI2).trans i0
  replace i1 := (hB2.cell (p := ⟨HI, 1, none⟩) hI2).trans i1
  have hI3 := Nat.lt_of_lt_of_le hI2 hB2.size
  clear hbb l0 l1 s0 s1 s2 hsb XAb hB2 X61 X71 XI hI2 hzb h61 h71 IC DC
  obtain ⟨hbd, l0, l1, s0, s1, s2, hsd, XA1, -⟩ := hL
  have XAd := Lib.hid XA1
  have hzd := Nat.lt_of_succ_lt hsd
  clear XA1
  have S6 := Lib.hid (fun (A' : Option Addr) (c' : Nat) (A'' : Option Addr) (c'' : Nat) w' (h1 : Rd encC 3 w' A' R6) (h2 : Rd encC 3 w' A'' R6) => show Calls Try.prog 48 #[lineV A' R6.length c' sz, lineV A'' R6.length c'' sz] w' (Gives w' (.bool true)) by
    have h := same_lr A' A'' c' c'' R6 R6 sz sz w' h1 h2 (by omega) (by omega)
    rw [show sameL R6 sz R6 sz = true by simp [sameL]] at h
    exact h)
  have S7 := Lib.hid (fun (A' : Option Addr) (c' : Nat) (A'' : Option Addr) (c'' : Nat) w' (h1 : Rd encC 3 w' A' R7) (h2 : Rd encC 3 w' A'' R7) => show Calls Try.prog 48 #[lineV A' R7.length c' sz, lineV A'' R7.length c'' sz] w' (Gives w' (.bool true)) by
    have h := same_lr A' A'' c' c'' R7 R7 sz sz w' h1 h2 (by omega) (by omega)
    rw [show sameL R7 sz R7 sz = true by simp [sameL]] at h
    exact h)
  have SX := Lib.hid (fun (A' : Option Addr) (c' : Nat) (A'' : Option Addr) (c'' : Nat) w' (h1 : Rd encC 3 w' A' xs) (h2 : Rd encC 3 w' A'' xs) => show Calls Try.prog 48 #[lineV A' xs.length c' sz, lineV A'' xs.length c'' sz] w' (Gives w' (.bool true)) by
    have h := same_lr A' A'' c' c'' xs xs sz sz w' h1 h2 (by omega) (by omega)
    rw [show sameL xs sz xs sz = true by simp [sameL]] at h
    exact h)
  go_upto_region 6 with (fail)
  go_region_held3 (fun w' => w'.cell? ⟨w.heap.size, 0, none⟩ = some (.slice A1 xs.length c1) ∧ w'.cell? ⟨w.heap.size, 1, none⟩ = some (.int .i64 sz) ∧ w'.cell? ⟨w.heap.size + 1, 0, none⟩ = some (.int .i64 f) ∧ w'.cell? ⟨w.heap.size + 1, 1, none⟩ = some (.int .i64 t) ∧ w'.cell? ⟨w.heap.size + 1, 2, none⟩ = some (.int .i64 n) ∧ w'.cell? ⟨HI, 0, none⟩ = some (.slice AI xs.length cI) ∧ w'.cell? ⟨HI, 1, none⟩ = some (.int .i64 sz) ∧ w'.cell? ⟨H6, 0, none⟩ = some (.slice A6 R6.length c6) ∧ w'.cell? ⟨H6, 1, none⟩ = some (.int .i64 sz) ∧ w'.cell? ⟨H7, 0, none⟩ = some (.slice A7 R7.length c7) ∧ w'.cell? ⟨H7, 1, none⟩ = some (.int .i64 sz)) ((refine ⟨?_, ?_, ?_, ?_, ?_, ?_, ?_, ?_, ?_, ?_, ?_⟩ <;> simp [go_sem, *])) ((first
      | (go_at_call 54
         (with_reducible refine (IR.out _ (by repeat (first | exact XAd.out | exact XAd | refine Rd.ext ?_ _ | refine Rd.alloc ?_ _ | refine Rd.drew ?_))).mono ?_)
         rintro _ _ ⟨A8, c8, x8, rfl, rfl, hO1⟩
         have hO8 := Lib.hid hO1
         clear hO1)
      | (go_at_call 55
         (with_reducible refine (DR.out _ (by repeat (first | exact XAd.out | exact XAd | refine Rd.ext ?_ _ | refine Rd.alloc ?_ _ | refine Rd.drew ?_))).mono ?_)
         rintro _ _ ⟨A9, c9, x9, rfl, rfl, hO1⟩
         have hO9 := Lib.hid hO1
         clear hO1)
      | (go_at_call 48
         (first
           | (with_reducible refine (SX.out AI cI A1 c1 _ (by repeat (first | exact XI2.out | exact XI2 | refine Rd.ext ?_ _ | refine Rd.alloc ?_ _ | refine Rd.drew ?_)) (by repeat (first | exact XAd.out | exact XAd | refine Rd.ext ?_ _ | refine Rd.alloc ?_ _ | refine Rd.drew ?_))).mono ?_)
           | (with_reducible refine (S7.out A7 c7 A9 c9 _ (by repeat (first | exact X7.out | exact X7 | refine Rd.ext ?_ _ | refine Rd.alloc ?_ _ | refine Rd.drew ?_)) (by repeat (first | with_reducible exact (own_over hO9.out (by simp [go_sem]) (by simp [go_sem])).rd encC_len | with_reducible exact hO9.out.rd encC_len | with_reducible refine Rd.ext ?_ _ | with_reducible refine Rd.alloc ?_ _ | with_reducible refine Rd.drew ?_))).mono ?_)
           | (with_reducible refine (S6.out A6 c6 A8 c8 _ (by repeat (first | exact X6.out | exact X6 | refine Rd.ext ?_ _ | refine Rd.alloc ?_ _ | refine Rd.drew ?_)) (by repeat (first | with_reducible exact (own_over hO8.out (by simp [go_sem]) (by simp [go_sem])).rd encC_len | with_reducible exact hO8.out.rd encC_len | with_reducible refine Rd.ext ?_ _ | with_reducible refine Rd.alloc ?_ _ | with_reducible refine Rd.drew ?_))).mono ?_))
         rintro _ _ hgets
         obtain ⟨rfl, x5, rfl⟩ := hgets.get
         clear hgets)))
  all_goals go_wp2
  all_goals go_returns
  all_goals exact ⟨rfl, by (repeat' (first | (with_reducible exact Below.refl _ _) | (with_reducible refine Below.alloc ?_ ?_ _) | (with_reducible refine below_ext ?_ ?_ _) | (with_reducible refine Below.drew ?_) | (with_reducible refine below_drewN ?_ _) | (with_reducible refine Below.setCell ?_ ?_ _) | go_size | (simp only [go_sem]; omega) | (simp [go_sem]; done) | (simp [go_sem]; omega)))⟩
end Go.Proofs.Ytdlngbmgcedbpaa
