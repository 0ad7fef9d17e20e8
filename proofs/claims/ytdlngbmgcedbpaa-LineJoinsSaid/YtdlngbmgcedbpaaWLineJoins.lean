/- LineJoins: the walk. -/
import Derived.Test.YtdlngbmgcedbpaaLineLaw2
namespace Go.Proofs.Ytdlngbmgcedbpaa
open Go.RowKit
set_option linter.unusedVariables false
set_option linter.unusedSimpArgs false

def OneIn (wb : World) (R : List Cl) (sz : Int) (s : Value) (wx : World) : Prop := LineAt wb R sz s wx ∧ Below wb.heap.size wb wx
set_option maxRecDepth 100000 in
set_option maxHeartbeats 8000000 in
theorem LineJoins_walk (w : World) (A : Option Addr) (C : Nat) (xs0 : List Cl) (sz : Int) (rd : Rd encC 3 w A xs0) (lc : xs0.length ≤ C) (cm : C ≤ maxLen) (hok : ∀ y ∈ xs0, y.ok)
    (f t n : Int) (hf : (Lit.int .i64 f).wf = true) (ht : (Lit.int .i64 t).wf = true) (hn : (Lit.int .i64 n).wf = true) (m : Int) (hm : (Lit.int .i64 m).wf = true) :
    Calls Try.prog 12 #[lineV A xs0.length C sz, .agg #[.int .i64 f, .int .i64 t, .int .i64 n], .int .i64 m] w (Gives w (.bool true)) := by
  have hf2 := (bounds_i64 hf).2
  have ht2 := bounds_i64 ht
  have hn2 := bounds_i64 hn
  have OW := Lib.hid (fun w' (h : Rd encC 3 w' A xs0) => own_l A C sz xs0 w' h lc cm)
  have X := Lib.hid rd
  have hx : (xs0.take 300).length ≤ 300 := by simp; omega
  have hokx : ∀ y ∈ xs0.take 300, y.ok := fun y hy => hok y (List.mem_of_mem_take hy)
  generalize hxs : xs0.take 300 = xs at OW hx hokx
  clear hxs rd hok hf ht hn lc cm hm
  have hokx := Lib.hid hokx
  go_enter Try.func12, Try.ntmps12
  go_upto_region 4 with (first
    | (go_at_call 43; ((with_reducible refine (awake_3 _).mono ?_); rintro _ _ hgets; obtain ⟨rfl, x0, rfl⟩ := hgets.get; clear hgets))
    | (go_at_call 44
       (with_reducible refine (OW.out _ (by repeat (first | exact X.out | exact X | refine Rd.ext ?_ _ | refine Rd.alloc ?_ _ | refine Rd.drew ?_))).mono ?_)
       rintro _ _ ⟨A1, c1, x1, rfl, rfl, hO1⟩
       have hO := Lib.hid hO1
       clear hO1))
  have hL := LawL.start hO.out (by simp [go_sem])
  clear hO
  generalize ext (ext ((w.alloc (.cells #[.slice A1 xs.length c1, .int .i64 sz] 70)).alloc (.cells #[.int .i64 f, .int .i64 t, .int .i64 n] 72)) x0) x1 = wa at hL ⊢
  clear OW X
  have hcap := hL.cap
  have OA := Lib.hid (fun w' (h : Rd encC 3 w' A1 xs) => show Calls Try.prog 44 #[lineV A1 xs.length c1 sz] w' (NewL w' xs sz) by
    have h2 := own_l A1 c1 sz xs w' h hcap.2.2 (by simpa only [maxLen] using hcap.2.1)
    rw [List.take_of_length_le hx] at h2
    exact h2)
  have hcb := cntN_bd xs.length f t
  have hn1 : 0 ≤ (clampR n 0 400) ∧ (clampR n 0 400) ≤ 400 := by unfold clampR; split <;> (try split) <;> omega
  have hm1 : 0 ≤ (clampR m 0 400) ∧ (clampR m 0 400) ≤ 400 := by unfold clampR; split <;> (try split) <;> omega
  have hK : (clampR (clampR n 0 400) 0 (cntN xs.length f t 0)) = min (clampR n 0 400) (cntN xs.length f t 0) := by generalize clampR n 0 400 = q at hn1 ⊢; unfold clampR; split <;> (try split) <;> omega
  have hM : (clampR (clampR m 0 400) 0 (cntN xs.length f t 0)) = min (clampR m 0 400) (cntN xs.length f t 0) := by generalize clampR m 0 400 = q at hm1 ⊢; unfold clampR; split <;> (try split) <;> omega
  have hS : (clampR ((clampR n 0 400) + (clampR m 0 400)) 0 (cntN xs.length f t 0)) = min ((clampR n 0 400) + (clampR m 0 400)) (cntN xs.length f t 0) := by generalize clampR m 0 400 = q at hm1 ⊢; generalize clampR n 0 400 = q2 at hn1 ⊢; unfold clampR; split <;> (try split) <;> omega
  have hA := mov_ins xs f t (clampR (clampR n 0 400) 0 (cntN xs.length f t 0)) (clampR (clampR m 0 400) 0 (cntN xs.length f t 0)) (by omega) (by omega) (by omega) (by omega) (clampR ((clampR n 0 400) + (clampR m 0 400)) 0 (cntN xs.length f t 0)) (by omega)
  have hD := mov_del xs f t (clampR (clampR n 0 400) 0 (cntN xs.length f t 0)) (clampR (clampR m 0 400) 0 (cntN xs.length f t 0)) (by omega) (by omega) (by omega) (by omega) (clampR ((clampR n 0 400) + (clampR m 0 400)) 0 (cntN xs.length f t 0)) (by omega)
  have hlI := movR_len xs f t (clampR (clampR n 0 400) 0 (cntN xs.length f t 0))
  have hlD := movR_len xs f t (-(clampR (clampR n 0 400) 0 (cntN xs.length f t 0)))
  have hr9 : (movR xs f t (clampR ((clampR n 0 400) + (clampR m 0 400)) 0 (cntN xs.length f t 0))).length ≤ 300 := by rw [movR_len]; exact hx
  have hr10 : (movR xs f t (-(clampR ((clampR n 0 400) + (clampR m 0 400)) 0 (cntN xs.length f t 0)))).length ≤ 300 := by rw [movR_len]; exact hx
  have IC1 := Lib.hid (fun (A' : Option Addr) (c' : Nat) (hA' : A' = none → c' = 0) w' (h : Rd encC 3 w' A' xs) => show Calls Try.prog 52 #[lineV A' xs.length c' sz, .int .i64 f, .int .i64 t, .int .i64 (clampR n 0 400)] w' (NewL w' (movR xs f t (clampR (clampR n 0 400) 0 (cntN xs.length f t 0))) sz) by
    rw [← ins_mov]; exact insert_l A' c' sz xs f t _ w' h hA' (by omega) hf2)
  have DC1 := Lib.hid (fun (A' : Option Addr) (c' : Nat) (hA' : A' = none → c' = 0) w' (h : Rd encC 3 w' A' xs) => show Calls Try.prog 53 #[lineV A' xs.length c' sz, .int .i64 f, .int .i64 t, .int .i64 (clampR n 0 400)] w' (NewL w' (movR xs f t (-(clampR (clampR n 0 400) 0 (cntN xs.length f t 0)))) sz) by
    rw [← del_mov]; exact delete_l A' c' sz xs f t _ w' h hA' (by omega) hf2)
  have IC2 := Lib.hid (fun (A' : Option Addr) (c' : Nat) (hA' : A' = none → c' = 0) w' (h : Rd encC 3 w' A' (movR xs f t (clampR (clampR n 0 400) 0 (cntN xs.length f t 0)))) => show Calls Try.prog 52 #[lineV A' (movR xs f t (clampR (clampR n 0 400) 0 (cntN xs.length f t 0))).length c' sz, .int .i64 f, .int .i64 t, .int .i64 (clampR m 0 400)] w' (NewL w' (movR xs f t (clampR ((clampR n 0 400) + (clampR m 0 400)) 0 (cntN xs.length f t 0))) sz) by
    have h2 := insert_l A' c' sz (movR xs f t (clampR (clampR n 0 400) 0 (cntN xs.length f t 0))) f t (clampR m 0 400) w' h hA' (by omega) hf2
    rw [ins_mov, cntN_mov, hA] at h2
    exact h2)
  have DC2 := Lib.hid (fun (A' : Option Addr) (c' : Nat) (hA' : A' = none → c' = 0) w' (h : Rd encC 3 w' A' (movR xs f t (-(clampR (clampR n 0 400) 0 (cntN xs.length f t 0))))) => show Calls Try.prog 53 #[lineV A' (movR xs f t (-(clampR (clampR n 0 400) 0 (cntN xs.length f t 0)))).length c' sz, .int .i64 f, .int .i64 t, .int .i64 (clampR m 0 400)] w' (NewL w' (movR xs f t (-(clampR ((clampR n 0 400) + (clampR m 0 400)) 0 (cntN xs.length f t 0)))) sz) by
    have h2 := delete_l A' c' sz (movR xs f t (-(clampR (clampR n 0 400) 0 (cntN xs.length f t 0)))) f t (clampR m 0 400) w' h hA' (by omega) hf2
    rw [del_mov, cntN_mov, hD] at h2
    exact h2)
  have IC3 := Lib.hid (fun (A' : Option Addr) (c' : Nat) (hA' : A' = none → c' = 0) w' (h : Rd encC 3 w' A' xs) => show Calls Try.prog 52 #[lineV A' xs.length c' sz, .int .i64 f, .int .i64 t, .int .i64 ((clampR n 0 400) + (clampR m 0 400))] w' (NewL w' (movR xs f t (clampR ((clampR n 0 400) + (clampR m 0 400)) 0 (cntN xs.length f t 0))) sz) by
    rw [← ins_mov]; exact insert_l A' c' sz xs f t _ w' h hA' (by omega) hf2)
  have DC3 := Lib.hid (fun (A' : Option Addr) (c' : Nat) (hA' : A' = none → c' = 0) w' (h : Rd encC 3 w' A' xs) => show Calls Try.prog 53 #[lineV A' xs.length c' sz, .int .i64 f, .int .i64 t, .int .i64 ((clampR n 0 400) + (clampR m 0 400))] w' (NewL w' (movR xs f t (-(clampR ((clampR n 0 400) + (clampR m 0 400)) 0 (cntN xs.length f t 0)))) sz) by
    rw [← del_mov]; exact delete_l A' c' sz xs f t _ w' h hA' (by omega) hf2)
  clear hA hD hlI hlD hK hM hS
  generalize (movR xs f t (clampR ((clampR n 0 400) + (clampR m 0 400)) 0 (cntN xs.length f t 0))) = RA at IC2 IC3 hr9
  generalize (movR xs f t (-(clampR ((clampR n 0 400) + (clampR m 0 400)) 0 (cntN xs.length f t 0)))) = RB at DC2 DC3 hr10
  generalize (movR xs f t (clampR (clampR n 0 400) 0 (cntN xs.length f t 0))) = RI at IC1 IC2
  generalize (movR xs f t (-(clampR (clampR n 0 400) 0 (cntN xs.length f t 0)))) = RD at DC1 DC2
  have CN := Lib.hid (fun w' => clamp_l n 0 400 w')
  have CM := Lib.hid (fun w' => clamp_l m 0 400 w')
  generalize clampR n 0 400 = n1 at *
  generalize clampR m 0 400 = m1 at *
  obtain ⟨hba, l0, l1, s0, s1, s2, hsa, XA1, -⟩ := hL
  have XAa := Lib.hid XA1
  have hza := Nat.lt_of_succ_lt hsa
  clear XA1
  go_upto_region 5 with (first
    | (go_at_call 57; ((with_reducible refine (CN.out _).mono ?_); rintro _ _ hgets; obtain ⟨rfl, x8, rfl⟩ := hgets.get; clear hgets))
    | (go_at_call 57; ((with_reducible refine (CM.out _).mono ?_); rintro _ _ hgets; obtain ⟨rfl, x9, rfl⟩ := hgets.get; clear hgets)))
  have hL := LawL.grow ⟨hba, l0, l1, s0, s1, s2, hsa, XAa.out, hcap⟩ (show Below wa.heap.size wa (ext (ext wa x8) x9) by (repeat' (first | (with_reducible exact Below.refl _ _) | (with_reducible refine Below.alloc ?_ ?_ _) | (with_reducible refine below_ext ?_ ?_ _) | (with_reducible refine Below.drew ?_) | (with_reducible refine below_drewN ?_ _) | (with_reducible refine Below.setCell ?_ ?_ _) | go_size | (simp only [go_sem]; omega) | (simp [go_sem]; done) | (simp [go_sem]; omega))))
  clear hba l0 l1 s0 s1 s2 hsa XAa hza
  generalize ext (ext wa x8) x9 = wq at hL ⊢
  obtain ⟨hbq, l0, l1, s0, s1, s2, hsq, XA1, -⟩ := hL
  have XAq := Lib.hid XA1
  have hzq := Nat.lt_of_succ_lt hsq
  clear XA1
  go_cut [9] (fun s wx => OneIn wq RA sz s wx)
  case first =>
    go_region_held3 (fun w' => w'.cell? ⟨w.heap.size, 0, none⟩ = some (.slice A1 xs.length c1) ∧ w'.cell? ⟨w.heap.size, 1, none⟩ = some (.int .i64 sz) ∧ w'.cell? ⟨w.heap.size + 1, 0, none⟩ = some (.int .i64 f) ∧ w'.cell? ⟨w.heap.size + 1, 1, none⟩ = some (.int .i64 t) ∧ w'.cell? ⟨w.heap.size + 1, 2, none⟩ = some (.int .i64 n)) (((try simp only [ext_ext]); refine ⟨?_, ?_, ?_, ?_, ?_⟩ <;> simp [go_sem, *])) ((first
      | (go_at_call 44
         (with_reducible refine (OA.out _ (by repeat (first | exact XAq.out | exact XAq | refine Rd.ext ?_ _ | refine Rd.alloc ?_ _ | refine Rd.drew ?_))).mono ?_)
         rintro _ _ ⟨A4, c4, x4, rfl, rfl, hO1⟩
         have hO4 := Lib.hid hO1
         clear hO1)
      | (go_at_call 52
         (with_reducible refine (IC2.out A6 c6 (own_cap hO6.out).1 _ (by repeat (first | with_reducible exact (own_over hO6.out (by simp [go_sem]) (by simp [go_sem])).rd encC_len | with_reducible exact hO6.out.rd encC_len | with_reducible refine Rd.ext ?_ _ | with_reducible refine Rd.alloc ?_ _ | with_reducible refine Rd.drew ?_))).mono ?_)
         rintro _ _ ⟨A7, c7, x7, rfl, rfl, hO1⟩
         have hO7 := Lib.hid hO1
         clear hO1)
      | (go_at_call 52
         (with_reducible refine (IC1.out A4 c4 (own_cap hO4.out).1 _ (by repeat (first | with_reducible exact (own_over hO4.out (by simp [go_sem]) (by simp [go_sem])).rd encC_len | with_reducible exact hO4.out.rd encC_len | with_reducible refine Rd.ext ?_ _ | with_reducible refine Rd.alloc ?_ _ | with_reducible refine Rd.drew ?_))).mono ?_)
         rintro _ _ ⟨A6, c6, x6, rfl, rfl, hO1⟩
         have hO6 := Lib.hid hO1
         clear hO1)))
    all_goals go_wp2
    all_goals go_meet
    all_goals exact ⟨LineAt.mk rfl (by simp [go_sem]) (by simp [go_sem]) (by simp [go_sem]) (by simp [go_sem]) (by repeat (first | with_reducible exact (own_over hO7.out (by simp [go_sem]) (by simp [go_sem])).rd encC_len | with_reducible exact hO7.out.rd encC_len | with_reducible refine Rd.ext ?_ _ | with_reducible refine Rd.alloc ?_ _ | with_reducible refine Rd.drew ?_)) (own_cap hO7.out), by (repeat' (first | (with_reducible exact Below.refl _ _) | (with_reducible refine Below.alloc ?_ ?_ _) | (with_reducible refine below_ext ?_ ?_ _) | (with_reducible refine Below.drew ?_) | (with_reducible refine below_drewN ?_ _) | (with_reducible refine Below.setCell ?_ ?_ _) | go_size | (simp only [go_sem]; omega) | (simp [go_sem]; done) | (simp [go_sem]; omega)))⟩
  obtain ⟨⟨H9, A9, c9, rfl, hh9, hl9, j90, j91, XX, hc9⟩, hB⟩ := hcut
  have hL := LawL.grow ⟨hbq, l0, l1, s0, s1, s2, hsq, XAq.out, hcap⟩ hB
  have X9 := Lib.hid XX
  clear hbq l0 l1 s0 s1 s2 hsq XAq hB XX hzq hh9 IC1 IC2
  obtain ⟨hbb, l0, l1, s0, s1, s2, hsb, XA1, -⟩ := hL
  have XAb := Lib.hid XA1
  have hzb := Nat.lt_of_succ_lt hsb
  clear XA1
  go_upto_region 6 with (fail)
  go_cut [10] (fun s wx => OneIn wc RB sz s wx)
  case first =>
    go_region_held3 (fun w' => w'.cell? ⟨w.heap.size, 0, none⟩ = some (.slice A1 xs.length c1) ∧ w'.cell? ⟨w.heap.size, 1, none⟩ = some (.int .i64 sz) ∧ w'.cell? ⟨w.heap.size + 1, 0, none⟩ = some (.int .i64 f) ∧ w'.cell? ⟨w.heap.size + 1, 1, none⟩ = some (.int .i64 t) ∧ w'.cell? ⟨w.heap.size + 1, 2, none⟩ = some (.int .i64 n)) (((try simp only [ext_ext]); refine ⟨?_, ?_, ?_, ?_, ?_⟩ <;> simp [go_sem, *])) ((first
      | (go_at_call 44
         (with_reducible refine (OA.out _ (by repeat (first | exact XAb.out | exact XAb | refine Rd.ext ?_ _ | refine Rd.alloc ?_ _ | refine Rd.drew ?_))).mono ?_)
         rintro _ _ ⟨A4, c4, x4, rfl, rfl, hO1⟩
         have hO4 := Lib.hid hO1
         clear hO1)
      | (go_at_call 53
         (with_reducible refine (DC2.out A6 c6 (own_cap hO6.out).1 _ (by repeat (first | with_reducible exact (own_over hO6.out (by simp [go_sem]) (by simp [go_sem])).rd encC_len | with_reducible exact hO6.out.rd encC_len | with_reducible refine Rd.ext ?_ _ | with_reducible refine Rd.alloc ?_ _ | with_reducible refine Rd.drew ?_))).mono ?_)
         rintro _ _ ⟨A7, c7, x7, rfl, rfl, hO1⟩
         have hO7 := Lib.hid hO1
         clear hO1)
      | (go_at_call 53
         (with_reducible refine (DC1.out A4 c4 (own_cap hO4.out).1 _ (by repeat (first | with_reducible exact (own_over hO4.out (by simp [go_sem]) (by simp [go_sem])).rd encC_len | with_reducible exact hO4.out.rd encC_len | with_reducible refine Rd.ext ?_ _ | with_reducible refine Rd.alloc ?_ _ | with_reducible refine Rd.drew ?_))).mono ?_)
         rintro _ _ ⟨A6, c6, x6, rfl, rfl, hO1⟩
         have hO6 := Lib.hid hO1
         clear hO1)))
    all_goals go_wp2
    all_goals go_meet
    all_goals exact ⟨LineAt.mk rfl (by simp [go_sem]) (by simp [go_sem]) (by simp [go_sem]) (by simp [go_sem]) (by repeat (first | with_reducible exact (own_over hO7.out (by simp [go_sem]) (by simp [go_sem])).rd encC_len | with_reducible exact hO7.out.rd encC_len | with_reducible refine Rd.ext ?_ _ | with_reducible refine Rd.alloc ?_ _ | with_reducible refine Rd.drew ?_)) (own_cap hO7.out), by (repeat' (first | (with_reducible exact Below.refl _ _) | (with_reducible refine Below.alloc ?_ ?_ _) | (with_reducible refine below_ext ?_ ?_ _) | (with_reducible refine Below.drew ?_) | (with_reducible refine below_drewN ?_ _) | (with_reducible refine Below.setCell ?_ ?_ _) | go_size | (simp only [go_sem]; omega) | (simp [go_sem]; done) | (simp [go_sem]; omega)))⟩
  obtain ⟨⟨H10, A10, c10, rfl, hh10, hl10, j100, j101, XX, hc10⟩, hB⟩ := hcut
  have hL := LawL.grow ⟨hbb, l0, l1, s0, s1, s2, hsb, XAb.out, hcap⟩ hB
  have X10 := Lib.hid XX
  have X92 := Lib.hid (X9.out.below hB)
  replace j90 := (hB.cell (p := ⟨H9, 0, none⟩) hl9).trans j90
  replace j91 := (hB.cell (p := ⟨H9, 1, none⟩) hl9).trans j91
  have hl92 := Nat.lt_of_lt_of_le hl9 hB.size
  clear hbb l0 l1 s0 s1 s2 hsb XAb hB XX hzb hh10 DC1 DC2 X9 hl9
  obtain ⟨hbd, l0, l1, s0, s1, s2, hsd, XA1, -⟩ := hL
  have XAd := Lib.hid XA1
  have hzd := Nat.lt_of_succ_lt hsd
  clear XA1
  have SA := Lib.hid (fun (A' : Option Addr) (c' : Nat) (A'' : Option Addr) (c'' : Nat) w' (h1 : Rd encC 3 w' A' RA) (h2 : Rd encC 3 w' A'' RA) => show Calls Try.prog 66 #[lineV A' RA.length c' sz, lineV A'' RA.length c'' sz] w' (Gives w' (.bool true)) by
    have h := same_l A' A'' c' c'' RA RA sz sz w' h1 h2 (by omega) (by omega)
    rw [show sameL RA sz RA sz = true by simp [sameL]] at h
    exact h)
  have SB := Lib.hid (fun (A' : Option Addr) (c' : Nat) (A'' : Option Addr) (c'' : Nat) w' (h1 : Rd encC 3 w' A' RB) (h2 : Rd encC 3 w' A'' RB) => show Calls Try.prog 66 #[lineV A' RB.length c' sz, lineV A'' RB.length c'' sz] w' (Gives w' (.bool true)) by
    have h := same_l A' A'' c' c'' RB RB sz sz w' h1 h2 (by omega) (by omega)
    rw [show sameL RB sz RB sz = true by simp [sameL]] at h
    exact h)
  have w1 : IntKind.i64.wrap (n1 + m1) = n1 + m1 := wrap_i64 (by omega) (by omega)
  go_upto_region 7 with (fail)
  go_region_held3 (fun w' => w'.cell? ⟨w.heap.size, 0, none⟩ = some (.slice A1 xs.length c1) ∧ w'.cell? ⟨w.heap.size, 1, none⟩ = some (.int .i64 sz) ∧ w'.cell? ⟨w.heap.size + 1, 0, none⟩ = some (.int .i64 f) ∧ w'.cell? ⟨w.heap.size + 1, 1, none⟩ = some (.int .i64 t) ∧ w'.cell? ⟨w.heap.size + 1, 2, none⟩ = some (.int .i64 n) ∧ w'.cell? ⟨H9, 0, none⟩ = some (.slice A9 RA.length c9) ∧ w'.cell? ⟨H9, 1, none⟩ = some (.int .i64 sz) ∧ w'.cell? ⟨H10, 0, none⟩ = some (.slice A10 RB.length c10) ∧ w'.cell? ⟨H10, 1, none⟩ = some (.int .i64 sz)) (((try simp only [ext_ext]); refine ⟨?_, ?_, ?_, ?_, ?_, ?_, ?_, ?_, ?_⟩ <;> simp [go_sem, *])) ((first
      | (go_at_call 44
         (with_reducible refine (OA.out _ (by repeat (first | exact XAd.out | exact XAd | refine Rd.ext ?_ _ | refine Rd.alloc ?_ _ | refine Rd.drew ?_))).mono ?_)
         rintro _ _ ⟨A4, c4, x4, rfl, rfl, hO1⟩
         have hO4 := Lib.hid hO1
         clear hO1)
      | (go_at_call 52
         (with_reducible refine (IC3.out A4 c4 (own_cap hO4.out).1 _ (by repeat (first | with_reducible exact (own_over hO4.out (by simp [go_sem]) (by simp [go_sem])).rd encC_len | with_reducible exact hO4.out.rd encC_len | with_reducible refine Rd.ext ?_ _ | with_reducible refine Rd.alloc ?_ _ | with_reducible refine Rd.drew ?_))).mono ?_)
         rintro _ _ ⟨A7, c7, x7, rfl, rfl, hO1⟩
         have hO7 := Lib.hid hO1
         clear hO1)
      | (go_at_call 53
         (with_reducible refine (DC3.out A4 c4 (own_cap hO4.out).1 _ (by repeat (first | with_reducible exact (own_over hO4.out (by simp [go_sem]) (by simp [go_sem])).rd encC_len | with_reducible exact hO4.out.rd encC_len | with_reducible refine Rd.ext ?_ _ | with_reducible refine Rd.alloc ?_ _ | with_reducible refine Rd.drew ?_))).mono ?_)
         rintro _ _ ⟨A8, c8, x8, rfl, rfl, hO1⟩
         have hO8 := Lib.hid hO1
         clear hO1)
      | (go_at_call 66
         (first
           | (with_reducible refine (SB.out A10 c10 A8 c8 _ (by repeat (first | exact X10.out | exact X10 | refine Rd.ext ?_ _ | refine Rd.alloc ?_ _ | refine Rd.drew ?_)) (by repeat (first | with_reducible exact (own_over hO8.out (by simp [go_sem]) (by simp [go_sem])).rd encC_len | with_reducible exact hO8.out.rd encC_len | with_reducible refine Rd.ext ?_ _ | with_reducible refine Rd.alloc ?_ _ | with_reducible refine Rd.drew ?_))).mono ?_)
           | (with_reducible refine (SA.out A9 c9 A7 c7 _ (by repeat (first | exact X92.out | exact X92 | refine Rd.ext ?_ _ | refine Rd.alloc ?_ _ | refine Rd.drew ?_)) (by repeat (first | with_reducible exact (own_over hO7.out (by simp [go_sem]) (by simp [go_sem])).rd encC_len | with_reducible exact hO7.out.rd encC_len | with_reducible refine Rd.ext ?_ _ | with_reducible refine Rd.alloc ?_ _ | with_reducible refine Rd.drew ?_))).mono ?_))
         rintro _ _ hgets
         obtain ⟨rfl, x5, rfl⟩ := hgets.get
         clear hgets)))
  all_goals go_wp2
  all_goals go_returns
  all_goals exact ⟨rfl, by (repeat' (first | (with_reducible exact Below.refl _ _) | (with_reducible refine Below.alloc ?_ ?_ _) | (with_reducible refine below_ext ?_ ?_ _) | (with_reducible refine Below.drew ?_) | (with_reducible refine below_drewN ?_ _) | (with_reducible refine Below.setCell ?_ ?_ _) | go_size | (simp only [go_sem]; omega) | (simp [go_sem]; done) | (simp [go_sem]; omega)))⟩
end Go.Proofs.Ytdlngbmgcedbpaa
