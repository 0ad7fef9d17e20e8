/- LineBack: the walk. -/
import Derived.Test.YtdlngbmgcedbpaaLineLaw2
namespace Go.Proofs.Ytdlngbmgcedbpaa
open Go.RowKit
set_option linter.unusedVariables false
set_option linter.unusedSimpArgs false

def OneIn (wb : World) (R : List Cl) (sz : Int) (s : Value) (wx : World) : Prop := LineAt wb R sz s wx ∧ Below wb.heap.size wb wx
set_option maxRecDepth 100000 in
set_option maxHeartbeats 8000000 in
theorem LineBack_walk (w : World) (A : Option Addr) (C : Nat) (xs0 : List Cl) (sz : Int) (rd : Rd encC 3 w A xs0) (lc : xs0.length ≤ C) (cm : C ≤ maxLen) (hok : ∀ y ∈ xs0, y.ok)
    (f t n : Int) (hf : (Lit.int .i64 f).wf = true) (ht : (Lit.int .i64 t).wf = true) (hn : (Lit.int .i64 n).wf = true) :
    Calls Try.prog 10 #[lineV A xs0.length C sz, .agg #[.int .i64 f, .int .i64 t, .int .i64 n]] w (Gives w (.bool true)) := by
  have hf2 := (bounds_i64 hf).2
  have ht2 := bounds_i64 ht
  have hn2 := bounds_i64 hn
  have OW := Lib.hid (fun w' (h : Rd encC 3 w' A xs0) => own_l A C sz xs0 w' h lc cm)
  have X := Lib.hid rd
  have hx : (xs0.take 300).length ≤ 300 := by simp; omega
  have hokx : ∀ y ∈ xs0.take 300, y.ok := fun y hy => hok y (List.mem_of_mem_take hy)
  generalize hxs : xs0.take 300 = xs at OW hx hokx
  clear hxs rd hok hf ht hn lc cm
  have hokx := Lib.hid hokx
  go_enter Try.func10, Try.ntmps10
  go_upto_region 4 with (first
    | (go_at_call 43; ((with_reducible refine (awake_3 _).mono ?_); rintro _ _ hgets; obtain ⟨rfl, x0, rfl⟩ := hgets.get; clear hgets))
    | (go_at_call 44
       (with_reducible refine (OW.out _ (by repeat (first | exact X.out | exact X | refine Rd.ext ?_ _ | refine Rd.alloc ?_ _ | refine Rd.drew ?_))).mono ?_)
       rintro _ _ ⟨A1, c1, x1, rfl, rfl, hO1⟩
       have hO := Lib.hid hO1
       clear hO1))
  have hL := LawL.start hO.out (by simp [go_sem])
  clear hO
  generalize ext (ext ((w.alloc (.cells #[.slice A1 xs.length c1, .int .i64 sz] 70)).alloc (.cells #[.int .i64 f, .int .i64 t, .int .i64 n] 72)) x0) x1 = wa at hL ⊢
  clear OW X
  have hcap := hL.cap
  have OA := Lib.hid (fun w' (h : Rd encC 3 w' A1 xs) => show Calls Try.prog 44 #[lineV A1 xs.length c1 sz] w' (NewL w' xs sz) by
    have h2 := own_l A1 c1 sz xs w' h hcap.2.2 (by simpa only [maxLen] using hcap.2.1)
    rw [List.take_of_length_le hx] at h2
    exact h2)
  have hcb := cntN_bd xs.length f t
  have hab := cntA_bd xs.length f t
  have hKb : 0 ≤ clampR n 0 (cntN xs.length f t 0) ∧ clampR n 0 (cntN xs.length f t 0) ≤ cntN xs.length f t 0 := by unfold clampR; split <;> (try split) <;> omega
  have hR5 := back_law xs f t (clampR n 0 (cntN xs.length f t 0)) hKb.1 hKb.2
  have hlI := movR_len xs f t (clampR n 0 (cntN xs.length f t 0))
  have hlD : (movR (movR xs f t (clampR n 0 (cntN xs.length f t 0))) f t (-clampR n 0 (cntN xs.length f t 0))).length ≤ 300 := by rw [movR_len, movR_len]; exact hx
  have IC := Lib.hid (fun (A' : Option Addr) (c' : Nat) (hA' : A' = none → c' = 0) w' (h : Rd encC 3 w' A' xs) => show Calls Try.prog 52 #[lineV A' xs.length c' sz, .int .i64 f, .int .i64 t, .int .i64 n] w' (NewL w' (movR xs f t (clampR n 0 (cntN xs.length f t 0))) sz) by
    rw [← ins_mov]; exact insert_l A' c' sz xs f t n w' h hA' (by omega) hf2)
  have DC := Lib.hid (fun (A' : Option Addr) (c' : Nat) (hA' : A' = none → c' = 0) w' (h : Rd encC 3 w' A' (movR xs f t (clampR n 0 (cntN xs.length f t 0)))) => show Calls Try.prog 53 #[lineV A' (movR xs f t (clampR n 0 (cntN xs.length f t 0))).length c' sz, .int .i64 f, .int .i64 t, .int .i64 n] w' (NewL w' (movR (movR xs f t (clampR n 0 (cntN xs.length f t 0))) f t (-clampR n 0 (cntN xs.length f t 0))) sz) by
    have h2 := delete_l A' c' sz (movR xs f t (clampR n 0 (cntN xs.length f t 0))) f t n w' h hA' (by omega) hf2
    rw [del_mov, cntN_mov] at h2
    exact h2)
  have EC := Lib.hid (fun w' (h : Rd encC 3 w' A1 xs) => show Calls Try.prog 58 #[.int .i64 1, lineV A1 xs.length c1 sz, .int .i64 (cntA xs.length f t 0 + cntN xs.length f t 0 - clampR n 0 (cntN xs.length f t 0)), .int .i64 (cntA xs.length f t 0 + cntN xs.length f t 0), .agg #[.int .i32 32, .int .u8 0, .bool false], .slice none 0 0] w' (NewL w' (movR (movR xs f t (clampR n 0 (cntN xs.length f t 0))) f t (-clampR n 0 (cntN xs.length f t 0))) sz) by
    rw [hR5]
    exact each_r 1 A1 c1 sz xs _ _ erC (.slice none 0 0) (fun _ => erC) w' h (by omega) (fun y hy w'' _ => one_r 1 erC none 0 [] _ (Deed.fill _ _) y w'' (hokx.out y hy) (fun h0 => absurd h0 (by simp)) (by simp)))
  have CO := Lib.hid (fun w' => count_l A1 xs.length c1 sz f t w' (by omega))
  have CA := Lib.hid (fun w' => clamp_l n 0 (cntN xs.length f t 0) w')
  generalize movR (movR xs f t (clampR n 0 (cntN xs.length f t 0))) f t (-clampR n 0 (cntN xs.length f t 0)) = R5 at DC EC hlD
  generalize movR xs f t (clampR n 0 (cntN xs.length f t 0)) = RI at IC DC
  generalize clampR n 0 (cntN xs.length f t 0) = K at CA EC hKb
  generalize cntA xs.length f t 0 = a at CO EC hab
  generalize cntN xs.length f t 0 = cnt at CO CA EC hcb hKb hab
  clear hlI hR5
  obtain ⟨hba, l0, l1, s0, s1, s2, hsa, XA1, -⟩ := hL
  have XAa := Lib.hid XA1
  have hza := Nat.lt_of_succ_lt hsa
  clear XA1
  go_cut [5] (fun s wx => OneIn wa R5 sz s wx)
  case first =>
    go_region_held3 (fun w' => w'.cell? ⟨w.heap.size, 0, none⟩ = some (.slice A1 xs.length c1) ∧ w'.cell? ⟨w.heap.size, 1, none⟩ = some (.int .i64 sz) ∧ w'.cell? ⟨w.heap.size + 1, 0, none⟩ = some (.int .i64 f) ∧ w'.cell? ⟨w.heap.size + 1, 1, none⟩ = some (.int .i64 t) ∧ w'.cell? ⟨w.heap.size + 1, 2, none⟩ = some (.int .i64 n)) ((refine ⟨?_, ?_, ?_, ?_, ?_⟩ <;> simp [go_sem, *])) ((first
      | (go_at_call 44
         (with_reducible refine (OA.out _ (by repeat (first | exact XAa.out | exact XAa | refine Rd.ext ?_ _ | refine Rd.alloc ?_ _ | refine Rd.drew ?_))).mono ?_)
         rintro _ _ ⟨A4, c4, x4, rfl, rfl, hO1⟩
         have hO4 := Lib.hid hO1
         clear hO1)
      | (go_at_call 52
         (with_reducible refine (IC.out A4 c4 (own_cap hO4.out).1 _ (by repeat (first | with_reducible exact (own_over hO4.out (by simp [go_sem]) (by simp [go_sem])).rd encC_len | with_reducible exact hO4.out.rd encC_len | with_reducible refine Rd.ext ?_ _ | with_reducible refine Rd.alloc ?_ _ | with_reducible refine Rd.drew ?_))).mono ?_)
         rintro _ _ ⟨A6, c6, x6, rfl, rfl, hO1⟩
         have hO6 := Lib.hid hO1
         clear hO1)
      | (go_at_call 53
         (with_reducible refine (DC.out A6 c6 (own_cap hO6.out).1 _ (by repeat (first | with_reducible exact (own_over hO6.out (by simp [go_sem]) (by simp [go_sem])).rd encC_len | with_reducible exact hO6.out.rd encC_len | with_reducible refine Rd.ext ?_ _ | with_reducible refine Rd.alloc ?_ _ | with_reducible refine Rd.drew ?_))).mono ?_)
         rintro _ _ ⟨A7, c7, x7, rfl, rfl, hO1⟩
         have hO7 := Lib.hid hO1
         clear hO1)))
    all_goals go_wp2
    all_goals go_meet
    all_goals exact ⟨LineAt.mk rfl (by simp [go_sem]) (by simp [go_sem]) (by simp [go_sem]) (by simp [go_sem]) (by repeat (first | with_reducible exact (own_over hO7.out (by simp [go_sem]) (by simp [go_sem])).rd encC_len | with_reducible exact hO7.out.rd encC_len | with_reducible refine Rd.ext ?_ _ | with_reducible refine Rd.alloc ?_ _ | with_reducible refine Rd.drew ?_)) (own_cap hO7.out), by (repeat' (first | (with_reducible exact Below.refl _ _) | (with_reducible refine Below.alloc ?_ ?_ _) | (with_reducible refine below_ext ?_ ?_ _) | (with_reducible refine Below.drew ?_) | (with_reducible refine below_drewN ?_ _) | (with_reducible refine Below.setCell ?_ ?_ _) | go_size | (simp only [go_sem]; omega) | (simp [go_sem]; done) | (simp [go_sem]; omega)))⟩
  obtain ⟨⟨H5, A5, c5, rfl, hh5, hl5, j50, j51, XX, hc5⟩, hB⟩ := hcut
  have hL := LawL.grow ⟨hba, l0, l1, s0, s1, s2, hsa, XAa.out, hcap⟩ hB
  have X5 := Lib.hid XX
  clear hba l0 l1 s0 s1 s2 hsa XAa hB XX hza hh5 OA IC DC
  obtain ⟨hbb, l0, l1, s0, s1, s2, hsb, XA1, -⟩ := hL
  have XAb := Lib.hid XA1
  have hzb := Nat.lt_of_succ_lt hsb
  clear XA1
  have w1 : IntKind.i64.wrap (a + cnt) = a + cnt := wrap_i64 (by omega) (by omega)
  have w2 : IntKind.i64.wrap (a + cnt - K) = a + cnt - K := wrap_i64 (by omega) (by omega)
  go_upto_region 7 with (first
    | (go_at_call 56; ((with_reducible refine (CO.out _).mono ?_); rintro _ _ hgets; obtain ⟨rfl, x5, rfl⟩ := hgets.get; clear hgets))
    | (go_at_call 57; ((with_reducible refine (CA.out _).mono ?_); rintro _ _ hgets; obtain ⟨rfl, x6, rfl⟩ := hgets.get; clear hgets)))
  have S5 := Lib.hid (fun (A' : Option Addr) (c' : Nat) (A'' : Option Addr) (c'' : Nat) w' (h1 : Rd encC 3 w' A' R5) (h2 : Rd encC 3 w' A'' R5) => show Calls Try.prog 48 #[lineV A' R5.length c' sz, lineV A'' R5.length c'' sz] w' (Gives w' (.bool true)) by
    have h := same_lr A' A'' c' c'' R5 R5 sz sz w' h1 h2 (by omega) (by omega)
    rw [show sameL R5 sz R5 sz = true by simp [sameL]] at h
    exact h)
  go_region_held3 (fun w' => w'.cell? ⟨w.heap.size, 0, none⟩ = some (.slice A1 xs.length c1) ∧ w'.cell? ⟨w.heap.size, 1, none⟩ = some (.int .i64 sz) ∧ w'.cell? ⟨w.heap.size + 1, 0, none⟩ = some (.int .i64 f) ∧ w'.cell? ⟨w.heap.size + 1, 1, none⟩ = some (.int .i64 t) ∧ w'.cell? ⟨w.heap.size + 1, 2, none⟩ = some (.int .i64 n) ∧ w'.cell? ⟨H5, 0, none⟩ = some (.slice A5 R5.length c5) ∧ w'.cell? ⟨H5, 1, none⟩ = some (.int .i64 sz)) ((refine ⟨?_, ?_, ?_, ?_, ?_, ?_, ?_⟩ <;> simp [go_sem, *])) ((first
      | (go_at_call 58
         (with_reducible refine (EC.out _ (by repeat (first | exact XAb.out | exact XAb | refine Rd.ext ?_ _ | refine Rd.alloc ?_ _ | refine Rd.drew ?_))).mono ?_)
         rintro _ _ ⟨A8, c8, x8, rfl, rfl, hO1⟩
         have hO8 := Lib.hid hO1
         clear hO1)
      | (go_at_call 48
         (with_reducible refine (S5.out A5 c5 A8 c8 _ (by repeat (first | exact X5.out | exact X5 | refine Rd.ext ?_ _ | refine Rd.alloc ?_ _ | refine Rd.drew ?_)) (by repeat (first | with_reducible exact (own_over hO8.out (by simp [go_sem]) (by simp [go_sem])).rd encC_len | with_reducible exact hO8.out.rd encC_len | with_reducible refine Rd.ext ?_ _ | with_reducible refine Rd.alloc ?_ _ | with_reducible refine Rd.drew ?_))).mono ?_)
         rintro _ _ hgets
         obtain ⟨rfl, x9, rfl⟩ := hgets.get
         clear hgets)))
  all_goals go_wp2
  all_goals go_returns
  all_goals exact ⟨rfl, by (repeat' (first | (with_reducible exact Below.refl _ _) | (with_reducible refine Below.alloc ?_ ?_ _) | (with_reducible refine below_ext ?_ ?_ _) | (with_reducible refine Below.drew ?_) | (with_reducible refine below_drewN ?_ _) | (with_reducible refine Below.setCell ?_ ?_ _) | go_size | (simp only [go_sem]; omega) | (simp [go_sem]; done) | (simp [go_sem]; omega)))⟩
end Go.Proofs.Ytdlngbmgcedbpaa
