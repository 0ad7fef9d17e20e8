/- PressWrites: the walk.  -/
import Derived.Test.YtdfiknemfpkdmaaPrK
namespace Go.Proofs.Ytdfiknemfpkdmaa
open Go.RowKit
set_option linter.unusedVariables false
set_option linter.unusedSimpArgs false

theorem tdiv_nat (a b : Nat) : (a : Int).tdiv b = ((a / b : Nat) : Int) := by
  rw [Int.tdiv_eq_ediv_of_nonneg (by omega)]
  rfl
theorem tmod_nat (a b : Nat) : (a : Int).tmod b = ((a % b : Nat) : Int) := by
  rw [Int.tmod_eq_emod_of_nonneg (by omega)]
  rfl
theorem lost_int {m n k : Nat} (hn : 1 ≤ n) : max 0 (Int.tdiv ((k : Int) + n - 1) n - m) = (lostN m n k : Int) := by
  have e : ((k : Int) + n - 1) = ((k + n - 1 : Nat) : Int) := by omega
  rw [e, tdiv_nat]
  unfold lostN
  omega
attribute [local go_sem ↓] cell_neq
set_option maxRecDepth 100000 in
set_option maxHeartbeats 16000000 in
theorem PressWrites_walk (w : World) (A : Option Addr) (C : Nat) (ts : List Int) (rd : Rd (encI .i32) 1 w A ts) (hc : ts.length ≤ C) (hm : C ≤ maxLen) (wf : ∀ z ∈ ts, (Lit.int .i32 z).wf = true) (re : C * 4 ≤ 140737488351232) (rows : Int) (wr : (Lit.int .i64 rows).wf = true) (cols : Int) (wc : (Lit.int .i64 cols).wf = true) :
    Calls Try.prog 5 #[.slice A ts.length C, .int .i64 rows, .int .i64 cols] w (Gives w (.bool true)) := by
  have AW := Lib.hid awake_14
  have CL := Lib.hid (fun n a b w' => clamp_l n a b w')
  have hr := clampR_in rows (show (1 : Int) ≤ 6 by omega)
  have hcl := clampR_in cols (show (1 : Int) ≤ 12 by omega)
  have CL1 := Lib.hid (fun w' => clamp_l rows 1 6 w')
  have CL2 := Lib.hid (fun w' => clamp_l cols 1 12 w')
  generalize clampR rows 1 6 = rI at CL1 hr
  generalize clampR cols 1 12 = cI at CL2 hcl
  obtain ⟨m, rfl⟩ : ∃ m : Nat, rI = m := ⟨rI.toNat, by omega⟩
  obtain ⟨n, rfl⟩ : ∃ n : Nat, cI = n := ⟨cI.toNat, by omega⟩
  have RD := Lib.hid (rd.take 60)
  have hYl : (ts.take 60).length = min 60 ts.length := List.length_take
  have hyok : ∀ z ∈ ts.take 60, -2147483648 ≤ z ∧ z ≤ 2147483647 := fun z hz => bounds_i32 (wf z (List.mem_of_mem_take hz))
  simp only [maxLen] at hm
  clear rd wf wr wc CL
  go_enter Try.func5, Try.ntmps5
  go_upto_if 20 with (first
    | (go_at_call 19; ((with_reducible refine (AW.out _).mono ?_); rintro _ _ hgets; obtain ⟨rfl, x1, rfl⟩ := hgets.get; clear hgets))
    | (go_at_call 20; ((with_reducible refine (CL1.out _).mono ?_); rintro _ _ hgets; obtain ⟨rfl, x2, rfl⟩ := hgets.get; clear hgets))
    | (go_at_call 20; ((with_reducible refine (CL2.out _).mono ?_); rintro _ _ hgets; obtain ⟨rfl, x3, rfl⟩ := hgets.get; clear hgets)))
  go_cut [0] (fun lv wx => lv = .slice A (ts.take 60).length C ∧ Below w.heap.size w wx)
  case first =>
    by_cases h : 60 < ts.length
    · have e : (ts.take 60).length = 60 := by omega
      have HE := Lib.hid e
      clear e hYl
      go_wp2
      go_meet
      rw [HE.out]
      exact ⟨rfl, by (repeat' (first | (with_reducible exact Below.refl _ _) | (with_reducible refine Below.alloc ?_ ?_ _) | (with_reducible refine below_ext ?_ ?_ _) | (with_reducible refine Below.drew ?_) | (with_reducible refine below_drewN ?_ _) | (with_reducible refine Below.setCell ?_ ?_ _) | go_size | (simp only [go_sem]; omega) | (simp [go_sem]; done) | (simp [go_sem]; omega)))⟩
    · have e : (ts.take 60).length = ts.length := by omega
      have HE := Lib.hid e
      clear e hYl
      go_wp2
      go_meet
      rw [HE.out]
      exact ⟨rfl, by (repeat' (first | (with_reducible exact Below.refl _ _) | (with_reducible refine Below.alloc ?_ ?_ _) | (with_reducible refine below_ext ?_ ?_ _) | (with_reducible refine Below.drew ?_) | (with_reducible refine below_drewN ?_ _) | (with_reducible refine Below.setCell ?_ ?_ _) | go_size | (simp only [go_sem]; omega) | (simp [go_sem]; done) | (simp [go_sem]; omega)))⟩
  obtain ⟨rfl, hB⟩ := hcut
  obtain ⟨x0, rfl⟩ := ext_of hB
  clear hB AW CL1 CL2
  have hy60 : (ts.take 60).length ≤ 60 := by omega
  have hyc : (ts.take 60).length ≤ C := by omega
  clear hYl hc
  generalize ts.take 60 = ys at RD hy60 hyc hyok ⊢
  have NP := Lib.hid (fun w' => new_p m n w')
  have CN := Lib.hid (fun w' => new_c w')
  have hWS := wrS_all (ts := ys) (m := m) (n := n) (by omega) (by omega) hyok ys.length (Nat.le_refl _)
  rw [List.take_length] at hWS
  go_upto_region 7 with ((go_at_call 21); (with_reducible refine (NP.out _).mono ?_); (rintro _ _ ⟨p, F, x4, rfl, rfl, hFg, hPg⟩))
  have hbW : Below w.heap.size w (ext (ext w x0) x4) := by (repeat' (first | (with_reducible exact Below.refl _ _) | (with_reducible refine Below.alloc ?_ ?_ _) | (with_reducible refine below_ext ?_ ?_ _) | (with_reducible refine Below.drew ?_) | (with_reducible refine below_drewN ?_ _) | (with_reducible refine Below.setCell ?_ ?_ _) | go_size | (simp only [go_sem]; omega) | (simp [go_sem]; done) | (simp [go_sem]; omega)))
  generalize ext (ext w x0) x4 = w1 at hPg hbW ⊢
  have hPl := hPg.lt
  have okS0 : (resizeS ⟨[], 0⟩ (m : Int) n).Ok := resizeS_ok _ _ _ (fun r hr => by cases hr)
  have W0 := wrS_start ys (m := m) (n := n) (by omega) (by omega)
  have on0 : OnPg (resizeS ⟨[], 0⟩ (m : Int) n) cuN := by
    refine ⟨?_, ?_, ?_, ?_⟩
    · show (0 : Int) ≤ 0; omega
    · rw [W0.len]; show (0 : Int) < m; omega
    · show (0 : Int) ≤ 0; omega
    · rw [W0.cols]; show (0 : Int) < n; omega
  have TX : Hid (∀ w', Below w1.heap.size w1 w' → Calls Try.prog 22 #[.pointer (some ⟨p, 0, none⟩), .agg (cuL cuN).toArray, .agg #[.int .i64 0, .int .i64 0, .int .i64 0, .int .i64 0, .int .i64 0, .int .i64 0, .int .i64 0, .int .i64 0], .agg #[.bool true, .bool false], .slice A ys.length C] w' (fun e w2 => e = .returned (textR m0 true ys (resizeS ⟨[], 0⟩ m n) cuN).2.v ∧ Did F p (textR m0 true ys (resizeS ⟨[], 0⟩ m n) cuN).1 w' w2)) := Lib.hid (fun w' hb => by
    have := text_g (hPg.grow hb) okS0 (fun b hb2 => by have := hPl b hb2; have := hb.size; omega) cuN m0 m0 true A C ys (RD.out.below (hbW.trans (hb.mono hbW.size))) (fun h0 b o e hf => by
      obtain ⟨b', o', e', hl, -⟩ := RD.out h0
      rw [e] at e'
      injection e' with e'
      injection e' with e1 e2
      have := hFg b hf
      simp at this
      omega) hyok (by omega) (by decide)
    rw [onP_id on0, done_id okS0 W0.one on0] at this
    exact this)
  have hR2 := hWS.ok
  have hRc := hWS.cell
  have hlen := hWS.len
  have hcols := hWS.cols
  generalize textR m0 true ys (resizeS ⟨[], 0⟩ (m : Int) n) cuN = R at TX hR2 hRc hlen hcols
  obtain ⟨T, z⟩ := R
  obtain ⟨dw, dc, dr, dk, dp, dg, da, db, dc', dd', dl, dr', ds⟩ := z
  simp only [Cu.v, cuL, cuN] at TX hR2 hRc hlen hcols
  have hPl' := Lib.hid hPl
  have hBx := Lib.hid hbW
  clear hPl hWS W0 on0 okS0
  go_upto_region 8 with (first
    | (go_at_call 23; ((with_reducible refine (CN.out _).mono ?_); rintro _ _ hgets; obtain ⟨rfl, x5, rfl⟩ := hgets.get; clear hgets))
    | ((go_at_call 22); (with_reducible refine (TX.out _ (by (repeat' (first | (with_reducible exact Below.refl _ _) | (with_reducible refine Below.alloc ?_ ?_ _) | (with_reducible refine below_ext ?_ ?_ _) | (with_reducible refine Below.drew ?_) | (with_reducible refine below_drewN ?_ _) | (with_reducible refine Below.setCell ?_ ?_ _) | go_size | (simp only [go_sem]; omega) | (simp [go_sem]; done) | (simp [go_sem]; omega))))).mono ?_); (rintro _ w3 ⟨rfl, hD⟩)))
  have hD1 := Did.back hD (show Below w1.heap.size w1 (ext w1 x5) by (repeat' (first | (with_reducible exact Below.refl _ _) | (with_reducible refine Below.alloc ?_ ?_ _) | (with_reducible refine below_ext ?_ ?_ _) | (with_reducible refine Below.drew ?_) | (with_reducible refine below_drewN ?_ _) | (with_reducible refine Below.setCell ?_ ?_ _) | go_size | (simp only [go_sem]; omega) | (simp [go_sem]; done) | (simp [go_sem]; omega)))) hPl'.out
  have hb3 : Below w.heap.size w w3 := hBx.out.trans (hD1.1.below (B := w.heap.size) (fun b hb => by have := hFg b hb; simp at this; omega) hBx.out.size)
  have hP3 := hD1.2
  generalize more F w1 w3 = F3 at hP3
  clear TX hD hD1 CN NP
  have AT := Lib.hid (fun w' (hb : Below w3.heap.size w3 w') (i j : Nat) => at_p (hP3.grow hb) hR2 i j)
  have hb3' := Lib.hid hb3
  have hcell := Lib.hid hRc
  have hFg' := Lib.hid hFg
  have RD3 : Rd (encI .i32) 1 w3 A ys := RD.out.below hb3
  clear hP3 hb3 hRc hFg RD hBx hPl'
  clear hPg hbW hlen hcols
  obtain ⟨L, hL⟩ : ∃ L, L = lostN m n ys.length := ⟨_, rfl⟩
  have hLI := lost_int (m := m) (n := n) (k := ys.length) (by omega)
  rw [← hL] at hLI hcell
  have hq : ((ys.length : Int) + n - 1).tdiv n = (((ys.length + n - 1) / n : Nat) : Int) := by
    rw [show ((ys.length : Int) + n - 1) = ((ys.length + n - 1 : Nat) : Int) by omega, tdiv_nat]
  have hqle : (ys.length + n - 1) / n ≤ ys.length + n - 1 := Nat.div_le_self _ _
  have hLle : L ≤ 100 := by
    rw [hL]; unfold lostN; omega
  rw [hq] at hLI
  generalize (ys.length + n - 1) / n = q at hq hqle hLI
  have v1 : IntKind.i64.wrap ((ys.length : Int) + n) = ys.length + n := wrap_i64 (by omega) (by omega)
  have v2 : IntKind.i64.wrap ((ys.length : Int) + n - 1) = ys.length + n - 1 := wrap_i64 (by omega) (by omega)
  have v3 : IntKind.i64.wrap (q : Int) = q := wrap_i64 (by omega) (by omega)
  have v4 : IntKind.i64.wrap ((q : Int) - m) = q - m := wrap_i64 (by omega) (by omega)
  have n0 : ((n : Int) == 0) = false := by simp; omega
  have hmn : m * n ≤ 72 := Nat.le_trans (Nat.mul_le_mul (by omega : m ≤ 6) (by omega : n ≤ 12)) (by omega)
  have hLn : L * n ≤ 1200 := Nat.le_trans (Nat.mul_le_mul hLle (by omega : n ≤ 12)) (by omega)
  have w1 : IntKind.i64.wrap ((m : Int) * n) = ((m * n : Nat) : Int) := by rw [show ((m : Int) * n) = ((m * n : Nat) : Int) by simp]; exact wrap_i64 (by omega) (by omega)
  have w2 : IntKind.i64.wrap ((L : Int) * n) = ((L * n : Nat) : Int) := by rw [show ((L : Int) * n) = ((L * n : Nat) : Int) by simp]; exact wrap_i64 (by omega) (by omega)
  replace hL := Lib.hid hL
  go_upto_region 10 with fail
  go_loopw [9] (fun i wr => ∃ (k : Nat) (x : More), k ≤ m * n ∧ i = .int .i64 k ∧ wr = ext w3 x) (fun i _ => m * n - (intOf i).toNat)
  case atStart => exact ⟨0, ⟨#[], w3.drawn⟩, by omega, rfl, by simp [ext]⟩
  case round =>
    obtain ⟨k, x, hk, rfl, rfl⟩ := hrel
    by_cases hlt : k < m * n
    · have hn : 0 < n := by omega
      have hi : k / n < m := (Nat.div_lt_iff_lt_mul hn).2 hlt
      have hj : k % n < n := Nat.mod_lt _ hn
      have hkn := Nat.div_add_mod k n
      have hkk : (k / n + L) * n + k % n = k + L * n := by
        rw [Nat.add_mul, Nat.mul_comm (k / n) n]; omega
      have hc := hcell.out _ _ hi hj
      unfold cellF at hc
      rw [hkk] at hc
      have AT2 := Lib.hid (fun w' (hb : Below w3.heap.size w3 w') => AT.out w' hb (k / n) (k % n))
      have e1 := tdiv_nat k n
      have e2 := tmod_nat k n
      have hd : decide ((k : Int) < ((m * n : Nat) : Int)) = true := by simp; omega
      have v7 : IntKind.i64.wrap ((k : Int) + ((L * n : Nat) : Int)) = ((k + L * n : Nat) : Int) := wrap_i64 (by omega) (by omega)
      rw [Int.natCast_add] at v7
      generalize atS T ((k / n : Nat) : Int) ((k % n : Nat) : Int) = y at AT2 hc
      generalize k / n = kd at *
      generalize k % n = km at *
      have v5 : IntKind.i64.wrap (kd : Int) = kd := wrap_i64 (by omega) (by omega)
      have v6 : IntKind.i64.wrap (km : Int) = km := wrap_i64 (by omega) (by omega)
      clear hi hj hkn hkk
      have hwk : IntKind.i64.wrap ((k : Int) + 1) = k + 1 := wrap_i64 (by omega) (by omega)
      obtain ⟨yg, yr, yk⟩ := y
      by_cases hin : k + L * n < ys.length
      · rw [if_pos hin] at hc
        injection hc with c1 c2 c3
        subst c2 c3
        have hv : yg = ys[k + L * n] := by rw [c1, List.getD_eq_getElem?_getD, List.getElem?_eq_getElem hin]; rfl
        obtain ⟨b1, o1, hA, hbl, hcd⟩ := RD3 (by omega)
        have hcell1 := hcd (k + L * n) hin 0 (.int .i32 yg) (by rw [hv]; rfl)
        simp only [Nat.mul_one, Nat.add_zero] at hcell1
        subst hA
        clear hcd
        have hEq : eqC ⟨yg, 0, false⟩ ⟨yg, 0, false⟩ = true := eqC_t rfl
        have hd2 : decide ((k : Int) + ((L * n : Nat) : Int) < (ys.length : Int)) = true := by simp; omega
        clear c1 hv
        go_upto_region 16 with fail
        (refine wp_region_free (by kernel_rfl) (by kernel_rfl) ?_)
        repeat (go_big_quiet_step ((go_at_call 13; with_reducible exact Calls.free (AT2.out _ (by (repeat' (first | (with_reducible exact Below.refl _ _) | (with_reducible refine Below.alloc ?_ ?_ _) | (with_reducible refine below_ext ?_ ?_ _) | (with_reducible refine Below.drew ?_) | (with_reducible refine below_drewN ?_ _) | (with_reducible refine Below.setCell ?_ ?_ _) | go_size | (simp only [go_sem]; omega) | (simp [go_sem]; done) | (simp [go_sem]; omega))))))))
        refine wpQuiet_nil ?_; rintro _ ⟨x5, rfl⟩
        go_wp2
        refine ⟨⟨k + 1, _, by omega, by go_num, ext_ext _ _ _⟩, by simp [intOf]; omega⟩
      · rw [if_neg hin] at hc
        injection hc with c1 c2 c3
        subst c1 c2 c3
        have hEq : eqC ⟨32, 0, false⟩ ⟨32, 0, false⟩ = true := eqC_t rfl
        have hd2 : decide ((k : Int) + ((L * n : Nat) : Int) < (ys.length : Int)) = false := by simp; omega
        go_upto_region 16 with fail
        (refine wp_region_free (by kernel_rfl) (by kernel_rfl) ?_)
        repeat (go_big_quiet_step ((go_at_call 13; with_reducible exact Calls.free (AT2.out _ (by (repeat' (first | (with_reducible exact Below.refl _ _) | (with_reducible refine Below.alloc ?_ ?_ _) | (with_reducible refine below_ext ?_ ?_ _) | (with_reducible refine Below.drew ?_) | (with_reducible refine below_drewN ?_ _) | (with_reducible refine Below.setCell ?_ ?_ _) | go_size | (simp only [go_sem]; omega) | (simp [go_sem]; done) | (simp [go_sem]; omega))))))))
        refine wpQuiet_nil ?_; rintro _ ⟨x5, rfl⟩
        go_wp2
        refine ⟨⟨k + 1, _, by omega, by go_num, ext_ext _ _ _⟩, by simp [intOf]; omega⟩
    · obtain rfl : k = m * n := by omega
      have hd : decide (((m * n : Nat) : Int) < ((m * n : Nat) : Int)) = false := by simp
      clear AT hcell hq hLI v1 v2 v3 v4 w2 hL
      go_wp2
      go_returns
      exact ⟨rfl, hb3'.out.trans (Below.mono (B := w3.heap.size) (by (repeat' (first | (with_reducible exact Below.refl _ _) | (with_reducible refine Below.alloc ?_ ?_ _) | (with_reducible refine below_ext ?_ ?_ _) | (with_reducible refine Below.drew ?_) | (with_reducible refine below_drewN ?_ _) | (with_reducible refine Below.setCell ?_ ?_ _) | go_size | (simp only [go_sem]; omega) | (simp [go_sem]; done) | (simp [go_sem]; omega)))) hb3'.out.size)⟩
end Go.Proofs.Ytdfiknemfpkdmaa
