/- Lines: the reference's moves. -/
import Derived.Test.YtdlngbmgcedbpaaLine18
namespace Go.Proofs.Ytdlngbmgcedbpaa
open Go.RowKit
set_option linter.unusedVariables false
set_option linter.unusedSimpArgs false

theorem erased_r (w : World) : Calls Try.prog 104 #[] w (Gives w (.agg #[.int .i32 32, .int .u8 0, .bool false])) := by
  go_enter Try.func104, Try.ntmps104
  go_wp2
  go_returns
  exact ⟨rfl, by (repeat' (first | (with_reducible exact Below.refl _ _) | (with_reducible refine Below.alloc ?_ ?_ _) | (with_reducible refine below_ext ?_ ?_ _) | (with_reducible refine Below.drew ?_) | (with_reducible refine below_drewN ?_ _) | (with_reducible refine Below.setCell ?_ ?_ _) | go_size | (simp only [go_sem]; omega) | (simp [go_sem]; done) | (simp [go_sem]; omega)))⟩
/-- what comes to a place when the cells go on by n -/
def movG (xs : List Cl) (f t n : Int) (i : Nat) (_ : Cl) : Cl := if inS xs.length ((i : Int) - n) f t then xs.getD ((i : Int) - n).toNat noC else erC
/-- the cells of a span go on by n -/
def movR (xs : List Cl) (f t n : Int) : List Cl := updR xs (fun i => inS xs.length i f t) (movG xs f t n) xs.length
theorem cntN_bd (n : Nat) (f t : Int) : 0 ≤ cntN n f t 0 ∧ cntN n f t 0 ≤ n := by unfold cntN; omega
set_option maxRecDepth 100000 in
set_option maxHeartbeats 8000000 in
theorem move_r (A : Option Addr) (C : Nat) (sz : Int) (xs : List Cl) (f t n : Int) (w : World) (rd : Rd encC 3 w A xs) (hm : xs.length ≤ 1000000) :
    Calls Try.prog 102 #[lineV A xs.length C sz, .int .i64 f, .int .i64 t, .int .i64 n] w (NewL w (movR xs f t (clampR n (-cntN xs.length f t 0) (cntN xs.length f t 0))) sz) := by
  have CL := Lib.hid (fun w' (h : Rd encC 3 w' A xs) => cells_c A C xs w' h (by omega) (by simp [maxLen]; omega))
  have IN := Lib.hid (fun i w' => in_s A xs.length C sz i f t w' (by omega))
  have CO := Lib.hid (fun w' => count_l A xs.length C sz f t w' (by omega))
  have X := Lib.hid rd
  have hcb := cntN_bd xs.length f t
  generalize cntN xs.length f t 0 = cnt at CO hcb ⊢
  have hkb : -cnt ≤ clampR n (-cnt) cnt ∧ clampR n (-cnt) cnt ≤ cnt := by unfold clampR; split <;> (try split) <;> omega
  have CA := Lib.hid (fun w' => clamp_l n (-cnt) cnt w')
  generalize clampR n (-cnt) cnt = k at CA hkb ⊢
  unfold movR
  clear rd
  go_enter Try.func102, Try.ntmps102
  go_wp2
  go_cut [9] (fun s wx => OutAt ((w.alloc (.cells #[.slice A xs.length C, .int .i64 sz] 70)).alloc (.cells #[.slice none 0 0, .int .i64 0] 70)) xs sz s wx)
  case first =>
    go_region_held3 (fun w' => w'.cell? ⟨w.heap.size, 0, none⟩ = some (.slice A xs.length C) ∧ w'.cell? ⟨w.heap.size, 1, none⟩ = some (.int .i64 sz)) ((refine ⟨?_, ?_⟩ <;> simp [go_sem])) ((first
      | (go_at_call 45
         (with_reducible refine (CL.out _ (by repeat (first | exact X.out | exact X | refine Rd.ext ?_ _ | refine Rd.alloc ?_ _ | refine Rd.drew ?_))).mono ?_)
         rintro _ _ ⟨A1, c1, x1, rfl, rfl, hO1⟩
         have hO := Lib.hid hO1
         clear hO1)))
    all_goals go_wp2
    all_goals go_meet
    all_goals first
      | exact OutAt.a rfl (by simp [go_sem]) (by simpa [go_sem] using hO.out)
      | exact OutAt.b rfl (by simp [go_sem]) (by simpa [go_sem] using hO.out)
  obtain ⟨H, A1, c1, rfl, hR⟩ := hcut
  have hW2 : ∃ W2, W2 = (w.alloc (.cells #[.slice A xs.length C, .int .i64 sz] 70)).alloc (.cells #[.slice none 0 0, .int .i64 0] 70) := ⟨_, rfl⟩
  obtain ⟨W2, hW⟩ := hW2
  rw [← hW] at hR
  have hWs : w.heap.size + 1 < W2.heap.size := by rw [hW]; simp [go_sem]
  have hWb : Below w.heap.size w W2 := by rw [hW]; (repeat' (first | (with_reducible exact Below.refl _ _) | (with_reducible refine Below.alloc ?_ ?_ _) | (with_reducible refine below_ext ?_ ?_ _) | (with_reducible refine Below.drew ?_) | (with_reducible refine below_drewN ?_ _) | (with_reducible refine Below.setCell ?_ ?_ _) | go_size | (simp only [go_sem]; omega) | (simp [go_sem]; done) | (simp [go_sem]; omega)))
  have l0 : W2.cell? ⟨w.heap.size, 0, none⟩ = some (.slice A xs.length C) := by rw [hW]; simp [go_sem]
  have l1 : W2.cell? ⟨w.heap.size, 1, none⟩ = some (.int .i64 sz) := by rw [hW]; simp [go_sem]
  have r0 : W2.cell? ⟨w.heap.size + 1, 0, none⟩ = some (.slice none 0 0) := by rw [hW]; simp [go_sem]
  have r1 : W2.cell? ⟨w.heap.size + 1, 1, none⟩ = some (.int .i64 0) := by rw [hW]; simp [go_sem]
  have rz : ∀ i, W2.frozen? ⟨w.heap.size + 1, i, none⟩ = false := by intro i; rw [hW]; simp [go_sem]
  have hR := Lib.hid hR
  have F0 := Lib.hid (⟨l0, l1, r0, r1, rz⟩ : _ ∧ _ ∧ _ ∧ _ ∧ _)
  replace l0 := hR.out.old (by omega) l0
  replace l1 := hR.out.old (by omega) l1
  have hs0 : w.heap.size < wc.heap.size := by have := hR.out.below.size; omega
  clear hW r0 r1 rz
  go_wp2_with (first
    | (go_at_call 56; ((with_reducible refine (CO.out _).mono ?_); rintro _ _ hgets; obtain ⟨rfl, x1, rfl⟩ := hgets.get; clear hgets))
    | (go_at_call 57; ((with_reducible refine (CA.out _).mono ?_); rintro _ _ hgets; obtain ⟨rfl, x2, rfl⟩ := hgets.get; clear hgets)))
  replace hR := Lib.hid ((hR.out.more x1).more x2)
  clear l0 l1 hs0
  generalize ext (ext wc x1) x2 = wd at hR ⊢
  go_loopw [12] (fun iv wr => ∃ (j : Nat), j ≤ xs.length ∧ iv = .int .i64 j ∧ Hid (RowAt W2 wr H A1 c1 sz (updR xs (fun i => inS xs.length i f t) (movG xs f t k) j))) (fun iv _ => xs.length - (intOf iv).toNat)
  case atStart => exact ⟨0, by omega, rfl, by rw [updR_zero]; exact hR⟩
  case round =>
    obtain ⟨j, hj, rfl, hR⟩ := hrel
    obtain ⟨l0, l1, r0, r1, rz⟩ := F0.out
    have hS := hR.out.below.size
    replace l0 := hR.out.old (by omega) l0
    replace l1 := hR.out.old (by omega) l1
    have hs0 : w.heap.size < wr.heap.size := by omega
    by_cases hlt : j < xs.length
    · clear r0 r1 rz
      rcases Bool.eq_false_or_eq_true (inS xs.length j f t) with hin | hin
      · have I1 := Lib.hid (fun w' => IN.out j w')
        rw [hin] at I1
        have I2 := Lib.hid (fun w' => IN.out ((j : Int) - k) w')
        obtain ⟨g, rfl, hg1, hg2, hgH, hc1, hc2, d0, d1, d2, z0, z1, z2⟩ := hR.out.at (j := j) (by rw [updR_len]; exact hlt)
        have hHs := hR.out.lt
        have q0 := hR.out.h0
        rw [updR_len] at q0 hc1
        have hFj := Lib.hid (updR_yes xs (fun i => inS xs.length i f t) (movG xs f t k) j hin hlt)
        have i3 : (0 : Int) ≤ (j : Int) := by omega
        have i4 : (j : Int) < (xs.length : Int) := by omega
        have hw1 : IntKind.i64.wrap ((j : Int) - k) = (j : Int) - k := wrap_i64 (by omega) (by omega)
        go_upto_region 8 with (go_at_call 99; ((with_reducible refine (I1.out _).mono ?_); rintro _ _ hgets; obtain ⟨rfl, x2, rfl⟩ := hgets.get; clear hgets))
        (refine wp_region_tail 5 (by kernel_rfl) (by kernel_rfl) ?_; simp only [List.take_succ_cons, List.take_zero, List.drop_succ_cons, List.drop_zero])
        repeat (go_big_quiet_step (((go_at_call 104; with_reducible exact Calls.free (erased_r _)))))
        refine wpQuiet_nil ?_; rintro _ ⟨x3, rfl⟩
        go_upto_region 9 with (fail)
        obtain ⟨V, hV⟩ : ∃ V, V = ext (ext (((wr.setCell ⟨g, j * 3, none⟩ (.int .i32 32)).setCell ⟨g, j * 3 + 1, none⟩ (.int .u8 0)).setCell ⟨g, j * 3 + 2, none⟩ (.bool false)) x2) x3 := ⟨_, rfl⟩
        rw [← hV]
        have hR2 := Lib.hid (show RowAt W2 V H (some ⟨g, 0, none⟩) c1 sz ((updR xs (fun i => inS xs.length i f t) (movG xs f t k) j).set j erC) by rw [hV]; exact ((hR.out.set (j := j) (by rw [updR_len]; exact hlt) erC).more x2).more x3)
        clear hV d0 d1 d2 z0 z1 z2 hHs q0 l0 l1 hR hS hg2 hs0
        obtain ⟨l0, l1, _⟩ := F0.out
        have hS := hR2.out.below.size
        replace l0 := hR2.out.old (by omega) l0
        replace l1 := hR2.out.old (by omega) l1
        have hs0 : w.heap.size < V.heap.size := by omega
        rcases Bool.eq_false_or_eq_true (inS xs.length ((j : Int) - k) f t) with hik | hik
        · rw [hik] at I2
          obtain ⟨m, hmj⟩ : ∃ m : Nat, (j : Int) - k = m := by
            refine ⟨((j : Int) - k).toNat, ?_⟩
            unfold inS at hik
            simp only [decide_eq_true_eq] at hik
            omega
          have hml : m < xs.length := by
            unfold inS at hik
            simp only [decide_eq_true_eq] at hik
            omega
          obtain ⟨g', eg, hg1', hg2, _, _, _, d0, d1, d2, z0, z1, z2⟩ := hR2.out.at (j := j) (by rw [List.length_set, updR_len]; exact hlt)
          injection eg with eg
          injection eg with eg
          subst eg
          have hHs := hR2.out.lt
          have q0 := hR2.out.h0
          rw [List.length_set, updR_len] at q0
          obtain ⟨b1, o1, rfl, hb1, e0, e1, e2⟩ := (X.out.below (hWb.trans (hR2.out.below.mono hWb.size))).cell3 hml
          have hgd : movG xs f t k j xs[j] = xs[m] := by
            unfold movG
            rw [if_pos hik, hmj, Int.toNat_natCast, List.getD_eq_getElem?_getD, List.getElem?_eq_getElem hml]; rfl
          rw [hgd] at hFj
          clear hgd
          generalize xs[m] = y at e0 e1 e2 hFj
          obtain ⟨yg, yr, yk⟩ := y
          simp only at e0 e1 e2
          have i1 : (0 : Int) ≤ (m : Int) := by omega
          have i2 : (m : Int) < (xs.length : Int) := by omega
          rw [hmj] at I2 hw1
          have hmj := Lib.hid hmj
          go_wp2_with (go_at_call 99; ((with_reducible refine (I2.out _).mono ?_); rintro _ _ hgets; obtain ⟨rfl, x4, rfl⟩ := hgets.get; clear hgets))
          (refine wp_region_tail 11 (by kernel_rfl) (by kernel_rfl) ?_; simp only [List.take_succ_cons, List.take_zero, List.drop_succ_cons, List.drop_zero])
          repeat (go_big_quiet_step (fail))
          refine wpQuiet_nil ?_; rintro _ ⟨x5, rfl⟩
          go_wp2
          have hR3 := hR2.out.set (j := j) (by rw [List.length_set, updR_len]; exact hlt) ⟨yg, yr, yk⟩
          rw [List.set_set, ← hFj.out] at hR3
          refine ⟨⟨j + 1, by omega, by go_num, Lib.hid ?_⟩, by simp [intOf]; omega⟩
          exact (hR3.more x4).more x5
        · rw [hik] at I2
          have hgd : movG xs f t k j xs[j] = erC := by
            unfold movG
            rw [if_neg (by rw [hik]; simp)]
          rw [hgd] at hFj
          go_wp2_with (go_at_call 99; ((with_reducible refine (I2.out _).mono ?_); rintro _ _ hgets; obtain ⟨rfl, x4, rfl⟩ := hgets.get; clear hgets))
          have hR3 := hR2.out
          rw [← hFj.out] at hR3
          refine ⟨⟨j + 1, by omega, by go_num, Lib.hid ?_⟩, by simp [intOf]; omega⟩
          exact hR3.more x4
      · have I1 := Lib.hid (fun w' => IN.out j w')
        rw [hin] at I1
        go_wp2_with (go_at_call 99; ((with_reducible refine (I1.out _).mono ?_); rintro _ _ hgets; obtain ⟨rfl, x2, rfl⟩ := hgets.get; clear hgets))
        go_roundw
        case rel => exact ⟨j + 1, by omega, by go_num, by rw [updR_no _ _ _ _ hin]; exact Lib.hid (hR.out.more x2)⟩
        case measure => simp [intOf]; omega
    · obtain rfl : j = xs.length := by omega
      have hq := hR.out.h0
      have hq1 := hR.out.h1
      have hHs := hR.out.lt
      rw [updR_len] at hq
      have s0 := hR.out.old (by omega) r0
      have s1 := hR.out.old (by omega) r1
      have sz0 := fun i => (hR.out.below.frozen (p := ⟨w.heap.size + 1, i, none⟩) hWs).trans (rz i)
      obtain ⟨W3, e3, t0, t1, t4⟩ := hR.out.fin hWb (by omega) hWs r0 r1
      rw [updR_len] at e3 t0 t4
      clear r0 r1 rz
      go_wp2
      simp [bodyPost, go_sem, t0, t1]
      exact ⟨_, by simp [results, Try.f102, go_sem, t0, t1] <;> rfl, t4⟩
end Go.Proofs.Ytdlngbmgcedbpaa
