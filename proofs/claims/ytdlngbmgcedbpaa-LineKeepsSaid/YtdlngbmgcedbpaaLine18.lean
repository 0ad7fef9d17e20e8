/- Lines: the reference lays a row. -/
import Derived.Test.YtdlngbmgcedbpaaLine17
import Derived.Test.YtdlngbmgcedbpaaLine7
namespace Go.Proofs.Ytdlngbmgcedbpaa
open Go.RowKit
set_option linter.unusedVariables false
set_option linter.unusedSimpArgs false

/-- a row laid over a span, place by place -/
def layP (n : Nat) (f t : Int) (m : Nat) (i : Nat) : Bool := inS n i f t && decide ((i : Int) - cntA n f t 0 < m)
def layG (n : Nat) (f t : Int) (ys : List Cl) (i : Nat) (_ : Cl) : Cl := ys.getD ((i : Int) - cntA n f t 0).toNat noC
theorem cntA_le {n : Nat} {f t : Int} {i : Nat} (h : inS n i f t = true) : 0 ≤ cntA n f t 0 ∧ cntA n f t 0 ≤ i ∧ cntA n f t 0 = max f 0 := by
  unfold inS at h
  simp only [decide_eq_true_eq] at h
  have e : ¬ cntN n f t 0 = 0 := by unfold cntN; omega
  unfold cntA
  rw [if_neg e]
  omega
theorem cntA_bd (n : Nat) (f t : Int) : 0 ≤ cntA n f t 0 ∧ cntA n f t 0 ≤ n := by
  unfold cntA
  split
  · omega
  · rename_i h; unfold cntN at h; omega
set_option maxRecDepth 100000 in
set_option maxHeartbeats 4000000 in
theorem lay_r (A : Option Addr) (C : Nat) (sz : Int) (xs : List Cl) (f t : Int) (AY : Option Addr) (CY : Nat) (ys : List Cl) (w : World) (rd : Rd encC 3 w A xs) (hm : xs.length ≤ 1000000) (ry : Rd encC 3 w AY ys) (hy : ys.length ≤ CY) (hcy : CY ≤ 9223372036854775807) :
    Calls Try.prog 49 #[lineV A xs.length C sz, .int .i64 f, .int .i64 t, .slice AY ys.length CY] w (NewL w (updR xs (layP xs.length f t ys.length) (layG xs.length f t ys) xs.length) sz) := by
  have CL := Lib.hid (fun w' (h : Rd encC 3 w' A xs) => cells_c A C xs w' h (by omega) (by simp [maxLen]; omega))
  have IN := Lib.hid (fun i w' => in_s A xs.length C sz i f t w' (by omega))
  have CO := Lib.hid (fun w' => count_l A xs.length C sz f t w' (by omega))
  have X := Lib.hid rd
  have Y := Lib.hid ry
  have hfb := cntA_bd xs.length f t
  have hfl := Lib.hid (fun (i : Nat) (h : inS xs.length i f t = true) => cntA_le h)
  unfold layP layG
  generalize hfst : cntA xs.length f t 0 = fst at CO hfb hfl ⊢
  replace hfst := Lib.hid hfst
  clear rd ry
  go_enter Try.func49, Try.ntmps49
  go_wp2
  go_cut [9] (fun s wx => OutAt ((w.alloc (.cells #[.slice A xs.length C, .int .i64 sz] 70)).alloc (.cells #[.slice none 0 0, .int .i64 0] 70)) xs sz s wx)
  case first =>
    go_region_held3 (fun w' => w'.cell? ⟨w.heap.size, 0, none⟩ = some (.slice A xs.length C) ∧ w'.cell? ⟨w.heap.size, 1, none⟩ = some (.int .i64 sz)) ((refine ⟨?_, ?_⟩ <;> simp [go_sem])) ((first
      | (go_at_call 45
         (with_reducible refine (CL.out _ (by repeat (first | exact X.out | exact X | refine Rd.ext ?_ _ | refine Rd.alloc ?_ _ | refine Rd.drew ?_))).mono ?_)
         rintro _ _ ⟨A1, c1, x1, rfl, rfl, hO1⟩
         have hO := Lib.hid hO1
         clear hO1)))
    all_goals go_wp2
    all_goals go_meet
    all_goals first
      | exact OutAt.a rfl (by simp [go_sem]) (by simpa [go_sem] using hO.out)
      | exact OutAt.b rfl (by simp [go_sem]) (by simpa [go_sem] using hO.out)
  obtain ⟨H, A1, c1, rfl, hR⟩ := hcut
  have hW2 : ∃ W2, W2 = (w.alloc (.cells #[.slice A xs.length C, .int .i64 sz] 70)).alloc (.cells #[.slice none 0 0, .int .i64 0] 70) := ⟨_, rfl⟩
  obtain ⟨W2, hW⟩ := hW2
  rw [← hW] at hR
  have hWs : w.heap.size + 1 < W2.heap.size := by rw [hW]; simp [go_sem]
  have hWb : Below w.heap.size w W2 := by rw [hW]; (repeat' (first | (with_reducible exact Below.refl _ _) | (with_reducible refine Below.alloc ?_ ?_ _) | (with_reducible refine below_ext ?_ ?_ _) | (with_reducible refine Below.drew ?_) | (with_reducible refine below_drewN ?_ _) | (with_reducible refine Below.setCell ?_ ?_ _) | go_size | (simp only [go_sem]; omega) | (simp [go_sem]; done) | (simp [go_sem]; omega)))
  have l0 : W2.cell? ⟨w.heap.size, 0, none⟩ = some (.slice A xs.length C) := by rw [hW]; simp [go_sem]
  have l1 : W2.cell? ⟨w.heap.size, 1, none⟩ = some (.int .i64 sz) := by rw [hW]; simp [go_sem]
  have r0 : W2.cell? ⟨w.heap.size + 1, 0, none⟩ = some (.slice none 0 0) := by rw [hW]; simp [go_sem]
  have r1 : W2.cell? ⟨w.heap.size + 1, 1, none⟩ = some (.int .i64 0) := by rw [hW]; simp [go_sem]
  have rz : ∀ i, W2.frozen? ⟨w.heap.size + 1, i, none⟩ = false := by intro i; rw [hW]; simp [go_sem]
  have hR := Lib.hid hR
  have F0 := Lib.hid (⟨l0, l1, r0, r1, rz⟩ : _ ∧ _ ∧ _ ∧ _ ∧ _)
  replace l0 := hR.out.old (by omega) l0
  replace l1 := hR.out.old (by omega) l1
  have hs0 : w.heap.size < wc.heap.size := by have := hR.out.below.size; omega
  clear hW r0 r1 rz
  go_wp2_with (go_at_call 56; ((with_reducible refine (CO.out _).mono ?_); rintro _ _ hgets; obtain ⟨rfl, x1, rfl⟩ := hgets.get; clear hgets))
  replace hR := Lib.hid (hR.out.more x1)
  clear l0 l1 hs0
  generalize ext wc x1 = wd at hR ⊢
  go_loopw [12] (fun iv wr => ∃ (j : Nat), j ≤ xs.length ∧ iv = .int .i64 j ∧ Hid (RowAt W2 wr H A1 c1 sz (updR xs (fun i => inS xs.length i f t && decide ((i : Int) - fst < ys.length)) (fun i _ => ys.getD ((i : Int) - fst).toNat noC) j))) (fun iv _ => xs.length - (intOf iv).toNat)
  case atStart => exact ⟨0, by omega, rfl, by rw [updR_zero]; exact hR⟩
  case round =>
    obtain ⟨j, hj, rfl, hR⟩ := hrel
    obtain ⟨l0, l1, r0, r1, rz⟩ := F0.out
    have hS := hR.out.below.size
    replace l0 := hR.out.old (by omega) l0
    replace l1 := hR.out.old (by omega) l1
    have hs0 : w.heap.size < wr.heap.size := by omega
    by_cases hlt : j < xs.length
    · clear r0 r1 rz
      rcases Bool.eq_false_or_eq_true (inS xs.length j f t) with hin | hin
      · have hfj := hfl.out j hin
        have hfj2 : fst ≤ j := hfj.2.1
        clear hfj
        have I1 := Lib.hid (fun w' => IN.out j w')
        rw [hin] at I1
        by_cases hly : (j : Int) - fst < ys.length
        · have hly2 : decide ((j : Int) - fst < ys.length) = true := by simpa using hly
          obtain ⟨g, rfl, hg1, hg2, hgH, hc1, hc2, d0, d1, d2, z0, z1, z2⟩ := hR.out.at (j := j) (by rw [updR_len]; exact hlt)
          have hHs := hR.out.lt
          have q0 := hR.out.h0
          rw [updR_len] at q0 hc1
          obtain ⟨m, hmj⟩ : ∃ m : Nat, (j : Int) - fst = m := ⟨((j : Int) - fst).toNat, by omega⟩
          have hml : m < ys.length := by omega
          obtain ⟨b1, o1, rfl, hb1, e0, e1, e2⟩ := (Y.out.below (hWb.trans (hR.out.below.mono hWb.size))).cell3 hml
          have hFj := Lib.hid (updR_yes xs (fun i => inS xs.length i f t && decide ((i : Int) - fst < ys.length)) (fun i _ => ys.getD ((i : Int) - fst).toNat noC) j (by simp only [hin, hly2, Bool.and_self]) hlt)
          have hgd : ys.getD ((j : Int) - fst).toNat noC = ys[m] := by
            rw [hmj, Int.toNat_natCast, List.getD_eq_getElem?_getD, List.getElem?_eq_getElem hml]; rfl
          rw [hgd] at hFj
          clear hgd
          generalize ys[m] = y at e0 e1 e2 hFj
          obtain ⟨yg, yr, yk⟩ := y
          simp only at e0 e1 e2
          have hw1 : IntKind.i64.wrap ((j : Int) - fst) = m := by rw [← hmj]; exact wrap_i64 (by omega) (by omega)
          have hmj := Lib.hid hmj
          go_wp2_with (go_at_call 99; ((with_reducible refine (I1.out _).mono ?_); rintro _ _ hgets; obtain ⟨rfl, x2, rfl⟩ := hgets.get; clear hgets))
          have i1 : (0 : Int) ≤ (m : Int) := by omega
          have i2 : (m : Int) < (ys.length : Int) := by omega
          have i3 : (0 : Int) ≤ (j : Int) := by omega
          have i4 : (j : Int) < (xs.length : Int) := by omega
          (refine wp_region_tail 10 (by kernel_rfl) (by kernel_rfl) ?_; simp only [List.take_succ_cons, List.take_zero, List.drop_succ_cons, List.drop_zero])
          repeat (go_big_quiet_step (fail))
          refine wpQuiet_nil ?_; rintro _ ⟨x3, rfl⟩
          go_wp2
          have hR2 := hR.out.set (j := j) (by rw [updR_len]; exact hlt) ⟨yg, yr, yk⟩
          rw [← hFj.out] at hR2
          refine ⟨⟨j + 1, by omega, by go_num, Lib.hid ?_⟩, by simp [intOf]; omega⟩
          exact (hR2.more x2).more x3
        · have hly2 : decide ((j : Int) - fst < ys.length) = false := by simpa using hly
          go_wp2_with (go_at_call 99; ((with_reducible refine (I1.out _).mono ?_); rintro _ _ hgets; obtain ⟨rfl, x2, rfl⟩ := hgets.get; clear hgets))
          go_roundw
          case rel => exact ⟨j + 1, by omega, by go_num, by rw [updR_no _ _ _ _ (by simp only [hin, hly2, Bool.and_false])]; exact Lib.hid (hR.out.more x2)⟩
          case measure => simp [intOf]; omega
      · have I1 := Lib.hid (fun w' => IN.out j w')
        rw [hin] at I1
        go_wp2_with (go_at_call 99; ((with_reducible refine (I1.out _).mono ?_); rintro _ _ hgets; obtain ⟨rfl, x2, rfl⟩ := hgets.get; clear hgets))
        go_roundw
        case rel => exact ⟨j + 1, by omega, by go_num, by rw [updR_no _ _ _ _ (by simp only [hin, Bool.false_and])]; exact Lib.hid (hR.out.more x2)⟩
        case measure => simp [intOf]; omega
    · obtain rfl : j = xs.length := by omega
      have hq := hR.out.h0
      have hq1 := hR.out.h1
      have hHs := hR.out.lt
      rw [updR_len] at hq
      have s0 := hR.out.old (by omega) r0
      have s1 := hR.out.old (by omega) r1
      have sz0 := fun i => (hR.out.below.frozen (p := ⟨w.heap.size + 1, i, none⟩) hWs).trans (rz i)
      obtain ⟨W3, e3, t0, t1, t4⟩ := hR.out.fin hWb (by omega) hWs r0 r1
      rw [updR_len] at e3 t0 t4
      clear r0 r1 rz
      go_wp2
      simp [bodyPost, go_sem, t0, t1]
      exact ⟨_, by simp [results, Try.f49, go_sem, t0, t1] <;> rfl, t4⟩
end Go.Proofs.Ytdlngbmgcedbpaa
