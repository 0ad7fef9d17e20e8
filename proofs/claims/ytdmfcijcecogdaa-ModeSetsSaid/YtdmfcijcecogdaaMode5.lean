/- Begin, by code and reference; the law's fixed fact; Clear. -/
import Derived.Test.YtdmfcijcecogdaaMode4
namespace Go.Proofs.Ytdmfcijcecogdaa
open Go.RowKit
set_option linter.unusedVariables false
set_option linter.unusedSimpArgs false

def beg : Nat → Nat
  | 0 => 0
  | k + 1 => withF (beg k) k (rowT k).2.2.2
theorem beg_lt : ∀ k, beg k < 4294967296
  | 0 => by decide
  | k + 1 => withF_lt _ _ (beg_lt k)
theorem beg_end : beg 17 = 2948 := by decide +kernel
theorem beg_step : ∀ j < 17, beg (j + 1) = if (rowT j).2.2.2 then beg j + 2 ^ j else beg j := by decide +kernel
theorem beg_small : ∀ j < 17, beg j + 2 ^ j ≤ 4294967295 := by decide +kernel
theorem beg_zero : beg 0 = 0 := rfl
theorem beg_next (j : Nat) : beg (j + 1) = withF (beg j) j (rowT j).2.2.2 := rfl
attribute [irreducible] beg
set_option maxHeartbeats 1000000 in
theorem begin_c (w : World) : Calls Try.prog 20 #[] w (Gives w (.int .u32 2948)) := by
  have BE := Lib.hid beg_end
  go_enter Try.func20, Try.ntmps20
  go_wp2_with (go_at_call 50; ((with_reducible refine (rows_c _).mono ?_); rintro _ _ hgets; obtain ⟨rfl, x1, rfl⟩ := hgets.get; clear hgets))
  go_loopw [1, 5] (fun v i wr => ∃ j : Nat, j ≤ 17 ∧ i = .int .i64 j ∧ v = .int .u32 (beg j) ∧ Below w.heap.size w wr) (fun _ i _ => 17 - (intOf i).toNat)
  case atStart => exact ⟨0, by omega, rfl, by rw [beg_zero]; rfl, by (repeat' (first | (with_reducible exact Below.refl _ _) | (with_reducible refine Below.alloc ?_ ?_ _) | (with_reducible refine below_ext ?_ ?_ _) | (with_reducible refine Below.drew ?_) | (with_reducible refine below_drewN ?_ _) | (with_reducible refine Below.setCell ?_ ?_ _) | go_size | (simp only [go_sem]; omega) | (simp [go_sem]; done) | (simp [go_sem]; omega)))⟩
  case round =>
    obtain ⟨j, hj, rfl, rfl, hB⟩ := hrel
    obtain ⟨x', rfl⟩ := ext_of hB
    clear hB x1
    by_cases hlt : j < 17
    · have W := Lib.hid (fun w' => with_c (beg j) (beg_lt j) j (rowT j).2.2.2 w')
      have HE := Lib.hid (show beg (j + 1) = withF (beg j) j (rowT j).2.2.2 from beg_next j)
      obtain ⟨⟨dd, nn, ll, bb⟩, hr⟩ : ∃ r, rowT j = r := ⟨_, rfl⟩
      rw [hr] at W HE
      simp only at W HE
      generalize withF (beg j) j bb = q at W HE
      generalize beg j = p at W
      go_wp2_with (go_at_call 15; ((with_reducible refine (W.out _).mono ?_); rintro _ _ ⟨rfl, rfl⟩))
      go_roundw
      case rel =>
        refine ⟨j + 1, by omega, by go_num, ?_, by (repeat' (first | (with_reducible exact Below.refl _ _) | (with_reducible refine Below.alloc ?_ ?_ _) | (with_reducible refine below_ext ?_ ?_ _) | (with_reducible refine Below.drew ?_) | (with_reducible refine below_drewN ?_ _) | (with_reducible refine Below.setCell ?_ ?_ _) | go_size | (simp only [go_sem]; omega) | (simp [go_sem]; done) | (simp [go_sem]; omega)))⟩
        rw [HE.out]
      case measure => simp [intOf]; omega
    · have hj' : j = 17 := by omega
      subst hj'
      rw [BE.out]
      go_wp2
      go_returns
      exact ⟨rfl, by (repeat' (first | (with_reducible exact Below.refl _ _) | (with_reducible refine Below.alloc ?_ ?_ _) | (with_reducible refine below_ext ?_ ?_ _) | (with_reducible refine Below.drew ?_) | (with_reducible refine below_drewN ?_ _) | (with_reducible refine Below.setCell ?_ ?_ _) | go_size | (simp only [go_sem]; omega) | (simp [go_sem]; done) | (simp [go_sem]; omega)))⟩
set_option maxHeartbeats 1000000 in
theorem rbegin_c (w : World) : Calls Try.prog 21 #[] w (Same w (.int .i64 2948)) := by
  have BE := Lib.hid beg_end
  go_enter Try.func21, Try.ntmps21
  go_wp2
  go_loopw [1, 2] (fun v i wr => ∃ j : Nat, j ≤ 17 ∧ i = .int .i64 j ∧ v = .int .i64 (beg j) ∧ wr = w) (fun _ i _ => 17 - (intOf i).toNat)
  case atStart => exact ⟨0, by omega, rfl, by rw [beg_zero]; rfl, rfl⟩
  case round =>
    obtain ⟨j, hj, rfl, rfl, rfl⟩ := hrel
    by_cases hlt : j < 17
    · have RR := fun w' => rrow_c j w'
      rw [rowR_at j hlt] at RR
      have B := Lib.hid (fun w' => bit_c j (by omega) (by omega) w')
      simp only [Int.toNat_natCast] at B
      have HE := Lib.hid (beg_step j hlt)
      have hs := beg_small j hlt
      obtain ⟨⟨dd, nn, ll, bb⟩, hr⟩ : ∃ r, rowT j = r := ⟨_, rfl⟩
      rw [hr] at RR HE
      have RR := Lib.hid RR
      simp only [rowTup] at RR HE
      clear hr
      generalize 2 ^ j = pw at B HE hs
      generalize beg j = p at HE hs
      cases bb
      all_goals go_wp2_with (first
        | (go_at_call 25; ((with_reducible refine (RR.out _).mono ?_); rintro _ _ ⟨rfl, rfl⟩))
        | (go_at_call 49; ((with_reducible refine (B.out _).mono ?_); rintro _ _ ⟨rfl, rfl⟩)))
      all_goals go_roundw
      all_goals first
        | (refine ⟨j + 1, by omega, by go_num, ?_, by first | rfl | trivial⟩
           rw [HE.out]
           simp)
        | (simp [intOf]; omega)
    · have hj' : j = 17 := by omega
      subst hj'
      rw [BE.out]
      go_wp2
      go_returns
      exact ⟨rfl, rfl⟩
theorem fd3 : findF true 69 3 = none := by decide +kernel
theorem fd4 : findF true 69 4 = some 15 := by decide +kernel
theorem awake17 (w : World) : Calls Try.prog 14 #[] w (Gives w (.bool true)) := by
  have F3 := fun w' => find_c true 69 3 w'
  have F4 := fun w' => find_c true 69 4 w'
  rw [fd3] at F3
  rw [fd4] at F4
  simp only [findV, Option.getD_none, Option.getD_some, Option.isSome_none, Option.isSome_some] at F3 F4
  have F3 := Lib.hid F3
  have F4 := Lib.hid F4
  have H7 := Lib.hid (show ∀ w', Calls Try.prog 17 #[.int .u32 2948, .int .i64 7] w' (Same w' (.bool true)) from fun w' => by have h := has_c 2948 (by omega) 7 w'; rw [show hasF 2948 7 = true by decide +kernel] at h; exact h)
  have H1 := Lib.hid (show ∀ w', Calls Try.prog 17 #[.int .u32 2948, .int .i64 1] w' (Same w' (.bool false)) from fun w' => by have h := has_c 2948 (by omega) 1 w'; rw [show hasF 2948 1 = false by decide +kernel] at h; exact h)
  go_enter Try.func14, Try.ntmps14
  go_wp2_with (first
    | (go_at_call 22; ((with_reducible refine (F3.out _).mono ?_); rintro _ _ hgets; obtain ⟨rfl, _, rfl⟩ := hgets.get; clear hgets))
    | (go_at_call 22; ((with_reducible refine (F4.out _).mono ?_); rintro _ _ hgets; obtain ⟨rfl, _, rfl⟩ := hgets.get; clear hgets))
    | (go_at_call 20; ((with_reducible refine (begin_c _).mono ?_); rintro _ _ hgets; obtain ⟨rfl, _, rfl⟩ := hgets.get; clear hgets))
    | (go_at_call 17; ((with_reducible refine (H7.out _).mono ?_); rintro _ _ ⟨rfl, rfl⟩))
    | (go_at_call 17; ((with_reducible refine (H1.out _).mono ?_); rintro _ _ ⟨rfl, rfl⟩)))
  all_goals go_returns
  all_goals exact ⟨rfl, by (repeat' (first | (with_reducible exact Below.refl _ _) | (with_reducible refine Below.alloc ?_ ?_ _) | (with_reducible refine below_ext ?_ ?_ _) | (with_reducible refine Below.drew ?_) | (with_reducible refine below_drewN ?_ _) | (with_reducible refine Below.setCell ?_ ?_ _) | go_size | (simp only [go_sem]; omega) | (simp [go_sem]; done) | (simp [go_sem]; omega)))⟩
end Go.Proofs.Ytdmfcijcecogdaa
