/- Pages: the laws' fixed fact.  -/
import Derived.Test.YtpahcgappaifnaaPgPen
import Derived.Test.YtpahcgappaifnaaPgC
import Derived.Test.YtpahcgappaifnaaPgF
namespace Go.Proofs.Ytpahcgappaifnaa
open Go.RowKit
set_option linter.unusedVariables false
set_option linter.unusedSimpArgs false

def awS0 : PgS := resizeS ⟨[], 0⟩ 2 3
def awS1 : PgS := eachS awS0 (onB awS0.rows.length awS0.cols ⟨1, 1, 9, 9⟩) fun xs l r => eachR xs l r fun _ => ⟨120, 0, false⟩
def awS2 : PgS := moveS awS1 (onB awS1.rows.length awS1.cols ⟨0, 0, 2, 3⟩) (clampR 1 0 1000)
theorem awS1_ok : awS1.Ok := eachS_ok (resizeS_ok _ _ _ (fun r hr => by cases hr)) _ (fun _ _ _ => updR_len _ _ _ _) (fun _ _ _ h => eachR_ok h fun _ _ => by simp [Cl.ok])
theorem aw_a : (atS awS2 0 2).g = 120 := by decide +kernel
theorem aw_b : (atS awS2 1 2).g = 32 := by decide +kernel
theorem aw_r0 : awS0.rows.length = 2 := by decide +kernel
theorem aw_c0 : awS0.cols = 3 := by decide +kernel
theorem aw_r1 : awS1.rows.length = 2 := by decide +kernel
theorem aw_c1 : awS1.cols = 3 := by decide +kernel
set_option maxRecDepth 100000 in
set_option maxHeartbeats 8000000 in
theorem awake_7 (w : World) : Calls Try.prog 20 #[] w (Gives w (.bool true)) := by
  have ok0 : awS0.Ok := resizeS_ok _ _ _ (fun r hr => by cases hr)
  have ok1 := awS1_ok
  have ok2 : awS2.Ok := moveS_ok ok1 _ _
  have NP := Lib.hid (fun w' => (by exact new_p 2 3 w' : Calls Try.prog 21 #[.int .i64 2, .int .i64 3] w' (NewPg awS0 w')))
  have e0 := aw_r0
  have e1 := aw_c0
  have e2 := aw_r1
  have e3 := aw_c1
  go_enter Try.func20, Try.ntmps20
  go_upto_region 2 with ((go_at_call 21); (with_reducible refine (NP.out _).mono ?_); (rintro _ _ ⟨p, F, x3, rfl, rfl, hFg, hPg⟩))
  have hbW := below_of_ext w x3
  generalize ext w x3 = w1 at hPg hbW ⊢
  have RW := Lib.hid (fun w' (hb : Below w1.heap.size w1 w') => rows_p (hPg.grow hb))
  have CO := Lib.hid (fun w' (hb : Below w1.heap.size w1 w') => cols_p (hPg.grow hb))
  rw [e0] at RW
  rw [e1] at CO
  have FI := Lib.hid (fun w' (hb : Below w1.heap.size w1 w') => (by exact fill_p (hPg.grow hb) ok0 ⟨1, 1, 9, 9⟩ ⟨120, 0, false⟩ : Calls Try.prog 15 #[.pointer (some ⟨p, 0, none⟩), .agg #[.int .i64 1, .int .i64 1, .int .i64 9, .int .i64 9], .agg #[.int .i32 120, .int .u8 0, .bool false]] w' (fun e w'' => e = .returned (.tuple #[]) ∧ Did F p awS1 w' w'')))
  have hBx := Lib.hid hbW
  have hPl := Lib.hid hPg.lt
  go_upto_region 5 with (first
    | (go_at_call 49; ((with_reducible refine (RW.out _ (by (repeat' (first | (with_reducible exact Below.refl _ _) | (with_reducible refine Below.alloc ?_ ?_ _) | (with_reducible refine below_ext ?_ ?_ _) | (with_reducible refine Below.drew ?_) | (with_reducible refine below_drewN ?_ _) | (with_reducible refine Below.setCell ?_ ?_ _) | go_size | (simp only [go_sem]; omega) | (simp [go_sem]; done) | (simp [go_sem]; omega))))).mono ?_); rintro _ _ hgets; obtain ⟨rfl, x4, rfl⟩ := hgets.get; clear hgets))
    | (go_at_call 50; ((with_reducible refine (CO.out _ (by (repeat' (first | (with_reducible exact Below.refl _ _) | (with_reducible refine Below.alloc ?_ ?_ _) | (with_reducible refine below_ext ?_ ?_ _) | (with_reducible refine Below.drew ?_) | (with_reducible refine below_drewN ?_ _) | (with_reducible refine Below.setCell ?_ ?_ _) | go_size | (simp only [go_sem]; omega) | (simp [go_sem]; done) | (simp [go_sem]; omega))))).mono ?_); rintro _ _ hgets; obtain ⟨rfl, x5, rfl⟩ := hgets.get; clear hgets))
    | ((go_at_call 15); (with_reducible refine (FI.out _ (by (repeat' (first | (with_reducible exact Below.refl _ _) | (with_reducible refine Below.alloc ?_ ?_ _) | (with_reducible refine below_ext ?_ ?_ _) | (with_reducible refine Below.drew ?_) | (with_reducible refine below_drewN ?_ _) | (with_reducible refine Below.setCell ?_ ?_ _) | go_size | (simp only [go_sem]; omega) | (simp [go_sem]; done) | (simp [go_sem]; omega))))).mono ?_); (rintro _ w2 ⟨rfl, hD⟩)))
  have hD1 := Did.back hD (show Below w1.heap.size w1 (ext (ext w1 x4) x5) by (repeat' (first | (with_reducible exact Below.refl _ _) | (with_reducible refine Below.alloc ?_ ?_ _) | (with_reducible refine below_ext ?_ ?_ _) | (with_reducible refine Below.drew ?_) | (with_reducible refine below_drewN ?_ _) | (with_reducible refine Below.setCell ?_ ?_ _) | go_size | (simp only [go_sem]; omega) | (simp [go_sem]; done) | (simp [go_sem]; omega)))) hPl.out
  have hb2 : Below w.heap.size w w2 := hbW.trans (hD1.1.below (B := w.heap.size) (fun b hb => hFg b hb) hbW.size)
  have hP2 := hD1.2
  have hF2 : ∀ b, more F w1 w2 b → w.heap.size ≤ b := fun b hb => hb.elim (hFg b) (fun q => Nat.le_trans hbW.size q.1)
  generalize more F w1 w2 = F2 at hP2 hF2
  clear RW CO FI hD hD1
  have BX := Lib.hid (fun w' (hb : Below w2.heap.size w2 w') => box_p (hP2.grow hb))
  rw [e2, e3] at BX
  have UP := Lib.hid (fun w' (hb : Below w2.heap.size w2 w') => (by exact up_p (hP2.grow hb) ok1 ⟨0, 0, 2, 3⟩ 1 : Calls Try.prog 52 #[.pointer (some ⟨p, 0, none⟩), .agg #[.int .i64 0, .int .i64 0, .int .i64 2, .int .i64 3], .int .i64 1] w' (fun e w'' => e = .returned (.tuple #[]) ∧ Did F2 p awS2 w' w'')))
  have hPl2 := Lib.hid hP2.lt
  go_upto_region 6 with (first
    | (go_at_call 16; ((with_reducible refine (BX.out _ (by (repeat' (first | (with_reducible exact Below.refl _ _) | (with_reducible refine Below.alloc ?_ ?_ _) | (with_reducible refine below_ext ?_ ?_ _) | (with_reducible refine Below.drew ?_) | (with_reducible refine below_drewN ?_ _) | (with_reducible refine Below.setCell ?_ ?_ _) | go_size | (simp only [go_sem]; omega) | (simp [go_sem]; done) | (simp [go_sem]; omega))))).mono ?_); rintro _ _ hgets; obtain ⟨rfl, x6, rfl⟩ := hgets.get; clear hgets))
    | ((go_at_call 52); (with_reducible refine (UP.out _ (by (repeat' (first | (with_reducible exact Below.refl _ _) | (with_reducible refine Below.alloc ?_ ?_ _) | (with_reducible refine below_ext ?_ ?_ _) | (with_reducible refine Below.drew ?_) | (with_reducible refine below_drewN ?_ _) | (with_reducible refine Below.setCell ?_ ?_ _) | go_size | (simp only [go_sem]; omega) | (simp [go_sem]; done) | (simp [go_sem]; omega))))).mono ?_); (rintro _ w3 ⟨rfl, hD⟩)))
  have hD1 := Did.back hD (show Below w2.heap.size w2 (ext w2 x6) by (repeat' (first | (with_reducible exact Below.refl _ _) | (with_reducible refine Below.alloc ?_ ?_ _) | (with_reducible refine below_ext ?_ ?_ _) | (with_reducible refine Below.drew ?_) | (with_reducible refine below_drewN ?_ _) | (with_reducible refine Below.setCell ?_ ?_ _) | go_size | (simp only [go_sem]; omega) | (simp [go_sem]; done) | (simp [go_sem]; omega)))) hPl2.out
  have hb3 : Below w.heap.size w w3 := hb2.trans (hD1.1.below (B := w.heap.size) (fun b hb => hF2 b hb) hb2.size)
  have hP3 := hD1.2
  generalize more F2 w2 w3 = F3 at hP3
  clear BX UP hD hD1
  have AT1 := Lib.hid (fun w' (hb : Below w3.heap.size w3 w') => at_p (hP3.grow hb) ok2 0 2)
  have AT2 := Lib.hid (fun w' (hb : Below w3.heap.size w3 w') => at_p (hP3.grow hb) ok2 1 2)
  have g1 := aw_a
  have g2 := aw_b
  generalize atS awS2 0 2 = y1 at AT1 g1
  generalize atS awS2 1 2 = y2 at AT2 g2
  obtain ⟨yg1, yr1, yk1⟩ := y1
  obtain ⟨yg2, yr2, yk2⟩ := y2
  simp only at g1 g2
  subst g1 g2
  go_wp2_with (first
    | (go_at_call 53; ((with_reducible refine (AT1.out _ (by (repeat' (first | (with_reducible exact Below.refl _ _) | (with_reducible refine Below.alloc ?_ ?_ _) | (with_reducible refine below_ext ?_ ?_ _) | (with_reducible refine Below.drew ?_) | (with_reducible refine below_drewN ?_ _) | (with_reducible refine Below.setCell ?_ ?_ _) | go_size | (simp only [go_sem]; omega) | (simp [go_sem]; done) | (simp [go_sem]; omega))))).mono ?_); rintro _ _ hgets; obtain ⟨rfl, x7, rfl⟩ := hgets.get; clear hgets))
    | (go_at_call 53; ((with_reducible refine (AT2.out _ (by (repeat' (first | (with_reducible exact Below.refl _ _) | (with_reducible refine Below.alloc ?_ ?_ _) | (with_reducible refine below_ext ?_ ?_ _) | (with_reducible refine Below.drew ?_) | (with_reducible refine below_drewN ?_ _) | (with_reducible refine Below.setCell ?_ ?_ _) | go_size | (simp only [go_sem]; omega) | (simp [go_sem]; done) | (simp [go_sem]; omega))))).mono ?_); rintro _ _ hgets; obtain ⟨rfl, x8, rfl⟩ := hgets.get; clear hgets)))
  go_returns
  exact ⟨rfl, hb3.trans (Below.mono (B := w3.heap.size) (by (repeat' (first | (with_reducible exact Below.refl _ _) | (with_reducible refine Below.alloc ?_ ?_ _) | (with_reducible refine below_ext ?_ ?_ _) | (with_reducible refine Below.drew ?_) | (with_reducible refine below_drewN ?_ _) | (with_reducible refine Below.setCell ?_ ?_ _) | go_size | (simp only [go_sem]; omega) | (simp [go_sem]; done) | (simp [go_sem]; omega)))) hb3.size)⟩
end Go.Proofs.Ytpahcgappaifnaa
