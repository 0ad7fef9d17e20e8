/- phosphorlaw15.awake: a page is aligned, and what stands from the cursor on is erased.  -/
import Derived.Test.YtdfiknemfpkdmaaEdN
namespace Go.Proofs.Ytdfiknemfpkdmaa
open Go.RowKit
set_option linter.unusedVariables false
set_option linter.unusedSimpArgs false

def aw15S0 : PgS := resizeS ⟨[], 0⟩ 2 3
def aw15S1 : PgS := alignS aw15S0
def aw15C : Cu := ⟨0, 1, 0, false, true, false, 0, 0, 0, 0, 0, 0, 0⟩
def aw15D : Cu := onU aw15S1.rows.length aw15S1.cols aw15C
def aw15S2 : PgS := eraS aw15S1 false false 0 aw15D.row aw15D.col
theorem aw15_ok0 : aw15S0.Ok := resizeS_ok _ _ _ (fun r hr => by cases hr)
theorem aw15_ok1 : aw15S1.Ok := alignS_ok aw15_ok0
theorem aw15_ok2 : aw15S2.Ok := eraS_ok aw15_ok1
theorem aw15_a : (atS aw15S2 0 0).g = 69 := by decide +kernel
theorem aw15_b : (atS aw15S2 0 1).g = 32 := by decide +kernel
theorem aw15_c : (atS aw15S2 1 2).g = 32 := by decide +kernel
theorem aw15_d : (doneU aw15S2 aw15D).col = 1 ∧ (doneU aw15S2 aw15D).wp = false := by decide +kernel
set_option maxRecDepth 100000 in
set_option maxHeartbeats 8000000 in
theorem awake_15 (w : World) : Calls Try.prog 8 #[] w (Gives w (.bool true)) := by
  have ok0 := aw15_ok0
  have ok1 := aw15_ok1
  have ok2 := aw15_ok2
  have NP := Lib.hid (fun w' => (by exact new_p 2 3 w' : Calls Try.prog 21 #[.int .i64 2, .int .i64 3] w' (NewPg aw15S0 w')))
  go_enter Try.func8, Try.ntmps8
  go_upto_region 2 with ((go_at_call 21); (with_reducible refine (NP.out _).mono ?_); (rintro _ _ ⟨p, F, x3, rfl, rfl, hFg, hPg⟩))
  have hbW := below_of_ext w x3
  generalize ext w x3 = w1 at hPg hbW ⊢
  have hBx := Lib.hid hbW
  have hPl := Lib.hid hPg.lt
  have AL := Lib.hid (fun w' (hb : Below w1.heap.size w1 w') => (by exact align_ed (hPg.grow hb) ok0 : Calls Try.prog 30 #[.pointer (some ⟨p, 0, none⟩)] w' (fun e w2 => e = .returned (.tuple #[]) ∧ Did F p aw15S1 w' w2)))
  go_upto_region 3 with (first
    | ((go_at_call 30); (with_reducible refine (AL.out _ (by (repeat' (first | (with_reducible exact Below.refl _ _) | (with_reducible refine Below.alloc ?_ ?_ _) | (with_reducible refine below_ext ?_ ?_ _) | (with_reducible refine Below.drew ?_) | (with_reducible refine below_drewN ?_ _) | (with_reducible refine Below.setCell ?_ ?_ _) | go_size | (simp only [go_sem]; omega) | (simp [go_sem]; done) | (simp [go_sem]; omega))))).mono ?_); (rintro _ w2 ⟨rfl, hD⟩)))
  have hb2 : Below w.heap.size w w2 := hbW.trans (hD.1.below (B := w.heap.size) (fun b hb => hFg b hb) hbW.size)
  have hP2 := hD.2
  have hF2 : ∀ b, more F w1 w2 b → w.heap.size ≤ b := fun b hb => hb.elim (hFg b) (fun q => Nat.le_trans hbW.size q.1)
  generalize more F w1 w2 = F2 at hP2 hF2
  clear AL hD
  have hPl2 := Lib.hid hP2.lt
  have DI := Lib.hid (fun w' (hb : Below w2.heap.size w2 w') => (by exact display_ed (hP2.grow hb) ok1 aw15C 0 false : Calls Try.prog 10 #[.pointer (some ⟨p, 0, none⟩), aw15C.v, .int .i64 0, .bool false] w' (fun e w3 => e = .returned (doneU aw15S2 aw15D).v ∧ Did F2 p aw15S2 w' w3)))
  have hd := aw15_d
  generalize doneU aw15S2 aw15D = dd at DI hd
  obtain ⟨dw, dc, dr, dk, dp, dg, da, db, dc', dd', dl, dr', ds⟩ := dd
  simp only [Cu.v, aw15C] at DI hd
  obtain ⟨rfl, rfl⟩ := hd
  go_upto_region 4 with (first
    | ((go_at_call 10); (with_reducible refine (DI.out _ (by (repeat' (first | (with_reducible exact Below.refl _ _) | (with_reducible refine Below.alloc ?_ ?_ _) | (with_reducible refine below_ext ?_ ?_ _) | (with_reducible refine Below.drew ?_) | (with_reducible refine below_drewN ?_ _) | (with_reducible refine Below.setCell ?_ ?_ _) | go_size | (simp only [go_sem]; omega) | (simp [go_sem]; done) | (simp [go_sem]; omega))))).mono ?_); (rintro _ w3 ⟨rfl, hD⟩)))
  have hb3 : Below w.heap.size w w3 := hb2.trans (hD.1.below (B := w.heap.size) (fun b hb => hF2 b hb) hb2.size)
  have hP3 := hD.2
  generalize more F2 w2 w3 = F3 at hP3
  clear DI hD
  have AT1 := Lib.hid (fun w' (hb : Below w3.heap.size w3 w') => at_p (hP3.grow hb) ok2 0 0)
  have AT2 := Lib.hid (fun w' (hb : Below w3.heap.size w3 w') => at_p (hP3.grow hb) ok2 0 1)
  have AT3 := Lib.hid (fun w' (hb : Below w3.heap.size w3 w') => at_p (hP3.grow hb) ok2 1 2)
  have g1 := aw15_a
  have g2 := aw15_b
  have g3 := aw15_c
  generalize atS aw15S2 0 0 = y1 at AT1 g1
  generalize atS aw15S2 0 1 = y2 at AT2 g2
  generalize atS aw15S2 1 2 = y3 at AT3 g3
  obtain ⟨yg1, yr1, yk1⟩ := y1
  obtain ⟨yg2, yr2, yk2⟩ := y2
  obtain ⟨yg3, yr3, yk3⟩ := y3
  simp only at g1 g2 g3
  subst g1 g2 g3
  go_wp2_with (first
    | (go_at_call 13; ((with_reducible refine (AT1.out _ (by (repeat' (first | (with_reducible exact Below.refl _ _) | (with_reducible refine Below.alloc ?_ ?_ _) | (with_reducible refine below_ext ?_ ?_ _) | (with_reducible refine Below.drew ?_) | (with_reducible refine below_drewN ?_ _) | (with_reducible refine Below.setCell ?_ ?_ _) | go_size | (simp only [go_sem]; omega) | (simp [go_sem]; done) | (simp [go_sem]; omega))))).mono ?_); rintro _ _ hgets; obtain ⟨rfl, x7, rfl⟩ := hgets.get; clear hgets))
    | (go_at_call 13; ((with_reducible refine (AT2.out _ (by (repeat' (first | (with_reducible exact Below.refl _ _) | (with_reducible refine Below.alloc ?_ ?_ _) | (with_reducible refine below_ext ?_ ?_ _) | (with_reducible refine Below.drew ?_) | (with_reducible refine below_drewN ?_ _) | (with_reducible refine Below.setCell ?_ ?_ _) | go_size | (simp only [go_sem]; omega) | (simp [go_sem]; done) | (simp [go_sem]; omega))))).mono ?_); rintro _ _ hgets; obtain ⟨rfl, x8, rfl⟩ := hgets.get; clear hgets))
    | (go_at_call 13; ((with_reducible refine (AT3.out _ (by (repeat' (first | (with_reducible exact Below.refl _ _) | (with_reducible refine Below.alloc ?_ ?_ _) | (with_reducible refine below_ext ?_ ?_ _) | (with_reducible refine Below.drew ?_) | (with_reducible refine below_drewN ?_ _) | (with_reducible refine Below.setCell ?_ ?_ _) | go_size | (simp only [go_sem]; omega) | (simp [go_sem]; done) | (simp [go_sem]; omega))))).mono ?_); rintro _ _ hgets; obtain ⟨rfl, x9, rfl⟩ := hgets.get; clear hgets)))
  go_returns
  exact ⟨rfl, hb3.trans (Below.mono (B := w3.heap.size) (by (repeat' (first | (with_reducible exact Below.refl _ _) | (with_reducible refine Below.alloc ?_ ?_ _) | (with_reducible refine below_ext ?_ ?_ _) | (with_reducible refine Below.drew ?_) | (with_reducible refine below_drewN ?_ _) | (with_reducible refine Below.setCell ?_ ?_ _) | go_size | (simp only [go_sem]; omega) | (simp [go_sem]; done) | (simp [go_sem]; omega)))) hb3.size)⟩
end Go.Proofs.Ytdfiknemfpkdmaa
