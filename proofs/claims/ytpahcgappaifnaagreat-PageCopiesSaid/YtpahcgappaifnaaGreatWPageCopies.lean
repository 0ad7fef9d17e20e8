/- PageCopies: the walk.  -/
import Derived.Test.YtpahcgappaifnaaGreatPgTwin
namespace Go.Proofs.YtpahcgappaifnaaGreat
open Go.RowKit
set_option linter.unusedVariables false
set_option linter.unusedSimpArgs false

set_option maxRecDepth 100000 in
set_option maxHeartbeats 8000000 in
theorem PageCopies_walk (w : World) (A : Option Addr) (C : Nat) (xs : List ActD) (rd : Rd ActD.cells 13 w A xs) (hl : xs.length ≤ C) (hm : C ≤ maxLen) (ha : ∀ a ∈ xs, a.Ok w)
    (A' : Option Addr) (C' : Nat) (ys : List ActD) (rd' : Rd ActD.cells 13 w A' ys) (hl' : ys.length ≤ C') (hm' : C' ≤ maxLen) (ha' : ∀ a ∈ ys, a.Ok w) (a : ActD) (ok : a.Ok w) :
    Calls Tryz.prog 5 #[.slice A xs.length C, .slice A' ys.length C', a.v] w (fun e w' => e = .returned (.bool true) ∧ Below w.heap.size w w') := by
  have P1 := Lib.hid (play_at 6 7 xs A C rd hl hm ha)
  have P2 := Lib.hid (play_at 5 8 ys A' C' rd' hl' hm' ha')
  have ok1 := playNew_ok 6 7 xs ha
  have ok2 := playNew_ok 5 8 ys ha'
  generalize playNew 6 7 xs = S1 at P1 ok1
  generalize playNew 5 8 ys = S2 at P2 ok2
  obtain ⟨kd, n, ⟨t, l, b, r⟩, pr, pc', ⟨cg, cr, ck⟩, pa, pc, ps, ra, rc, rw⟩ := a
  have hr1 := ok.r1
  have hc1 := ok.c1
  simp only at hr1 hc1
  show Calls Tryz.prog 5 #[.slice A xs.length C, .slice A' ys.length C', .agg #[.int .i64 kd, .int .i64 n, .int .i64 t, .int .i64 l, .int .i64 b, .int .i64 r, .int .i64 pr, .int .i64 pc', .int .i32 cg, .int .u8 cr, .bool ck, .slice pa ps.length pc, .slice ra rw.length rc]] w _
  clear rd ha rd' ha' ok
  have AW := Lib.hid awake_7
  go_enter Tryz.func5, Tryz.ntmps5
  go_upto_region 3 with (first
    | (go_at_call 8; ((with_reducible refine (AW.out _).mono ?_); rintro _ _ hgets; obtain ⟨rfl, x1, rfl⟩ := hgets.get; clear hgets)))
  go_upto_region 4 with (first
    | ((go_at_call 9); (with_reducible refine (P1.out _ (by (repeat' (first | (with_reducible exact Below.refl _ _) | (with_reducible refine Below.alloc ?_ ?_ _) | (with_reducible refine below_ext ?_ ?_ _) | (with_reducible refine Below.drew ?_) | (with_reducible refine below_drewN ?_ _) | (with_reducible refine Below.setCell ?_ ?_ _) | go_size | (simp only [go_sem]; omega) | (simp [go_sem]; done) | (simp [go_sem]; omega))))).mono ?_); (rintro _ W ⟨p, _, F, rfl, hb, hp, hr, hf⟩); (obtain ⟨V, ru, rfl, e1, e2, e3⟩ := id hr); (obtain ⟨A1, c1, rfl, _, _⟩ := e1.form); clear e1 e2 e3; replace hb := Lib.hid hb; replace hp := Lib.hid hp; replace hr := Lib.hid hr; replace hf := Lib.hid hf))
  obtain ⟨W1, hW1⟩ : ∃ W1, W1 = W.alloc (.cells #[.slice A1 ru.length c1, .int .i64 S1.cols] 27) := ⟨_, rfl⟩
  have T1 := Lib.hid (Twin.start hb.out hp.out hr.out hf.out rfl)
  rw [← hW1] at T1 ⊢
  have B1 := Lib.hid ((T1.out.old (by simp; omega)).trans (box_at w _ x1))
  have hb1 : Below w.heap.size w W1 := (show Below w.heap.size w (ext (w.alloc (.cells #[.int .i64 kd, .int .i64 n, .int .i64 t, .int .i64 l, .int .i64 b, .int .i64 r, .int .i64 pr, .int .i64 pc', .int .i32 cg, .int .u8 cr, .bool ck, .slice pa ps.length pc, .slice ra rw.length rc] 41)) x1) by (repeat' (first | (with_reducible exact Below.refl _ _) | (with_reducible refine Below.alloc ?_ ?_ _) | (with_reducible refine below_ext ?_ ?_ _) | (with_reducible refine Below.drew ?_) | (with_reducible refine below_drewN ?_ _) | (with_reducible refine Below.setCell ?_ ?_ _) | go_size | (simp only [go_sem]; omega) | (simp [go_sem]; done) | (simp [go_sem]; omega)))).trans (T1.out.below.mono (by simp; omega))
  have hH1 : W.heap.size < W1.heap.size := heap_in T1.out.blk
  generalize W.heap.size = H1 at T1 hH1 ⊢
  generalize ru.length = n1 at T1 ⊢
  clear hW1 hb hp hr hf P1
  have hle : (ext (w.alloc (.cells #[.int .i64 kd, .int .i64 n, .int .i64 t, .int .i64 l, .int .i64 b, .int .i64 r, .int .i64 pr, .int .i64 pc', .int .i32 cg, .int .u8 cr, .bool ck, .slice pa ps.length pc, .slice ra rw.length rc] 41)) x1).heap.size ≤ W1.heap.size := T1.out.below.size
  go_upto_region 5 with (first
    | ((go_at_call 9); (with_reducible refine (P2.out _ hb1).mono ?_); (rintro _ W ⟨q, _, G, rfl, hb, hp, hr, hf⟩); (obtain ⟨V, ru, rfl, e1, e2, e3⟩ := id hr); (obtain ⟨A2, c2, rfl, _, _⟩ := e1.form); clear e1 e2 e3; replace hb := Lib.hid hb; replace hp := Lib.hid hp; replace hr := Lib.hid hr; replace hf := Lib.hid hf))
  obtain ⟨W2, hW2⟩ : ∃ W2, W2 = W.alloc (.cells #[.slice A2 ru.length c2, .int .i64 S2.cols] 27) := ⟨_, rfl⟩
  have T2 := Lib.hid (Twin.start hb.out hp.out hr.out hf.out rfl)
  rw [← hW2] at T2 ⊢
  replace T1 := Lib.hid (T1.out.grow T2.out.below)
  replace B1 := Lib.hid ((T2.out.old (heap_in B1.out)).trans B1.out)
  replace hb1 := hb1.trans (T2.out.below.mono hb1.size)
  generalize W.heap.size = H2 at T2 ⊢
  generalize ru.length = n2 at T2 ⊢
  clear hW2 hb hp hr hf P2
  have a2 : W2.cell? ⟨w.heap.size, 2, none⟩ = some (.int .i64 t) := by rw [cell_in B1.out]; rfl
  have a3 : W2.cell? ⟨w.heap.size, 3, none⟩ = some (.int .i64 l) := by rw [cell_in B1.out]; rfl
  have a4 : W2.cell? ⟨w.heap.size, 4, none⟩ = some (.int .i64 b) := by rw [cell_in B1.out]; rfl
  have a5 : W2.cell? ⟨w.heap.size, 5, none⟩ = some (.int .i64 r) := by rw [cell_in B1.out]; rfl
  have a6 : W2.cell? ⟨w.heap.size, 6, none⟩ = some (.int .i64 pr) := by rw [cell_in B1.out]; rfl
  have a7 : W2.cell? ⟨w.heap.size, 7, none⟩ = some (.int .i64 pc') := by rw [cell_in B1.out]; rfl
  have CP := Lib.hid (fun w' (hb : Below W2.heap.size W2 w') => copy_p (T1.out.page.grow hb) ok1 (T2.out.page.grow hb) ok2 ⟨t, l, b, r⟩ pr pc' hr1 hc1)
  go_upto_region 8 with (first
    | ((go_at_call 15); (with_reducible refine (CP.out _ (by (repeat' (first | (with_reducible exact Below.refl _ _) | (with_reducible refine Below.alloc ?_ ?_ _) | (with_reducible refine below_ext ?_ ?_ _) | (with_reducible refine Below.drew ?_) | (with_reducible refine below_drewN ?_ _) | (with_reducible refine Below.setCell ?_ ?_ _) | go_size | (simp only [go_sem]; omega) | (simp [go_sem]; done) | (simp [go_sem]; omega))))).mono ?_); (rintro _ W3 ⟨rfl, hD⟩); replace hD := Lib.hid hD))
  have okT : (pasteS S1 S2 (onB S2.rows.length S2.cols ⟨t, l, b, r⟩) pr pc').Ok := by unfold pasteS; exact pasteJ_ok ok1 ok2
  have PA := Lib.hid (fun w' (r1 : RefV w' (.agg #[.slice A1 n1 c1, .int .i64 S1.cols]) S1) (r2 : RefV w' (.agg #[.slice A2 n2 c2, .int .i64 S2.cols]) S2) => refpaste_c (.agg #[.slice A1 n1 c1, .int .i64 S1.cols]) (.agg #[.slice A2 n2 c2, .int .i64 S2.cols]) ⟨t, l, b, r⟩ pr pc' hr1 hc1 r1 ok1 r2 ok2)
  generalize pasteS S1 S2 (onB S2.rows.length S2.cols ⟨t, l, b, r⟩) pr pc' = T at PA hD okT
  have hF1 : ∀ b, F b → w.heap.size < b ∧ b < H1 := fun b f => ⟨by have := (T1.out.ge b f).1; simp at this; omega, (T1.out.ge b f).2⟩
  have hG1 : ∀ b, G b → W1.heap.size ≤ b := fun b f => (T2.out.ge b f).1
  have hH2 : W1.heap.size ≤ H2 := T2.out.hh
  have B3 := Lib.hid ((hD.out.1.block _ (heap_in B1.out) (fun f => by have := hF1 _ f; omega)).trans B1.out)
  have q1 := (hD.out.1.block _ (heap_in T1.out.blk) (fun f => by have := hF1 _ f; omega)).trans T1.out.blk
  have q2 := (hD.out.1.block _ (heap_in T2.out.blk) (fun f => by have := hF1 _ f; omega)).trans T2.out.blk
  have R1 := Lib.hid (((T1.out.ref.mono (G := F) (fun b _ h => .inl h)).keep hD.out.1).v)
  have R2 := Lib.hid (((T2.out.ref.mono (G := F) (fun b _ h => .inr (by have := hF1 _ h; omega))).keep hD.out.1).v)
  have PQ := Lib.hid (T2.out.page.keep hD.out.1 (fun b g f => by have := hG1 _ g; have := hF1 _ f; omega))
  have PP := Lib.hid hD.out.2
  have hb3 : Below w.heap.size w W3 := hb1.trans (hD.out.1.below (B := w.heap.size) (fun b f => by have := hF1 _ f; omega) hb1.size)
  clear hD CP T1 T2 B1 a2 a3 a4 a5 a6 a7 hb1
  have a2 : W3.cell? ⟨w.heap.size, 2, none⟩ = some (.int .i64 t) := by rw [cell_in B3.out]; rfl
  have a3 : W3.cell? ⟨w.heap.size, 3, none⟩ = some (.int .i64 l) := by rw [cell_in B3.out]; rfl
  have a4 : W3.cell? ⟨w.heap.size, 4, none⟩ = some (.int .i64 b) := by rw [cell_in B3.out]; rfl
  have a5 : W3.cell? ⟨w.heap.size, 5, none⟩ = some (.int .i64 r) := by rw [cell_in B3.out]; rfl
  have a6 : W3.cell? ⟨w.heap.size, 6, none⟩ = some (.int .i64 pr) := by rw [cell_in B3.out]; rfl
  have a7 : W3.cell? ⟨w.heap.size, 7, none⟩ = some (.int .i64 pc') := by rw [cell_in B3.out]; rfl
  have s0 : W3.cell? ⟨H1, 0, none⟩ = some (.slice A1 n1 c1) := by rw [cell_in q1]; rfl
  have s1 : W3.cell? ⟨H1, 1, none⟩ = some (.int .i64 S1.cols) := by rw [cell_in q1]; rfl
  have u0 : W3.cell? ⟨H2, 0, none⟩ = some (.slice A2 n2 c2) := by rw [cell_in q2]; rfl
  have u1 : W3.cell? ⟨H2, 1, none⟩ = some (.int .i64 S2.cols) := by rw [cell_in q2]; rfl
  have g1 := heap_in q1
  have g2 := heap_in q2
  have g3 := heap_in B3.out
  have IS1 := Lib.hid (fun x V rws (hl : Lns (ext W3 x) V rws) (hv : rws.map RowM.val = T.rows) w' (hb : Below (ext W3 x).heap.size (ext W3 x) w') => is_c (.agg #[V, .int .i64 T.cols]) (PP.out.grow ((below_of_ext W3 x).trans (hb.mono (below_of_ext W3 x).size))) okT ⟨V, rws, rfl, hl.grow hb, hv⟩)
  have IS2 := Lib.hid (fun w' (hb : Below W3.heap.size W3 w') => is_c (.agg #[.slice A2 n2 c2, .int .i64 S2.cols]) (PQ.out.grow hb) ok2 (R2.out.grow hb))
  clear q1 q2 B3 hF1 hG1 hH1 hH2 hle
  have okT2 := Lib.hid okT
  clear okT ok1 ok2
  go_wp2_with (first
    | ((go_at_call 17); (with_reducible refine (PA.out _ (R1.out.grow (by (repeat' (first | (with_reducible exact Below.refl _ _) | (with_reducible refine Below.alloc ?_ ?_ _) | (with_reducible refine below_ext ?_ ?_ _) | (with_reducible refine Below.drew ?_) | (with_reducible refine below_drewN ?_ _) | (with_reducible refine Below.setCell ?_ ?_ _) | go_size | (simp only [go_sem]; omega) | (simp [go_sem]; done) | (simp [go_sem]; omega))))) (R2.out.grow (by (repeat' (first | (with_reducible exact Below.refl _ _) | (with_reducible refine Below.alloc ?_ ?_ _) | (with_reducible refine below_ext ?_ ?_ _) | (with_reducible refine Below.drew ?_) | (with_reducible refine below_drewN ?_ _) | (with_reducible refine Below.setCell ?_ ?_ _) | go_size | (simp only [go_sem]; omega) | (simp [go_sem]; done) | (simp [go_sem]; omega)))))).mono ?_); (rintro _ _ ⟨V5, rw5, x5, rfl, rfl, hl5, hv5, -⟩); have IS3 := Lib.hid (IS1.out _ _ _ hl5 hv5); clear hl5 hv5)
    | (go_at_call 16; ((with_reducible refine (IS3.out _ (by (repeat' (first | (with_reducible exact Below.refl _ _) | (with_reducible refine Below.alloc ?_ ?_ _) | (with_reducible refine below_ext ?_ ?_ _) | (with_reducible refine Below.drew ?_) | (with_reducible refine below_drewN ?_ _) | (with_reducible refine Below.setCell ?_ ?_ _) | go_size | (simp only [go_sem]; omega) | (simp [go_sem]; done) | (simp [go_sem]; omega))))).mono ?_); rintro _ _ hgets; obtain ⟨rfl, x6, rfl⟩ := hgets.get; clear hgets))
    | (go_at_call 16; ((with_reducible refine (IS2.out _ (by (repeat' (first | (with_reducible exact Below.refl _ _) | (with_reducible refine Below.alloc ?_ ?_ _) | (with_reducible refine below_ext ?_ ?_ _) | (with_reducible refine Below.drew ?_) | (with_reducible refine below_drewN ?_ _) | (with_reducible refine Below.setCell ?_ ?_ _) | go_size | (simp only [go_sem]; omega) | (simp [go_sem]; done) | (simp [go_sem]; omega))))).mono ?_); rintro _ _ hgets; obtain ⟨rfl, x7, rfl⟩ := hgets.get; clear hgets)))
  go_returns
  exact ⟨rfl, hb3.trans (Below.mono (B := W3.heap.size) (by (repeat' (first | (with_reducible exact Below.refl _ _) | (with_reducible refine Below.alloc ?_ ?_ _) | (with_reducible refine below_ext ?_ ?_ _) | (with_reducible refine Below.drew ?_) | (with_reducible refine below_drewN ?_ _) | (with_reducible refine Below.setCell ?_ ?_ _) | go_size | (simp only [go_sem]; omega) | (simp [go_sem]; done) | (simp [go_sem]; omega)))) hb3.size)⟩
end Go.Proofs.YtpahcgappaifnaaGreat
