/- Pages: acts of both, kind by kind.  -/
import Derived.Test.YtgmbnnmckdjabaaGreatPgF
namespace Go.Proofs.YtgmbnnmckdjabaaGreat
open Go.RowKit
set_option linter.unusedVariables false
set_option linter.unusedSimpArgs false

section
variable {F : Nat → Prop} {p : Nat} {S : PgS} {w : World}
set_option maxRecDepth 100000 in
set_option maxHeartbeats 8000000 in
theorem do_k1 (U : Value) (h : PageAt w F p S) (hS : S.Ok) (h' : RefAt w F U S) (a : ActD) (ha : a.Ok w) (hA : 0 < a.ps.length → ∀ q o, a.pa = some ⟨q, o, none⟩ → ¬ F q) (hB : 0 < a.rw.length → ∀ q o, a.ra = some ⟨q, o, none⟩ → ¬ F q) (hk : a.kd = 1) (h60 : a.rw.length ≤ 60) :
    Calls Tryz.prog 26 #[.pointer (some ⟨p, 0, none⟩), U, a.v] w (DoN F p (doS S a) w) := by
  obtain ⟨kd, n, ⟨t, l, b, r⟩, pr, pc', ⟨cg, cr, ck⟩, pa, pc, ps, ra, rc, rw⟩ := a
  simp only at hk hA hB h60
  subst hk
  have eT : doS S ⟨1, n, ⟨t, l, b, r⟩, pr, pc', ⟨cg, cr, ck⟩, pa, pc, ps, ra, rc, rw⟩ = moveS S (onB S.rows.length S.cols ⟨t, l, b, r⟩) (clampR n 0 1000) := rfl
  rw [eT]
  clear eT
  obtain ⟨hr1, hc1, hyo, hps, hpl, hpm, hpn, hrw, hrl, hrm, hrn, hro⟩ := ha
  simp only at hr1 hc1 hyo hps hpl hpm hpn hrw hrl hrm hrn hro
  show Calls Tryz.prog 26 #[.pointer (some ⟨p, 0, none⟩), U, .agg #[.int .i64 1, .int .i64 n, .int .i64 t, .int .i64 l, .int .i64 b, .int .i64 r, .int .i64 pr, .int .i64 pc', .int .i32 cg, .int .u8 cr, .bool ck, .slice pa ps.length pc, .slice ra rw.length rc]] w _
  have hV := h'.v
  obtain ⟨A, c, rows, rfl, _, _, _⟩ := hV.op
  have hlt := Lib.hid h.lt
  have PC := Lib.hid (fun w' (hb : Below w.heap.size w w') => up_p (h.grow hb) hS ⟨t, l, b, r⟩ n)
  have RC := Lib.hid (fun w' (hk : Keep F w w') => refscroll_c _ ⟨t, l, b, r⟩ (max n 0) (h'.keep hk).v hS)
  rw [clamp_up] at RC
  obtain ⟨T, hT⟩ : ∃ T, T = moveS S (onB S.rows.length S.cols ⟨t, l, b, r⟩) (clampR n 0 1000) := ⟨_, rfl⟩
  rw [← hT] at PC RC ⊢
  clear hT hV h h'
  go_enter Tryz.func26, Tryz.ntmps26
  go_upto_region 4 with ((go_at_call 21); (with_reducible refine (PC.out _ (by (repeat' (first | (with_reducible exact Below.refl _ _) | (with_reducible refine Below.alloc ?_ ?_ _) | (with_reducible refine below_ext ?_ ?_ _) | (with_reducible refine Below.drew ?_) | (with_reducible refine below_drewN ?_ _) | (with_reducible refine Below.setCell ?_ ?_ _) | go_size | (simp only [go_sem]; omega) | (simp [go_sem]; done) | (simp [go_sem]; omega))))).mono ?_); (rintro _ w1 ⟨rfl, hD⟩); replace hD := Lib.hid hD)
  obtain ⟨W0, hW⟩ : ∃ W0, W0 = ((w.alloc (.cells #[.slice A S.rows.length c, .int .i64 S.cols] 27)).alloc (.cells #[.int .i64 1, .int .i64 n, .int .i64 t, .int .i64 l, .int .i64 b, .int .i64 r, .int .i64 pr, .int .i64 pc', .int .i32 cg, .int .u8 cr, .bool ck, .slice pa ps.length pc, .slice ra rw.length rc] 60)).alloc (.cells #[.slice none 0 0, .int .i64 0] 27) := ⟨_, rfl⟩
  have hs0 : W0.heap.size = w.heap.size + 1 + 1 + 1 := by rw [hW]; simp
  have hb0 : Below w.heap.size w W0 := by rw [hW]; (repeat' (first | (with_reducible exact Below.refl _ _) | (with_reducible refine Below.alloc ?_ ?_ _) | (with_reducible refine below_ext ?_ ?_ _) | (with_reducible refine Below.drew ?_) | (with_reducible refine below_drewN ?_ _) | (with_reducible refine Below.setCell ?_ ?_ _) | go_size | (simp only [go_sem]; omega) | (simp [go_sem]; done) | (simp [go_sem]; omega)))
  have p0 : W0.cell? ⟨w.heap.size, 0, none⟩ = some (.slice A S.rows.length c) := by rw [hW]; simp [go_sem]
  have p1 : W0.cell? ⟨w.heap.size, 1, none⟩ = some (.int .i64 S.cols) := by rw [hW]; simp [go_sem]
  have r0 : W0.cell? ⟨w.heap.size + 1 + 1, 0, none⟩ = some (.slice none 0 0) := by rw [hW]; simp [go_sem]
  have r1 : W0.cell? ⟨w.heap.size + 1 + 1, 1, none⟩ = some (.int .i64 0) := by rw [hW]; simp [go_sem]
  have a1 : W0.cell? ⟨w.heap.size + 1, 1, none⟩ = some (.int .i64 n) := by rw [hW]; simp [go_sem]
  have a2 : W0.cell? ⟨w.heap.size + 1, 2, none⟩ = some (.int .i64 t) := by rw [hW]; simp [go_sem]
  have a3 : W0.cell? ⟨w.heap.size + 1, 3, none⟩ = some (.int .i64 l) := by rw [hW]; simp [go_sem]
  have a4 : W0.cell? ⟨w.heap.size + 1, 4, none⟩ = some (.int .i64 b) := by rw [hW]; simp [go_sem]
  have a5 : W0.cell? ⟨w.heap.size + 1, 5, none⟩ = some (.int .i64 r) := by rw [hW]; simp [go_sem]
  have rf : ∀ q, W0.frozen? ⟨w.heap.size + 1 + 1, q, none⟩ = false := by intro q; rw [hW]; simp [go_sem]
  rw [← hW] at hD
  clear hW
  have hbk : ∀ i, i < 3 → w1.heap[w.heap.size + i]? = W0.heap[w.heap.size + i]? := fun i hi => hD.out.1.block _ (by omega) (fun f => by have := hlt.out _ f; omega)
  have b0 := hbk 0 (by omega)
  have b1 := hbk 1 (by omega)
  have b2 := hbk 2 (by omega)
  rw [Nat.add_zero] at b0
  rw [show w.heap.size + 2 = w.heap.size + 1 + 1 by omega] at b2
  replace p0 := (cell_of_heap b0).trans p0
  replace p1 := (cell_of_heap b0).trans p1
  replace r0 := (cell_of_heap b2).trans r0
  replace r1 := (cell_of_heap b2).trans r1
  replace a1 := (cell_of_heap b1).trans a1
  replace a2 := (cell_of_heap b1).trans a2
  replace a3 := (cell_of_heap b1).trans a3
  replace a4 := (cell_of_heap b1).trans a4
  replace a5 := (cell_of_heap b1).trans a5
  have rf0 := (frozen_of_heap b2).trans (rf 0)
  have rf1 := (frozen_of_heap b2).trans (rf 1)
  have hsz := hD.out.1.size
  have g0 : w.heap.size < w1.heap.size := by omega
  have g1 : w.heap.size + 1 < w1.heap.size := by omega
  have g2 : w.heap.size + 1 + 1 < w1.heap.size := by omega
  have hKp : Keep F w w1 := (Keep.of_below (F := F) hb0).trans hD.out.1 (fun b hb => .inl hb)
  have hfin := Lib.hid (fun x V rws W3 hl hv hf e3 => do_fin (x := x) (V := V) (rws := rws) (W3 := W3) (R := w.heap.size + 1 + 1) hD.out hb0 hlt.out (by omega) (by omega) hl hv hf e3)
  replace hKp := Lib.hid hKp
  clear b0 b1 b2 hbk rf hsz hs0
  go_wp2_with ((go_at_call 47); (with_reducible refine (RC.out _ hKp.out).mono ?_); (rintro _ _ ⟨V, rws, x2, rfl, rfl, hl1, hv1, hf1⟩); (obtain ⟨A1, c1, rfl, _, _⟩ := hl1.form); (obtain ⟨W3, e3, t0, t1, g3⟩ := store2 (V := .slice A1 rws.length c1) (n := .int .i64 T.cols) r0 r1); replace hl1 := Lib.hid hl1; replace hv1 := Lib.hid hv1; replace hf1 := Lib.hid hf1)
  simp [bodyPost, go_sem, t0, t1]
  exact ⟨_, by simp [results, Tryz.f26, go_sem, t0, t1, g3] <;> rfl, hfin.out _ _ _ _ hl1.out hv1.out hf1.out e3⟩
set_option maxRecDepth 100000 in
set_option maxHeartbeats 8000000 in
theorem do_k2 (U : Value) (h : PageAt w F p S) (hS : S.Ok) (h' : RefAt w F U S) (a : ActD) (ha : a.Ok w) (hA : 0 < a.ps.length → ∀ q o, a.pa = some ⟨q, o, none⟩ → ¬ F q) (hB : 0 < a.rw.length → ∀ q o, a.ra = some ⟨q, o, none⟩ → ¬ F q) (hk : a.kd = 2) (h60 : a.rw.length ≤ 60) :
    Calls Tryz.prog 26 #[.pointer (some ⟨p, 0, none⟩), U, a.v] w (DoN F p (doS S a) w) := by
  obtain ⟨kd, n, ⟨t, l, b, r⟩, pr, pc', ⟨cg, cr, ck⟩, pa, pc, ps, ra, rc, rw⟩ := a
  simp only at hk hA hB h60
  subst hk
  have eT : doS S ⟨2, n, ⟨t, l, b, r⟩, pr, pc', ⟨cg, cr, ck⟩, pa, pc, ps, ra, rc, rw⟩ = moveS S (onB S.rows.length S.cols ⟨t, l, b, r⟩) (-clampR n 0 1000) := rfl
  rw [eT]
  clear eT
  obtain ⟨hr1, hc1, hyo, hps, hpl, hpm, hpn, hrw, hrl, hrm, hrn, hro⟩ := ha
  simp only at hr1 hc1 hyo hps hpl hpm hpn hrw hrl hrm hrn hro
  show Calls Tryz.prog 26 #[.pointer (some ⟨p, 0, none⟩), U, .agg #[.int .i64 2, .int .i64 n, .int .i64 t, .int .i64 l, .int .i64 b, .int .i64 r, .int .i64 pr, .int .i64 pc', .int .i32 cg, .int .u8 cr, .bool ck, .slice pa ps.length pc, .slice ra rw.length rc]] w _
  have hV := h'.v
  obtain ⟨A, c, rows, rfl, _, _, _⟩ := hV.op
  have hlt := Lib.hid h.lt
  have CC := Lib.hid (fun w' => clamp_l n 0 1000 w')
  have wneg : IntKind.i64.wrap (-clampR n 0 1000) = -clampR n 0 1000 := by have := clampR_in n (show (0 : Int) ≤ 1000 by omega); exact wrap_i64 (by omega) (by omega)
  have PC := Lib.hid (fun w' (hb : Below w.heap.size w w') => down_p (h.grow hb) hS ⟨t, l, b, r⟩ n)
  have RC := Lib.hid (fun w' (hk : Keep F w w') => refscroll_c _ ⟨t, l, b, r⟩ (-clampR n 0 1000) (h'.keep hk).v hS)
  rw [clamp_down] at RC
  obtain ⟨T, hT⟩ : ∃ T, T = moveS S (onB S.rows.length S.cols ⟨t, l, b, r⟩) (-clampR n 0 1000) := ⟨_, rfl⟩
  rw [← hT] at PC RC ⊢
  clear hT hV h h'
  go_enter Tryz.func26, Tryz.ntmps26
  go_upto_region 7 with ((go_at_call 48); (with_reducible refine (PC.out _ (by (repeat' (first | (with_reducible exact Below.refl _ _) | (with_reducible refine Below.alloc ?_ ?_ _) | (with_reducible refine below_ext ?_ ?_ _) | (with_reducible refine Below.drew ?_) | (with_reducible refine below_drewN ?_ _) | (with_reducible refine Below.setCell ?_ ?_ _) | go_size | (simp only [go_sem]; omega) | (simp [go_sem]; done) | (simp [go_sem]; omega))))).mono ?_); (rintro _ w1 ⟨rfl, hD⟩); replace hD := Lib.hid hD)
  obtain ⟨W0, hW⟩ : ∃ W0, W0 = ((w.alloc (.cells #[.slice A S.rows.length c, .int .i64 S.cols] 27)).alloc (.cells #[.int .i64 2, .int .i64 n, .int .i64 t, .int .i64 l, .int .i64 b, .int .i64 r, .int .i64 pr, .int .i64 pc', .int .i32 cg, .int .u8 cr, .bool ck, .slice pa ps.length pc, .slice ra rw.length rc] 60)).alloc (.cells #[.slice none 0 0, .int .i64 0] 27) := ⟨_, rfl⟩
  have hs0 : W0.heap.size = w.heap.size + 1 + 1 + 1 := by rw [hW]; simp
  have hb0 : Below w.heap.size w W0 := by rw [hW]; (repeat' (first | (with_reducible exact Below.refl _ _) | (with_reducible refine Below.alloc ?_ ?_ _) | (with_reducible refine below_ext ?_ ?_ _) | (with_reducible refine Below.drew ?_) | (with_reducible refine below_drewN ?_ _) | (with_reducible refine Below.setCell ?_ ?_ _) | go_size | (simp only [go_sem]; omega) | (simp [go_sem]; done) | (simp [go_sem]; omega)))
  have p0 : W0.cell? ⟨w.heap.size, 0, none⟩ = some (.slice A S.rows.length c) := by rw [hW]; simp [go_sem]
  have p1 : W0.cell? ⟨w.heap.size, 1, none⟩ = some (.int .i64 S.cols) := by rw [hW]; simp [go_sem]
  have r0 : W0.cell? ⟨w.heap.size + 1 + 1, 0, none⟩ = some (.slice none 0 0) := by rw [hW]; simp [go_sem]
  have r1 : W0.cell? ⟨w.heap.size + 1 + 1, 1, none⟩ = some (.int .i64 0) := by rw [hW]; simp [go_sem]
  have a1 : W0.cell? ⟨w.heap.size + 1, 1, none⟩ = some (.int .i64 n) := by rw [hW]; simp [go_sem]
  have a2 : W0.cell? ⟨w.heap.size + 1, 2, none⟩ = some (.int .i64 t) := by rw [hW]; simp [go_sem]
  have a3 : W0.cell? ⟨w.heap.size + 1, 3, none⟩ = some (.int .i64 l) := by rw [hW]; simp [go_sem]
  have a4 : W0.cell? ⟨w.heap.size + 1, 4, none⟩ = some (.int .i64 b) := by rw [hW]; simp [go_sem]
  have a5 : W0.cell? ⟨w.heap.size + 1, 5, none⟩ = some (.int .i64 r) := by rw [hW]; simp [go_sem]
  have rf : ∀ q, W0.frozen? ⟨w.heap.size + 1 + 1, q, none⟩ = false := by intro q; rw [hW]; simp [go_sem]
  rw [← hW] at hD
  clear hW
  have hbk : ∀ i, i < 3 → w1.heap[w.heap.size + i]? = W0.heap[w.heap.size + i]? := fun i hi => hD.out.1.block _ (by omega) (fun f => by have := hlt.out _ f; omega)
  have b0 := hbk 0 (by omega)
  have b1 := hbk 1 (by omega)
  have b2 := hbk 2 (by omega)
  rw [Nat.add_zero] at b0
  rw [show w.heap.size + 2 = w.heap.size + 1 + 1 by omega] at b2
  replace p0 := (cell_of_heap b0).trans p0
  replace p1 := (cell_of_heap b0).trans p1
  replace r0 := (cell_of_heap b2).trans r0
  replace r1 := (cell_of_heap b2).trans r1
  replace a1 := (cell_of_heap b1).trans a1
  replace a2 := (cell_of_heap b1).trans a2
  replace a3 := (cell_of_heap b1).trans a3
  replace a4 := (cell_of_heap b1).trans a4
  replace a5 := (cell_of_heap b1).trans a5
  have rf0 := (frozen_of_heap b2).trans (rf 0)
  have rf1 := (frozen_of_heap b2).trans (rf 1)
  have hsz := hD.out.1.size
  have g0 : w.heap.size < w1.heap.size := by omega
  have g1 : w.heap.size + 1 < w1.heap.size := by omega
  have g2 : w.heap.size + 1 + 1 < w1.heap.size := by omega
  have hKp : Keep F w w1 := (Keep.of_below (F := F) hb0).trans hD.out.1 (fun b hb => .inl hb)
  have hfin := Lib.hid (fun x V rws W3 hl hv hf e3 => do_fin (x := x) (V := V) (rws := rws) (W3 := W3) (R := w.heap.size + 1 + 1) hD.out hb0 hlt.out (by omega) (by omega) hl hv hf e3)
  replace hKp := Lib.hid hKp
  clear b0 b1 b2 hbk rf hsz hs0
  (refine wp_region_F (S := (fun w' => w'.cell? ⟨w.heap.size, 0, none⟩ = some (.slice A S.rows.length c) ∧ w'.cell? ⟨w.heap.size, 1, none⟩ = some (.int .i64 S.cols) ∧ w'.cell? ⟨w.heap.size + 1, 1, none⟩ = some (.int .i64 n) ∧ w'.cell? ⟨w.heap.size + 1, 2, none⟩ = some (.int .i64 t) ∧ w'.cell? ⟨w.heap.size + 1, 3, none⟩ = some (.int .i64 l) ∧ w'.cell? ⟨w.heap.size + 1, 4, none⟩ = some (.int .i64 b) ∧ w'.cell? ⟨w.heap.size + 1, 5, none⟩ = some (.int .i64 r))) 8 [false, false, false, false, false, false, false, false, false] rfl rfl (by kernel_rfl) ?_ (fun hHeld => ?_); (focus ((try dsimp only); (refine ⟨?_, ?_, ?_, ?_, ?_, ?_, ?_⟩ <;> simp [go_sem, g0, g1, p0, p1, a1, a2, a3, a4, a5]); done)))
  ((refine AtF.take (oi := ?_) (v := ?_) 0 ?_ ?_ ?_ ?_ (Or.inl ⟨?_, ?_⟩) (by assumption) ?_; rotate_left 2; rfl; kernel_rfl; kernel_rfl; exact (fun _ _ _ h => h); rfl; (focus (intro w hSw; (try dsimp only at hSw); go_simp; (try with_reducible rfl); done)); (try simp only [Act.put, List.setIfInBounds_toArray, List.set_cons_zero, List.set_cons_succ])); (refine AtF.take (oi := ?_) (v := ?_) 1 ?_ ?_ ?_ ?_ (Or.inl ⟨?_, ?_⟩) (by assumption) ?_; rotate_left 2; rfl; kernel_rfl; kernel_rfl; exact (fun _ _ _ h => h); rfl; (focus (intro w hSw; (try dsimp only at hSw); go_simp; (try with_reducible rfl); done)); (try simp only [Act.put, List.setIfInBounds_toArray, List.set_cons_zero, List.set_cons_succ])); (refine AtF.take (oi := ?_) (v := ?_) 2 ?_ ?_ ?_ ?_ (Or.inl ⟨?_, ?_⟩) (by assumption) ?_; rotate_left 2; rfl; kernel_rfl; kernel_rfl; exact (fun _ _ _ h => h); rfl; (focus (intro w hSw; (try dsimp only at hSw); go_simp; (try with_reducible rfl); done)); (try simp only [Act.put, List.setIfInBounds_toArray, List.set_cons_zero, List.set_cons_succ])); (refine AtF.take (oi := ?_) (v := ?_) 3 ?_ ?_ ?_ ?_ (Or.inl ⟨?_, ?_⟩) (by assumption) ?_; rotate_left 2; rfl; kernel_rfl; kernel_rfl; exact (fun _ _ _ h => h); rfl; (focus (intro w hSw; (try dsimp only at hSw); go_simp; (try with_reducible rfl); done)); (try simp only [Act.put, List.setIfInBounds_toArray, List.set_cons_zero, List.set_cons_succ])); (refine AtF.take (oi := ?_) (v := ?_) 4 ?_ ?_ ?_ ?_ (Or.inl ⟨?_, ?_⟩) (by assumption) ?_; rotate_left 2; rfl; kernel_rfl; kernel_rfl; exact (fun _ _ _ h => h); rfl; (focus (intro w hSw; (try dsimp only at hSw); go_simp; (try with_reducible rfl); done)); (try simp only [Act.put, List.setIfInBounds_toArray, List.set_cons_zero, List.set_cons_succ])))
  (refine AtF.only (oi := ?_) 5 ?_ ?_ (fun K hK => ?_); rotate_left 1; rfl; kernel_rfl; (try go_simp); (go_at_call 19; ((with_reducible refine (CC.out _).mono ?_); rintro _ _ hgets; obtain ⟨rfl, x7, rfl⟩ := hgets.get; clear hgets)); (refine hK.out _ _ ?_ (fun hHeld => ?_)); (focus ((try dsimp only); (refine ⟨?_, ?_, ?_, ?_, ?_, ?_, ?_⟩ <;> simp [go_sem, g0, g1, p0, p1, a1, a2, a3, a4, a5]); done)); clear hK K; (try simp only [Act.put, List.setIfInBounds_toArray, List.set_cons_zero, List.set_cons_succ]))
  ((refine AtF.take (oi := ?_) (v := ?_) 6 ?_ ?_ ?_ ?_ (Or.inl ⟨?_, ?_⟩) (by assumption) ?_; rotate_left 2; rfl; kernel_rfl; kernel_rfl; exact (fun _ _ _ h => h); rfl; (focus (intro w hSw; (try dsimp only at hSw); go_simp; (try with_reducible rfl); done)); (try simp only [Act.put, List.setIfInBounds_toArray, List.set_cons_zero, List.set_cons_succ])))
  (refine AtF.only (oi := ?_) 7 ?_ ?_ (fun K hK => ?_); rotate_left 1; rfl; kernel_rfl; (try go_simp); (go_at_call 47); (with_reducible refine (RC.out _ (hKp.out.trans (Keep.of_below (F := fun _ => False) (below_of_ext _ x7)) (fun _ h => h.elim))).mono ?_); (rintro _ _ ⟨V, rws, x2, rfl, rfl, hl1, hv1, hf1⟩); (obtain ⟨A1, c1, rfl, _, _⟩ := hl1.form); (obtain ⟨W3, e3, t0, t1, g3⟩ := store2 (w1 := w1) (V := .slice A1 rws.length c1) (n := .int .i64 T.cols) r0 r1); replace hl1 := Lib.hid hl1; replace hv1 := Lib.hid hv1; replace hf1 := Lib.hid hf1; (refine hK.out _ _ ?_ (fun hHeld => ?_)); (focus ((try dsimp only); (refine ⟨?_, ?_, ?_, ?_, ?_, ?_, ?_⟩ <;> simp [go_sem, g0, g1, p0, p1, a1, a2, a3, a4, a5]); done)); clear hK K; (try simp only [Act.put, List.setIfInBounds_toArray, List.set_cons_zero, List.set_cons_succ]))
  (refine AtF.last (oi := ?_) ?_ ?_ (fun K hK => ?_); rotate_left 1; rfl; kernel_rfl; go_simp; skip; refine hK.out _ _ ?_; clear hK K; (try simp only [Act.put, List.setIfInBounds_toArray, List.set_cons_zero, List.set_cons_succ]))
  have e3' := e3
  go_wp2
  simp [bodyPost, go_sem, t0, t1]
  refine ⟨_, by simp [results, Tryz.f26, go_sem, t0, t1, g3] <;> rfl, ?_⟩
  rw [ext_ext]
  refine hfin.out _ _ _ _ ?_ hv1.out ?_ e3'
  · rw [← ext_ext]; exact hl1.out
  · exact fun b hb => Nat.le_trans (by simp) (hf1.out b hb)
set_option maxRecDepth 100000 in
set_option maxHeartbeats 8000000 in
theorem do_k3 (U : Value) (h : PageAt w F p S) (hS : S.Ok) (h' : RefAt w F U S) (a : ActD) (ha : a.Ok w) (hA : 0 < a.ps.length → ∀ q o, a.pa = some ⟨q, o, none⟩ → ¬ F q) (hB : 0 < a.rw.length → ∀ q o, a.ra = some ⟨q, o, none⟩ → ¬ F q) (hk : a.kd = 3) (h60 : a.rw.length ≤ 60) :
    Calls Tryz.prog 26 #[.pointer (some ⟨p, 0, none⟩), U, a.v] w (DoN F p (doS S a) w) := by
  obtain ⟨kd, n, ⟨t, l, b, r⟩, pr, pc', ⟨cg, cr, ck⟩, pa, pc, ps, ra, rc, rw⟩ := a
  simp only at hk hA hB h60
  subst hk
  have eT : doS S ⟨3, n, ⟨t, l, b, r⟩, pr, pc', ⟨cg, cr, ck⟩, pa, pc, ps, ra, rc, rw⟩ = eachS S (onB S.rows.length S.cols ⟨t, l, b, r⟩) (fun xs l r => movR xs l r (-clampR n 0 (cntN xs.length l r 0))) := rfl
  rw [eT]
  clear eT
  obtain ⟨hr1, hc1, hyo, hps, hpl, hpm, hpn, hrw, hrl, hrm, hrn, hro⟩ := ha
  simp only at hr1 hc1 hyo hps hpl hpm hpn hrw hrl hrm hrn hro
  show Calls Tryz.prog 26 #[.pointer (some ⟨p, 0, none⟩), U, .agg #[.int .i64 3, .int .i64 n, .int .i64 t, .int .i64 l, .int .i64 b, .int .i64 r, .int .i64 pr, .int .i64 pc', .int .i32 cg, .int .u8 cr, .bool ck, .slice pa ps.length pc, .slice ra rw.length rc]] w _
  have hV := h'.v
  obtain ⟨A, c, rows, rfl, _, _, _⟩ := hV.op
  have hlt := Lib.hid h.lt
  have CC := Lib.hid (fun w' => clamp_l n 0 1000 w')
  have wneg : IntKind.i64.wrap (-clampR n 0 1000) = -clampR n 0 1000 := by have := clampR_in n (show (0 : Int) ≤ 1000 by omega); exact wrap_i64 (by omega) (by omega)
  have PC := Lib.hid (fun w' (hb : Below w.heap.size w w') => left_p (h.grow hb) hS ⟨t, l, b, r⟩ n)
  have RC := Lib.hid (fun w' (hk : Keep F w w') => refshift_c _ ⟨t, l, b, r⟩ (-clampR n 0 1000) (h'.keep hk).v hS)
  rw [eachS_congr (f := shiftF (-clampR n 0 1000)) (g := fun xs l r => movR xs l r (-clampR n 0 (cntN xs.length l r 0))) hS (onB S.rows.length S.cols ⟨t, l, b, r⟩) (fun xs hx => shiftF_left n xs _ _ hx)] at RC
  obtain ⟨T, hT⟩ : ∃ T, T = eachS S (onB S.rows.length S.cols ⟨t, l, b, r⟩) (fun xs l r => movR xs l r (-clampR n 0 (cntN xs.length l r 0))) := ⟨_, rfl⟩
  rw [← hT] at PC RC ⊢
  clear hT hV h h'
  go_enter Tryz.func26, Tryz.ntmps26
  go_upto_region 10 with ((go_at_call 22); (with_reducible refine (PC.out _ (by (repeat' (first | (with_reducible exact Below.refl _ _) | (with_reducible refine Below.alloc ?_ ?_ _) | (with_reducible refine below_ext ?_ ?_ _) | (with_reducible refine Below.drew ?_) | (with_reducible refine below_drewN ?_ _) | (with_reducible refine Below.setCell ?_ ?_ _) | go_size | (simp only [go_sem]; omega) | (simp [go_sem]; done) | (simp [go_sem]; omega))))).mono ?_); (rintro _ w1 ⟨rfl, hD⟩); replace hD := Lib.hid hD)
  obtain ⟨W0, hW⟩ : ∃ W0, W0 = ((w.alloc (.cells #[.slice A S.rows.length c, .int .i64 S.cols] 27)).alloc (.cells #[.int .i64 3, .int .i64 n, .int .i64 t, .int .i64 l, .int .i64 b, .int .i64 r, .int .i64 pr, .int .i64 pc', .int .i32 cg, .int .u8 cr, .bool ck, .slice pa ps.length pc, .slice ra rw.length rc] 60)).alloc (.cells #[.slice none 0 0, .int .i64 0] 27) := ⟨_, rfl⟩
  have hs0 : W0.heap.size = w.heap.size + 1 + 1 + 1 := by rw [hW]; simp
  have hb0 : Below w.heap.size w W0 := by rw [hW]; (repeat' (first | (with_reducible exact Below.refl _ _) | (with_reducible refine Below.alloc ?_ ?_ _) | (with_reducible refine below_ext ?_ ?_ _) | (with_reducible refine Below.drew ?_) | (with_reducible refine below_drewN ?_ _) | (with_reducible refine Below.setCell ?_ ?_ _) | go_size | (simp only [go_sem]; omega) | (simp [go_sem]; done) | (simp [go_sem]; omega)))
  have p0 : W0.cell? ⟨w.heap.size, 0, none⟩ = some (.slice A S.rows.length c) := by rw [hW]; simp [go_sem]
  have p1 : W0.cell? ⟨w.heap.size, 1, none⟩ = some (.int .i64 S.cols) := by rw [hW]; simp [go_sem]
  have r0 : W0.cell? ⟨w.heap.size + 1 + 1, 0, none⟩ = some (.slice none 0 0) := by rw [hW]; simp [go_sem]
  have r1 : W0.cell? ⟨w.heap.size + 1 + 1, 1, none⟩ = some (.int .i64 0) := by rw [hW]; simp [go_sem]
  have a1 : W0.cell? ⟨w.heap.size + 1, 1, none⟩ = some (.int .i64 n) := by rw [hW]; simp [go_sem]
  have a2 : W0.cell? ⟨w.heap.size + 1, 2, none⟩ = some (.int .i64 t) := by rw [hW]; simp [go_sem]
  have a3 : W0.cell? ⟨w.heap.size + 1, 3, none⟩ = some (.int .i64 l) := by rw [hW]; simp [go_sem]
  have a4 : W0.cell? ⟨w.heap.size + 1, 4, none⟩ = some (.int .i64 b) := by rw [hW]; simp [go_sem]
  have a5 : W0.cell? ⟨w.heap.size + 1, 5, none⟩ = some (.int .i64 r) := by rw [hW]; simp [go_sem]
  have rf : ∀ q, W0.frozen? ⟨w.heap.size + 1 + 1, q, none⟩ = false := by intro q; rw [hW]; simp [go_sem]
  rw [← hW] at hD
  clear hW
  have hbk : ∀ i, i < 3 → w1.heap[w.heap.size + i]? = W0.heap[w.heap.size + i]? := fun i hi => hD.out.1.block _ (by omega) (fun f => by have := hlt.out _ f; omega)
  have b0 := hbk 0 (by omega)
  have b1 := hbk 1 (by omega)
  have b2 := hbk 2 (by omega)
  rw [Nat.add_zero] at b0
  rw [show w.heap.size + 2 = w.heap.size + 1 + 1 by omega] at b2
  replace p0 := (cell_of_heap b0).trans p0
  replace p1 := (cell_of_heap b0).trans p1
  replace r0 := (cell_of_heap b2).trans r0
  replace r1 := (cell_of_heap b2).trans r1
  replace a1 := (cell_of_heap b1).trans a1
  replace a2 := (cell_of_heap b1).trans a2
  replace a3 := (cell_of_heap b1).trans a3
  replace a4 := (cell_of_heap b1).trans a4
  replace a5 := (cell_of_heap b1).trans a5
  have rf0 := (frozen_of_heap b2).trans (rf 0)
  have rf1 := (frozen_of_heap b2).trans (rf 1)
  have hsz := hD.out.1.size
  have g0 : w.heap.size < w1.heap.size := by omega
  have g1 : w.heap.size + 1 < w1.heap.size := by omega
  have g2 : w.heap.size + 1 + 1 < w1.heap.size := by omega
  have hKp : Keep F w w1 := (Keep.of_below (F := F) hb0).trans hD.out.1 (fun b hb => .inl hb)
  have hfin := Lib.hid (fun x V rws W3 hl hv hf e3 => do_fin (x := x) (V := V) (rws := rws) (W3 := W3) (R := w.heap.size + 1 + 1) hD.out hb0 hlt.out (by omega) (by omega) hl hv hf e3)
  replace hKp := Lib.hid hKp
  clear b0 b1 b2 hbk rf hsz hs0
  (refine wp_region_F (S := (fun w' => w'.cell? ⟨w.heap.size, 0, none⟩ = some (.slice A S.rows.length c) ∧ w'.cell? ⟨w.heap.size, 1, none⟩ = some (.int .i64 S.cols) ∧ w'.cell? ⟨w.heap.size + 1, 1, none⟩ = some (.int .i64 n) ∧ w'.cell? ⟨w.heap.size + 1, 2, none⟩ = some (.int .i64 t) ∧ w'.cell? ⟨w.heap.size + 1, 3, none⟩ = some (.int .i64 l) ∧ w'.cell? ⟨w.heap.size + 1, 4, none⟩ = some (.int .i64 b) ∧ w'.cell? ⟨w.heap.size + 1, 5, none⟩ = some (.int .i64 r))) 8 [false, false, false, false, false, false, false, false, false] rfl rfl (by kernel_rfl) ?_ (fun hHeld => ?_); (focus ((try dsimp only); (refine ⟨?_, ?_, ?_, ?_, ?_, ?_, ?_⟩ <;> simp [go_sem, g0, g1, p0, p1, a1, a2, a3, a4, a5]); done)))
  ((refine AtF.take (oi := ?_) (v := ?_) 0 ?_ ?_ ?_ ?_ (Or.inl ⟨?_, ?_⟩) (by assumption) ?_; rotate_left 2; rfl; kernel_rfl; kernel_rfl; exact (fun _ _ _ h => h); rfl; (focus (intro w hSw; (try dsimp only at hSw); go_simp; (try with_reducible rfl); done)); (try simp only [Act.put, List.setIfInBounds_toArray, List.set_cons_zero, List.set_cons_succ])); (refine AtF.take (oi := ?_) (v := ?_) 1 ?_ ?_ ?_ ?_ (Or.inl ⟨?_, ?_⟩) (by assumption) ?_; rotate_left 2; rfl; kernel_rfl; kernel_rfl; exact (fun _ _ _ h => h); rfl; (focus (intro w hSw; (try dsimp only at hSw); go_simp; (try with_reducible rfl); done)); (try simp only [Act.put, List.setIfInBounds_toArray, List.set_cons_zero, List.set_cons_succ])); (refine AtF.take (oi := ?_) (v := ?_) 2 ?_ ?_ ?_ ?_ (Or.inl ⟨?_, ?_⟩) (by assumption) ?_; rotate_left 2; rfl; kernel_rfl; kernel_rfl; exact (fun _ _ _ h => h); rfl; (focus (intro w hSw; (try dsimp only at hSw); go_simp; (try with_reducible rfl); done)); (try simp only [Act.put, List.setIfInBounds_toArray, List.set_cons_zero, List.set_cons_succ])); (refine AtF.take (oi := ?_) (v := ?_) 3 ?_ ?_ ?_ ?_ (Or.inl ⟨?_, ?_⟩) (by assumption) ?_; rotate_left 2; rfl; kernel_rfl; kernel_rfl; exact (fun _ _ _ h => h); rfl; (focus (intro w hSw; (try dsimp only at hSw); go_simp; (try with_reducible rfl); done)); (try simp only [Act.put, List.setIfInBounds_toArray, List.set_cons_zero, List.set_cons_succ])); (refine AtF.take (oi := ?_) (v := ?_) 4 ?_ ?_ ?_ ?_ (Or.inl ⟨?_, ?_⟩) (by assumption) ?_; rotate_left 2; rfl; kernel_rfl; kernel_rfl; exact (fun _ _ _ h => h); rfl; (focus (intro w hSw; (try dsimp only at hSw); go_simp; (try with_reducible rfl); done)); (try simp only [Act.put, List.setIfInBounds_toArray, List.set_cons_zero, List.set_cons_succ])))
  (refine AtF.only (oi := ?_) 5 ?_ ?_ (fun K hK => ?_); rotate_left 1; rfl; kernel_rfl; (try go_simp); (go_at_call 19; ((with_reducible refine (CC.out _).mono ?_); rintro _ _ hgets; obtain ⟨rfl, x7, rfl⟩ := hgets.get; clear hgets)); (refine hK.out _ _ ?_ (fun hHeld => ?_)); (focus ((try dsimp only); (refine ⟨?_, ?_, ?_, ?_, ?_, ?_, ?_⟩ <;> simp [go_sem, g0, g1, p0, p1, a1, a2, a3, a4, a5]); done)); clear hK K; (try simp only [Act.put, List.setIfInBounds_toArray, List.set_cons_zero, List.set_cons_succ]))
  ((refine AtF.take (oi := ?_) (v := ?_) 6 ?_ ?_ ?_ ?_ (Or.inl ⟨?_, ?_⟩) (by assumption) ?_; rotate_left 2; rfl; kernel_rfl; kernel_rfl; exact (fun _ _ _ h => h); rfl; (focus (intro w hSw; (try dsimp only at hSw); go_simp; (try with_reducible rfl); done)); (try simp only [Act.put, List.setIfInBounds_toArray, List.set_cons_zero, List.set_cons_succ])))
  (refine AtF.only (oi := ?_) 7 ?_ ?_ (fun K hK => ?_); rotate_left 1; rfl; kernel_rfl; (try go_simp); (go_at_call 49); (with_reducible refine (RC.out _ (hKp.out.trans (Keep.of_below (F := fun _ => False) (below_of_ext _ x7)) (fun _ h => h.elim))).mono ?_); (rintro _ _ ⟨V, rws, x2, rfl, rfl, hl1, hv1, hf1⟩); (obtain ⟨A1, c1, rfl, _, _⟩ := hl1.form); (obtain ⟨W3, e3, t0, t1, g3⟩ := store2 (w1 := w1) (V := .slice A1 rws.length c1) (n := .int .i64 T.cols) r0 r1); replace hl1 := Lib.hid hl1; replace hv1 := Lib.hid hv1; replace hf1 := Lib.hid hf1; (refine hK.out _ _ ?_ (fun hHeld => ?_)); (focus ((try dsimp only); (refine ⟨?_, ?_, ?_, ?_, ?_, ?_, ?_⟩ <;> simp [go_sem, g0, g1, p0, p1, a1, a2, a3, a4, a5]); done)); clear hK K; (try simp only [Act.put, List.setIfInBounds_toArray, List.set_cons_zero, List.set_cons_succ]))
  (refine AtF.last (oi := ?_) ?_ ?_ (fun K hK => ?_); rotate_left 1; rfl; kernel_rfl; go_simp; skip; refine hK.out _ _ ?_; clear hK K; (try simp only [Act.put, List.setIfInBounds_toArray, List.set_cons_zero, List.set_cons_succ]))
  have e3' := e3
  go_wp2
  simp [bodyPost, go_sem, t0, t1]
  refine ⟨_, by simp [results, Tryz.f26, go_sem, t0, t1, g3] <;> rfl, ?_⟩
  rw [ext_ext]
  refine hfin.out _ _ _ _ ?_ hv1.out ?_ e3'
  · rw [← ext_ext]; exact hl1.out
  · exact fun b hb => Nat.le_trans (by simp) (hf1.out b hb)
set_option maxRecDepth 100000 in
set_option maxHeartbeats 8000000 in
theorem do_k4 (U : Value) (h : PageAt w F p S) (hS : S.Ok) (h' : RefAt w F U S) (a : ActD) (ha : a.Ok w) (hA : 0 < a.ps.length → ∀ q o, a.pa = some ⟨q, o, none⟩ → ¬ F q) (hB : 0 < a.rw.length → ∀ q o, a.ra = some ⟨q, o, none⟩ → ¬ F q) (hk : a.kd = 4) (h60 : a.rw.length ≤ 60) :
    Calls Tryz.prog 26 #[.pointer (some ⟨p, 0, none⟩), U, a.v] w (DoN F p (doS S a) w) := by
  obtain ⟨kd, n, ⟨t, l, b, r⟩, pr, pc', ⟨cg, cr, ck⟩, pa, pc, ps, ra, rc, rw⟩ := a
  simp only at hk hA hB h60
  subst hk
  have eT : doS S ⟨4, n, ⟨t, l, b, r⟩, pr, pc', ⟨cg, cr, ck⟩, pa, pc, ps, ra, rc, rw⟩ = eachS S (onB S.rows.length S.cols ⟨t, l, b, r⟩) (fun xs l r => movR xs l r (clampR n 0 (cntN xs.length l r 0))) := rfl
  rw [eT]
  clear eT
  obtain ⟨hr1, hc1, hyo, hps, hpl, hpm, hpn, hrw, hrl, hrm, hrn, hro⟩ := ha
  simp only at hr1 hc1 hyo hps hpl hpm hpn hrw hrl hrm hrn hro
  show Calls Tryz.prog 26 #[.pointer (some ⟨p, 0, none⟩), U, .agg #[.int .i64 4, .int .i64 n, .int .i64 t, .int .i64 l, .int .i64 b, .int .i64 r, .int .i64 pr, .int .i64 pc', .int .i32 cg, .int .u8 cr, .bool ck, .slice pa ps.length pc, .slice ra rw.length rc]] w _
  have hV := h'.v
  obtain ⟨A, c, rows, rfl, _, _, _⟩ := hV.op
  have hlt := Lib.hid h.lt
  have PC := Lib.hid (fun w' (hb : Below w.heap.size w w') => right_p (h.grow hb) hS ⟨t, l, b, r⟩ n)
  have RC := Lib.hid (fun w' (hk : Keep F w w') => refshift_c _ ⟨t, l, b, r⟩ (max n 0) (h'.keep hk).v hS)
  rw [eachS_congr (f := shiftF (max n 0)) (g := fun xs l r => movR xs l r (clampR n 0 (cntN xs.length l r 0))) hS (onB S.rows.length S.cols ⟨t, l, b, r⟩) (fun xs hx => shiftF_right n xs _ _ hx)] at RC
  obtain ⟨T, hT⟩ : ∃ T, T = eachS S (onB S.rows.length S.cols ⟨t, l, b, r⟩) (fun xs l r => movR xs l r (clampR n 0 (cntN xs.length l r 0))) := ⟨_, rfl⟩
  rw [← hT] at PC RC ⊢
  clear hT hV h h'
  go_enter Tryz.func26, Tryz.ntmps26
  go_upto_region 13 with ((go_at_call 50); (with_reducible refine (PC.out _ (by (repeat' (first | (with_reducible exact Below.refl _ _) | (with_reducible refine Below.alloc ?_ ?_ _) | (with_reducible refine below_ext ?_ ?_ _) | (with_reducible refine Below.drew ?_) | (with_reducible refine below_drewN ?_ _) | (with_reducible refine Below.setCell ?_ ?_ _) | go_size | (simp only [go_sem]; omega) | (simp [go_sem]; done) | (simp [go_sem]; omega))))).mono ?_); (rintro _ w1 ⟨rfl, hD⟩); replace hD := Lib.hid hD)
  obtain ⟨W0, hW⟩ : ∃ W0, W0 = ((w.alloc (.cells #[.slice A S.rows.length c, .int .i64 S.cols] 27)).alloc (.cells #[.int .i64 4, .int .i64 n, .int .i64 t, .int .i64 l, .int .i64 b, .int .i64 r, .int .i64 pr, .int .i64 pc', .int .i32 cg, .int .u8 cr, .bool ck, .slice pa ps.length pc, .slice ra rw.length rc] 60)).alloc (.cells #[.slice none 0 0, .int .i64 0] 27) := ⟨_, rfl⟩
  have hs0 : W0.heap.size = w.heap.size + 1 + 1 + 1 := by rw [hW]; simp
  have hb0 : Below w.heap.size w W0 := by rw [hW]; (repeat' (first | (with_reducible exact Below.refl _ _) | (with_reducible refine Below.alloc ?_ ?_ _) | (with_reducible refine below_ext ?_ ?_ _) | (with_reducible refine Below.drew ?_) | (with_reducible refine below_drewN ?_ _) | (with_reducible refine Below.setCell ?_ ?_ _) | go_size | (simp only [go_sem]; omega) | (simp [go_sem]; done) | (simp [go_sem]; omega)))
  have p0 : W0.cell? ⟨w.heap.size, 0, none⟩ = some (.slice A S.rows.length c) := by rw [hW]; simp [go_sem]
  have p1 : W0.cell? ⟨w.heap.size, 1, none⟩ = some (.int .i64 S.cols) := by rw [hW]; simp [go_sem]
  have r0 : W0.cell? ⟨w.heap.size + 1 + 1, 0, none⟩ = some (.slice none 0 0) := by rw [hW]; simp [go_sem]
  have r1 : W0.cell? ⟨w.heap.size + 1 + 1, 1, none⟩ = some (.int .i64 0) := by rw [hW]; simp [go_sem]
  have a1 : W0.cell? ⟨w.heap.size + 1, 1, none⟩ = some (.int .i64 n) := by rw [hW]; simp [go_sem]
  have a2 : W0.cell? ⟨w.heap.size + 1, 2, none⟩ = some (.int .i64 t) := by rw [hW]; simp [go_sem]
  have a3 : W0.cell? ⟨w.heap.size + 1, 3, none⟩ = some (.int .i64 l) := by rw [hW]; simp [go_sem]
  have a4 : W0.cell? ⟨w.heap.size + 1, 4, none⟩ = some (.int .i64 b) := by rw [hW]; simp [go_sem]
  have a5 : W0.cell? ⟨w.heap.size + 1, 5, none⟩ = some (.int .i64 r) := by rw [hW]; simp [go_sem]
  have rf : ∀ q, W0.frozen? ⟨w.heap.size + 1 + 1, q, none⟩ = false := by intro q; rw [hW]; simp [go_sem]
  rw [← hW] at hD
  clear hW
  have hbk : ∀ i, i < 3 → w1.heap[w.heap.size + i]? = W0.heap[w.heap.size + i]? := fun i hi => hD.out.1.block _ (by omega) (fun f => by have := hlt.out _ f; omega)
  have b0 := hbk 0 (by omega)
  have b1 := hbk 1 (by omega)
  have b2 := hbk 2 (by omega)
  rw [Nat.add_zero] at b0
  rw [show w.heap.size + 2 = w.heap.size + 1 + 1 by omega] at b2
  replace p0 := (cell_of_heap b0).trans p0
  replace p1 := (cell_of_heap b0).trans p1
  replace r0 := (cell_of_heap b2).trans r0
  replace r1 := (cell_of_heap b2).trans r1
  replace a1 := (cell_of_heap b1).trans a1
  replace a2 := (cell_of_heap b1).trans a2
  replace a3 := (cell_of_heap b1).trans a3
  replace a4 := (cell_of_heap b1).trans a4
  replace a5 := (cell_of_heap b1).trans a5
  have rf0 := (frozen_of_heap b2).trans (rf 0)
  have rf1 := (frozen_of_heap b2).trans (rf 1)
  have hsz := hD.out.1.size
  have g0 : w.heap.size < w1.heap.size := by omega
  have g1 : w.heap.size + 1 < w1.heap.size := by omega
  have g2 : w.heap.size + 1 + 1 < w1.heap.size := by omega
  have hKp : Keep F w w1 := (Keep.of_below (F := F) hb0).trans hD.out.1 (fun b hb => .inl hb)
  have hfin := Lib.hid (fun x V rws W3 hl hv hf e3 => do_fin (x := x) (V := V) (rws := rws) (W3 := W3) (R := w.heap.size + 1 + 1) hD.out hb0 hlt.out (by omega) (by omega) hl hv hf e3)
  replace hKp := Lib.hid hKp
  clear b0 b1 b2 hbk rf hsz hs0
  go_wp2_with ((go_at_call 49); (with_reducible refine (RC.out _ hKp.out).mono ?_); (rintro _ _ ⟨V, rws, x2, rfl, rfl, hl1, hv1, hf1⟩); (obtain ⟨A1, c1, rfl, _, _⟩ := hl1.form); (obtain ⟨W3, e3, t0, t1, g3⟩ := store2 (V := .slice A1 rws.length c1) (n := .int .i64 T.cols) r0 r1); replace hl1 := Lib.hid hl1; replace hv1 := Lib.hid hv1; replace hf1 := Lib.hid hf1)
  simp [bodyPost, go_sem, t0, t1]
  exact ⟨_, by simp [results, Tryz.f26, go_sem, t0, t1, g3] <;> rfl, hfin.out _ _ _ _ hl1.out hv1.out hf1.out e3⟩
end
end Go.Proofs.YtgmbnnmckdjabaaGreat
