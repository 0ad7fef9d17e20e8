/- Pages: acts of both, kind by kind.  -/
import Derived.Test.YtgmbnnmckdjabaaGreatPgF
namespace Go.Proofs.YtgmbnnmckdjabaaGreat
open Go.RowKit
set_option linter.unusedVariables false
set_option linter.unusedSimpArgs false

section
variable {F : Nat → Prop} {p : Nat} {S : PgS} {w : World}
set_option maxRecDepth 100000 in
set_option maxHeartbeats 8000000 in
theorem do_k11 (U : Value) (h : PageAt w F p S) (hS : S.Ok) (h' : RefAt w F U S) (a : ActD) (ha : a.Ok w) (hA : 0 < a.ps.length → ∀ q o, a.pa = some ⟨q, o, none⟩ → ¬ F q) (hB : 0 < a.rw.length → ∀ q o, a.ra = some ⟨q, o, none⟩ → ¬ F q) (hk : a.kd = 11) (h60 : a.rw.length ≤ 60) :
    Calls Tryz.prog 26 #[.pointer (some ⟨p, 0, none⟩), U, a.v] w (DoN F p (doS S a) w) := by
  obtain ⟨kd, n, ⟨t, l, b, r⟩, pr, pc', ⟨cg, cr, ck⟩, pa, pc, ps, ra, rc, rw⟩ := a
  simp only at hk hA hB h60
  subst hk
  have eT : doS S ⟨11, n, ⟨t, l, b, r⟩, pr, pc', ⟨cg, cr, ck⟩, pa, pc, ps, ra, rc, rw⟩ = pasteS S S (onB S.rows.length S.cols ⟨t, l, b, r⟩) pr pc' := rfl
  rw [eT]
  clear eT
  obtain ⟨hr1, hc1, hyo, hps, hpl, hpm, hpn, hrw, hrl, hrm, hrn, hro⟩ := ha
  simp only at hr1 hc1 hyo hps hpl hpm hpn hrw hrl hrm hrn hro
  show Calls Tryz.prog 26 #[.pointer (some ⟨p, 0, none⟩), U, .agg #[.int .i64 11, .int .i64 n, .int .i64 t, .int .i64 l, .int .i64 b, .int .i64 r, .int .i64 pr, .int .i64 pc', .int .i32 cg, .int .u8 cr, .bool ck, .slice pa ps.length pc, .slice ra rw.length rc]] w _
  have hV := h'.v
  obtain ⟨A, c, rows, rfl, _, _, _⟩ := hV.op
  have hlt := Lib.hid h.lt
  have PC := Lib.hid (fun w' (hb : Below w.heap.size w w') => copy_p (h.grow hb) hS (h.grow hb) hS ⟨t, l, b, r⟩ pr pc' hr1 hc1)
  have RC := Lib.hid (fun w' (hk : Keep F w w') => refpaste_c _ _ ⟨t, l, b, r⟩ pr pc' hr1 hc1 (h'.keep hk).v hS (h'.keep hk).v hS)
  obtain ⟨T, hT⟩ : ∃ T, T = pasteS S S (onB S.rows.length S.cols ⟨t, l, b, r⟩) pr pc' := ⟨_, rfl⟩
  rw [← hT] at PC RC ⊢
  clear hT hV h h'
  go_enter Tryz.func26, Tryz.ntmps26
  go_upto_region 34 with ((go_at_call 10); (with_reducible refine (PC.out _ (by (repeat' (first | (with_reducible exact Below.refl _ _) | (with_reducible refine Below.alloc ?_ ?_ _) | (with_reducible refine below_ext ?_ ?_ _) | (with_reducible refine Below.drew ?_) | (with_reducible refine below_drewN ?_ _) | (with_reducible refine Below.setCell ?_ ?_ _) | go_size | (simp only [go_sem]; omega) | (simp [go_sem]; done) | (simp [go_sem]; omega))))).mono ?_); (rintro _ w1 ⟨rfl, hD⟩); replace hD := Lib.hid hD)
  obtain ⟨W0, hW⟩ : ∃ W0, W0 = ((w.alloc (.cells #[.slice A S.rows.length c, .int .i64 S.cols] 27)).alloc (.cells #[.int .i64 11, .int .i64 n, .int .i64 t, .int .i64 l, .int .i64 b, .int .i64 r, .int .i64 pr, .int .i64 pc', .int .i32 cg, .int .u8 cr, .bool ck, .slice pa ps.length pc, .slice ra rw.length rc] 60)).alloc (.cells #[.slice none 0 0, .int .i64 0] 27) := ⟨_, rfl⟩
  have hs0 : W0.heap.size = w.heap.size + 1 + 1 + 1 := by rw [hW]; simp
  have hb0 : Below w.heap.size w W0 := by rw [hW]; (repeat' (first | (with_reducible exact Below.refl _ _) | (with_reducible refine Below.alloc ?_ ?_ _) | (with_reducible refine below_ext ?_ ?_ _) | (with_reducible refine Below.drew ?_) | (with_reducible refine below_drewN ?_ _) | (with_reducible refine Below.setCell ?_ ?_ _) | go_size | (simp only [go_sem]; omega) | (simp [go_sem]; done) | (simp [go_sem]; omega)))
  have p0 : W0.cell? ⟨w.heap.size, 0, none⟩ = some (.slice A S.rows.length c) := by rw [hW]; simp [go_sem]
  have p1 : W0.cell? ⟨w.heap.size, 1, none⟩ = some (.int .i64 S.cols) := by rw [hW]; simp [go_sem]
  have r0 : W0.cell? ⟨w.heap.size + 1 + 1, 0, none⟩ = some (.slice none 0 0) := by rw [hW]; simp [go_sem]
  have r1 : W0.cell? ⟨w.heap.size + 1 + 1, 1, none⟩ = some (.int .i64 0) := by rw [hW]; simp [go_sem]
  have a2 : W0.cell? ⟨w.heap.size + 1, 2, none⟩ = some (.int .i64 t) := by rw [hW]; simp [go_sem]
  have a3 : W0.cell? ⟨w.heap.size + 1, 3, none⟩ = some (.int .i64 l) := by rw [hW]; simp [go_sem]
  have a4 : W0.cell? ⟨w.heap.size + 1, 4, none⟩ = some (.int .i64 b) := by rw [hW]; simp [go_sem]
  have a5 : W0.cell? ⟨w.heap.size + 1, 5, none⟩ = some (.int .i64 r) := by rw [hW]; simp [go_sem]
  have a6 : W0.cell? ⟨w.heap.size + 1, 6, none⟩ = some (.int .i64 pr) := by rw [hW]; simp [go_sem]
  have a7 : W0.cell? ⟨w.heap.size + 1, 7, none⟩ = some (.int .i64 pc') := by rw [hW]; simp [go_sem]
  have rf : ∀ q, W0.frozen? ⟨w.heap.size + 1 + 1, q, none⟩ = false := by intro q; rw [hW]; simp [go_sem]
  rw [← hW] at hD
  clear hW
  have hbk : ∀ i, i < 3 → w1.heap[w.heap.size + i]? = W0.heap[w.heap.size + i]? := fun i hi => hD.out.1.block _ (by omega) (fun f => by have := hlt.out _ f; omega)
  have b0 := hbk 0 (by omega)
  have b1 := hbk 1 (by omega)
  have b2 := hbk 2 (by omega)
  rw [Nat.add_zero] at b0
  rw [show w.heap.size + 2 = w.heap.size + 1 + 1 by omega] at b2
  replace p0 := (cell_of_heap b0).trans p0
  replace p1 := (cell_of_heap b0).trans p1
  replace r0 := (cell_of_heap b2).trans r0
  replace r1 := (cell_of_heap b2).trans r1
  replace a2 := (cell_of_heap b1).trans a2
  replace a3 := (cell_of_heap b1).trans a3
  replace a4 := (cell_of_heap b1).trans a4
  replace a5 := (cell_of_heap b1).trans a5
  replace a6 := (cell_of_heap b1).trans a6
  replace a7 := (cell_of_heap b1).trans a7
  have rf0 := (frozen_of_heap b2).trans (rf 0)
  have rf1 := (frozen_of_heap b2).trans (rf 1)
  have hsz := hD.out.1.size
  have g0 : w.heap.size < w1.heap.size := by omega
  have g1 : w.heap.size + 1 < w1.heap.size := by omega
  have g2 : w.heap.size + 1 + 1 < w1.heap.size := by omega
  have hKp : Keep F w w1 := (Keep.of_below (F := F) hb0).trans hD.out.1 (fun b hb => .inl hb)
  have hfin := Lib.hid (fun x V rws W3 hl hv hf e3 => do_fin (x := x) (V := V) (rws := rws) (W3 := W3) (R := w.heap.size + 1 + 1) hD.out hb0 hlt.out (by omega) (by omega) hl hv hf e3)
  replace hKp := Lib.hid hKp
  clear b0 b1 b2 hbk rf hsz hs0
  go_wp2_with ((go_at_call 57); (with_reducible refine (RC.out _ hKp.out).mono ?_); (rintro _ _ ⟨V, rws, x2, rfl, rfl, hl1, hv1, hf1⟩); (obtain ⟨A1, c1, rfl, _, _⟩ := hl1.form); (obtain ⟨W3, e3, t0, t1, g3⟩ := store2 (V := .slice A1 rws.length c1) (n := .int .i64 T.cols) r0 r1); replace hl1 := Lib.hid hl1; replace hv1 := Lib.hid hv1; replace hf1 := Lib.hid hf1)
  simp [bodyPost, go_sem, t0, t1]
  exact ⟨_, by simp [results, Tryz.f26, go_sem, t0, t1, g3] <;> rfl, hfin.out _ _ _ _ hl1.out hv1.out hf1.out e3⟩
set_option maxRecDepth 100000 in
set_option maxHeartbeats 8000000 in
theorem do_k12 (U : Value) (h : PageAt w F p S) (hS : S.Ok) (h' : RefAt w F U S) (a : ActD) (ha : a.Ok w) (hA : 0 < a.ps.length → ∀ q o, a.pa = some ⟨q, o, none⟩ → ¬ F q) (hB : 0 < a.rw.length → ∀ q o, a.ra = some ⟨q, o, none⟩ → ¬ F q) (hk : a.kd = 12) (h60 : a.rw.length ≤ 60) :
    Calls Tryz.prog 26 #[.pointer (some ⟨p, 0, none⟩), U, a.v] w (DoN F p (doS S a) w) := by
  obtain ⟨kd, n, ⟨t, l, b, r⟩, pr, pc', ⟨cg, cr, ck⟩, pa, pc, ps, ra, rc, rw⟩ := a
  simp only at hk hA hB h60
  subst hk
  have eT : doS S ⟨12, n, ⟨t, l, b, r⟩, pr, pc', ⟨cg, cr, ck⟩, pa, pc, ps, ra, rc, rw⟩ = setLineS S n rw pr := rfl
  rw [eT]
  clear eT
  obtain ⟨hr1, hc1, hyo, hps, hpl, hpm, hpn, hrw, hrl, hrm, hrn, hro⟩ := ha
  simp only at hr1 hc1 hyo hps hpl hpm hpn hrw hrl hrm hrn hro
  show Calls Tryz.prog 26 #[.pointer (some ⟨p, 0, none⟩), U, .agg #[.int .i64 12, .int .i64 n, .int .i64 t, .int .i64 l, .int .i64 b, .int .i64 r, .int .i64 pr, .int .i64 pc', .int .i32 cg, .int .u8 cr, .bool ck, .slice pa ps.length pc, .slice ra rw.length rc]] w _
  have hV := h'.v
  obtain ⟨A, c, rows, rfl, _, _, _⟩ := hV.op
  have hlt := Lib.hid h.lt
  have CE := Lib.hid (fun w' (hb : Below w.heap.size w w') => cells_c ra rc rw w' (hrw.below hb) (by omega) (by simp [maxLen]; omega))
  have PC := Lib.hid (fun w' (hb : Below w.heap.size w w') => (fun A5 c5 (rd : Rd encC 3 w' A5 rw) => setline_p (h.grow hb) hS n A5 c5 pr rw rd))
  have RC := Lib.hid (fun w' (hk : Keep F w w') => refset_c _ n ra rc rw pr (h'.keep hk).v hS (Rd.keep' hrw hk hB) (by omega))
  obtain ⟨T, hT⟩ : ∃ T, T = setLineS S n rw pr := ⟨_, rfl⟩
  rw [← hT] at PC RC ⊢
  clear hT hV h h'
  go_enter Tryz.func26, Tryz.ntmps26
  go_upto_region 36 with fail
  (refine wp_region_F (S := (fun w' => w'.cell? ⟨w.heap.size + 1, 1, none⟩ = some (.int .i64 n) ∧ w'.cell? ⟨w.heap.size + 1, 6, none⟩ = some (.int .i64 pr) ∧ w'.cell? ⟨w.heap.size + 1, 12, none⟩ = some (.slice ra rw.length rc))) 10 [false, false, false, false, false, false, false, false, false, false, false] rfl rfl (by kernel_rfl) ?_ (fun hHeld => ?_); (focus ((try dsimp only); (refine ⟨?_, ?_, ?_⟩ <;> simp [go_sem]); done)))
  ((refine AtF.take (oi := ?_) (v := ?_) 0 ?_ ?_ ?_ ?_ (Or.inl ⟨?_, ?_⟩) (by assumption) ?_; rotate_left 2; rfl; kernel_rfl; kernel_rfl; exact (fun _ _ _ h => h); rfl; (focus (intro w hSw; (try dsimp only at hSw); go_simp; (try with_reducible rfl); done)); (try simp only [Act.put, List.setIfInBounds_toArray, List.set_cons_zero, List.set_cons_succ])); (refine AtF.take (oi := ?_) (v := ?_) 1 ?_ ?_ ?_ ?_ (Or.inl ⟨?_, ?_⟩) (by assumption) ?_; rotate_left 2; rfl; kernel_rfl; kernel_rfl; exact (fun _ _ _ h => h); rfl; (focus (intro w hSw; (try dsimp only at hSw); go_simp; (try with_reducible rfl); done)); (try simp only [Act.put, List.setIfInBounds_toArray, List.set_cons_zero, List.set_cons_succ])); (refine AtF.take (oi := ?_) (v := ?_) 2 ?_ ?_ ?_ ?_ (Or.inl ⟨?_, ?_⟩) (by assumption) ?_; rotate_left 2; rfl; kernel_rfl; kernel_rfl; exact (fun _ _ _ h => h); rfl; (focus (intro w hSw; (try dsimp only at hSw); go_simp; (try with_reducible rfl); done)); (try simp only [Act.put, List.setIfInBounds_toArray, List.set_cons_zero, List.set_cons_succ])); (refine AtF.take (oi := ?_) (v := ?_) 3 ?_ ?_ ?_ ?_ (Or.inl ⟨?_, ?_⟩) (by assumption) ?_; rotate_left 2; rfl; kernel_rfl; kernel_rfl; exact (fun _ _ _ h => h); rfl; (focus (intro w hSw; (try dsimp only at hSw); go_simp; (try with_reducible rfl); done)); (try simp only [Act.put, List.setIfInBounds_toArray, List.set_cons_zero, List.set_cons_succ])); (refine AtF.take (oi := ?_) (v := ?_) 4 ?_ ?_ ?_ ?_ (Or.inl ⟨?_, ?_⟩) (by assumption) ?_; rotate_left 2; rfl; kernel_rfl; kernel_rfl; exact (fun _ _ _ h => h); rfl; (focus (intro w hSw; (try dsimp only at hSw); go_simp; (try with_reducible rfl); done)); (try simp only [Act.put, List.setIfInBounds_toArray, List.set_cons_zero, List.set_cons_succ])); (refine AtF.take (oi := ?_) (v := ?_) 6 ?_ ?_ ?_ ?_ (Or.inl ⟨?_, ?_⟩) (by assumption) ?_; rotate_left 2; rfl; kernel_rfl; kernel_rfl; exact (fun _ _ _ h => h); rfl; (focus (intro w hSw; (try dsimp only at hSw); go_simp; (try with_reducible rfl); done)); (try simp only [Act.put, List.setIfInBounds_toArray, List.set_cons_zero, List.set_cons_succ])); (refine AtF.take (oi := ?_) (v := ?_) 7 ?_ ?_ ?_ ?_ (Or.inl ⟨?_, ?_⟩) (by assumption) ?_; rotate_left 2; rfl; kernel_rfl; kernel_rfl; exact (fun _ _ _ h => h); rfl; (focus (intro w hSw; (try dsimp only at hSw); go_simp; (try with_reducible rfl); done)); (try simp only [Act.put, List.setIfInBounds_toArray, List.set_cons_zero, List.set_cons_succ])); (refine AtF.take (oi := ?_) (v := ?_) 8 ?_ ?_ ?_ ?_ (Or.inl ⟨?_, ?_⟩) (by assumption) ?_; rotate_left 2; rfl; kernel_rfl; kernel_rfl; exact (fun _ _ _ h => h); rfl; (focus (intro w hSw; (try dsimp only at hSw); go_simp; (try with_reducible rfl); done)); (try simp only [Act.put, List.setIfInBounds_toArray, List.set_cons_zero, List.set_cons_succ])))
  (refine AtF.only (oi := ?_) 5 ?_ ?_ (fun K hK => ?_); rotate_left 1; rfl; kernel_rfl; (try go_simp); (go_at_call 59); (with_reducible refine (CE.out _ (by (repeat' (first | (with_reducible exact Below.refl _ _) | (with_reducible refine Below.alloc ?_ ?_ _) | (with_reducible refine below_ext ?_ ?_ _) | (with_reducible refine Below.drew ?_) | (with_reducible refine below_drewN ?_ _) | (with_reducible refine Below.setCell ?_ ?_ _) | go_size | (simp only [go_sem]; omega) | (simp [go_sem]; done) | (simp [go_sem]; omega))))).mono ?_); (rintro _ _ ⟨A5, c5, x5, rfl, rfl, hO5⟩); replace hO5 := Lib.hid (hO5.rd encC_len); (try simp only [ext_drew] at hO5); (refine hK.out _ _ ?_ (fun hHeld => ?_)); (focus ((try dsimp only); (refine ⟨?_, ?_, ?_⟩ <;> simp [go_sem]); done)); clear hK K; (try simp only [Act.put, List.setIfInBounds_toArray, List.set_cons_zero, List.set_cons_succ]))
  ((refine AtF.take (oi := ?_) (v := ?_) 9 ?_ ?_ ?_ ?_ (Or.inl ⟨?_, ?_⟩) (by assumption) ?_; rotate_left 2; rfl; kernel_rfl; kernel_rfl; exact (fun _ _ _ h => h); rfl; (focus (intro w hSw; (try dsimp only at hSw); go_simp; (try with_reducible rfl); done)); (try simp only [Act.put, List.setIfInBounds_toArray, List.set_cons_zero, List.set_cons_succ])))
  (refine AtF.last (oi := ?_) ?_ ?_ (fun K hK => ?_); rotate_left 1; rfl; kernel_rfl; go_simp; (go_at_call 58); (with_reducible refine (PC.out _ (by (repeat' (first | (with_reducible exact Below.refl _ _) | (with_reducible refine Below.alloc ?_ ?_ _) | (with_reducible refine below_ext ?_ ?_ _) | (with_reducible refine Below.drew ?_) | (with_reducible refine below_drewN ?_ _) | (with_reducible refine Below.setCell ?_ ?_ _) | go_size | (simp only [go_sem]; omega) | (simp [go_sem]; done) | (simp [go_sem]; omega)))) A5 c5 hO5.out).mono ?_); (rintro _ w1 ⟨rfl, hD⟩); replace hD := Lib.hid hD; refine hK.out _ _ ?_; clear hK K; (try simp only [Act.put, List.setIfInBounds_toArray, List.set_cons_zero, List.set_cons_succ]))
  go_upto_region 37 with fail
  obtain ⟨W0, hW⟩ : ∃ W0, W0 = ext (((w.alloc (.cells #[.slice A S.rows.length c, .int .i64 S.cols] 27)).alloc (.cells #[.int .i64 12, .int .i64 n, .int .i64 t, .int .i64 l, .int .i64 b, .int .i64 r, .int .i64 pr, .int .i64 pc', .int .i32 cg, .int .u8 cr, .bool ck, .slice pa ps.length pc, .slice ra rw.length rc] 60)).alloc (.cells #[.slice none 0 0, .int .i64 0] 27)) x5 := ⟨_, rfl⟩
  have hs0 : W0.heap.size = w.heap.size + 1 + 1 + 1 + x5.sz := by rw [hW]; simp
  have hb0 : Below w.heap.size w W0 := by rw [hW]; (repeat' (first | (with_reducible exact Below.refl _ _) | (with_reducible refine Below.alloc ?_ ?_ _) | (with_reducible refine below_ext ?_ ?_ _) | (with_reducible refine Below.drew ?_) | (with_reducible refine below_drewN ?_ _) | (with_reducible refine Below.setCell ?_ ?_ _) | go_size | (simp only [go_sem]; omega) | (simp [go_sem]; done) | (simp [go_sem]; omega)))
  have p0 : W0.cell? ⟨w.heap.size, 0, none⟩ = some (.slice A S.rows.length c) := by rw [hW]; simp [go_sem]
  have p1 : W0.cell? ⟨w.heap.size, 1, none⟩ = some (.int .i64 S.cols) := by rw [hW]; simp [go_sem]
  have r0 : W0.cell? ⟨w.heap.size + 1 + 1, 0, none⟩ = some (.slice none 0 0) := by rw [hW]; simp [go_sem]
  have r1 : W0.cell? ⟨w.heap.size + 1 + 1, 1, none⟩ = some (.int .i64 0) := by rw [hW]; simp [go_sem]
  have a1 : W0.cell? ⟨w.heap.size + 1, 1, none⟩ = some (.int .i64 n) := by rw [hW]; simp [go_sem]
  have a6 : W0.cell? ⟨w.heap.size + 1, 6, none⟩ = some (.int .i64 pr) := by rw [hW]; simp [go_sem]
  have a12 : W0.cell? ⟨w.heap.size + 1, 12, none⟩ = some (.slice ra rw.length rc) := by rw [hW]; simp [go_sem]
  have rf : ∀ q, W0.frozen? ⟨w.heap.size + 1 + 1, q, none⟩ = false := by intro q; rw [hW]; simp [go_sem]
  rw [← hW] at hD
  clear hW
  have hbk : ∀ i, i < 3 → w1.heap[w.heap.size + i]? = W0.heap[w.heap.size + i]? := fun i hi => hD.out.1.block _ (by omega) (fun f => by have := hlt.out _ f; omega)
  have b0 := hbk 0 (by omega)
  have b1 := hbk 1 (by omega)
  have b2 := hbk 2 (by omega)
  rw [Nat.add_zero] at b0
  rw [show w.heap.size + 2 = w.heap.size + 1 + 1 by omega] at b2
  replace p0 := (cell_of_heap b0).trans p0
  replace p1 := (cell_of_heap b0).trans p1
  replace r0 := (cell_of_heap b2).trans r0
  replace r1 := (cell_of_heap b2).trans r1
  replace a1 := (cell_of_heap b1).trans a1
  replace a6 := (cell_of_heap b1).trans a6
  replace a12 := (cell_of_heap b1).trans a12
  have rf0 := (frozen_of_heap b2).trans (rf 0)
  have rf1 := (frozen_of_heap b2).trans (rf 1)
  have hsz := hD.out.1.size
  have g0 : w.heap.size < w1.heap.size := by omega
  have g1 : w.heap.size + 1 < w1.heap.size := by omega
  have g2 : w.heap.size + 1 + 1 < w1.heap.size := by omega
  have hKp : Keep F w w1 := (Keep.of_below (F := F) hb0).trans hD.out.1 (fun b hb => .inl hb)
  have hfin := Lib.hid (fun x V rws W3 hl hv hf e3 => do_fin (x := x) (V := V) (rws := rws) (W3 := W3) (R := w.heap.size + 1 + 1) hD.out hb0 hlt.out (by omega) (by omega) hl hv hf e3)
  replace hKp := Lib.hid hKp
  clear b0 b1 b2 hbk rf hsz hs0
  go_wp2_with ((go_at_call 60); (with_reducible refine (RC.out _ hKp.out).mono ?_); (rintro _ _ ⟨V, rws, x2, rfl, rfl, hl1, hv1, hf1⟩); (obtain ⟨A1, c1, rfl, _, _⟩ := hl1.form); (obtain ⟨W3, e3, t0, t1, g3⟩ := store2 (V := .slice A1 rws.length c1) (n := .int .i64 T.cols) r0 r1); replace hl1 := Lib.hid hl1; replace hv1 := Lib.hid hv1; replace hf1 := Lib.hid hf1)
  simp [bodyPost, go_sem, t0, t1]
  exact ⟨_, by simp [results, Tryz.f26, go_sem, t0, t1, g3] <;> rfl, hfin.out _ _ _ _ hl1.out hv1.out hf1.out e3⟩
set_option maxRecDepth 100000 in
set_option maxHeartbeats 8000000 in
theorem do_k13 (U : Value) (h : PageAt w F p S) (hS : S.Ok) (h' : RefAt w F U S) (a : ActD) (ha : a.Ok w) (hA : 0 < a.ps.length → ∀ q o, a.pa = some ⟨q, o, none⟩ → ¬ F q) (hB : 0 < a.rw.length → ∀ q o, a.ra = some ⟨q, o, none⟩ → ¬ F q) (hk : a.kd = 13) (h60 : a.rw.length ≤ 60) :
    Calls Tryz.prog 26 #[.pointer (some ⟨p, 0, none⟩), U, a.v] w (DoN F p (doS S a) w) := by
  obtain ⟨kd, n, ⟨t, l, b, r⟩, pr, pc', ⟨cg, cr, ck⟩, pa, pc, ps, ra, rc, rw⟩ := a
  simp only at hk hA hB h60
  subst hk
  have eT : doS S ⟨13, n, ⟨t, l, b, r⟩, pr, pc', ⟨cg, cr, ck⟩, pa, pc, ps, ra, rc, rw⟩ = putS S pr pc' ⟨cg, cr, ck⟩ := rfl
  rw [eT]
  clear eT
  obtain ⟨hr1, hc1, hyo, hps, hpl, hpm, hpn, hrw, hrl, hrm, hrn, hro⟩ := ha
  simp only at hr1 hc1 hyo hps hpl hpm hpn hrw hrl hrm hrn hro
  show Calls Tryz.prog 26 #[.pointer (some ⟨p, 0, none⟩), U, .agg #[.int .i64 13, .int .i64 n, .int .i64 t, .int .i64 l, .int .i64 b, .int .i64 r, .int .i64 pr, .int .i64 pc', .int .i32 cg, .int .u8 cr, .bool ck, .slice pa ps.length pc, .slice ra rw.length rc]] w _
  have hV := h'.v
  obtain ⟨A, c, rows, rfl, _, _, _⟩ := hV.op
  have hlt := Lib.hid h.lt
  have PC := Lib.hid (fun w' (hb : Below w.heap.size w w') => put_p (h.grow hb) hS pr pc' ⟨cg, cr, ck⟩)
  have RC := Lib.hid (fun w' (hk : Keep F w w') => refput_c _ S pr pc' ⟨cg, cr, ck⟩ w' (h'.keep hk).v hS)
  obtain ⟨T, hT⟩ : ∃ T, T = putS S pr pc' ⟨cg, cr, ck⟩ := ⟨_, rfl⟩
  rw [← hT] at PC RC ⊢
  clear hT hV h h'
  go_enter Tryz.func26, Tryz.ntmps26
  go_upto_region 40 with ((go_at_call 61); (with_reducible refine (PC.out _ (by (repeat' (first | (with_reducible exact Below.refl _ _) | (with_reducible refine Below.alloc ?_ ?_ _) | (with_reducible refine below_ext ?_ ?_ _) | (with_reducible refine Below.drew ?_) | (with_reducible refine below_drewN ?_ _) | (with_reducible refine Below.setCell ?_ ?_ _) | go_size | (simp only [go_sem]; omega) | (simp [go_sem]; done) | (simp [go_sem]; omega))))).mono ?_); (rintro _ w1 ⟨rfl, hD⟩); replace hD := Lib.hid hD)
  obtain ⟨W0, hW⟩ : ∃ W0, W0 = ((w.alloc (.cells #[.slice A S.rows.length c, .int .i64 S.cols] 27)).alloc (.cells #[.int .i64 13, .int .i64 n, .int .i64 t, .int .i64 l, .int .i64 b, .int .i64 r, .int .i64 pr, .int .i64 pc', .int .i32 cg, .int .u8 cr, .bool ck, .slice pa ps.length pc, .slice ra rw.length rc] 60)).alloc (.cells #[.slice none 0 0, .int .i64 0] 27) := ⟨_, rfl⟩
  have hs0 : W0.heap.size = w.heap.size + 1 + 1 + 1 := by rw [hW]; simp
  have hb0 : Below w.heap.size w W0 := by rw [hW]; (repeat' (first | (with_reducible exact Below.refl _ _) | (with_reducible refine Below.alloc ?_ ?_ _) | (with_reducible refine below_ext ?_ ?_ _) | (with_reducible refine Below.drew ?_) | (with_reducible refine below_drewN ?_ _) | (with_reducible refine Below.setCell ?_ ?_ _) | go_size | (simp only [go_sem]; omega) | (simp [go_sem]; done) | (simp [go_sem]; omega)))
  have p0 : W0.cell? ⟨w.heap.size, 0, none⟩ = some (.slice A S.rows.length c) := by rw [hW]; simp [go_sem]
  have p1 : W0.cell? ⟨w.heap.size, 1, none⟩ = some (.int .i64 S.cols) := by rw [hW]; simp [go_sem]
  have r0 : W0.cell? ⟨w.heap.size + 1 + 1, 0, none⟩ = some (.slice none 0 0) := by rw [hW]; simp [go_sem]
  have r1 : W0.cell? ⟨w.heap.size + 1 + 1, 1, none⟩ = some (.int .i64 0) := by rw [hW]; simp [go_sem]
  have a6 : W0.cell? ⟨w.heap.size + 1, 6, none⟩ = some (.int .i64 pr) := by rw [hW]; simp [go_sem]
  have a7 : W0.cell? ⟨w.heap.size + 1, 7, none⟩ = some (.int .i64 pc') := by rw [hW]; simp [go_sem]
  have a8 : W0.cell? ⟨w.heap.size + 1, 8, none⟩ = some (.int .i32 cg) := by rw [hW]; simp [go_sem]
  have a9 : W0.cell? ⟨w.heap.size + 1, 9, none⟩ = some (.int .u8 cr) := by rw [hW]; simp [go_sem]
  have a10 : W0.cell? ⟨w.heap.size + 1, 10, none⟩ = some (.bool ck) := by rw [hW]; simp [go_sem]
  have rf : ∀ q, W0.frozen? ⟨w.heap.size + 1 + 1, q, none⟩ = false := by intro q; rw [hW]; simp [go_sem]
  rw [← hW] at hD
  clear hW
  have hbk : ∀ i, i < 3 → w1.heap[w.heap.size + i]? = W0.heap[w.heap.size + i]? := fun i hi => hD.out.1.block _ (by omega) (fun f => by have := hlt.out _ f; omega)
  have b0 := hbk 0 (by omega)
  have b1 := hbk 1 (by omega)
  have b2 := hbk 2 (by omega)
  rw [Nat.add_zero] at b0
  rw [show w.heap.size + 2 = w.heap.size + 1 + 1 by omega] at b2
  replace p0 := (cell_of_heap b0).trans p0
  replace p1 := (cell_of_heap b0).trans p1
  replace r0 := (cell_of_heap b2).trans r0
  replace r1 := (cell_of_heap b2).trans r1
  replace a6 := (cell_of_heap b1).trans a6
  replace a7 := (cell_of_heap b1).trans a7
  replace a8 := (cell_of_heap b1).trans a8
  replace a9 := (cell_of_heap b1).trans a9
  replace a10 := (cell_of_heap b1).trans a10
  have rf0 := (frozen_of_heap b2).trans (rf 0)
  have rf1 := (frozen_of_heap b2).trans (rf 1)
  have hsz := hD.out.1.size
  have g0 : w.heap.size < w1.heap.size := by omega
  have g1 : w.heap.size + 1 < w1.heap.size := by omega
  have g2 : w.heap.size + 1 + 1 < w1.heap.size := by omega
  have hKp : Keep F w w1 := (Keep.of_below (F := F) hb0).trans hD.out.1 (fun b hb => .inl hb)
  have hfin := Lib.hid (fun x V rws W3 hl hv hf e3 => do_fin (x := x) (V := V) (rws := rws) (W3 := W3) (R := w.heap.size + 1 + 1) hD.out hb0 hlt.out (by omega) (by omega) hl hv hf e3)
  replace hKp := Lib.hid hKp
  clear b0 b1 b2 hbk rf hsz hs0
  go_wp2_with ((go_at_call 62); (with_reducible refine (RC.out _ hKp.out).mono ?_); (rintro _ _ ⟨V, rws, x2, rfl, rfl, hl1, hv1, hf1⟩); (obtain ⟨A1, c1, rfl, _, _⟩ := hl1.form); (obtain ⟨W3, e3, t0, t1, g3⟩ := store2 (V := .slice A1 rws.length c1) (n := .int .i64 T.cols) r0 r1); replace hl1 := Lib.hid hl1; replace hv1 := Lib.hid hv1; replace hf1 := Lib.hid hf1)
  simp [bodyPost, go_sem, t0, t1]
  exact ⟨_, by simp [results, Tryz.f26, go_sem, t0, t1, g3] <;> rfl, hfin.out _ _ _ _ hl1.out hv1.out hf1.out e3⟩
set_option maxRecDepth 100000 in
set_option maxHeartbeats 8000000 in
theorem do_k14 (U : Value) (h : PageAt w F p S) (hS : S.Ok) (h' : RefAt w F U S) (a : ActD) (ha : a.Ok w) (hA : 0 < a.ps.length → ∀ q o, a.pa = some ⟨q, o, none⟩ → ¬ F q) (hB : 0 < a.rw.length → ∀ q o, a.ra = some ⟨q, o, none⟩ → ¬ F q) (hk : a.kd = 14) (h60 : a.rw.length ≤ 60) :
    Calls Tryz.prog 26 #[.pointer (some ⟨p, 0, none⟩), U, a.v] w (DoN F p (doS S a) w) := by
  obtain ⟨kd, n, ⟨t, l, b, r⟩, pr, pc', ⟨cg, cr, ck⟩, pa, pc, ps, ra, rc, rw⟩ := a
  simp only at hk hA hB h60
  subst hk
  have eT : doS S ⟨14, n, ⟨t, l, b, r⟩, pr, pc', ⟨cg, cr, ck⟩, pa, pc, ps, ra, rc, rw⟩ = resizeS S n pc' := rfl
  rw [eT]
  clear eT
  obtain ⟨hr1, hc1, hyo, hps, hpl, hpm, hpn, hrw, hrl, hrm, hrn, hro⟩ := ha
  simp only at hr1 hc1 hyo hps hpl hpm hpn hrw hrl hrm hrn hro
  show Calls Tryz.prog 26 #[.pointer (some ⟨p, 0, none⟩), U, .agg #[.int .i64 14, .int .i64 n, .int .i64 t, .int .i64 l, .int .i64 b, .int .i64 r, .int .i64 pr, .int .i64 pc', .int .i32 cg, .int .u8 cr, .bool ck, .slice pa ps.length pc, .slice ra rw.length rc]] w _
  have hV := h'.v
  obtain ⟨A, c, rows, rfl, _, _, _⟩ := hV.op
  have hlt := Lib.hid h.lt
  have PC := Lib.hid (fun w' (hb : Below w.heap.size w w') => resize_p F p S n pc' w' (h.grow hb))
  have RC := Lib.hid (fun w' (hk : Keep F w w') => refresize_c _ n pc' (h'.keep hk).v (fun r hr => (hS.small r hr).2) (by have := hS.r2; omega))
  obtain ⟨T, hT⟩ : ∃ T, T = resizeS S n pc' := ⟨_, rfl⟩
  rw [← hT] at PC RC ⊢
  clear hT hV h h'
  go_enter Tryz.func26, Tryz.ntmps26
  go_upto_region 43 with ((go_at_call 36); (with_reducible refine (PC.out _ (by (repeat' (first | (with_reducible exact Below.refl _ _) | (with_reducible refine Below.alloc ?_ ?_ _) | (with_reducible refine below_ext ?_ ?_ _) | (with_reducible refine Below.drew ?_) | (with_reducible refine below_drewN ?_ _) | (with_reducible refine Below.setCell ?_ ?_ _) | go_size | (simp only [go_sem]; omega) | (simp [go_sem]; done) | (simp [go_sem]; omega))))).mono ?_); (rintro _ w1 ⟨rfl, hD⟩); replace hD := Lib.hid hD)
  obtain ⟨W0, hW⟩ : ∃ W0, W0 = ((w.alloc (.cells #[.slice A S.rows.length c, .int .i64 S.cols] 27)).alloc (.cells #[.int .i64 14, .int .i64 n, .int .i64 t, .int .i64 l, .int .i64 b, .int .i64 r, .int .i64 pr, .int .i64 pc', .int .i32 cg, .int .u8 cr, .bool ck, .slice pa ps.length pc, .slice ra rw.length rc] 60)).alloc (.cells #[.slice none 0 0, .int .i64 0] 27) := ⟨_, rfl⟩
  have hs0 : W0.heap.size = w.heap.size + 1 + 1 + 1 := by rw [hW]; simp
  have hb0 : Below w.heap.size w W0 := by rw [hW]; (repeat' (first | (with_reducible exact Below.refl _ _) | (with_reducible refine Below.alloc ?_ ?_ _) | (with_reducible refine below_ext ?_ ?_ _) | (with_reducible refine Below.drew ?_) | (with_reducible refine below_drewN ?_ _) | (with_reducible refine Below.setCell ?_ ?_ _) | go_size | (simp only [go_sem]; omega) | (simp [go_sem]; done) | (simp [go_sem]; omega)))
  have p0 : W0.cell? ⟨w.heap.size, 0, none⟩ = some (.slice A S.rows.length c) := by rw [hW]; simp [go_sem]
  have p1 : W0.cell? ⟨w.heap.size, 1, none⟩ = some (.int .i64 S.cols) := by rw [hW]; simp [go_sem]
  have r0 : W0.cell? ⟨w.heap.size + 1 + 1, 0, none⟩ = some (.slice none 0 0) := by rw [hW]; simp [go_sem]
  have r1 : W0.cell? ⟨w.heap.size + 1 + 1, 1, none⟩ = some (.int .i64 0) := by rw [hW]; simp [go_sem]
  have a1 : W0.cell? ⟨w.heap.size + 1, 1, none⟩ = some (.int .i64 n) := by rw [hW]; simp [go_sem]
  have a7 : W0.cell? ⟨w.heap.size + 1, 7, none⟩ = some (.int .i64 pc') := by rw [hW]; simp [go_sem]
  have rf : ∀ q, W0.frozen? ⟨w.heap.size + 1 + 1, q, none⟩ = false := by intro q; rw [hW]; simp [go_sem]
  rw [← hW] at hD
  clear hW
  have hbk : ∀ i, i < 3 → w1.heap[w.heap.size + i]? = W0.heap[w.heap.size + i]? := fun i hi => hD.out.1.block _ (by omega) (fun f => by have := hlt.out _ f; omega)
  have b0 := hbk 0 (by omega)
  have b1 := hbk 1 (by omega)
  have b2 := hbk 2 (by omega)
  rw [Nat.add_zero] at b0
  rw [show w.heap.size + 2 = w.heap.size + 1 + 1 by omega] at b2
  replace p0 := (cell_of_heap b0).trans p0
  replace p1 := (cell_of_heap b0).trans p1
  replace r0 := (cell_of_heap b2).trans r0
  replace r1 := (cell_of_heap b2).trans r1
  replace a1 := (cell_of_heap b1).trans a1
  replace a7 := (cell_of_heap b1).trans a7
  have rf0 := (frozen_of_heap b2).trans (rf 0)
  have rf1 := (frozen_of_heap b2).trans (rf 1)
  have hsz := hD.out.1.size
  have g0 : w.heap.size < w1.heap.size := by omega
  have g1 : w.heap.size + 1 < w1.heap.size := by omega
  have g2 : w.heap.size + 1 + 1 < w1.heap.size := by omega
  have hKp : Keep F w w1 := (Keep.of_below (F := F) hb0).trans hD.out.1 (fun b hb => .inl hb)
  have hfin := Lib.hid (fun x V rws W3 hl hv hf e3 => do_fin (x := x) (V := V) (rws := rws) (W3 := W3) (R := w.heap.size + 1 + 1) hD.out hb0 hlt.out (by omega) (by omega) hl hv hf e3)
  replace hKp := Lib.hid hKp
  clear b0 b1 b2 hbk rf hsz hs0
  go_wp2_with ((go_at_call 46); (with_reducible refine (RC.out _ hKp.out).mono ?_); (rintro _ _ ⟨V, rws, x2, rfl, rfl, hl1, hv1, hf1⟩); (obtain ⟨A1, c1, rfl, _, _⟩ := hl1.form); (obtain ⟨W3, e3, t0, t1, g3⟩ := store2 (V := .slice A1 rws.length c1) (n := .int .i64 T.cols) r0 r1); replace hl1 := Lib.hid hl1; replace hv1 := Lib.hid hv1; replace hf1 := Lib.hid hf1)
  simp [bodyPost, go_sem, t0, t1]
  exact ⟨_, by simp [results, Tryz.f26, go_sem, t0, t1, g3] <;> rfl, hfin.out _ _ _ _ hl1.out hv1.out hf1.out e3⟩
end
end Go.Proofs.YtgmbnnmckdjabaaGreat
