/- Pages: acts of both, kind by kind.  -/
import Derived.Test.YtgmbnnmckdjabaaGreatPgF
namespace Go.Proofs.YtgmbnnmckdjabaaGreat
open Go.RowKit
set_option linter.unusedVariables false
set_option linter.unusedSimpArgs false

section
variable {F : Nat → Prop} {p : Nat} {S : PgS} {w : World}
set_option maxRecDepth 100000 in
set_option maxHeartbeats 8000000 in
theorem do_k5 (U : Value) (h : PageAt w F p S) (hS : S.Ok) (h' : RefAt w F U S) (a : ActD) (ha : a.Ok w) (hA : 0 < a.ps.length → ∀ q o, a.pa = some ⟨q, o, none⟩ → ¬ F q) (hB : 0 < a.rw.length → ∀ q o, a.ra = some ⟨q, o, none⟩ → ¬ F q) (hk : a.kd = 5) (h60 : a.rw.length ≤ 60) :
    Calls Tryz.prog 26 #[.pointer (some ⟨p, 0, none⟩), U, a.v] w (DoN F p (doS S a) w) := by
  obtain ⟨kd, n, ⟨t, l, b, r⟩, pr, pc', ⟨cg, cr, ck⟩, pa, pc, ps, ra, rc, rw⟩ := a
  simp only at hk hA hB h60
  subst hk
  have eT : doS S ⟨5, n, ⟨t, l, b, r⟩, pr, pc', ⟨cg, cr, ck⟩, pa, pc, ps, ra, rc, rw⟩ = eachS S (onB S.rows.length S.cols ⟨t, l, b, r⟩) (fun xs l r => eachR xs l r (fun _ => ⟨cg, cr, ck⟩)) := rfl
  rw [eT]
  clear eT
  obtain ⟨hr1, hc1, hyo, hps, hpl, hpm, hpn, hrw, hrl, hrm, hrn, hro⟩ := ha
  simp only at hr1 hc1 hyo hps hpl hpm hpn hrw hrl hrm hrn hro
  show Calls Tryz.prog 26 #[.pointer (some ⟨p, 0, none⟩), U, .agg #[.int .i64 5, .int .i64 n, .int .i64 t, .int .i64 l, .int .i64 b, .int .i64 r, .int .i64 pr, .int .i64 pc', .int .i32 cg, .int .u8 cr, .bool ck, .slice pa ps.length pc, .slice ra rw.length rc]] w _
  have hV := h'.v
  obtain ⟨A, c, rows, rfl, _, _, _⟩ := hV.op
  have hlt := Lib.hid h.lt
  have PC := Lib.hid (fun w' (hb : Below w.heap.size w w') => fill_p (h.grow hb) hS ⟨t, l, b, r⟩ ⟨cg, cr, ck⟩)
  have RC := Lib.hid (fun w' (hk : Keep F w w') => refeach_c 1 _ ⟨t, l, b, r⟩ ⟨cg, cr, ck⟩ (.slice none 0 0) ((fun _ => ⟨cg, cr, ck⟩)) (h'.keep hk).v hS (fun y hy w'' hb => one_r 1 ⟨cg, cr, ck⟩ none 0 [] ((fun _ => ⟨cg, cr, ck⟩)) (Deed.fill _ _) y w'' hy (fun h => by simp at h) (by simp)))
  obtain ⟨T, hT⟩ : ∃ T, T = eachS S (onB S.rows.length S.cols ⟨t, l, b, r⟩) (fun xs l r => eachR xs l r (fun _ => ⟨cg, cr, ck⟩)) := ⟨_, rfl⟩
  rw [← hT] at PC RC ⊢
  clear hT hV h h'
  go_enter Tryz.func26, Tryz.ntmps26
  go_upto_region 16 with ((go_at_call 51); (with_reducible refine (PC.out _ (by (repeat' (first | (with_reducible exact Below.refl _ _) | (with_reducible refine Below.alloc ?_ ?_ _) | (with_reducible refine below_ext ?_ ?_ _) | (with_reducible refine Below.drew ?_) | (with_reducible refine below_drewN ?_ _) | (with_reducible refine Below.setCell ?_ ?_ _) | go_size | (simp only [go_sem]; omega) | (simp [go_sem]; done) | (simp [go_sem]; omega))))).mono ?_); (rintro _ w1 ⟨rfl, hD⟩); replace hD := Lib.hid hD)
  obtain ⟨W0, hW⟩ : ∃ W0, W0 = ((w.alloc (.cells #[.slice A S.rows.length c, .int .i64 S.cols] 27)).alloc (.cells #[.int .i64 5, .int .i64 n, .int .i64 t, .int .i64 l, .int .i64 b, .int .i64 r, .int .i64 pr, .int .i64 pc', .int .i32 cg, .int .u8 cr, .bool ck, .slice pa ps.length pc, .slice ra rw.length rc] 60)).alloc (.cells #[.slice none 0 0, .int .i64 0] 27) := ⟨_, rfl⟩
  have hs0 : W0.heap.size = w.heap.size + 1 + 1 + 1 := by rw [hW]; simp
  have hb0 : Below w.heap.size w W0 := by rw [hW]; (repeat' (first | (with_reducible exact Below.refl _ _) | (with_reducible refine Below.alloc ?_ ?_ _) | (with_reducible refine below_ext ?_ ?_ _) | (with_reducible refine Below.drew ?_) | (with_reducible refine below_drewN ?_ _) | (with_reducible refine Below.setCell ?_ ?_ _) | go_size | (simp only [go_sem]; omega) | (simp [go_sem]; done) | (simp [go_sem]; omega)))
  have p0 : W0.cell? ⟨w.heap.size, 0, none⟩ = some (.slice A S.rows.length c) := by rw [hW]; simp [go_sem]
  have p1 : W0.cell? ⟨w.heap.size, 1, none⟩ = some (.int .i64 S.cols) := by rw [hW]; simp [go_sem]
  have r0 : W0.cell? ⟨w.heap.size + 1 + 1, 0, none⟩ = some (.slice none 0 0) := by rw [hW]; simp [go_sem]
  have r1 : W0.cell? ⟨w.heap.size + 1 + 1, 1, none⟩ = some (.int .i64 0) := by rw [hW]; simp [go_sem]
  have a2 : W0.cell? ⟨w.heap.size + 1, 2, none⟩ = some (.int .i64 t) := by rw [hW]; simp [go_sem]
  have a3 : W0.cell? ⟨w.heap.size + 1, 3, none⟩ = some (.int .i64 l) := by rw [hW]; simp [go_sem]
  have a4 : W0.cell? ⟨w.heap.size + 1, 4, none⟩ = some (.int .i64 b) := by rw [hW]; simp [go_sem]
  have a5 : W0.cell? ⟨w.heap.size + 1, 5, none⟩ = some (.int .i64 r) := by rw [hW]; simp [go_sem]
  have a8 : W0.cell? ⟨w.heap.size + 1, 8, none⟩ = some (.int .i32 cg) := by rw [hW]; simp [go_sem]
  have a9 : W0.cell? ⟨w.heap.size + 1, 9, none⟩ = some (.int .u8 cr) := by rw [hW]; simp [go_sem]
  have a10 : W0.cell? ⟨w.heap.size + 1, 10, none⟩ = some (.bool ck) := by rw [hW]; simp [go_sem]
  have rf : ∀ q, W0.frozen? ⟨w.heap.size + 1 + 1, q, none⟩ = false := by intro q; rw [hW]; simp [go_sem]
  rw [← hW] at hD
  clear hW
  have hbk : ∀ i, i < 3 → w1.heap[w.heap.size + i]? = W0.heap[w.heap.size + i]? := fun i hi => hD.out.1.block _ (by omega) (fun f => by have := hlt.out _ f; omega)
  have b0 := hbk 0 (by omega)
  have b1 := hbk 1 (by omega)
  have b2 := hbk 2 (by omega)
  rw [Nat.add_zero] at b0
  rw [show w.heap.size + 2 = w.heap.size + 1 + 1 by omega] at b2
  replace p0 := (cell_of_heap b0).trans p0
  replace p1 := (cell_of_heap b0).trans p1
  replace r0 := (cell_of_heap b2).trans r0
  replace r1 := (cell_of_heap b2).trans r1
  replace a2 := (cell_of_heap b1).trans a2
  replace a3 := (cell_of_heap b1).trans a3
  replace a4 := (cell_of_heap b1).trans a4
  replace a5 := (cell_of_heap b1).trans a5
  replace a8 := (cell_of_heap b1).trans a8
  replace a9 := (cell_of_heap b1).trans a9
  replace a10 := (cell_of_heap b1).trans a10
  have rf0 := (frozen_of_heap b2).trans (rf 0)
  have rf1 := (frozen_of_heap b2).trans (rf 1)
  have hsz := hD.out.1.size
  have g0 : w.heap.size < w1.heap.size := by omega
  have g1 : w.heap.size + 1 < w1.heap.size := by omega
  have g2 : w.heap.size + 1 + 1 < w1.heap.size := by omega
  have hKp : Keep F w w1 := (Keep.of_below (F := F) hb0).trans hD.out.1 (fun b hb => .inl hb)
  have hfin := Lib.hid (fun x V rws W3 hl hv hf e3 => do_fin (x := x) (V := V) (rws := rws) (W3 := W3) (R := w.heap.size + 1 + 1) hD.out hb0 hlt.out (by omega) (by omega) hl hv hf e3)
  replace hKp := Lib.hid hKp
  clear b0 b1 b2 hbk rf hsz hs0
  go_wp2_with ((go_at_call 52); (with_reducible refine (RC.out _ hKp.out).mono ?_); (rintro _ _ ⟨V, rws, x2, rfl, rfl, hl1, hv1, hf1⟩); (obtain ⟨A1, c1, rfl, _, _⟩ := hl1.form); (obtain ⟨W3, e3, t0, t1, g3⟩ := store2 (V := .slice A1 rws.length c1) (n := .int .i64 T.cols) r0 r1); replace hl1 := Lib.hid hl1; replace hv1 := Lib.hid hv1; replace hf1 := Lib.hid hf1)
  simp [bodyPost, go_sem, t0, t1]
  exact ⟨_, by simp [results, Tryz.f26, go_sem, t0, t1, g3] <;> rfl, hfin.out _ _ _ _ hl1.out hv1.out hf1.out e3⟩
set_option maxRecDepth 100000 in
set_option maxHeartbeats 8000000 in
theorem do_k6 (U : Value) (h : PageAt w F p S) (hS : S.Ok) (h' : RefAt w F U S) (a : ActD) (ha : a.Ok w) (hA : 0 < a.ps.length → ∀ q o, a.pa = some ⟨q, o, none⟩ → ¬ F q) (hB : 0 < a.rw.length → ∀ q o, a.ra = some ⟨q, o, none⟩ → ¬ F q) (hk : a.kd = 6) (h60 : a.rw.length ≤ 60) :
    Calls Tryz.prog 26 #[.pointer (some ⟨p, 0, none⟩), U, a.v] w (DoN F p (doS S a) w) := by
  obtain ⟨kd, n, ⟨t, l, b, r⟩, pr, pc', ⟨cg, cr, ck⟩, pa, pc, ps, ra, rc, rw⟩ := a
  simp only at hk hA hB h60
  subst hk
  have eT : doS S ⟨6, n, ⟨t, l, b, r⟩, pr, pc', ⟨cg, cr, ck⟩, pa, pc, ps, ra, rc, rw⟩ = eachS S (onB S.rows.length S.cols ⟨t, l, b, r⟩) (fun xs l r => eachR xs l r (fun _ => erC)) := rfl
  rw [eT]
  clear eT
  obtain ⟨hr1, hc1, hyo, hps, hpl, hpm, hpn, hrw, hrl, hrm, hrn, hro⟩ := ha
  simp only at hr1 hc1 hyo hps hpl hpm hpn hrw hrl hrm hrn hro
  show Calls Tryz.prog 26 #[.pointer (some ⟨p, 0, none⟩), U, .agg #[.int .i64 6, .int .i64 n, .int .i64 t, .int .i64 l, .int .i64 b, .int .i64 r, .int .i64 pr, .int .i64 pc', .int .i32 cg, .int .u8 cr, .bool ck, .slice pa ps.length pc, .slice ra rw.length rc]] w _
  have hV := h'.v
  obtain ⟨A, c, rows, rfl, _, _, _⟩ := hV.op
  have hlt := Lib.hid h.lt
  have PC := Lib.hid (fun w' (hb : Below w.heap.size w w') => erase_p (h.grow hb) hS ⟨t, l, b, r⟩)
  have RC := Lib.hid (fun w' (hk : Keep F w w') => (by exact refeach_c 1 _ ⟨t, l, b, r⟩ erC (.slice none 0 0) ((fun _ => erC)) (h'.keep hk).v hS (fun y hy w'' hb => one_r 1 erC none 0 [] ((fun _ => erC)) (Deed.fill _ _) y w'' hy (fun h => by simp at h) (by simp)) : Calls Tryz.prog 52 #[.int .i64 1, .agg #[.slice A S.rows.length c, .int .i64 S.cols], boxV t l b r, .agg #[.int .i32 32, .int .u8 0, .bool false], .slice none 0 0] w' (NewRef (eachS S (onB S.rows.length S.cols ⟨t, l, b, r⟩) (fun xs l r => eachR xs l r (fun _ => erC))) w')))
  obtain ⟨T, hT⟩ : ∃ T, T = eachS S (onB S.rows.length S.cols ⟨t, l, b, r⟩) (fun xs l r => eachR xs l r (fun _ => erC)) := ⟨_, rfl⟩
  rw [← hT] at PC RC ⊢
  clear hT hV h h'
  go_enter Tryz.func26, Tryz.ntmps26
  go_upto_region 19 with ((go_at_call 15); (with_reducible refine (PC.out _ (by (repeat' (first | (with_reducible exact Below.refl _ _) | (with_reducible refine Below.alloc ?_ ?_ _) | (with_reducible refine below_ext ?_ ?_ _) | (with_reducible refine Below.drew ?_) | (with_reducible refine below_drewN ?_ _) | (with_reducible refine Below.setCell ?_ ?_ _) | go_size | (simp only [go_sem]; omega) | (simp [go_sem]; done) | (simp [go_sem]; omega))))).mono ?_); (rintro _ w1 ⟨rfl, hD⟩); replace hD := Lib.hid hD)
  obtain ⟨W0, hW⟩ : ∃ W0, W0 = ((w.alloc (.cells #[.slice A S.rows.length c, .int .i64 S.cols] 27)).alloc (.cells #[.int .i64 6, .int .i64 n, .int .i64 t, .int .i64 l, .int .i64 b, .int .i64 r, .int .i64 pr, .int .i64 pc', .int .i32 cg, .int .u8 cr, .bool ck, .slice pa ps.length pc, .slice ra rw.length rc] 60)).alloc (.cells #[.slice none 0 0, .int .i64 0] 27) := ⟨_, rfl⟩
  have hs0 : W0.heap.size = w.heap.size + 1 + 1 + 1 := by rw [hW]; simp
  have hb0 : Below w.heap.size w W0 := by rw [hW]; (repeat' (first | (with_reducible exact Below.refl _ _) | (with_reducible refine Below.alloc ?_ ?_ _) | (with_reducible refine below_ext ?_ ?_ _) | (with_reducible refine Below.drew ?_) | (with_reducible refine below_drewN ?_ _) | (with_reducible refine Below.setCell ?_ ?_ _) | go_size | (simp only [go_sem]; omega) | (simp [go_sem]; done) | (simp [go_sem]; omega)))
  have p0 : W0.cell? ⟨w.heap.size, 0, none⟩ = some (.slice A S.rows.length c) := by rw [hW]; simp [go_sem]
  have p1 : W0.cell? ⟨w.heap.size, 1, none⟩ = some (.int .i64 S.cols) := by rw [hW]; simp [go_sem]
  have r0 : W0.cell? ⟨w.heap.size + 1 + 1, 0, none⟩ = some (.slice none 0 0) := by rw [hW]; simp [go_sem]
  have r1 : W0.cell? ⟨w.heap.size + 1 + 1, 1, none⟩ = some (.int .i64 0) := by rw [hW]; simp [go_sem]
  have a2 : W0.cell? ⟨w.heap.size + 1, 2, none⟩ = some (.int .i64 t) := by rw [hW]; simp [go_sem]
  have a3 : W0.cell? ⟨w.heap.size + 1, 3, none⟩ = some (.int .i64 l) := by rw [hW]; simp [go_sem]
  have a4 : W0.cell? ⟨w.heap.size + 1, 4, none⟩ = some (.int .i64 b) := by rw [hW]; simp [go_sem]
  have a5 : W0.cell? ⟨w.heap.size + 1, 5, none⟩ = some (.int .i64 r) := by rw [hW]; simp [go_sem]
  have rf : ∀ q, W0.frozen? ⟨w.heap.size + 1 + 1, q, none⟩ = false := by intro q; rw [hW]; simp [go_sem]
  rw [← hW] at hD
  clear hW
  have hbk : ∀ i, i < 3 → w1.heap[w.heap.size + i]? = W0.heap[w.heap.size + i]? := fun i hi => hD.out.1.block _ (by omega) (fun f => by have := hlt.out _ f; omega)
  have b0 := hbk 0 (by omega)
  have b1 := hbk 1 (by omega)
  have b2 := hbk 2 (by omega)
  rw [Nat.add_zero] at b0
  rw [show w.heap.size + 2 = w.heap.size + 1 + 1 by omega] at b2
  replace p0 := (cell_of_heap b0).trans p0
  replace p1 := (cell_of_heap b0).trans p1
  replace r0 := (cell_of_heap b2).trans r0
  replace r1 := (cell_of_heap b2).trans r1
  replace a2 := (cell_of_heap b1).trans a2
  replace a3 := (cell_of_heap b1).trans a3
  replace a4 := (cell_of_heap b1).trans a4
  replace a5 := (cell_of_heap b1).trans a5
  have rf0 := (frozen_of_heap b2).trans (rf 0)
  have rf1 := (frozen_of_heap b2).trans (rf 1)
  have hsz := hD.out.1.size
  have g0 : w.heap.size < w1.heap.size := by omega
  have g1 : w.heap.size + 1 < w1.heap.size := by omega
  have g2 : w.heap.size + 1 + 1 < w1.heap.size := by omega
  have hKp : Keep F w w1 := (Keep.of_below (F := F) hb0).trans hD.out.1 (fun b hb => .inl hb)
  have hfin := Lib.hid (fun x V rws W3 hl hv hf e3 => do_fin (x := x) (V := V) (rws := rws) (W3 := W3) (R := w.heap.size + 1 + 1) hD.out hb0 hlt.out (by omega) (by omega) hl hv hf e3)
  replace hKp := Lib.hid hKp
  clear b0 b1 b2 hbk rf hsz hs0
  go_wp2_with ((go_at_call 52); (with_reducible refine (RC.out _ hKp.out).mono ?_); (rintro _ _ ⟨V, rws, x2, rfl, rfl, hl1, hv1, hf1⟩); (obtain ⟨A1, c1, rfl, _, _⟩ := hl1.form); (obtain ⟨W3, e3, t0, t1, g3⟩ := store2 (V := .slice A1 rws.length c1) (n := .int .i64 T.cols) r0 r1); replace hl1 := Lib.hid hl1; replace hv1 := Lib.hid hv1; replace hf1 := Lib.hid hf1)
  simp [bodyPost, go_sem, t0, t1]
  exact ⟨_, by simp [results, Tryz.f26, go_sem, t0, t1, g3] <;> rfl, hfin.out _ _ _ _ hl1.out hv1.out hf1.out e3⟩
set_option maxRecDepth 100000 in
set_option maxHeartbeats 8000000 in
theorem do_k7 (U : Value) (h : PageAt w F p S) (hS : S.Ok) (h' : RefAt w F U S) (a : ActD) (ha : a.Ok w) (hA : 0 < a.ps.length → ∀ q o, a.pa = some ⟨q, o, none⟩ → ¬ F q) (hB : 0 < a.rw.length → ∀ q o, a.ra = some ⟨q, o, none⟩ → ¬ F q) (hk : a.kd = 7) (h60 : a.rw.length ≤ 60) :
    Calls Tryz.prog 26 #[.pointer (some ⟨p, 0, none⟩), U, a.v] w (DoN F p (doS S a) w) := by
  obtain ⟨kd, n, ⟨t, l, b, r⟩, pr, pc', ⟨cg, cr, ck⟩, pa, pc, ps, ra, rc, rw⟩ := a
  simp only at hk hA hB h60
  subst hk
  have eT : doS S ⟨7, n, ⟨t, l, b, r⟩, pr, pc', ⟨cg, cr, ck⟩, pa, pc, ps, ra, rc, rw⟩ = eachS S (onB S.rows.length S.cols ⟨t, l, b, r⟩) (fun xs l r => eachR xs l r cleanC) := rfl
  rw [eT]
  clear eT
  obtain ⟨hr1, hc1, hyo, hps, hpl, hpm, hpn, hrw, hrl, hrm, hrn, hro⟩ := ha
  simp only at hr1 hc1 hyo hps hpl hpm hpn hrw hrl hrm hrn hro
  show Calls Tryz.prog 26 #[.pointer (some ⟨p, 0, none⟩), U, .agg #[.int .i64 7, .int .i64 n, .int .i64 t, .int .i64 l, .int .i64 b, .int .i64 r, .int .i64 pr, .int .i64 pc', .int .i32 cg, .int .u8 cr, .bool ck, .slice pa ps.length pc, .slice ra rw.length rc]] w _
  have hV := h'.v
  obtain ⟨A, c, rows, rfl, _, _, _⟩ := hV.op
  have hlt := Lib.hid h.lt
  have PC := Lib.hid (fun w' (hb : Below w.heap.size w w') => clean_p (h.grow hb) hS ⟨t, l, b, r⟩)
  have RC := Lib.hid (fun w' (hk : Keep F w w') => refeach_c 2 _ ⟨t, l, b, r⟩ ⟨cg, cr, ck⟩ (.slice none 0 0) (cleanC) (h'.keep hk).v hS (fun y hy w'' hb => one_r 2 ⟨cg, cr, ck⟩ none 0 [] (cleanC) (Deed.clean _ _) y w'' hy (fun h => by simp at h) (by simp)))
  obtain ⟨T, hT⟩ : ∃ T, T = eachS S (onB S.rows.length S.cols ⟨t, l, b, r⟩) (fun xs l r => eachR xs l r cleanC) := ⟨_, rfl⟩
  rw [← hT] at PC RC ⊢
  clear hT hV h h'
  go_enter Tryz.func26, Tryz.ntmps26
  go_upto_region 22 with ((go_at_call 53); (with_reducible refine (PC.out _ (by (repeat' (first | (with_reducible exact Below.refl _ _) | (with_reducible refine Below.alloc ?_ ?_ _) | (with_reducible refine below_ext ?_ ?_ _) | (with_reducible refine Below.drew ?_) | (with_reducible refine below_drewN ?_ _) | (with_reducible refine Below.setCell ?_ ?_ _) | go_size | (simp only [go_sem]; omega) | (simp [go_sem]; done) | (simp [go_sem]; omega))))).mono ?_); (rintro _ w1 ⟨rfl, hD⟩); replace hD := Lib.hid hD)
  obtain ⟨W0, hW⟩ : ∃ W0, W0 = ((w.alloc (.cells #[.slice A S.rows.length c, .int .i64 S.cols] 27)).alloc (.cells #[.int .i64 7, .int .i64 n, .int .i64 t, .int .i64 l, .int .i64 b, .int .i64 r, .int .i64 pr, .int .i64 pc', .int .i32 cg, .int .u8 cr, .bool ck, .slice pa ps.length pc, .slice ra rw.length rc] 60)).alloc (.cells #[.slice none 0 0, .int .i64 0] 27) := ⟨_, rfl⟩
  have hs0 : W0.heap.size = w.heap.size + 1 + 1 + 1 := by rw [hW]; simp
  have hb0 : Below w.heap.size w W0 := by rw [hW]; (repeat' (first | (with_reducible exact Below.refl _ _) | (with_reducible refine Below.alloc ?_ ?_ _) | (with_reducible refine below_ext ?_ ?_ _) | (with_reducible refine Below.drew ?_) | (with_reducible refine below_drewN ?_ _) | (with_reducible refine Below.setCell ?_ ?_ _) | go_size | (simp only [go_sem]; omega) | (simp [go_sem]; done) | (simp [go_sem]; omega)))
  have p0 : W0.cell? ⟨w.heap.size, 0, none⟩ = some (.slice A S.rows.length c) := by rw [hW]; simp [go_sem]
  have p1 : W0.cell? ⟨w.heap.size, 1, none⟩ = some (.int .i64 S.cols) := by rw [hW]; simp [go_sem]
  have r0 : W0.cell? ⟨w.heap.size + 1 + 1, 0, none⟩ = some (.slice none 0 0) := by rw [hW]; simp [go_sem]
  have r1 : W0.cell? ⟨w.heap.size + 1 + 1, 1, none⟩ = some (.int .i64 0) := by rw [hW]; simp [go_sem]
  have a2 : W0.cell? ⟨w.heap.size + 1, 2, none⟩ = some (.int .i64 t) := by rw [hW]; simp [go_sem]
  have a3 : W0.cell? ⟨w.heap.size + 1, 3, none⟩ = some (.int .i64 l) := by rw [hW]; simp [go_sem]
  have a4 : W0.cell? ⟨w.heap.size + 1, 4, none⟩ = some (.int .i64 b) := by rw [hW]; simp [go_sem]
  have a5 : W0.cell? ⟨w.heap.size + 1, 5, none⟩ = some (.int .i64 r) := by rw [hW]; simp [go_sem]
  have a8 : W0.cell? ⟨w.heap.size + 1, 8, none⟩ = some (.int .i32 cg) := by rw [hW]; simp [go_sem]
  have a9 : W0.cell? ⟨w.heap.size + 1, 9, none⟩ = some (.int .u8 cr) := by rw [hW]; simp [go_sem]
  have a10 : W0.cell? ⟨w.heap.size + 1, 10, none⟩ = some (.bool ck) := by rw [hW]; simp [go_sem]
  have rf : ∀ q, W0.frozen? ⟨w.heap.size + 1 + 1, q, none⟩ = false := by intro q; rw [hW]; simp [go_sem]
  rw [← hW] at hD
  clear hW
  have hbk : ∀ i, i < 3 → w1.heap[w.heap.size + i]? = W0.heap[w.heap.size + i]? := fun i hi => hD.out.1.block _ (by omega) (fun f => by have := hlt.out _ f; omega)
  have b0 := hbk 0 (by omega)
  have b1 := hbk 1 (by omega)
  have b2 := hbk 2 (by omega)
  rw [Nat.add_zero] at b0
  rw [show w.heap.size + 2 = w.heap.size + 1 + 1 by omega] at b2
  replace p0 := (cell_of_heap b0).trans p0
  replace p1 := (cell_of_heap b0).trans p1
  replace r0 := (cell_of_heap b2).trans r0
  replace r1 := (cell_of_heap b2).trans r1
  replace a2 := (cell_of_heap b1).trans a2
  replace a3 := (cell_of_heap b1).trans a3
  replace a4 := (cell_of_heap b1).trans a4
  replace a5 := (cell_of_heap b1).trans a5
  replace a8 := (cell_of_heap b1).trans a8
  replace a9 := (cell_of_heap b1).trans a9
  replace a10 := (cell_of_heap b1).trans a10
  have rf0 := (frozen_of_heap b2).trans (rf 0)
  have rf1 := (frozen_of_heap b2).trans (rf 1)
  have hsz := hD.out.1.size
  have g0 : w.heap.size < w1.heap.size := by omega
  have g1 : w.heap.size + 1 < w1.heap.size := by omega
  have g2 : w.heap.size + 1 + 1 < w1.heap.size := by omega
  have hKp : Keep F w w1 := (Keep.of_below (F := F) hb0).trans hD.out.1 (fun b hb => .inl hb)
  have hfin := Lib.hid (fun x V rws W3 hl hv hf e3 => do_fin (x := x) (V := V) (rws := rws) (W3 := W3) (R := w.heap.size + 1 + 1) hD.out hb0 hlt.out (by omega) (by omega) hl hv hf e3)
  replace hKp := Lib.hid hKp
  clear b0 b1 b2 hbk rf hsz hs0
  go_wp2_with ((go_at_call 52); (with_reducible refine (RC.out _ hKp.out).mono ?_); (rintro _ _ ⟨V, rws, x2, rfl, rfl, hl1, hv1, hf1⟩); (obtain ⟨A1, c1, rfl, _, _⟩ := hl1.form); (obtain ⟨W3, e3, t0, t1, g3⟩ := store2 (V := .slice A1 rws.length c1) (n := .int .i64 T.cols) r0 r1); replace hl1 := Lib.hid hl1; replace hv1 := Lib.hid hv1; replace hf1 := Lib.hid hf1)
  simp [bodyPost, go_sem, t0, t1]
  exact ⟨_, by simp [results, Tryz.f26, go_sem, t0, t1, g3] <;> rfl, hfin.out _ _ _ _ hl1.out hv1.out hf1.out e3⟩
set_option maxRecDepth 100000 in
set_option maxHeartbeats 8000000 in
theorem do_k8 (U : Value) (h : PageAt w F p S) (hS : S.Ok) (h' : RefAt w F U S) (a : ActD) (ha : a.Ok w) (hA : 0 < a.ps.length → ∀ q o, a.pa = some ⟨q, o, none⟩ → ¬ F q) (hB : 0 < a.rw.length → ∀ q o, a.ra = some ⟨q, o, none⟩ → ¬ F q) (hk : a.kd = 8) (h60 : a.rw.length ≤ 60) :
    Calls Tryz.prog 26 #[.pointer (some ⟨p, 0, none⟩), U, a.v] w (DoN F p (doS S a) w) := by
  obtain ⟨kd, n, ⟨t, l, b, r⟩, pr, pc', ⟨cg, cr, ck⟩, pa, pc, ps, ra, rc, rw⟩ := a
  simp only at hk hA hB h60
  subst hk
  have eT : doS S ⟨8, n, ⟨t, l, b, r⟩, pr, pc', ⟨cg, cr, ck⟩, pa, pc, ps, ra, rc, rw⟩ = eachS S (onB S.rows.length S.cols ⟨t, l, b, r⟩) (fun xs l r => eachR xs l r (applyC ps)) := rfl
  rw [eT]
  clear eT
  obtain ⟨hr1, hc1, hyo, hps, hpl, hpm, hpn, hrw, hrl, hrm, hrn, hro⟩ := ha
  simp only at hr1 hc1 hyo hps hpl hpm hpn hrw hrl hrm hrn hro
  show Calls Tryz.prog 26 #[.pointer (some ⟨p, 0, none⟩), U, .agg #[.int .i64 8, .int .i64 n, .int .i64 t, .int .i64 l, .int .i64 b, .int .i64 r, .int .i64 pr, .int .i64 pc', .int .i32 cg, .int .u8 cr, .bool ck, .slice pa ps.length pc, .slice ra rw.length rc]] w _
  have hV := h'.v
  obtain ⟨A, c, rows, rfl, _, _, _⟩ := hV.op
  have hlt := Lib.hid h.lt
  have PC := Lib.hid (fun w' (hb : Below w.heap.size w w') => change_p (h.grow hb) hS ⟨t, l, b, r⟩ pa pc ps (hps.below hb) hA (by omega))
  have RC := Lib.hid (fun w' (hk : Keep F w w') => refeach_c 3 _ ⟨t, l, b, r⟩ ⟨cg, cr, ck⟩ (.slice pa ps.length pc) (applyC ps) (h'.keep hk).v hS (fun y hy w'' hb => one_r 3 ⟨cg, cr, ck⟩ pa pc ps ((applyC ps)) (Deed.change _ _) y w'' hy ((Rd.keep' hps hk hA).below hb) (by omega)))
  obtain ⟨T, hT⟩ : ∃ T, T = eachS S (onB S.rows.length S.cols ⟨t, l, b, r⟩) (fun xs l r => eachR xs l r (applyC ps)) := ⟨_, rfl⟩
  rw [← hT] at PC RC ⊢
  clear hT hV h h'
  go_enter Tryz.func26, Tryz.ntmps26
  go_upto_region 25 with ((go_at_call 54); (with_reducible refine (PC.out _ (by (repeat' (first | (with_reducible exact Below.refl _ _) | (with_reducible refine Below.alloc ?_ ?_ _) | (with_reducible refine below_ext ?_ ?_ _) | (with_reducible refine Below.drew ?_) | (with_reducible refine below_drewN ?_ _) | (with_reducible refine Below.setCell ?_ ?_ _) | go_size | (simp only [go_sem]; omega) | (simp [go_sem]; done) | (simp [go_sem]; omega))))).mono ?_); (rintro _ w1 ⟨rfl, hD⟩); replace hD := Lib.hid hD)
  obtain ⟨W0, hW⟩ : ∃ W0, W0 = ((w.alloc (.cells #[.slice A S.rows.length c, .int .i64 S.cols] 27)).alloc (.cells #[.int .i64 8, .int .i64 n, .int .i64 t, .int .i64 l, .int .i64 b, .int .i64 r, .int .i64 pr, .int .i64 pc', .int .i32 cg, .int .u8 cr, .bool ck, .slice pa ps.length pc, .slice ra rw.length rc] 60)).alloc (.cells #[.slice none 0 0, .int .i64 0] 27) := ⟨_, rfl⟩
  have hs0 : W0.heap.size = w.heap.size + 1 + 1 + 1 := by rw [hW]; simp
  have hb0 : Below w.heap.size w W0 := by rw [hW]; (repeat' (first | (with_reducible exact Below.refl _ _) | (with_reducible refine Below.alloc ?_ ?_ _) | (with_reducible refine below_ext ?_ ?_ _) | (with_reducible refine Below.drew ?_) | (with_reducible refine below_drewN ?_ _) | (with_reducible refine Below.setCell ?_ ?_ _) | go_size | (simp only [go_sem]; omega) | (simp [go_sem]; done) | (simp [go_sem]; omega)))
  have p0 : W0.cell? ⟨w.heap.size, 0, none⟩ = some (.slice A S.rows.length c) := by rw [hW]; simp [go_sem]
  have p1 : W0.cell? ⟨w.heap.size, 1, none⟩ = some (.int .i64 S.cols) := by rw [hW]; simp [go_sem]
  have r0 : W0.cell? ⟨w.heap.size + 1 + 1, 0, none⟩ = some (.slice none 0 0) := by rw [hW]; simp [go_sem]
  have r1 : W0.cell? ⟨w.heap.size + 1 + 1, 1, none⟩ = some (.int .i64 0) := by rw [hW]; simp [go_sem]
  have a2 : W0.cell? ⟨w.heap.size + 1, 2, none⟩ = some (.int .i64 t) := by rw [hW]; simp [go_sem]
  have a3 : W0.cell? ⟨w.heap.size + 1, 3, none⟩ = some (.int .i64 l) := by rw [hW]; simp [go_sem]
  have a4 : W0.cell? ⟨w.heap.size + 1, 4, none⟩ = some (.int .i64 b) := by rw [hW]; simp [go_sem]
  have a5 : W0.cell? ⟨w.heap.size + 1, 5, none⟩ = some (.int .i64 r) := by rw [hW]; simp [go_sem]
  have a8 : W0.cell? ⟨w.heap.size + 1, 8, none⟩ = some (.int .i32 cg) := by rw [hW]; simp [go_sem]
  have a9 : W0.cell? ⟨w.heap.size + 1, 9, none⟩ = some (.int .u8 cr) := by rw [hW]; simp [go_sem]
  have a10 : W0.cell? ⟨w.heap.size + 1, 10, none⟩ = some (.bool ck) := by rw [hW]; simp [go_sem]
  have a11 : W0.cell? ⟨w.heap.size + 1, 11, none⟩ = some (.slice pa ps.length pc) := by rw [hW]; simp [go_sem]
  have rf : ∀ q, W0.frozen? ⟨w.heap.size + 1 + 1, q, none⟩ = false := by intro q; rw [hW]; simp [go_sem]
  rw [← hW] at hD
  clear hW
  have hbk : ∀ i, i < 3 → w1.heap[w.heap.size + i]? = W0.heap[w.heap.size + i]? := fun i hi => hD.out.1.block _ (by omega) (fun f => by have := hlt.out _ f; omega)
  have b0 := hbk 0 (by omega)
  have b1 := hbk 1 (by omega)
  have b2 := hbk 2 (by omega)
  rw [Nat.add_zero] at b0
  rw [show w.heap.size + 2 = w.heap.size + 1 + 1 by omega] at b2
  replace p0 := (cell_of_heap b0).trans p0
  replace p1 := (cell_of_heap b0).trans p1
  replace r0 := (cell_of_heap b2).trans r0
  replace r1 := (cell_of_heap b2).trans r1
  replace a2 := (cell_of_heap b1).trans a2
  replace a3 := (cell_of_heap b1).trans a3
  replace a4 := (cell_of_heap b1).trans a4
  replace a5 := (cell_of_heap b1).trans a5
  replace a8 := (cell_of_heap b1).trans a8
  replace a9 := (cell_of_heap b1).trans a9
  replace a10 := (cell_of_heap b1).trans a10
  replace a11 := (cell_of_heap b1).trans a11
  have rf0 := (frozen_of_heap b2).trans (rf 0)
  have rf1 := (frozen_of_heap b2).trans (rf 1)
  have hsz := hD.out.1.size
  have g0 : w.heap.size < w1.heap.size := by omega
  have g1 : w.heap.size + 1 < w1.heap.size := by omega
  have g2 : w.heap.size + 1 + 1 < w1.heap.size := by omega
  have hKp : Keep F w w1 := (Keep.of_below (F := F) hb0).trans hD.out.1 (fun b hb => .inl hb)
  have hfin := Lib.hid (fun x V rws W3 hl hv hf e3 => do_fin (x := x) (V := V) (rws := rws) (W3 := W3) (R := w.heap.size + 1 + 1) hD.out hb0 hlt.out (by omega) (by omega) hl hv hf e3)
  replace hKp := Lib.hid hKp
  clear b0 b1 b2 hbk rf hsz hs0
  go_wp2_with ((go_at_call 52); (with_reducible refine (RC.out _ hKp.out).mono ?_); (rintro _ _ ⟨V, rws, x2, rfl, rfl, hl1, hv1, hf1⟩); (obtain ⟨A1, c1, rfl, _, _⟩ := hl1.form); (obtain ⟨W3, e3, t0, t1, g3⟩ := store2 (V := .slice A1 rws.length c1) (n := .int .i64 T.cols) r0 r1); replace hl1 := Lib.hid hl1; replace hv1 := Lib.hid hv1; replace hf1 := Lib.hid hf1)
  simp [bodyPost, go_sem, t0, t1]
  exact ⟨_, by simp [results, Tryz.f26, go_sem, t0, t1, g3] <;> rfl, hfin.out _ _ _ _ hl1.out hv1.out hf1.out e3⟩
set_option maxRecDepth 100000 in
set_option maxHeartbeats 8000000 in
theorem do_k9 (U : Value) (h : PageAt w F p S) (hS : S.Ok) (h' : RefAt w F U S) (a : ActD) (ha : a.Ok w) (hA : 0 < a.ps.length → ∀ q o, a.pa = some ⟨q, o, none⟩ → ¬ F q) (hB : 0 < a.rw.length → ∀ q o, a.ra = some ⟨q, o, none⟩ → ¬ F q) (hk : a.kd = 9) (h60 : a.rw.length ≤ 60) :
    Calls Tryz.prog 26 #[.pointer (some ⟨p, 0, none⟩), U, a.v] w (DoN F p (doS S a) w) := by
  obtain ⟨kd, n, ⟨t, l, b, r⟩, pr, pc', ⟨cg, cr, ck⟩, pa, pc, ps, ra, rc, rw⟩ := a
  simp only at hk hA hB h60
  subst hk
  have eT : doS S ⟨9, n, ⟨t, l, b, r⟩, pr, pc', ⟨cg, cr, ck⟩, pa, pc, ps, ra, rc, rw⟩ = eachS S (onB S.rows.length S.cols ⟨t, l, b, r⟩) (fun xs l r => eachR xs l r (flipC ps)) := rfl
  rw [eT]
  clear eT
  obtain ⟨hr1, hc1, hyo, hps, hpl, hpm, hpn, hrw, hrl, hrm, hrn, hro⟩ := ha
  simp only at hr1 hc1 hyo hps hpl hpm hpn hrw hrl hrm hrn hro
  show Calls Tryz.prog 26 #[.pointer (some ⟨p, 0, none⟩), U, .agg #[.int .i64 9, .int .i64 n, .int .i64 t, .int .i64 l, .int .i64 b, .int .i64 r, .int .i64 pr, .int .i64 pc', .int .i32 cg, .int .u8 cr, .bool ck, .slice pa ps.length pc, .slice ra rw.length rc]] w _
  have hV := h'.v
  obtain ⟨A, c, rows, rfl, _, _, _⟩ := hV.op
  have hlt := Lib.hid h.lt
  have PC := Lib.hid (fun w' (hb : Below w.heap.size w w') => flip_p (h.grow hb) hS ⟨t, l, b, r⟩ pa pc ps (hps.below hb) hA (by omega))
  have RC := Lib.hid (fun w' (hk : Keep F w w') => refeach_c 4 _ ⟨t, l, b, r⟩ ⟨cg, cr, ck⟩ (.slice pa ps.length pc) (flipC ps) (h'.keep hk).v hS (fun y hy w'' hb => one_r 4 ⟨cg, cr, ck⟩ pa pc ps ((flipC ps)) (Deed.flip _ _) y w'' hy ((Rd.keep' hps hk hA).below hb) (by omega)))
  obtain ⟨T, hT⟩ : ∃ T, T = eachS S (onB S.rows.length S.cols ⟨t, l, b, r⟩) (fun xs l r => eachR xs l r (flipC ps)) := ⟨_, rfl⟩
  rw [← hT] at PC RC ⊢
  clear hT hV h h'
  go_enter Tryz.func26, Tryz.ntmps26
  go_upto_region 28 with ((go_at_call 55); (with_reducible refine (PC.out _ (by (repeat' (first | (with_reducible exact Below.refl _ _) | (with_reducible refine Below.alloc ?_ ?_ _) | (with_reducible refine below_ext ?_ ?_ _) | (with_reducible refine Below.drew ?_) | (with_reducible refine below_drewN ?_ _) | (with_reducible refine Below.setCell ?_ ?_ _) | go_size | (simp only [go_sem]; omega) | (simp [go_sem]; done) | (simp [go_sem]; omega))))).mono ?_); (rintro _ w1 ⟨rfl, hD⟩); replace hD := Lib.hid hD)
  obtain ⟨W0, hW⟩ : ∃ W0, W0 = ((w.alloc (.cells #[.slice A S.rows.length c, .int .i64 S.cols] 27)).alloc (.cells #[.int .i64 9, .int .i64 n, .int .i64 t, .int .i64 l, .int .i64 b, .int .i64 r, .int .i64 pr, .int .i64 pc', .int .i32 cg, .int .u8 cr, .bool ck, .slice pa ps.length pc, .slice ra rw.length rc] 60)).alloc (.cells #[.slice none 0 0, .int .i64 0] 27) := ⟨_, rfl⟩
  have hs0 : W0.heap.size = w.heap.size + 1 + 1 + 1 := by rw [hW]; simp
  have hb0 : Below w.heap.size w W0 := by rw [hW]; (repeat' (first | (with_reducible exact Below.refl _ _) | (with_reducible refine Below.alloc ?_ ?_ _) | (with_reducible refine below_ext ?_ ?_ _) | (with_reducible refine Below.drew ?_) | (with_reducible refine below_drewN ?_ _) | (with_reducible refine Below.setCell ?_ ?_ _) | go_size | (simp only [go_sem]; omega) | (simp [go_sem]; done) | (simp [go_sem]; omega)))
  have p0 : W0.cell? ⟨w.heap.size, 0, none⟩ = some (.slice A S.rows.length c) := by rw [hW]; simp [go_sem]
  have p1 : W0.cell? ⟨w.heap.size, 1, none⟩ = some (.int .i64 S.cols) := by rw [hW]; simp [go_sem]
  have r0 : W0.cell? ⟨w.heap.size + 1 + 1, 0, none⟩ = some (.slice none 0 0) := by rw [hW]; simp [go_sem]
  have r1 : W0.cell? ⟨w.heap.size + 1 + 1, 1, none⟩ = some (.int .i64 0) := by rw [hW]; simp [go_sem]
  have a2 : W0.cell? ⟨w.heap.size + 1, 2, none⟩ = some (.int .i64 t) := by rw [hW]; simp [go_sem]
  have a3 : W0.cell? ⟨w.heap.size + 1, 3, none⟩ = some (.int .i64 l) := by rw [hW]; simp [go_sem]
  have a4 : W0.cell? ⟨w.heap.size + 1, 4, none⟩ = some (.int .i64 b) := by rw [hW]; simp [go_sem]
  have a5 : W0.cell? ⟨w.heap.size + 1, 5, none⟩ = some (.int .i64 r) := by rw [hW]; simp [go_sem]
  have a8 : W0.cell? ⟨w.heap.size + 1, 8, none⟩ = some (.int .i32 cg) := by rw [hW]; simp [go_sem]
  have a9 : W0.cell? ⟨w.heap.size + 1, 9, none⟩ = some (.int .u8 cr) := by rw [hW]; simp [go_sem]
  have a10 : W0.cell? ⟨w.heap.size + 1, 10, none⟩ = some (.bool ck) := by rw [hW]; simp [go_sem]
  have a11 : W0.cell? ⟨w.heap.size + 1, 11, none⟩ = some (.slice pa ps.length pc) := by rw [hW]; simp [go_sem]
  have rf : ∀ q, W0.frozen? ⟨w.heap.size + 1 + 1, q, none⟩ = false := by intro q; rw [hW]; simp [go_sem]
  rw [← hW] at hD
  clear hW
  have hbk : ∀ i, i < 3 → w1.heap[w.heap.size + i]? = W0.heap[w.heap.size + i]? := fun i hi => hD.out.1.block _ (by omega) (fun f => by have := hlt.out _ f; omega)
  have b0 := hbk 0 (by omega)
  have b1 := hbk 1 (by omega)
  have b2 := hbk 2 (by omega)
  rw [Nat.add_zero] at b0
  rw [show w.heap.size + 2 = w.heap.size + 1 + 1 by omega] at b2
  replace p0 := (cell_of_heap b0).trans p0
  replace p1 := (cell_of_heap b0).trans p1
  replace r0 := (cell_of_heap b2).trans r0
  replace r1 := (cell_of_heap b2).trans r1
  replace a2 := (cell_of_heap b1).trans a2
  replace a3 := (cell_of_heap b1).trans a3
  replace a4 := (cell_of_heap b1).trans a4
  replace a5 := (cell_of_heap b1).trans a5
  replace a8 := (cell_of_heap b1).trans a8
  replace a9 := (cell_of_heap b1).trans a9
  replace a10 := (cell_of_heap b1).trans a10
  replace a11 := (cell_of_heap b1).trans a11
  have rf0 := (frozen_of_heap b2).trans (rf 0)
  have rf1 := (frozen_of_heap b2).trans (rf 1)
  have hsz := hD.out.1.size
  have g0 : w.heap.size < w1.heap.size := by omega
  have g1 : w.heap.size + 1 < w1.heap.size := by omega
  have g2 : w.heap.size + 1 + 1 < w1.heap.size := by omega
  have hKp : Keep F w w1 := (Keep.of_below (F := F) hb0).trans hD.out.1 (fun b hb => .inl hb)
  have hfin := Lib.hid (fun x V rws W3 hl hv hf e3 => do_fin (x := x) (V := V) (rws := rws) (W3 := W3) (R := w.heap.size + 1 + 1) hD.out hb0 hlt.out (by omega) (by omega) hl hv hf e3)
  replace hKp := Lib.hid hKp
  clear b0 b1 b2 hbk rf hsz hs0
  go_wp2_with ((go_at_call 52); (with_reducible refine (RC.out _ hKp.out).mono ?_); (rintro _ _ ⟨V, rws, x2, rfl, rfl, hl1, hv1, hf1⟩); (obtain ⟨A1, c1, rfl, _, _⟩ := hl1.form); (obtain ⟨W3, e3, t0, t1, g3⟩ := store2 (V := .slice A1 rws.length c1) (n := .int .i64 T.cols) r0 r1); replace hl1 := Lib.hid hl1; replace hv1 := Lib.hid hv1; replace hf1 := Lib.hid hf1)
  simp [bodyPost, go_sem, t0, t1]
  exact ⟨_, by simp [results, Tryz.f26, go_sem, t0, t1, g3] <;> rfl, hfin.out _ _ _ _ hl1.out hv1.out hf1.out e3⟩
set_option maxRecDepth 100000 in
set_option maxHeartbeats 8000000 in
theorem do_k10 (U : Value) (h : PageAt w F p S) (hS : S.Ok) (h' : RefAt w F U S) (a : ActD) (ha : a.Ok w) (hA : 0 < a.ps.length → ∀ q o, a.pa = some ⟨q, o, none⟩ → ¬ F q) (hB : 0 < a.rw.length → ∀ q o, a.ra = some ⟨q, o, none⟩ → ¬ F q) (hk : a.kd = 10) (h60 : a.rw.length ≤ 60) :
    Calls Tryz.prog 26 #[.pointer (some ⟨p, 0, none⟩), U, a.v] w (DoN F p (doS S a) w) := by
  obtain ⟨kd, n, ⟨t, l, b, r⟩, pr, pc', ⟨cg, cr, ck⟩, pa, pc, ps, ra, rc, rw⟩ := a
  simp only at hk hA hB h60
  subst hk
  have eT : doS S ⟨10, n, ⟨t, l, b, r⟩, pr, pc', ⟨cg, cr, ck⟩, pa, pc, ps, ra, rc, rw⟩ = eachS S (onB S.rows.length S.cols ⟨t, l, b, r⟩) (fun xs l r => eachR xs l r (keepC ck)) := rfl
  rw [eT]
  clear eT
  obtain ⟨hr1, hc1, hyo, hps, hpl, hpm, hpn, hrw, hrl, hrm, hrn, hro⟩ := ha
  simp only at hr1 hc1 hyo hps hpl hpm hpn hrw hrl hrm hrn hro
  show Calls Tryz.prog 26 #[.pointer (some ⟨p, 0, none⟩), U, .agg #[.int .i64 10, .int .i64 n, .int .i64 t, .int .i64 l, .int .i64 b, .int .i64 r, .int .i64 pr, .int .i64 pc', .int .i32 cg, .int .u8 cr, .bool ck, .slice pa ps.length pc, .slice ra rw.length rc]] w _
  have hV := h'.v
  obtain ⟨A, c, rows, rfl, _, _, _⟩ := hV.op
  have hlt := Lib.hid h.lt
  have PC := Lib.hid (fun w' (hb : Below w.heap.size w w') => keep_p (h.grow hb) hS ⟨t, l, b, r⟩ ck)
  have RC := Lib.hid (fun w' (hk : Keep F w w') => refeach_c 5 _ ⟨t, l, b, r⟩ ⟨cg, cr, ck⟩ (.slice none 0 0) (keepC ck) (h'.keep hk).v hS (fun y hy w'' hb => one_r 5 ⟨cg, cr, ck⟩ none 0 [] ((keepC ck)) (Deed.keep ⟨cg, cr, ck⟩ _) y w'' hy (fun h => by simp at h) (by simp)))
  obtain ⟨T, hT⟩ : ∃ T, T = eachS S (onB S.rows.length S.cols ⟨t, l, b, r⟩) (fun xs l r => eachR xs l r (keepC ck)) := ⟨_, rfl⟩
  rw [← hT] at PC RC ⊢
  clear hT hV h h'
  go_enter Tryz.func26, Tryz.ntmps26
  go_upto_region 31 with ((go_at_call 56); (with_reducible refine (PC.out _ (by (repeat' (first | (with_reducible exact Below.refl _ _) | (with_reducible refine Below.alloc ?_ ?_ _) | (with_reducible refine below_ext ?_ ?_ _) | (with_reducible refine Below.drew ?_) | (with_reducible refine below_drewN ?_ _) | (with_reducible refine Below.setCell ?_ ?_ _) | go_size | (simp only [go_sem]; omega) | (simp [go_sem]; done) | (simp [go_sem]; omega))))).mono ?_); (rintro _ w1 ⟨rfl, hD⟩); replace hD := Lib.hid hD)
  obtain ⟨W0, hW⟩ : ∃ W0, W0 = ((w.alloc (.cells #[.slice A S.rows.length c, .int .i64 S.cols] 27)).alloc (.cells #[.int .i64 10, .int .i64 n, .int .i64 t, .int .i64 l, .int .i64 b, .int .i64 r, .int .i64 pr, .int .i64 pc', .int .i32 cg, .int .u8 cr, .bool ck, .slice pa ps.length pc, .slice ra rw.length rc] 60)).alloc (.cells #[.slice none 0 0, .int .i64 0] 27) := ⟨_, rfl⟩
  have hs0 : W0.heap.size = w.heap.size + 1 + 1 + 1 := by rw [hW]; simp
  have hb0 : Below w.heap.size w W0 := by rw [hW]; (repeat' (first | (with_reducible exact Below.refl _ _) | (with_reducible refine Below.alloc ?_ ?_ _) | (with_reducible refine below_ext ?_ ?_ _) | (with_reducible refine Below.drew ?_) | (with_reducible refine below_drewN ?_ _) | (with_reducible refine Below.setCell ?_ ?_ _) | go_size | (simp only [go_sem]; omega) | (simp [go_sem]; done) | (simp [go_sem]; omega)))
  have p0 : W0.cell? ⟨w.heap.size, 0, none⟩ = some (.slice A S.rows.length c) := by rw [hW]; simp [go_sem]
  have p1 : W0.cell? ⟨w.heap.size, 1, none⟩ = some (.int .i64 S.cols) := by rw [hW]; simp [go_sem]
  have r0 : W0.cell? ⟨w.heap.size + 1 + 1, 0, none⟩ = some (.slice none 0 0) := by rw [hW]; simp [go_sem]
  have r1 : W0.cell? ⟨w.heap.size + 1 + 1, 1, none⟩ = some (.int .i64 0) := by rw [hW]; simp [go_sem]
  have a2 : W0.cell? ⟨w.heap.size + 1, 2, none⟩ = some (.int .i64 t) := by rw [hW]; simp [go_sem]
  have a3 : W0.cell? ⟨w.heap.size + 1, 3, none⟩ = some (.int .i64 l) := by rw [hW]; simp [go_sem]
  have a4 : W0.cell? ⟨w.heap.size + 1, 4, none⟩ = some (.int .i64 b) := by rw [hW]; simp [go_sem]
  have a5 : W0.cell? ⟨w.heap.size + 1, 5, none⟩ = some (.int .i64 r) := by rw [hW]; simp [go_sem]
  have a8 : W0.cell? ⟨w.heap.size + 1, 8, none⟩ = some (.int .i32 cg) := by rw [hW]; simp [go_sem]
  have a9 : W0.cell? ⟨w.heap.size + 1, 9, none⟩ = some (.int .u8 cr) := by rw [hW]; simp [go_sem]
  have a10 : W0.cell? ⟨w.heap.size + 1, 10, none⟩ = some (.bool ck) := by rw [hW]; simp [go_sem]
  have rf : ∀ q, W0.frozen? ⟨w.heap.size + 1 + 1, q, none⟩ = false := by intro q; rw [hW]; simp [go_sem]
  rw [← hW] at hD
  clear hW
  have hbk : ∀ i, i < 3 → w1.heap[w.heap.size + i]? = W0.heap[w.heap.size + i]? := fun i hi => hD.out.1.block _ (by omega) (fun f => by have := hlt.out _ f; omega)
  have b0 := hbk 0 (by omega)
  have b1 := hbk 1 (by omega)
  have b2 := hbk 2 (by omega)
  rw [Nat.add_zero] at b0
  rw [show w.heap.size + 2 = w.heap.size + 1 + 1 by omega] at b2
  replace p0 := (cell_of_heap b0).trans p0
  replace p1 := (cell_of_heap b0).trans p1
  replace r0 := (cell_of_heap b2).trans r0
  replace r1 := (cell_of_heap b2).trans r1
  replace a2 := (cell_of_heap b1).trans a2
  replace a3 := (cell_of_heap b1).trans a3
  replace a4 := (cell_of_heap b1).trans a4
  replace a5 := (cell_of_heap b1).trans a5
  replace a8 := (cell_of_heap b1).trans a8
  replace a9 := (cell_of_heap b1).trans a9
  replace a10 := (cell_of_heap b1).trans a10
  have rf0 := (frozen_of_heap b2).trans (rf 0)
  have rf1 := (frozen_of_heap b2).trans (rf 1)
  have hsz := hD.out.1.size
  have g0 : w.heap.size < w1.heap.size := by omega
  have g1 : w.heap.size + 1 < w1.heap.size := by omega
  have g2 : w.heap.size + 1 + 1 < w1.heap.size := by omega
  have hKp : Keep F w w1 := (Keep.of_below (F := F) hb0).trans hD.out.1 (fun b hb => .inl hb)
  have hfin := Lib.hid (fun x V rws W3 hl hv hf e3 => do_fin (x := x) (V := V) (rws := rws) (W3 := W3) (R := w.heap.size + 1 + 1) hD.out hb0 hlt.out (by omega) (by omega) hl hv hf e3)
  replace hKp := Lib.hid hKp
  clear b0 b1 b2 hbk rf hsz hs0
  go_wp2_with ((go_at_call 52); (with_reducible refine (RC.out _ hKp.out).mono ?_); (rintro _ _ ⟨V, rws, x2, rfl, rfl, hl1, hv1, hf1⟩); (obtain ⟨A1, c1, rfl, _, _⟩ := hl1.form); (obtain ⟨W3, e3, t0, t1, g3⟩ := store2 (V := .slice A1 rws.length c1) (n := .int .i64 T.cols) r0 r1); replace hl1 := Lib.hid hl1; replace hv1 := Lib.hid hv1; replace hf1 := Lib.hid hf1)
  simp [bodyPost, go_sem, t0, t1]
  exact ⟨_, by simp [results, Tryz.f26, go_sem, t0, t1, g3] <;> rfl, hfin.out _ _ _ _ hl1.out hv1.out hf1.out e3⟩
end
end Go.Proofs.YtgmbnnmckdjabaaGreat
