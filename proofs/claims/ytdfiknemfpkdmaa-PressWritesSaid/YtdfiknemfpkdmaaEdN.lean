/- edit: Row.  -/
import Derived.Test.YtdfiknemfpkdmaaEdM
namespace Go.Proofs.Ytdfiknemfpkdmaa
open Go.RowKit
set_option linter.unusedVariables false
set_option linter.unusedSimpArgs false

section
variable {w : World} {F : Nat → Prop} {p : Nat} {S : PgS}
theorem parts_in {m n : Nat} {r c k : Int} (h : 0 ≤ r ∧ r < m) (h2 : 0 ≤ c ∧ c < n) :
    (0 ≤ (partsU m n r c k).1.t ∧ (partsU m n r c k).1.t ≤ m ∧ 0 ≤ (partsU m n r c k).1.l ∧ (partsU m n r c k).1.l ≤ n ∧ 0 ≤ (partsU m n r c k).1.b ∧ (partsU m n r c k).1.b ≤ m ∧ 0 ≤ (partsU m n r c k).1.r ∧ (partsU m n r c k).1.r ≤ n) ∧
    (0 ≤ (partsU m n r c k).2.t ∧ (partsU m n r c k).2.t ≤ m ∧ 0 ≤ (partsU m n r c k).2.l ∧ (partsU m n r c k).2.l ≤ n ∧ 0 ≤ (partsU m n r c k).2.b ∧ (partsU m n r c k).2.b ≤ m ∧ 0 ≤ (partsU m n r c k).2.r ∧ (partsU m n r c k).2.r ≤ n) := by
  unfold partsU
  split <;> (try split) <;> (try split) <;> simp only <;> omega
theorem wipeC_t : wipeC true = cleanC := funext fun y => by simp [wipeC]
theorem wipeC_f : wipeC false = fun _ => erC := funext fun y => by simp [wipeC]
theorem clean_w (h : PageAt w F p S) (hS : S.Ok) (b : BxI) : Calls Try.prog 72 #[.pointer (some ⟨p, 0, none⟩), boxV b.t b.l b.b b.r] w (fun e w' => e = .returned (.tuple #[]) ∧ Did F p (wipeS S true b) w w') := by
  have := clean_p h hS b
  unfold wipeS
  rwa [wipeC_t]
theorem erase_w (h : PageAt w F p S) (hS : S.Ok) (b : BxI) : Calls Try.prog 73 #[.pointer (some ⟨p, 0, none⟩), boxV b.t b.l b.b b.r] w (fun e w' => e = .returned (.tuple #[]) ∧ Did F p (wipeS S false b) w w') := by
  have := erase_p h hS b
  unfold wipeS
  rwa [wipeC_f]
abbrev zeroCu : Cu := ⟨0, 0, 0, false, false, false, 0, 0, 0, 0, 0, 0, 0⟩
set_option maxRecDepth 100000 in
set_option maxHeartbeats 8000000 in
theorem row_ed (h : PageAt w F p S) (hS : S.Ok) (x : Cu) (k : Int) (sel : Bool) : Calls Try.prog 12 #[.pointer (some ⟨p, 0, none⟩), x.v, .int .i64 k, .bool sel] w
    (fun e w' => e = .returned (doneU (eraS S sel true k (onU S.rows.length S.cols x).row (onU S.rows.length S.cols x).col) (onU S.rows.length S.cols x)).v ∧ Did F p (eraS S sel true k (onU S.rows.length S.cols x).row (onU S.rows.length S.cols x).col) w w') := by
  have ON := Lib.hid (fun w' (hb : Below w.heap.size w w') => on_e (h.grow hb) hS x 0 0 0 0 0 0 0 0)
  have hyr := clampI_nat hS.r1 x.row
  have hyc := clampI_nat hS.c1 x.col
  have PT := Lib.hid (fun w' (hb : Below w.heap.size w w') => parts_e (h.grow hb) hS (onU S.rows.length S.cols x) k hyr hyc)
  have hE := box_row (sel := sel) (k := k) hS hyr.1 hyr.2 hyc.1 hyc.2
  have hF := Lib.hid h.lt
  have CL := Lib.hid (fun b w' (hb : Below w.heap.size w w') => clean_w (h.grow hb) hS b)
  have ER := Lib.hid (fun b w' (hb : Below w.heap.size w w') => erase_w (h.grow hb) hS b)
  have okE := eraS_ok (sel := sel) (ra := true) (k := k) (r := clampI 0 S.rows.length x.row) (c := clampI 0 S.cols x.col) hS
  have WY := Lib.hid (fun w' => way_e sel w')
  have hy : (onU S.rows.length S.cols x).row = clampI 0 S.rows.length x.row ∧ (onU S.rows.length S.cols x).col = clampI 0 S.cols x.col := ⟨rfl, rfl⟩
  rw [← hy.1, ← hy.2] at hE okE
  clear h hS hyr hyc hy
  have DN := Lib.hid (fun w' G (hp : PageAt w' G p (eraS S sel true k (onU S.rows.length S.cols x).row (onU S.rows.length S.cols x).col)) => done_e hp okE (onU S.rows.length S.cols x))
  obtain ⟨row, col, rd, kp, wp, og, a, b, c, d, l, r, s⟩ := x
  generalize onU S.rows.length S.cols ⟨row, col, rd, kp, wp, og, a, b, c, d, l, r, s⟩ = y at *
  generalize eraS S sel true k y.row y.col = T at *
  generalize partsU S.rows.length S.cols y.row y.col k = q at *
  obtain ⟨⟨t1, l1, b1, r1⟩, ⟨t2, l2, b2, r2⟩⟩ := q
  generalize doneU T y = z at DN ⊢
  obtain ⟨yw, yc, yd, yk, yp, yo, ya, yb, yc', yd', yl, yr, ys⟩ := y
  obtain ⟨zw, zc, zd, zk, zp, zo, za, zb, zc', zd', zl, zr, zs⟩ := z
  simp only at hE
  subst hE
  simp only [Cu.v, box2V] at ON PT DN
  replace okE := Lib.hid okE
  cases sel
  · simp only [Bool.false_eq_true, if_false] at WY
    go_enter Try.func12, Try.ntmps12
    go_upto_region 3 with (first
      | (go_at_call 34; ((with_reducible refine (ON.out _ (by (repeat' (first | (with_reducible exact Below.refl _ _) | (with_reducible refine Below.alloc ?_ ?_ _) | (with_reducible refine below_ext ?_ ?_ _) | (with_reducible refine Below.drew ?_) | (with_reducible refine below_drewN ?_ _) | (with_reducible refine Below.setCell ?_ ?_ _) | go_size | (simp only [go_sem]; omega) | (simp [go_sem]; done) | (simp [go_sem]; omega))))).mono ?_); rintro _ _ hgets; obtain ⟨rfl, x1, rfl⟩ := hgets.get; clear hgets))
      | (go_at_call 35; ((with_reducible refine (PT.out _ (by (repeat' (first | (with_reducible exact Below.refl _ _) | (with_reducible refine Below.alloc ?_ ?_ _) | (with_reducible refine below_ext ?_ ?_ _) | (with_reducible refine Below.drew ?_) | (with_reducible refine below_drewN ?_ _) | (with_reducible refine Below.setCell ?_ ?_ _) | go_size | (simp only [go_sem]; omega) | (simp [go_sem]; done) | (simp [go_sem]; omega))))).mono ?_); rintro _ _ hgets; obtain ⟨rfl, x2, rfl⟩ := hgets.get; clear hgets)))
    (refine wp_region_F (S := (fun w' => w'.cell? ⟨w.heap.size + 1 + 1 + x1.sz + x2.sz, 0, none⟩ = some (.int .i64 t1) ∧ w'.cell? ⟨w.heap.size + 1 + 1 + x1.sz + x2.sz, 1, none⟩ = some (.int .i64 l1) ∧ w'.cell? ⟨w.heap.size + 1 + 1 + x1.sz + x2.sz, 2, none⟩ = some (.int .i64 b1) ∧ w'.cell? ⟨w.heap.size + 1 + 1 + x1.sz + x2.sz, 3, none⟩ = some (.int .i64 r1))) 4 [false, false, false, false, false] rfl rfl (by kernel_rfl) ?_ (fun hHeld => ?_); (focus ((try dsimp only); (refine ⟨?_, ?_, ?_, ?_⟩ <;> simp [go_sem]); done)))
    ((refine AtF.take (oi := ?_) (v := ?_) 0 ?_ ?_ ?_ ?_ (Or.inl ⟨?_, ?_⟩) (by assumption) ?_; rotate_left 2; rfl; kernel_rfl; kernel_rfl; exact (fun _ _ _ h => h); rfl; (focus (intro w hSw; (try dsimp only at hSw); go_simp; (try with_reducible rfl); done)); (try simp only [Act.put, List.setIfInBounds_toArray, List.set_cons_zero, List.set_cons_succ])); (refine AtF.take (oi := ?_) (v := ?_) 2 ?_ ?_ ?_ ?_ (Or.inl ⟨?_, ?_⟩) (by assumption) ?_; rotate_left 2; rfl; kernel_rfl; kernel_rfl; exact (fun _ _ _ h => h); rfl; (focus (intro w hSw; (try dsimp only at hSw); go_simp; (try with_reducible rfl); done)); (try simp only [Act.put, List.setIfInBounds_toArray, List.set_cons_zero, List.set_cons_succ])); (refine AtF.take (oi := ?_) (v := ?_) 3 ?_ ?_ ?_ ?_ (Or.inl ⟨?_, ?_⟩) (by assumption) ?_; rotate_left 2; rfl; kernel_rfl; kernel_rfl; exact (fun _ _ _ h => h); rfl; (focus (intro w hSw; (try dsimp only at hSw); go_simp; (try with_reducible rfl); done)); (try simp only [Act.put, List.setIfInBounds_toArray, List.set_cons_zero, List.set_cons_succ])))
    (refine AtF.only (oi := ?_) 1 ?_ ?_ (fun K hK => ?_); rotate_left 1; rfl; kernel_rfl; (try go_simp); (go_at_call 36; ((with_reducible refine (WY.out _).mono ?_); rintro _ _ hgets; obtain ⟨rfl, x3, rfl⟩ := hgets.get; clear hgets)); (refine hK.out _ _ ?_ (fun hHeld => ?_)); (focus ((try dsimp only); (refine ⟨?_, ?_, ?_, ?_⟩ <;> simp [go_sem]); done)); clear hK K; (try simp only [Act.put, List.setIfInBounds_toArray, List.set_cons_zero, List.set_cons_succ]))
    (refine AtF.last (oi := ?_) ?_ ?_ (fun K hK => ?_); rotate_left 1; rfl; kernel_rfl; go_simp; (go_at_call 73; (with_reducible refine (ER.out ⟨t1, l1, b1, r1⟩ _ (by (repeat' (first | (with_reducible exact Below.refl _ _) | (with_reducible refine Below.alloc ?_ ?_ _) | (with_reducible refine below_ext ?_ ?_ _) | (with_reducible refine Below.drew ?_) | (with_reducible refine below_drewN ?_ _) | (with_reducible refine Below.setCell ?_ ?_ _) | go_size | (simp only [go_sem]; omega) | (simp [go_sem]; done) | (simp [go_sem]; omega))))).mono ?_); (rintro _ W3 ⟨rfl, hD⟩)); refine hK.out _ _ ?_; clear hK K; (try simp only [Act.put, List.setIfInBounds_toArray, List.set_cons_zero, List.set_cons_succ]))
    obtain ⟨Wz, hb, hc, hz, hD⟩ : ∃ Wz, Below w.heap.size w Wz ∧ CVar 49 Wz w.heap.size ⟨yw, yc, yd, yk, yp, yo, ya, yb, yc', yd', yl, yr, ys⟩ ∧ CVar 49 Wz (w.heap.size + 1) zeroCu ∧ Did F p (wipeS S false ⟨t1, l1, b1, r1⟩) Wz W3 := ⟨_, by (repeat' (first | (with_reducible exact Below.refl _ _) | (with_reducible refine Below.alloc ?_ ?_ _) | (with_reducible refine below_ext ?_ ?_ _) | (with_reducible refine Below.drew ?_) | (with_reducible refine below_drewN ?_ _) | (with_reducible refine Below.setCell ?_ ?_ _) | go_size | (simp only [go_sem]; omega) | (simp [go_sem]; done) | (simp [go_sem]; omega))), by unfold CVar; (repeat (first | ((with_reducible refine heap_at _ _ ?_); (focus (first | rfl | (simp [go_sem]; done) | (simp [go_sem]; omega)))) | ((with_reducible refine (heap_old _ _ ?_).trans ?_); (focus (first | (simp [go_sem]; done) | (simp [go_sem]; omega)))) | ((with_reducible refine (block_ext _ _ ?_).trans ?_); (focus (first | (simp [go_sem]; done) | (simp [go_sem]; omega)))) | ((with_reducible refine (heap_drew _ _).trans ?_)))), by unfold CVar; (repeat (first | ((with_reducible refine heap_at _ _ ?_); (focus (first | rfl | (simp [go_sem]; done) | (simp [go_sem]; omega)))) | ((with_reducible refine (heap_old _ _ ?_).trans ?_); (focus (first | (simp [go_sem]; done) | (simp [go_sem]; omega)))) | ((with_reducible refine (block_ext _ _ ?_).trans ?_); (focus (first | (simp [go_sem]; done) | (simp [go_sem]; omega)))) | ((with_reducible refine (heap_drew _ _).trans ?_)))), hD⟩
    clear hHeld
    have hzs := hb.size
    have hHR := heap_in hz
    have c3 := hc.keep hD.1 (fun f => by have := hF.out _ f; omega)
    have z3 := hz.keep hD.1 (fun f => by have := hF.out _ f; omega)
    have hWs := hD.1.size
    have P3 := Lib.hid hD.2
    replace hD := Lib.hid hD
    obtain ⟨e0, e1, e2, e3, e4, e5, e6, e7, e8, e9, e10, e11, e12, el⟩ := c3.cells
    obtain ⟨u0, u1, u2, u3, u4, u5, u6, u7, u8, u9, u10, u11, u12, ul⟩ := z3.cells
    obtain ⟨f0, f1, f2, f3, f4, f5, f6, f7, f8, f9, f10, f11, f12⟩ := z3.fz13
    go_wp2_with (go_at_call 39; ((with_reducible refine (DN.out _ _ (P3.out.grow (by (repeat' (first | (with_reducible exact Below.refl _ _) | (with_reducible refine Below.alloc ?_ ?_ _) | (with_reducible refine below_ext ?_ ?_ _) | (with_reducible refine Below.drew ?_) | (with_reducible refine below_drewN ?_ _) | (with_reducible refine Below.setCell ?_ ?_ _) | go_size | (simp only [go_sem]; omega) | (simp [go_sem]; done) | (simp [go_sem]; omega)))))).mono ?_); rintro _ _ hgets; obtain ⟨rfl, x4, rfl⟩ := hgets.get; clear hgets))
    obtain ⟨W4, e4, k4, c4⟩ := z3.store ⟨zw, zc, zd, zk, zp, zo, za, zb, zc', zd', zl, zr, zs⟩
    simp only at e4
    rw [e4]
    have FN := Did.var hD.out hb hF.out (by omega) hHR (k4.trans (Keep.of_below (F := fun _ => False) (below_of_ext W4 x4)) (fun _ f => f.elim))
    clear u0 u1 u2 u3 u4 u5 u6 u7 u8 u9 u10 u11 u12 f0 f1 f2 f3 f4 f5 f6 f7 f8 f9 f10 f11 f12
    obtain ⟨s0, s1, s2, s3, s4, s5, s6, s7, s8, s9, s10, s11, s12, sl⟩ := c4.cells
    replace FN := Lib.hid FN
    simp [bodyPost, go_sem, s0, s1, s2, s3, s4, s5, s6, s7, s8, s9, s10, s11, s12, sl]
    exact ⟨_, by simp [results, Try.f12, go_sem, s0, s1, s2, s3, s4, s5, s6, s7, s8, s9, s10, s11, s12, sl] <;> rfl, rfl, FN.out⟩
  · simp only [if_true] at WY
    go_enter Try.func12, Try.ntmps12
    go_upto_region 3 with (first
      | (go_at_call 34; ((with_reducible refine (ON.out _ (by (repeat' (first | (with_reducible exact Below.refl _ _) | (with_reducible refine Below.alloc ?_ ?_ _) | (with_reducible refine below_ext ?_ ?_ _) | (with_reducible refine Below.drew ?_) | (with_reducible refine below_drewN ?_ _) | (with_reducible refine Below.setCell ?_ ?_ _) | go_size | (simp only [go_sem]; omega) | (simp [go_sem]; done) | (simp [go_sem]; omega))))).mono ?_); rintro _ _ hgets; obtain ⟨rfl, x1, rfl⟩ := hgets.get; clear hgets))
      | (go_at_call 35; ((with_reducible refine (PT.out _ (by (repeat' (first | (with_reducible exact Below.refl _ _) | (with_reducible refine Below.alloc ?_ ?_ _) | (with_reducible refine below_ext ?_ ?_ _) | (with_reducible refine Below.drew ?_) | (with_reducible refine below_drewN ?_ _) | (with_reducible refine Below.setCell ?_ ?_ _) | go_size | (simp only [go_sem]; omega) | (simp [go_sem]; done) | (simp [go_sem]; omega))))).mono ?_); rintro _ _ hgets; obtain ⟨rfl, x2, rfl⟩ := hgets.get; clear hgets)))
    (refine wp_region_F (S := (fun w' => w'.cell? ⟨w.heap.size + 1 + 1 + x1.sz + x2.sz, 0, none⟩ = some (.int .i64 t1) ∧ w'.cell? ⟨w.heap.size + 1 + 1 + x1.sz + x2.sz, 1, none⟩ = some (.int .i64 l1) ∧ w'.cell? ⟨w.heap.size + 1 + 1 + x1.sz + x2.sz, 2, none⟩ = some (.int .i64 b1) ∧ w'.cell? ⟨w.heap.size + 1 + 1 + x1.sz + x2.sz, 3, none⟩ = some (.int .i64 r1))) 4 [false, false, false, false, false] rfl rfl (by kernel_rfl) ?_ (fun hHeld => ?_); (focus ((try dsimp only); (refine ⟨?_, ?_, ?_, ?_⟩ <;> simp [go_sem]); done)))
    ((refine AtF.take (oi := ?_) (v := ?_) 0 ?_ ?_ ?_ ?_ (Or.inl ⟨?_, ?_⟩) (by assumption) ?_; rotate_left 2; rfl; kernel_rfl; kernel_rfl; exact (fun _ _ _ h => h); rfl; (focus (intro w hSw; (try dsimp only at hSw); go_simp; (try with_reducible rfl); done)); (try simp only [Act.put, List.setIfInBounds_toArray, List.set_cons_zero, List.set_cons_succ])); (refine AtF.take (oi := ?_) (v := ?_) 2 ?_ ?_ ?_ ?_ (Or.inl ⟨?_, ?_⟩) (by assumption) ?_; rotate_left 2; rfl; kernel_rfl; kernel_rfl; exact (fun _ _ _ h => h); rfl; (focus (intro w hSw; (try dsimp only at hSw); go_simp; (try with_reducible rfl); done)); (try simp only [Act.put, List.setIfInBounds_toArray, List.set_cons_zero, List.set_cons_succ])); (refine AtF.take (oi := ?_) (v := ?_) 3 ?_ ?_ ?_ ?_ (Or.inl ⟨?_, ?_⟩) (by assumption) ?_; rotate_left 2; rfl; kernel_rfl; kernel_rfl; exact (fun _ _ _ h => h); rfl; (focus (intro w hSw; (try dsimp only at hSw); go_simp; (try with_reducible rfl); done)); (try simp only [Act.put, List.setIfInBounds_toArray, List.set_cons_zero, List.set_cons_succ])))
    (refine AtF.only (oi := ?_) 1 ?_ ?_ (fun K hK => ?_); rotate_left 1; rfl; kernel_rfl; (try go_simp); (go_at_call 36; ((with_reducible refine (WY.out _).mono ?_); rintro _ _ hgets; obtain ⟨rfl, x3, rfl⟩ := hgets.get; clear hgets)); (refine hK.out _ _ ?_ (fun hHeld => ?_)); (focus ((try dsimp only); (refine ⟨?_, ?_, ?_, ?_⟩ <;> simp [go_sem]); done)); clear hK K; (try simp only [Act.put, List.setIfInBounds_toArray, List.set_cons_zero, List.set_cons_succ]))
    (refine AtF.last (oi := ?_) ?_ ?_ (fun K hK => ?_); rotate_left 1; rfl; kernel_rfl; go_simp; (go_at_call 72; (with_reducible refine (CL.out ⟨t1, l1, b1, r1⟩ _ (by (repeat' (first | (with_reducible exact Below.refl _ _) | (with_reducible refine Below.alloc ?_ ?_ _) | (with_reducible refine below_ext ?_ ?_ _) | (with_reducible refine Below.drew ?_) | (with_reducible refine below_drewN ?_ _) | (with_reducible refine Below.setCell ?_ ?_ _) | go_size | (simp only [go_sem]; omega) | (simp [go_sem]; done) | (simp [go_sem]; omega))))).mono ?_); (rintro _ W3 ⟨rfl, hD⟩)); refine hK.out _ _ ?_; clear hK K; (try simp only [Act.put, List.setIfInBounds_toArray, List.set_cons_zero, List.set_cons_succ]))
    obtain ⟨Wz, hb, hc, hz, hD⟩ : ∃ Wz, Below w.heap.size w Wz ∧ CVar 49 Wz w.heap.size ⟨yw, yc, yd, yk, yp, yo, ya, yb, yc', yd', yl, yr, ys⟩ ∧ CVar 49 Wz (w.heap.size + 1) zeroCu ∧ Did F p (wipeS S true ⟨t1, l1, b1, r1⟩) Wz W3 := ⟨_, by (repeat' (first | (with_reducible exact Below.refl _ _) | (with_reducible refine Below.alloc ?_ ?_ _) | (with_reducible refine below_ext ?_ ?_ _) | (with_reducible refine Below.drew ?_) | (with_reducible refine below_drewN ?_ _) | (with_reducible refine Below.setCell ?_ ?_ _) | go_size | (simp only [go_sem]; omega) | (simp [go_sem]; done) | (simp [go_sem]; omega))), by unfold CVar; (repeat (first | ((with_reducible refine heap_at _ _ ?_); (focus (first | rfl | (simp [go_sem]; done) | (simp [go_sem]; omega)))) | ((with_reducible refine (heap_old _ _ ?_).trans ?_); (focus (first | (simp [go_sem]; done) | (simp [go_sem]; omega)))) | ((with_reducible refine (block_ext _ _ ?_).trans ?_); (focus (first | (simp [go_sem]; done) | (simp [go_sem]; omega)))) | ((with_reducible refine (heap_drew _ _).trans ?_)))), by unfold CVar; (repeat (first | ((with_reducible refine heap_at _ _ ?_); (focus (first | rfl | (simp [go_sem]; done) | (simp [go_sem]; omega)))) | ((with_reducible refine (heap_old _ _ ?_).trans ?_); (focus (first | (simp [go_sem]; done) | (simp [go_sem]; omega)))) | ((with_reducible refine (block_ext _ _ ?_).trans ?_); (focus (first | (simp [go_sem]; done) | (simp [go_sem]; omega)))) | ((with_reducible refine (heap_drew _ _).trans ?_)))), hD⟩
    clear hHeld
    have hzs := hb.size
    have hHR := heap_in hz
    have c3 := hc.keep hD.1 (fun f => by have := hF.out _ f; omega)
    have z3 := hz.keep hD.1 (fun f => by have := hF.out _ f; omega)
    have hWs := hD.1.size
    have P3 := Lib.hid hD.2
    replace hD := Lib.hid hD
    obtain ⟨e0, e1, e2, e3, e4, e5, e6, e7, e8, e9, e10, e11, e12, el⟩ := c3.cells
    obtain ⟨u0, u1, u2, u3, u4, u5, u6, u7, u8, u9, u10, u11, u12, ul⟩ := z3.cells
    obtain ⟨f0, f1, f2, f3, f4, f5, f6, f7, f8, f9, f10, f11, f12⟩ := z3.fz13
    go_wp2_with (go_at_call 39; ((with_reducible refine (DN.out _ _ (P3.out.grow (by (repeat' (first | (with_reducible exact Below.refl _ _) | (with_reducible refine Below.alloc ?_ ?_ _) | (with_reducible refine below_ext ?_ ?_ _) | (with_reducible refine Below.drew ?_) | (with_reducible refine below_drewN ?_ _) | (with_reducible refine Below.setCell ?_ ?_ _) | go_size | (simp only [go_sem]; omega) | (simp [go_sem]; done) | (simp [go_sem]; omega)))))).mono ?_); rintro _ _ hgets; obtain ⟨rfl, x4, rfl⟩ := hgets.get; clear hgets))
    obtain ⟨W4, e4, k4, c4⟩ := z3.store ⟨zw, zc, zd, zk, zp, zo, za, zb, zc', zd', zl, zr, zs⟩
    simp only at e4
    rw [e4]
    have FN := Did.var hD.out hb hF.out (by omega) hHR (k4.trans (Keep.of_below (F := fun _ => False) (below_of_ext W4 x4)) (fun _ f => f.elim))
    clear u0 u1 u2 u3 u4 u5 u6 u7 u8 u9 u10 u11 u12 f0 f1 f2 f3 f4 f5 f6 f7 f8 f9 f10 f11 f12
    obtain ⟨s0, s1, s2, s3, s4, s5, s6, s7, s8, s9, s10, s11, s12, sl⟩ := c4.cells
    replace FN := Lib.hid FN
    simp [bodyPost, go_sem, s0, s1, s2, s3, s4, s5, s6, s7, s8, s9, s10, s11, s12, sl]
    exact ⟨_, by simp [results, Try.f12, go_sem, s0, s1, s2, s3, s4, s5, s6, s7, s8, s9, s10, s11, s12, sl] <;> rfl, rfl, FN.out⟩
end
end Go.Proofs.Ytdfiknemfpkdmaa
/- edit: Display.  -/
namespace Go.Proofs.Ytdfiknemfpkdmaa
open Go.RowKit
set_option linter.unusedVariables false
set_option linter.unusedSimpArgs false

section
variable {w : World} {F : Nat → Prop} {p : Nat} {S : PgS}
theorem resR_self {xs : List Cl} {n : Nat} (h : xs.length = n) : resR xs n = xs := by
  subst h
  unfold resR layOn
  simp
/-- a line's size is made 0 -/
theorem size0_step {V : PgS} (hV : V.Ok) {t a : Nat} (h1 : t ≤ a) (h : a < V.rows.length) :
    setLineS (rowsJ V t (fun _ r => (r.1, 0)) (a - t)) a (lineOf (rowsJ V t (fun _ r => (r.1, 0)) (a - t)) a).1 0 = rowsJ V t (fun _ r => (r.1, 0)) (a + 1 - t) := by
  have h' : a < (rowsJ V t (fun _ r => (r.1, 0)) (a - t)).rows.length := by rw [rowsJ_len]; exact h
  rw [lineOf_in h', rowsJ_at (show t + (a - t) = a by omega) h, show a + 1 - t = (a - t) + 1 by omega, rowsJ_step (show t + (a - t) = a by omega) h]
  unfold setLineS
  rw [if_pos (by unfold thereI; simp; omega), resR_self (by rw [hV.len h]; rfl)]
  rfl
theorem lineOf_size0 {V : PgS} (hV : V.Ok) {t a j : Nat} (h : a < V.rows.length) : (lineOf (rowsJ V t (fun _ r => (r.1, 0)) j) a).1.length = V.cols := by
  rw [lineOf_in (by rw [rowsJ_len]; exact h), rowsJ_get h]
  split <;> exact hV.len h
def stepB (S : PgS) (sel : Bool) (a b : BxI) : Nat → PgS
  | 0 => S
  | 1 => boxS S sel a
  | _ => boxS (boxS S sel a) sel b
theorem stepB_ok (hS : S.Ok) (sel : Bool) (a b : BxI) (j : Nat) : (stepB S sel a b j).Ok ∧ (stepB S sel a b j).rows.length = S.rows.length ∧ (stepB S sel a b j).cols = S.cols := by
  match j with
  | 0 => exact ⟨hS, rfl, rfl⟩
  | 1 => exact ⟨boxS_ok hS, boxS_len, boxS_cols⟩
  | n + 2 => exact ⟨boxS_ok (boxS_ok hS), by show (boxS (boxS S sel a) sel b).rows.length = _; rw [boxS_len, boxS_len], by show (boxS (boxS S sel a) sel b).cols = _; rw [boxS_cols, boxS_cols]⟩
/-- box j of two -/
theorem box_j {wr : World} {H : Nat} {a b : BxI} {sel : Bool} {m n : Nat} {j : Nat} (hj : j < 2) (hK : wr.heap[H]? = some (.cells #[.int .i64 a.t, .int .i64 a.l, .int .i64 a.b, .int .i64 a.r, .int .i64 b.t, .int .i64 b.l, .int .i64 b.b, .int .i64 b.r] 31 (0, 0)))
    (h1 : (0 ≤ a.t ∧ a.t ≤ m ∧ 0 ≤ a.l ∧ a.l ≤ n ∧ 0 ≤ a.b ∧ a.b ≤ m ∧ 0 ≤ a.r ∧ a.r ≤ n)) (h2 : (0 ≤ b.t ∧ b.t ≤ m ∧ 0 ≤ b.l ∧ b.l ≤ n ∧ 0 ≤ b.b ∧ b.b ≤ m ∧ 0 ≤ b.r ∧ b.r ≤ n)) :
    ∃ t l e r : Nat, t ≤ m ∧ l ≤ n ∧ e ≤ m ∧ r ≤ n ∧ wr.cell? ⟨H, j * 4, none⟩ = some (.int .i64 t) ∧ wr.cell? ⟨H, j * 4 + 1, none⟩ = some (.int .i64 l) ∧ wr.cell? ⟨H, j * 4 + 2, none⟩ = some (.int .i64 e) ∧ wr.cell? ⟨H, j * 4 + 3, none⟩ = some (.int .i64 r) ∧ H < wr.heap.size ∧
      stepB S sel a b (j + 1) = boxS (stepB S sel a b j) sel ⟨t, l, e, r⟩ := by
  have key : ∀ (c : BxI), (0 ≤ c.t ∧ c.t ≤ m ∧ 0 ≤ c.l ∧ c.l ≤ n ∧ 0 ≤ c.b ∧ c.b ≤ m ∧ 0 ≤ c.r ∧ c.r ≤ n) → ∃ t l e r : Nat, t ≤ m ∧ l ≤ n ∧ e ≤ m ∧ r ≤ n ∧ c = ⟨t, l, e, r⟩ := by
    rintro ⟨t, l, e, r⟩ h
    simp only at h
    exact ⟨t.toNat, l.toNat, e.toNat, r.toNat, by omega, by omega, by omega, by omega, by rw [Int.toNat_of_nonneg (by omega), Int.toNat_of_nonneg (by omega), Int.toNat_of_nonneg (by omega), Int.toNat_of_nonneg (by omega)]⟩
  obtain ⟨t, l, e, r, q1, q2, q3, q4, rfl⟩ := key a h1
  obtain ⟨t', l', e', r', q1', q2', q3', q4', rfl⟩ := key b h2
  have hc : j = 0 ∨ j = 1 := by omega
  rcases hc with rfl | rfl
  · exact ⟨t, l, e, r, q1, q2, q3, q4, by rw [cell_in hK]; rfl, by rw [cell_in hK]; rfl, by rw [cell_in hK]; rfl, by rw [cell_in hK]; rfl, heap_in hK, rfl⟩
  · exact ⟨t', l', e', r', q1', q2', q3', q4', by rw [cell_in hK]; rfl, by rw [cell_in hK]; rfl, by rw [cell_in hK]; rfl, by rw [cell_in hK]; rfl, heap_in hK, rfl⟩
set_option maxRecDepth 100000 in
set_option maxHeartbeats 16000000 in
theorem display_ed (h : PageAt w F p S) (hS : S.Ok) (x : Cu) (k : Int) (sel : Bool) : Calls Try.prog 10 #[.pointer (some ⟨p, 0, none⟩), x.v, .int .i64 k, .bool sel] w
    (fun e w' => e = .returned (doneU (eraS S sel false k (onU S.rows.length S.cols x).row (onU S.rows.length S.cols x).col) (onU S.rows.length S.cols x)).v ∧ Did F p (eraS S sel false k (onU S.rows.length S.cols x).row (onU S.rows.length S.cols x).col) w w') := by
  have ON := Lib.hid (fun w' (hb : Below w.heap.size w w') => on_e (h.grow hb) hS x 0 0 0 0 0 0 0 0)
  have hyr := clampI_nat hS.r1 x.row
  have hyc := clampI_nat hS.c1 x.col
  have PT := Lib.hid (fun w' (hb : Below w.heap.size w w') => parts_e (h.grow hb) hS (onU S.rows.length S.cols x) k hyr hyc)
  have hE := boxes_era (sel := sel) (k := k) hS hyr.1 hyr.2 hyc.1 hyc.2
  have PI := parts_in (k := k) hyr hyc
  have hF := Lib.hid h.lt
  have hP := Lib.hid h
  have hST := Lib.hid (stepB_ok hS sel)
  have okE := eraS_ok (sel := sel) (ra := false) (k := k) (r := clampI 0 S.rows.length x.row) (c := clampI 0 S.cols x.col) hS
  have WY := Lib.hid (fun w' => way_e sel w')
  have hy : (onU S.rows.length S.cols x).row = clampI 0 S.rows.length x.row ∧ (onU S.rows.length S.cols x).col = clampI 0 S.cols x.col := ⟨rfl, rfl⟩
  rw [← hy.1, ← hy.2] at hE okE PI
  have hm5 := hS.r2
  have hn5 := hS.c2
  have hn1 := hS.c1
  clear h hS hyr hyc hy
  have DN := Lib.hid (fun w' G (hp : PageAt w' G p (eraS S sel false k (onU S.rows.length S.cols x).row (onU S.rows.length S.cols x).col)) => done_e hp okE (onU S.rows.length S.cols x))
  obtain ⟨row, col, rd, kp, wp, og, a, b, c, d, l, r, s⟩ := x
  generalize onU S.rows.length S.cols ⟨row, col, rd, kp, wp, og, a, b, c, d, l, r, s⟩ = y at *
  generalize eraS S sel false k y.row y.col = T at *
  generalize partsU S.rows.length S.cols y.row y.col k = q at *
  obtain ⟨⟨t1, l1, b1, r1⟩, ⟨t2, l2, b2, r2⟩⟩ := q
  generalize doneU T y = z at DN ⊢
  obtain ⟨yw, yc, yd, yk, yp, yo, ya, yb, yc', yd', yl, yr, ys⟩ := y
  obtain ⟨zw, zc, zd, zk, zp, zo, za, zb, zc', zd', zl, zr, zs⟩ := z
  simp only at hE
  obtain ⟨PI1, PI2⟩ := PI
  replace PI1 := Lib.hid PI1
  replace PI2 := Lib.hid PI2
  simp only [Cu.v, box2V] at ON PT DN
  replace hE := Lib.hid (show stepB S sel ⟨t1, l1, b1, r1⟩ ⟨t2, l2, b2, r2⟩ 2 = T from hE)
  generalize S.rows.length = m at *
  generalize S.cols = n at *
  cases sel
  · simp only [Bool.false_eq_true, if_false] at WY
    go_enter Try.func10, Try.ntmps10
    go_wp2_with (first
      | (go_at_call 34; ((with_reducible refine (ON.out _ (by (repeat' (first | (with_reducible exact Below.refl _ _) | (with_reducible refine Below.alloc ?_ ?_ _) | (with_reducible refine below_ext ?_ ?_ _) | (with_reducible refine Below.drew ?_) | (with_reducible refine below_drewN ?_ _) | (with_reducible refine Below.setCell ?_ ?_ _) | go_size | (simp only [go_sem]; omega) | (simp [go_sem]; done) | (simp [go_sem]; omega))))).mono ?_); rintro _ _ hgets; obtain ⟨rfl, x1, rfl⟩ := hgets.get; clear hgets))
      | (go_at_call 35; ((with_reducible refine (PT.out _ (by (repeat' (first | (with_reducible exact Below.refl _ _) | (with_reducible refine Below.alloc ?_ ?_ _) | (with_reducible refine below_ext ?_ ?_ _) | (with_reducible refine Below.drew ?_) | (with_reducible refine below_drewN ?_ _) | (with_reducible refine Below.setCell ?_ ?_ _) | go_size | (simp only [go_sem]; omega) | (simp [go_sem]; done) | (simp [go_sem]; omega))))).mono ?_); rintro _ _ hgets; obtain ⟨rfl, x2, rfl⟩ := hgets.get; clear hgets)))
    go_loopw [34] (fun iv wr => ∃ (j : Nat) (Wz : World), j ≤ 2 ∧ iv = .int .i64 j ∧ Hid (Below w.heap.size w Wz) ∧ Hid (CVar 49 Wz w.heap.size ⟨yw, yc, yd, yk, yp, yo, ya, yb, yc', yd', yl, yr, ys⟩) ∧ Hid (CVar 49 Wz (w.heap.size + 1) zeroCu) ∧ Hid (Wz.heap[w.heap.size + 1 + 1 + x1.sz + x2.sz + 1 + 1]? = some (.cells #[.int .i64 t1, .int .i64 l1, .int .i64 b1, .int .i64 r1, .int .i64 t2, .int .i64 l2, .int .i64 b2, .int .i64 r2] 31 (0, 0))) ∧ Hid (Did F p (stepB S false ⟨t1, l1, b1, r1⟩ ⟨t2, l2, b2, r2⟩ j) Wz wr)) (fun iv _ => 2 - (intOf iv).toNat)
    case atStart =>
      refine ⟨0, _, by omega, rfl, ?_, ?_, ?_, ?_, Lib.hid (Did.refl (hP.out.grow ?_))⟩
      · exact Lib.hid (by (repeat' (first | (with_reducible exact Below.refl _ _) | (with_reducible refine Below.alloc ?_ ?_ _) | (with_reducible refine below_ext ?_ ?_ _) | (with_reducible refine Below.drew ?_) | (with_reducible refine below_drewN ?_ _) | (with_reducible refine Below.setCell ?_ ?_ _) | go_size | (simp only [go_sem]; omega) | (simp [go_sem]; done) | (simp [go_sem]; omega))))
      · exact Lib.hid (by unfold CVar; (repeat (first | ((with_reducible refine heap_at _ _ ?_); (focus (first | rfl | (simp [go_sem]; done) | (simp [go_sem]; omega)))) | ((with_reducible refine (heap_old _ _ ?_).trans ?_); (focus (first | (simp [go_sem]; done) | (simp [go_sem]; omega)))) | ((with_reducible refine (block_ext _ _ ?_).trans ?_); (focus (first | (simp [go_sem]; done) | (simp [go_sem]; omega)))) | ((with_reducible refine (heap_drew _ _).trans ?_)))))
      · exact Lib.hid (by unfold CVar; (repeat (first | ((with_reducible refine heap_at _ _ ?_); (focus (first | rfl | (simp [go_sem]; done) | (simp [go_sem]; omega)))) | ((with_reducible refine (heap_old _ _ ?_).trans ?_); (focus (first | (simp [go_sem]; done) | (simp [go_sem]; omega)))) | ((with_reducible refine (block_ext _ _ ?_).trans ?_); (focus (first | (simp [go_sem]; done) | (simp [go_sem]; omega)))) | ((with_reducible refine (heap_drew _ _).trans ?_)))))
      · exact Lib.hid (by (repeat (first | ((with_reducible refine heap_at _ _ ?_); (focus (first | rfl | (simp [go_sem]; done) | (simp [go_sem]; omega)))) | ((with_reducible refine (heap_old _ _ ?_).trans ?_); (focus (first | (simp [go_sem]; done) | (simp [go_sem]; omega)))) | ((with_reducible refine (block_ext _ _ ?_).trans ?_); (focus (first | (simp [go_sem]; done) | (simp [go_sem]; omega)))) | ((with_reducible refine (heap_drew _ _).trans ?_)))))
      · (repeat' (first | (with_reducible exact Below.refl _ _) | (with_reducible refine Below.alloc ?_ ?_ _) | (with_reducible refine below_ext ?_ ?_ _) | (with_reducible refine Below.drew ?_) | (with_reducible refine below_drewN ?_ _) | (with_reducible refine Below.setCell ?_ ?_ _) | go_size | (simp only [go_sem]; omega) | (simp [go_sem]; done) | (simp [go_sem]; omega)))
    case round =>
      obtain ⟨j, Wz, hj, rfl, hb, hc, hz, hK, hD⟩ := hrel
      have hzs := hb.out.size
      have hHz : w.heap.size + 1 < Wz.heap.size := heap_in hz.out
      have hHK : w.heap.size + 1 + 1 + x1.sz + x2.sz + 1 + 1 < Wz.heap.size := heap_in hK.out
      have hWr := hD.out.1.size
      by_cases hlt : j < 2
      · have e2 : decide ((j : Int) < 2) = true := decide_eq_true (by omega)
        obtain ⟨t, l', e, r', ht, hl', he, hr', g0, g1, g2, g3, gk, hst⟩ := box_j (S := S) (sel := false) (a := ⟨t1, l1, b1, r1⟩) (b := ⟨t2, l2, b2, r2⟩) (m := m) (n := n) hlt ((hD.out.1.block _ hHK (fun f => by have := hF.out _ f; omega)).trans hK.out) PI1.out PI2.out
        obtain ⟨okU, hUm, hUn⟩ := hST.out ⟨t1, l1, b1, r1⟩ ⟨t2, l2, b2, r2⟩ j
        generalize hQ : stepB S false ⟨t1, l1, b1, r1⟩ ⟨t2, l2, b2, r2⟩ (j + 1) = U' at hst
        replace hQ := Lib.hid hQ
        generalize stepB S false ⟨t1, l1, b1, r1⟩ ⟨t2, l2, b2, r2⟩ j = U at *
        have okW := wipeS_ok (sel := false) (b := ⟨t, l', e, r'⟩) okU
        have PU := hD.out.2
        have hGl := PU.lt
        have hGw := Lib.hid (fun b (hb2 : more F Wz wr b) => hGl b hb2)
        have CL := Lib.hid (fun w' (hb : Below wr.heap.size wr w') => erase_w (PU.grow hb) okU ⟨t, l', e, r'⟩)
        have SZ := Lib.hid (fun w' => size_c t l' e r' w' (by omega) (by omega) (by omega) (by omega))
        obtain ⟨Wa, hWa⟩ : ∃ Wa, Wa = wr := ⟨_, rfl⟩
        subst hWa
        go_upto_region 6 with fail
        (refine wp_region_F (S := (fun w' => w'.cell? ⟨Wa.heap.size, 0, none⟩ = some (.int .i64 t) ∧ w'.cell? ⟨Wa.heap.size, 1, none⟩ = some (.int .i64 l') ∧ w'.cell? ⟨Wa.heap.size, 2, none⟩ = some (.int .i64 e) ∧ w'.cell? ⟨Wa.heap.size, 3, none⟩ = some (.int .i64 r'))) 4 [false, false, false, false, false] rfl rfl (by kernel_rfl) ?_ (fun hHeld => ?_); (focus ((try dsimp only); (refine ⟨?_, ?_, ?_, ?_⟩ <;> simp [go_sem]); done)))
        ((refine AtF.take (oi := ?_) (v := ?_) 0 ?_ ?_ ?_ ?_ (Or.inl ⟨?_, ?_⟩) (by assumption) ?_; rotate_left 2; rfl; kernel_rfl; kernel_rfl; exact (fun _ _ _ h => h); rfl; (focus (intro w hSw; (try dsimp only at hSw); go_simp; (try with_reducible rfl); done)); (try simp only [Act.put, List.setIfInBounds_toArray, List.set_cons_zero, List.set_cons_succ])); (refine AtF.take (oi := ?_) (v := ?_) 2 ?_ ?_ ?_ ?_ (Or.inl ⟨?_, ?_⟩) (by assumption) ?_; rotate_left 2; rfl; kernel_rfl; kernel_rfl; exact (fun _ _ _ h => h); rfl; (focus (intro w hSw; (try dsimp only at hSw); go_simp; (try with_reducible rfl); done)); (try simp only [Act.put, List.setIfInBounds_toArray, List.set_cons_zero, List.set_cons_succ])); (refine AtF.take (oi := ?_) (v := ?_) 3 ?_ ?_ ?_ ?_ (Or.inl ⟨?_, ?_⟩) (by assumption) ?_; rotate_left 2; rfl; kernel_rfl; kernel_rfl; exact (fun _ _ _ h => h); rfl; (focus (intro w hSw; (try dsimp only at hSw); go_simp; (try with_reducible rfl); done)); (try simp only [Act.put, List.setIfInBounds_toArray, List.set_cons_zero, List.set_cons_succ])))
        (refine AtF.only (oi := ?_) 1 ?_ ?_ (fun K hK => ?_); rotate_left 1; rfl; kernel_rfl; (try go_simp); (go_at_call 36; ((with_reducible refine (WY.out _).mono ?_); rintro _ _ hgets; obtain ⟨rfl, x3, rfl⟩ := hgets.get; clear hgets)); (refine hK.out _ _ ?_ (fun hHeld => ?_)); (focus ((try dsimp only); (refine ⟨?_, ?_, ?_, ?_⟩ <;> simp [go_sem]); done)); clear hK K; (try simp only [Act.put, List.setIfInBounds_toArray, List.set_cons_zero, List.set_cons_succ]))
        (refine AtF.last (oi := ?_) ?_ ?_ (fun K hK => ?_); rotate_left 1; rfl; kernel_rfl; go_simp; (go_at_call 73; (with_reducible refine (CL.out _ (by (repeat' (first | (with_reducible exact Below.refl _ _) | (with_reducible refine Below.alloc ?_ ?_ _) | (with_reducible refine below_ext ?_ ?_ _) | (with_reducible refine Below.drew ?_) | (with_reducible refine below_drewN ?_ _) | (with_reducible refine Below.setCell ?_ ?_ _) | go_size | (simp only [go_sem]; omega) | (simp [go_sem]; done) | (simp [go_sem]; omega))))).mono ?_); (rintro _ W3 ⟨rfl, hD0⟩)); refine hK.out _ _ ?_; clear hK K; (try simp only [Act.put, List.setIfInBounds_toArray, List.set_cons_zero, List.set_cons_succ]))
        clear hHeld
        obtain ⟨Wq, hbq, hbx, hD3⟩ : ∃ Wq, Below Wa.heap.size Wa Wq ∧ Wq.heap[Wa.heap.size]? = some (.cells #[.int .i64 t, .int .i64 l', .int .i64 e, .int .i64 r'] 31 (0, 0)) ∧ Did (more F Wz Wa) p (wipeS U false ⟨t, l', e, r'⟩) Wq W3 := ⟨_, by (repeat' (first | (with_reducible exact Below.refl _ _) | (with_reducible refine Below.alloc ?_ ?_ _) | (with_reducible refine below_ext ?_ ?_ _) | (with_reducible refine Below.drew ?_) | (with_reducible refine below_drewN ?_ _) | (with_reducible refine Below.setCell ?_ ?_ _) | go_size | (simp only [go_sem]; omega) | (simp [go_sem]; done) | (simp [go_sem]; omega))), by (repeat (first | ((with_reducible refine heap_at _ _ ?_); (focus (first | rfl | (simp [go_sem]; done) | (simp [go_sem]; omega)))) | ((with_reducible refine (heap_old _ _ ?_).trans ?_); (focus (first | (simp [go_sem]; done) | (simp [go_sem]; omega)))) | ((with_reducible refine (block_ext _ _ ?_).trans ?_); (focus (first | (simp [go_sem]; done) | (simp [go_sem]; omega)))) | ((with_reducible refine (heap_drew _ _).trans ?_)))), hD0⟩
        clear hD0
        have hq3 := hD3.1.size
        have hqa : Wa.heap.size < Wq.heap.size := heap_in hbx
        have B3 := Lib.hid ((hD3.1.block _ hqa (fun f => by have := hGw.out _ f; omega)).trans hbx)
        have P3 := Lib.hid hD3.2
        replace hD3 := Lib.hid hD3
        have v0 : W3.cell? ⟨Wa.heap.size, 0, none⟩ = some (.int .i64 t) := by rw [cell_in B3.out]; rfl
        have v1 : W3.cell? ⟨Wa.heap.size, 1, none⟩ = some (.int .i64 l') := by rw [cell_in B3.out]; rfl
        have v2 : W3.cell? ⟨Wa.heap.size, 2, none⟩ = some (.int .i64 e) := by rw [cell_in B3.out]; rfl
        have v3 : W3.cell? ⟨Wa.heap.size, 3, none⟩ = some (.int .i64 r') := by rw [cell_in B3.out]; rfl
        have vl : Wa.heap.size < W3.heap.size := heap_in B3.out
        have NX := Lib.hid (fun wx (V : PgS) (hV : Hid (V = U')) (hDx : Did (more F Wz Wa) p V Wq wx) => (show ∃ (j' : Nat) (Wz : World), j' ≤ 2 ∧ Value.int .i64 ((j : Int) + 1) = .int .i64 j' ∧ Hid (Below w.heap.size w Wz) ∧ Hid (CVar 49 Wz w.heap.size ⟨yw, yc, yd, yk, yp, yo, ya, yb, yc', yd', yl, yr, ys⟩) ∧ Hid (CVar 49 Wz (w.heap.size + 1) zeroCu) ∧ Hid (Wz.heap[w.heap.size + 1 + 1 + x1.sz + x2.sz + 1 + 1]? = some (.cells #[.int .i64 t1, .int .i64 l1, .int .i64 b1, .int .i64 r1, .int .i64 t2, .int .i64 l2, .int .i64 b2, .int .i64 r2] 31 (0, 0))) ∧ Hid (Did F p (stepB S false ⟨t1, l1, b1, r1⟩ ⟨t2, l2, b2, r2⟩ j') Wz wx) from
          ⟨j + 1, Wz, by omega, by go_num, hb, hc, hz, hK, Lib.hid (by rw [hQ.out, ← hV.out]; exact hD.out.trans (Did.back hDx hbq hGl) (fun b f => by have := hF.out b f; omega))⟩))
        clear g0 g1 g2 g3 CL PU
        have PC := Lib.hid (fun w' (hb : Below W3.heap.size W3 w') => cols_p (P3.out.grow hb))
        rw [show (wipeS U false ⟨t, l', e, r'⟩).cols = n from hUn] at PC
        by_cases hw : BxI.wide ⟨t, l', e, r'⟩ < n
        · have hV := Lib.hid (show wipeS U false ⟨t, l', e, r'⟩ = U' by rw [hst]; unfold boxS; rw [if_pos (by rw [hUn]; simpa using hw)])
          simp only [BxI.wide] at hw
          generalize (if (e : Int) ≤ t ∨ (r' : Int) ≤ l' then (0 : Int) else (r' : Int) - l') = wd at SZ hw
          generalize (if (e : Int) ≤ t ∨ (r' : Int) ≤ l' then (0 : Int) else (e : Int) - t) = wd2 at SZ
          have e3 : decide (wd < (n : Int)) = true := decide_eq_true hw
          go_wp2_with (first
            | (go_at_call 37; ((with_reducible refine (SZ.out _).mono ?_); rintro _ _ hgets; obtain ⟨rfl, x4, rfl⟩ := hgets.get; clear hgets))
            | (go_at_call 17; ((with_reducible refine (PC.out _ (by (repeat' (first | (with_reducible exact Below.refl _ _) | (with_reducible refine Below.alloc ?_ ?_ _) | (with_reducible refine below_ext ?_ ?_ _) | (with_reducible refine Below.drew ?_) | (with_reducible refine below_drewN ?_ _) | (with_reducible refine Below.setCell ?_ ?_ _) | go_size | (simp only [go_sem]; omega) | (simp [go_sem]; done) | (simp [go_sem]; omega))))).mono ?_); rintro _ _ hgets; obtain ⟨rfl, x5, rfl⟩ := hgets.get; clear hgets)))
          refine ⟨NX.out _ _ hV (hD3.out.grow ?_), by simp [intOf]; omega⟩
          (repeat' (first | (with_reducible exact Below.refl _ _) | (with_reducible refine Below.alloc ?_ ?_ _) | (with_reducible refine below_ext ?_ ?_ _) | (with_reducible refine Below.drew ?_) | (with_reducible refine below_drewN ?_ _) | (with_reducible refine Below.setCell ?_ ?_ _) | go_size | (simp only [go_sem]; omega) | (simp [go_sem]; done) | (simp [go_sem]; omega)))
        · have hV : rowsJ (wipeS U false ⟨t, l', e, r'⟩) t (fun _ r => (r.1, 0)) (e - t) = U' := by
            rw [hst]; unfold boxS; rw [if_neg (by rw [hUn]; simpa using hw)]
            congr 1
            simp only
            omega
          have hte : t < e := by
            unfold BxI.wide at hw
            simp only at hw
            split at hw <;> omega
          simp only [BxI.wide] at hw
          generalize (if (e : Int) ≤ t ∨ (r' : Int) ≤ l' then (0 : Int) else (r' : Int) - l') = wd at SZ hw
          generalize (if (e : Int) ≤ t ∨ (r' : Int) ≤ l' then (0 : Int) else (e : Int) - t) = wd2 at SZ
          have e3 : decide (wd < (n : Int)) = false := decide_eq_false hw
          generalize hVd : wipeS U false ⟨t, l', e, r'⟩ = V at *
          have hVm : V.rows.length = m := by rw [← hVd, wipeS_len]; exact hUm
          have hVn : V.cols = n := by rw [← hVd]; exact hUn
          clear hVd
          generalize hGG : more (more F Wz Wa) Wq W3 = G at P3
          have hGl3 : ∀ b, G b → b < W3.heap.size ∧ b ≠ Wa.heap.size := fun b g => by
            refine ⟨P3.out.lt b g, fun q => ?_⟩
            subst hGG q
            rcases g with g | g
            · have := hGw.out _ g; omega
            · omega
          go_wp2_with (first
            | (go_at_call 37; ((with_reducible refine (SZ.out _).mono ?_); rintro _ _ hgets; obtain ⟨rfl, x4, rfl⟩ := hgets.get; clear hgets))
            | (go_at_call 17; ((with_reducible refine (PC.out _ (by (repeat' (first | (with_reducible exact Below.refl _ _) | (with_reducible refine Below.alloc ?_ ?_ _) | (with_reducible refine below_ext ?_ ?_ _) | (with_reducible refine Below.drew ?_) | (with_reducible refine below_drewN ?_ _) | (with_reducible refine Below.setCell ?_ ?_ _) | go_size | (simp only [go_sem]; omega) | (simp [go_sem]; done) | (simp [go_sem]; omega))))).mono ?_); rintro _ _ hgets; obtain ⟨rfl, x5, rfl⟩ := hgets.get; clear hgets)))
          go_loopw [15] (fun av wv => ∃ a : Nat, t ≤ a ∧ a ≤ e ∧ av = .int .i64 a ∧ Hid (Did G p (rowsJ V t (fun _ r => (r.1, 0)) (a - t)) W3 wv)) (fun av _ => e - (intOf av).toNat)
          case atStart => exact ⟨t, by omega, by omega, rfl, Lib.hid (by rw [Nat.sub_self, rowsJ_zero]; exact Did.same P3.out (by (repeat' (first | (with_reducible exact Below.refl _ _) | (with_reducible refine Below.alloc ?_ ?_ _) | (with_reducible refine below_ext ?_ ?_ _) | (with_reducible refine Below.drew ?_) | (with_reducible refine below_drewN ?_ _) | (with_reducible refine Below.setCell ?_ ?_ _) | go_size | (simp only [go_sem]; omega) | (simp [go_sem]; done) | (simp [go_sem]; omega)))))⟩
          case round =>
            obtain ⟨a, ha1, ha2, rfl, hDa⟩ := hrel
            have w2 := (cell_of_heap (hDa.out.1.block Wa.heap.size vl (fun g => (hGl3 _ g).2 rfl))).trans v2
            have wl := Nat.lt_of_lt_of_le vl hDa.out.1.size
            by_cases hae : a < e
            · have e4 : decide ((a : Int) < e) = true := decide_eq_true (by omega)
              have hst2 := size0_step okW ha1 (show a < V.rows.length by omega)
              have hll := lineOf_size0 (t := t) (j := a - t) okW (show a < V.rows.length by omega)
              have okR := size0_ok okW t (a - t)
              have PA := Lib.hid hDa.out.2
              have LN := Lib.hid (fun w' (hb : Below wr.heap.size wr w') => line_p (PA.out.grow hb) okR a)
              have SL := Lib.hid (fun w' (hb : Below wr.heap.size wr w') A1 C1 (rd : Rd encC 3 w' A1 (lineOf (rowsJ V t (fun _ r => (r.1, 0)) (a - t)) a).1) => setline_p (PA.out.grow hb) okR a A1 C1 0 _ rd)
              rw [hst2] at SL
              generalize lineOf (rowsJ V t (fun _ r => (r.1, 0)) (a - t)) a = ln at *
              obtain ⟨zs', zz⟩ := ln
              simp only at hll LN SL
              have hpos := Lib.hid (show 0 < zs'.length by omega)
              have SD := Lib.hid (fun (g : Nat) (k : Nat) w' (h : Rd encC 3 w' (some ⟨g, 0, none⟩) zs') => sized_l (some ⟨g, 0, none⟩) k zz 0 zs' w' h (fun e => by cases e) (by omega) (by simp [maxLen]; omega))
              rw [show sizeI 0 = 0 from rfl] at SD
              clear hst2 hll hUm hUn hVm hVn
              go_wp2_with (first
                | (go_at_call 14
                   (with_reducible refine (LN.out _ (by (repeat' (first | (with_reducible exact Below.refl _ _) | (with_reducible refine Below.alloc ?_ ?_ _) | (with_reducible refine below_ext ?_ ?_ _) | (with_reducible refine Below.drew ?_) | (with_reducible refine below_drewN ?_ _) | (with_reducible refine Below.setCell ?_ ?_ _) | go_size | (simp only [go_sem]; omega) | (simp [go_sem]; done) | (simp [go_sem]; omega))))).mono ?_)
                   intro _ _ hp
                   obtain ⟨q1, k1, y1, rfl, rfl, hR1, hg1⟩ := newL_row hp hpos.out
                   have hR1 := Lib.hid hR1.rd
                   clear hp)
                | (go_at_call 38
                   (with_reducible refine (SD.out _ _ _ (by repeat (first | exact hR1.out | exact hR1 | refine Rd.ext ?_ _ | refine Rd.alloc ?_ _ | refine Rd.drew ?_))).mono ?_)
                   intro _ _ hp
                   obtain ⟨q2, k2, y2, rfl, rfl, hR2, hg2⟩ := newL_row hp hpos.out
                   have hR2 := Lib.hid hR2.rd
                   clear hp)
                | (go_at_call 33
                   (with_reducible refine (SL.out _ (by (repeat' (first | (with_reducible exact Below.refl _ _) | (with_reducible refine Below.alloc ?_ ?_ _) | (with_reducible refine below_ext ?_ ?_ _) | (with_reducible refine Below.drew ?_) | (with_reducible refine below_drewN ?_ _) | (with_reducible refine Below.setCell ?_ ?_ _) | go_size | (simp only [go_sem]; omega) | (simp [go_sem]; done) | (simp [go_sem]; omega)))) _ _ (by repeat (first | exact hR2.out | exact hR2 | refine Rd.ext ?_ _ | refine Rd.alloc ?_ _ | refine Rd.drew ?_))).mono ?_)
                   rintro _ W5 ⟨rfl, hD5⟩
                   replace hD5 := Lib.hid (Did.back hD5 (show Below wr.heap.size wr _ by (repeat' (first | (with_reducible exact Below.refl _ _) | (with_reducible refine Below.alloc ?_ ?_ _) | (with_reducible refine below_ext ?_ ?_ _) | (with_reducible refine Below.drew ?_) | (with_reducible refine below_drewN ?_ _) | (with_reducible refine Below.setCell ?_ ?_ _) | go_size | (simp only [go_sem]; omega) | (simp [go_sem]; done) | (simp [go_sem]; omega)))) PA.out.lt)))
              have hN := hDa.out.trans hD5.out (fun b g => (hGl3 b g).1)
              exact ⟨⟨a + 1, by omega, by omega, by go_num, Lib.hid hN⟩, by simp [intOf]; omega⟩
            · obtain rfl : a = e := by omega
              have e4 : decide ((a : Int) < a) = false := by simp
              clear hae
              go_wp2
              have hDa2 := hDa.out
              rw [← hGG] at hDa2
              have hN := NX.out wr _ (Lib.hid hV) (hD3.out.trans hDa2 (fun b g => by have := hGw.out _ g; omega))
              exact ⟨hN, by simp [intOf]; omega⟩
      · obtain rfl : j = 2 := by omega
        have c3 := hc.out.keep hD.out.1 (fun f => by have := hF.out _ f; omega)
        have z3 := hz.out.keep hD.out.1 (fun f => by have := hF.out _ f; omega)
        rw [hE.out] at hD
        have P3 := Lib.hid hD.out.2
        obtain ⟨e0, e1, e2, e3, e4, e5, e6, e7, e8, e9, e10, e11, e12, el⟩ := c3.cells
        obtain ⟨u0, u1, u2, u3, u4, u5, u6, u7, u8, u9, u10, u11, u12, ul⟩ := z3.cells
        obtain ⟨f0, f1, f2, f3, f4, f5, f6, f7, f8, f9, f10, f11, f12⟩ := z3.fz13
        clear hlt hj
        go_wp2_with (go_at_call 39; ((with_reducible refine (DN.out _ _ (P3.out.grow (by (repeat' (first | (with_reducible exact Below.refl _ _) | (with_reducible refine Below.alloc ?_ ?_ _) | (with_reducible refine below_ext ?_ ?_ _) | (with_reducible refine Below.drew ?_) | (with_reducible refine below_drewN ?_ _) | (with_reducible refine Below.setCell ?_ ?_ _) | go_size | (simp only [go_sem]; omega) | (simp [go_sem]; done) | (simp [go_sem]; omega)))))).mono ?_); rintro _ _ hgets; obtain ⟨rfl, x4, rfl⟩ := hgets.get; clear hgets))
        obtain ⟨W4, e4, k4, c4⟩ := z3.store ⟨zw, zc, zd, zk, zp, zo, za, zb, zc', zd', zl, zr, zs⟩
        simp only at e4
        rw [e4]
        have FN := Did.var hD.out hb.out hF.out (by omega) hHz (k4.trans (Keep.of_below (F := fun _ => False) (below_of_ext W4 x4)) (fun _ f => f.elim))
        clear u0 u1 u2 u3 u4 u5 u6 u7 u8 u9 u10 u11 u12 f0 f1 f2 f3 f4 f5 f6 f7 f8 f9 f10 f11 f12
        obtain ⟨s0, s1, s2, s3, s4, s5, s6, s7, s8, s9, s10, s11, s12, sl⟩ := c4.cells
        replace FN := Lib.hid FN
        simp [bodyPost, go_sem, s0, s1, s2, s3, s4, s5, s6, s7, s8, s9, s10, s11, s12, sl]
        exact ⟨_, by simp [results, Try.f10, go_sem, s0, s1, s2, s3, s4, s5, s6, s7, s8, s9, s10, s11, s12, sl] <;> rfl, rfl, FN.out⟩
  · simp only [if_true] at WY
    go_enter Try.func10, Try.ntmps10
    go_wp2_with (first
      | (go_at_call 34; ((with_reducible refine (ON.out _ (by (repeat' (first | (with_reducible exact Below.refl _ _) | (with_reducible refine Below.alloc ?_ ?_ _) | (with_reducible refine below_ext ?_ ?_ _) | (with_reducible refine Below.drew ?_) | (with_reducible refine below_drewN ?_ _) | (with_reducible refine Below.setCell ?_ ?_ _) | go_size | (simp only [go_sem]; omega) | (simp [go_sem]; done) | (simp [go_sem]; omega))))).mono ?_); rintro _ _ hgets; obtain ⟨rfl, x1, rfl⟩ := hgets.get; clear hgets))
      | (go_at_call 35; ((with_reducible refine (PT.out _ (by (repeat' (first | (with_reducible exact Below.refl _ _) | (with_reducible refine Below.alloc ?_ ?_ _) | (with_reducible refine below_ext ?_ ?_ _) | (with_reducible refine Below.drew ?_) | (with_reducible refine below_drewN ?_ _) | (with_reducible refine Below.setCell ?_ ?_ _) | go_size | (simp only [go_sem]; omega) | (simp [go_sem]; done) | (simp [go_sem]; omega))))).mono ?_); rintro _ _ hgets; obtain ⟨rfl, x2, rfl⟩ := hgets.get; clear hgets)))
    go_loopw [34] (fun iv wr => ∃ (j : Nat) (Wz : World), j ≤ 2 ∧ iv = .int .i64 j ∧ Hid (Below w.heap.size w Wz) ∧ Hid (CVar 49 Wz w.heap.size ⟨yw, yc, yd, yk, yp, yo, ya, yb, yc', yd', yl, yr, ys⟩) ∧ Hid (CVar 49 Wz (w.heap.size + 1) zeroCu) ∧ Hid (Wz.heap[w.heap.size + 1 + 1 + x1.sz + x2.sz + 1 + 1]? = some (.cells #[.int .i64 t1, .int .i64 l1, .int .i64 b1, .int .i64 r1, .int .i64 t2, .int .i64 l2, .int .i64 b2, .int .i64 r2] 31 (0, 0))) ∧ Hid (Did F p (stepB S true ⟨t1, l1, b1, r1⟩ ⟨t2, l2, b2, r2⟩ j) Wz wr)) (fun iv _ => 2 - (intOf iv).toNat)
    case atStart =>
      refine ⟨0, _, by omega, rfl, ?_, ?_, ?_, ?_, Lib.hid (Did.refl (hP.out.grow ?_))⟩
      · exact Lib.hid (by (repeat' (first | (with_reducible exact Below.refl _ _) | (with_reducible refine Below.alloc ?_ ?_ _) | (with_reducible refine below_ext ?_ ?_ _) | (with_reducible refine Below.drew ?_) | (with_reducible refine below_drewN ?_ _) | (with_reducible refine Below.setCell ?_ ?_ _) | go_size | (simp only [go_sem]; omega) | (simp [go_sem]; done) | (simp [go_sem]; omega))))
      · exact Lib.hid (by unfold CVar; (repeat (first | ((with_reducible refine heap_at _ _ ?_); (focus (first | rfl | (simp [go_sem]; done) | (simp [go_sem]; omega)))) | ((with_reducible refine (heap_old _ _ ?_).trans ?_); (focus (first | (simp [go_sem]; done) | (simp [go_sem]; omega)))) | ((with_reducible refine (block_ext _ _ ?_).trans ?_); (focus (first | (simp [go_sem]; done) | (simp [go_sem]; omega)))) | ((with_reducible refine (heap_drew _ _).trans ?_)))))
      · exact Lib.hid (by unfold CVar; (repeat (first | ((with_reducible refine heap_at _ _ ?_); (focus (first | rfl | (simp [go_sem]; done) | (simp [go_sem]; omega)))) | ((with_reducible refine (heap_old _ _ ?_).trans ?_); (focus (first | (simp [go_sem]; done) | (simp [go_sem]; omega)))) | ((with_reducible refine (block_ext _ _ ?_).trans ?_); (focus (first | (simp [go_sem]; done) | (simp [go_sem]; omega)))) | ((with_reducible refine (heap_drew _ _).trans ?_)))))
      · exact Lib.hid (by (repeat (first | ((with_reducible refine heap_at _ _ ?_); (focus (first | rfl | (simp [go_sem]; done) | (simp [go_sem]; omega)))) | ((with_reducible refine (heap_old _ _ ?_).trans ?_); (focus (first | (simp [go_sem]; done) | (simp [go_sem]; omega)))) | ((with_reducible refine (block_ext _ _ ?_).trans ?_); (focus (first | (simp [go_sem]; done) | (simp [go_sem]; omega)))) | ((with_reducible refine (heap_drew _ _).trans ?_)))))
      · (repeat' (first | (with_reducible exact Below.refl _ _) | (with_reducible refine Below.alloc ?_ ?_ _) | (with_reducible refine below_ext ?_ ?_ _) | (with_reducible refine Below.drew ?_) | (with_reducible refine below_drewN ?_ _) | (with_reducible refine Below.setCell ?_ ?_ _) | go_size | (simp only [go_sem]; omega) | (simp [go_sem]; done) | (simp [go_sem]; omega)))
    case round =>
      obtain ⟨j, Wz, hj, rfl, hb, hc, hz, hK, hD⟩ := hrel
      have hzs := hb.out.size
      have hHz : w.heap.size + 1 < Wz.heap.size := heap_in hz.out
      have hHK : w.heap.size + 1 + 1 + x1.sz + x2.sz + 1 + 1 < Wz.heap.size := heap_in hK.out
      have hWr := hD.out.1.size
      by_cases hlt : j < 2
      · have e2 : decide ((j : Int) < 2) = true := decide_eq_true (by omega)
        obtain ⟨t, l', e, r', ht, hl', he, hr', g0, g1, g2, g3, gk, hst⟩ := box_j (S := S) (sel := true) (a := ⟨t1, l1, b1, r1⟩) (b := ⟨t2, l2, b2, r2⟩) (m := m) (n := n) hlt ((hD.out.1.block _ hHK (fun f => by have := hF.out _ f; omega)).trans hK.out) PI1.out PI2.out
        obtain ⟨okU, hUm, hUn⟩ := hST.out ⟨t1, l1, b1, r1⟩ ⟨t2, l2, b2, r2⟩ j
        generalize hQ : stepB S true ⟨t1, l1, b1, r1⟩ ⟨t2, l2, b2, r2⟩ (j + 1) = U' at hst
        replace hQ := Lib.hid hQ
        generalize stepB S true ⟨t1, l1, b1, r1⟩ ⟨t2, l2, b2, r2⟩ j = U at *
        have okW := wipeS_ok (sel := true) (b := ⟨t, l', e, r'⟩) okU
        have PU := hD.out.2
        have hGl := PU.lt
        have hGw := Lib.hid (fun b (hb2 : more F Wz wr b) => hGl b hb2)
        have CL := Lib.hid (fun w' (hb : Below wr.heap.size wr w') => clean_w (PU.grow hb) okU ⟨t, l', e, r'⟩)
        have SZ := Lib.hid (fun w' => size_c t l' e r' w' (by omega) (by omega) (by omega) (by omega))
        obtain ⟨Wa, hWa⟩ : ∃ Wa, Wa = wr := ⟨_, rfl⟩
        subst hWa
        go_upto_region 6 with fail
        (refine wp_region_F (S := (fun w' => w'.cell? ⟨Wa.heap.size, 0, none⟩ = some (.int .i64 t) ∧ w'.cell? ⟨Wa.heap.size, 1, none⟩ = some (.int .i64 l') ∧ w'.cell? ⟨Wa.heap.size, 2, none⟩ = some (.int .i64 e) ∧ w'.cell? ⟨Wa.heap.size, 3, none⟩ = some (.int .i64 r'))) 4 [false, false, false, false, false] rfl rfl (by kernel_rfl) ?_ (fun hHeld => ?_); (focus ((try dsimp only); (refine ⟨?_, ?_, ?_, ?_⟩ <;> simp [go_sem]); done)))
        ((refine AtF.take (oi := ?_) (v := ?_) 0 ?_ ?_ ?_ ?_ (Or.inl ⟨?_, ?_⟩) (by assumption) ?_; rotate_left 2; rfl; kernel_rfl; kernel_rfl; exact (fun _ _ _ h => h); rfl; (focus (intro w hSw; (try dsimp only at hSw); go_simp; (try with_reducible rfl); done)); (try simp only [Act.put, List.setIfInBounds_toArray, List.set_cons_zero, List.set_cons_succ])); (refine AtF.take (oi := ?_) (v := ?_) 2 ?_ ?_ ?_ ?_ (Or.inl ⟨?_, ?_⟩) (by assumption) ?_; rotate_left 2; rfl; kernel_rfl; kernel_rfl; exact (fun _ _ _ h => h); rfl; (focus (intro w hSw; (try dsimp only at hSw); go_simp; (try with_reducible rfl); done)); (try simp only [Act.put, List.setIfInBounds_toArray, List.set_cons_zero, List.set_cons_succ])); (refine AtF.take (oi := ?_) (v := ?_) 3 ?_ ?_ ?_ ?_ (Or.inl ⟨?_, ?_⟩) (by assumption) ?_; rotate_left 2; rfl; kernel_rfl; kernel_rfl; exact (fun _ _ _ h => h); rfl; (focus (intro w hSw; (try dsimp only at hSw); go_simp; (try with_reducible rfl); done)); (try simp only [Act.put, List.setIfInBounds_toArray, List.set_cons_zero, List.set_cons_succ])))
        (refine AtF.only (oi := ?_) 1 ?_ ?_ (fun K hK => ?_); rotate_left 1; rfl; kernel_rfl; (try go_simp); (go_at_call 36; ((with_reducible refine (WY.out _).mono ?_); rintro _ _ hgets; obtain ⟨rfl, x3, rfl⟩ := hgets.get; clear hgets)); (refine hK.out _ _ ?_ (fun hHeld => ?_)); (focus ((try dsimp only); (refine ⟨?_, ?_, ?_, ?_⟩ <;> simp [go_sem]); done)); clear hK K; (try simp only [Act.put, List.setIfInBounds_toArray, List.set_cons_zero, List.set_cons_succ]))
        (refine AtF.last (oi := ?_) ?_ ?_ (fun K hK => ?_); rotate_left 1; rfl; kernel_rfl; go_simp; (go_at_call 72; (with_reducible refine (CL.out _ (by (repeat' (first | (with_reducible exact Below.refl _ _) | (with_reducible refine Below.alloc ?_ ?_ _) | (with_reducible refine below_ext ?_ ?_ _) | (with_reducible refine Below.drew ?_) | (with_reducible refine below_drewN ?_ _) | (with_reducible refine Below.setCell ?_ ?_ _) | go_size | (simp only [go_sem]; omega) | (simp [go_sem]; done) | (simp [go_sem]; omega))))).mono ?_); (rintro _ W3 ⟨rfl, hD0⟩)); refine hK.out _ _ ?_; clear hK K; (try simp only [Act.put, List.setIfInBounds_toArray, List.set_cons_zero, List.set_cons_succ]))
        clear hHeld
        obtain ⟨Wq, hbq, hbx, hD3⟩ : ∃ Wq, Below Wa.heap.size Wa Wq ∧ Wq.heap[Wa.heap.size]? = some (.cells #[.int .i64 t, .int .i64 l', .int .i64 e, .int .i64 r'] 31 (0, 0)) ∧ Did (more F Wz Wa) p (wipeS U true ⟨t, l', e, r'⟩) Wq W3 := ⟨_, by (repeat' (first | (with_reducible exact Below.refl _ _) | (with_reducible refine Below.alloc ?_ ?_ _) | (with_reducible refine below_ext ?_ ?_ _) | (with_reducible refine Below.drew ?_) | (with_reducible refine below_drewN ?_ _) | (with_reducible refine Below.setCell ?_ ?_ _) | go_size | (simp only [go_sem]; omega) | (simp [go_sem]; done) | (simp [go_sem]; omega))), by (repeat (first | ((with_reducible refine heap_at _ _ ?_); (focus (first | rfl | (simp [go_sem]; done) | (simp [go_sem]; omega)))) | ((with_reducible refine (heap_old _ _ ?_).trans ?_); (focus (first | (simp [go_sem]; done) | (simp [go_sem]; omega)))) | ((with_reducible refine (block_ext _ _ ?_).trans ?_); (focus (first | (simp [go_sem]; done) | (simp [go_sem]; omega)))) | ((with_reducible refine (heap_drew _ _).trans ?_)))), hD0⟩
        clear hD0
        have hq3 := hD3.1.size
        have hqa : Wa.heap.size < Wq.heap.size := heap_in hbx
        have B3 := Lib.hid ((hD3.1.block _ hqa (fun f => by have := hGw.out _ f; omega)).trans hbx)
        have P3 := Lib.hid hD3.2
        replace hD3 := Lib.hid hD3
        have v0 : W3.cell? ⟨Wa.heap.size, 0, none⟩ = some (.int .i64 t) := by rw [cell_in B3.out]; rfl
        have v1 : W3.cell? ⟨Wa.heap.size, 1, none⟩ = some (.int .i64 l') := by rw [cell_in B3.out]; rfl
        have v2 : W3.cell? ⟨Wa.heap.size, 2, none⟩ = some (.int .i64 e) := by rw [cell_in B3.out]; rfl
        have v3 : W3.cell? ⟨Wa.heap.size, 3, none⟩ = some (.int .i64 r') := by rw [cell_in B3.out]; rfl
        have vl : Wa.heap.size < W3.heap.size := heap_in B3.out
        have NX := Lib.hid (fun wx (V : PgS) (hV : Hid (V = U')) (hDx : Did (more F Wz Wa) p V Wq wx) => (show ∃ (j' : Nat) (Wz : World), j' ≤ 2 ∧ Value.int .i64 ((j : Int) + 1) = .int .i64 j' ∧ Hid (Below w.heap.size w Wz) ∧ Hid (CVar 49 Wz w.heap.size ⟨yw, yc, yd, yk, yp, yo, ya, yb, yc', yd', yl, yr, ys⟩) ∧ Hid (CVar 49 Wz (w.heap.size + 1) zeroCu) ∧ Hid (Wz.heap[w.heap.size + 1 + 1 + x1.sz + x2.sz + 1 + 1]? = some (.cells #[.int .i64 t1, .int .i64 l1, .int .i64 b1, .int .i64 r1, .int .i64 t2, .int .i64 l2, .int .i64 b2, .int .i64 r2] 31 (0, 0))) ∧ Hid (Did F p (stepB S true ⟨t1, l1, b1, r1⟩ ⟨t2, l2, b2, r2⟩ j') Wz wx) from
          ⟨j + 1, Wz, by omega, by go_num, hb, hc, hz, hK, Lib.hid (by rw [hQ.out, ← hV.out]; exact hD.out.trans (Did.back hDx hbq hGl) (fun b f => by have := hF.out b f; omega))⟩))
        clear g0 g1 g2 g3 CL PU
        generalize (if (e : Int) ≤ t ∨ (r' : Int) ≤ l' then (0 : Int) else (r' : Int) - l') = wd at SZ
        generalize (if (e : Int) ≤ t ∨ (r' : Int) ≤ l' then (0 : Int) else (e : Int) - t) = wd2 at SZ
        have hV := Lib.hid (show wipeS U true ⟨t, l', e, r'⟩ = U' by rw [hst]; rfl)
        go_wp2_with (go_at_call 37; ((with_reducible refine (SZ.out _).mono ?_); rintro _ _ hgets; obtain ⟨rfl, x4, rfl⟩ := hgets.get; clear hgets))
        refine ⟨NX.out _ _ hV (hD3.out.grow ?_), by simp [intOf]; omega⟩
        (repeat' (first | (with_reducible exact Below.refl _ _) | (with_reducible refine Below.alloc ?_ ?_ _) | (with_reducible refine below_ext ?_ ?_ _) | (with_reducible refine Below.drew ?_) | (with_reducible refine below_drewN ?_ _) | (with_reducible refine Below.setCell ?_ ?_ _) | go_size | (simp only [go_sem]; omega) | (simp [go_sem]; done) | (simp [go_sem]; omega)))
      · obtain rfl : j = 2 := by omega
        have c3 := hc.out.keep hD.out.1 (fun f => by have := hF.out _ f; omega)
        have z3 := hz.out.keep hD.out.1 (fun f => by have := hF.out _ f; omega)
        rw [hE.out] at hD
        have P3 := Lib.hid hD.out.2
        obtain ⟨e0, e1, e2, e3, e4, e5, e6, e7, e8, e9, e10, e11, e12, el⟩ := c3.cells
        obtain ⟨u0, u1, u2, u3, u4, u5, u6, u7, u8, u9, u10, u11, u12, ul⟩ := z3.cells
        obtain ⟨f0, f1, f2, f3, f4, f5, f6, f7, f8, f9, f10, f11, f12⟩ := z3.fz13
        clear hlt hj
        go_wp2_with (go_at_call 39; ((with_reducible refine (DN.out _ _ (P3.out.grow (by (repeat' (first | (with_reducible exact Below.refl _ _) | (with_reducible refine Below.alloc ?_ ?_ _) | (with_reducible refine below_ext ?_ ?_ _) | (with_reducible refine Below.drew ?_) | (with_reducible refine below_drewN ?_ _) | (with_reducible refine Below.setCell ?_ ?_ _) | go_size | (simp only [go_sem]; omega) | (simp [go_sem]; done) | (simp [go_sem]; omega)))))).mono ?_); rintro _ _ hgets; obtain ⟨rfl, x4, rfl⟩ := hgets.get; clear hgets))
        obtain ⟨W4, e4, k4, c4⟩ := z3.store ⟨zw, zc, zd, zk, zp, zo, za, zb, zc', zd', zl, zr, zs⟩
        simp only at e4
        rw [e4]
        have FN := Did.var hD.out hb.out hF.out (by omega) hHz (k4.trans (Keep.of_below (F := fun _ => False) (below_of_ext W4 x4)) (fun _ f => f.elim))
        clear u0 u1 u2 u3 u4 u5 u6 u7 u8 u9 u10 u11 u12 f0 f1 f2 f3 f4 f5 f6 f7 f8 f9 f10 f11 f12
        obtain ⟨s0, s1, s2, s3, s4, s5, s6, s7, s8, s9, s10, s11, s12, sl⟩ := c4.cells
        replace FN := Lib.hid FN
        simp [bodyPost, go_sem, s0, s1, s2, s3, s4, s5, s6, s7, s8, s9, s10, s11, s12, sl]
        exact ⟨_, by simp [results, Try.f10, go_sem, s0, s1, s2, s3, s4, s5, s6, s7, s8, s9, s10, s11, s12, sl] <;> rfl, rfl, FN.out⟩
end
end Go.Proofs.Ytdfiknemfpkdmaa
/- edit: against, Scroll, Align.  -/
namespace Go.Proofs.Ytdfiknemfpkdmaa
open Go.RowKit
set_option linter.unusedVariables false
set_option linter.unusedSimpArgs false

section
variable {w : World} {F : Nat → Prop} {p : Nat} {S : PgS}
def agI (n : Int) : Int := -max n (-1000)
theorem against_e (n : Int) (w : World) (h : n ≤ 9223372036854775807) : Calls Try.prog 61 #[.int .i64 n] w (Gives w (.int .i64 (agI n))) := by
  unfold agI
  obtain ⟨k, hk⟩ : ∃ k, k = max n (-1000) := ⟨_, rfl⟩
  have h1 : -1000 ≤ k := by omega
  have h2 : k ≤ 9223372036854775807 := by omega
  rw [← hk]
  replace hk := Lib.hid hk
  go_enter Try.func61, Try.ntmps61
  go_wp2
  all_goals (try rw [← hk.out])
  go_returns
  exact ⟨rfl, by (repeat' (first | (with_reducible exact Below.refl _ _) | (with_reducible refine Below.alloc ?_ ?_ _) | (with_reducible refine below_ext ?_ ?_ _) | (with_reducible refine Below.drew ?_) | (with_reducible refine below_drewN ?_ _) | (with_reducible refine Below.setCell ?_ ?_ _) | go_size | (simp only [go_sem]; omega) | (simp [go_sem]; done) | (simp [go_sem]; omega)))⟩
/-- the margins, as a box of the page -/
def innB (m n : Nat) (x : BxI) : BxI := ⟨(inn m n x.t x.l x.b x.r).t, (inn m n x.t x.l x.b x.r).l, (inn m n x.t x.l x.b x.r).b, (inn m n x.t x.l x.b x.r).r⟩
theorem innB_fits {m n : Nat} (hm : 1 ≤ m) (hn : 1 ≤ n) (x : BxI) : (innB m n x).Fits m n ∧ (innB m n x).t < (innB m n x).b ∧ (innB m n x).l < (innB m n x).r := by
  obtain ⟨h1, h2, h3, h4, h5, h6⟩ := inn_bd m n x.t x.l x.b x.r
  refine ⟨⟨?_, ?_, ?_, ?_, ?_, ?_⟩, ?_, ?_⟩ <;> (simp only [innB]; omega)
theorem onB_fit {m n : Nat} {x : BxI} (h : x.Fits m n) (h1 : x.t < x.b) (h2 : x.l < x.r) : onB m n x = x := by
  obtain ⟨t, l, b, r⟩ := x
  obtain ⟨a1, a2, a3, a4, a5, a6⟩ := h
  simp only at *
  unfold onB meetI
  simp only
  rw [if_neg (by omega), if_neg (by omega), if_neg (by omega), if_neg (by omega)]
  congr 1 <;> omega
def scrollS (S : PgS) (x : BxI) (rows cols : Int) : PgS :=
  eachS (eachS (moveS (moveS S x (clampR rows 0 1000)) x (-clampR (agI rows) 0 1000)) x (fun xs l r => movR xs l r (-clampR cols 0 (cntN xs.length l r 0)))) x (fun xs l r => movR xs l r (clampR (agI cols) 0 (cntN xs.length l r 0)))
theorem movS_ok (hS : S.Ok) (x : BxI) (g : Nat → Int → Int → Int) : (eachS S x (fun xs l r => movR xs l r (g xs.length l r))).Ok :=
  eachS_ok hS x (fun xs l r => updR_len _ _ _ _) (fun xs l r h => movR_ok h)
theorem scrollS_ok (hS : S.Ok) {x : BxI} (hx : x.Fits S.rows.length S.cols) (rows cols : Int) : (scrollS S x rows cols).Ok := by
  unfold scrollS
  have h1 := moveS_fit hS hx (clampR rows 0 1000)
  have h2 := moveS_fit h1 (b := x) (by rw [moveS_len]; exact hx) (-clampR (agI rows) 0 1000)
  exact movS_ok (movS_ok h2 x (fun n l r => -clampR cols 0 (cntN n l r 0))) x (fun n l r => clampR (agI cols) 0 (cntN n l r 0))
set_option maxRecDepth 100000 in
set_option maxHeartbeats 8000000 in
theorem scroll_ed (h : PageAt w F p S) (hS : S.Ok) (f m : BxI) (rows cols : Int) (hr : rows ≤ 9223372036854775807) (hc : cols ≤ 9223372036854775807) :
    Calls Try.prog 28 #[.pointer (some ⟨p, 0, none⟩), .agg #[.int .i64 f.t, .int .i64 f.l, .int .i64 f.b, .int .i64 f.r, .int .i64 m.t, .int .i64 m.l, .int .i64 m.b, .int .i64 m.r], .int .i64 rows, .int .i64 cols] w
    (fun e w' => e = .returned (.tuple #[]) ∧ Did F p (scrollS S (innB S.rows.length S.cols m) rows cols) w w') := by
  have hr1 := hS.r1
  have hr2 := hS.r2
  have hc1 := hS.c1
  have hc2 := hS.c2
  obtain ⟨hfit, hx1, hx2⟩ := innB_fits hr1 hc1 m
  have hon := onB_fit hfit hx1 hx2
  have BX := Lib.hid (fun w' (hb : Below w.heap.size w w') => box_p (h.grow hb))
  obtain ⟨fT, fL, fB, fR⟩ := f
  obtain ⟨mt, ml, mb, mr⟩ := m
  have IN := Lib.hid (fun w' => inner_f (pt := 0) (pl := 0) (pb := S.rows.length) (pr := S.cols) (mt := mt) (ml := ml) (mb := mb) (mr := mr) (by omega) (by omega) w')
  have AG := Lib.hid (fun w' => against_e rows w' hr)
  have AH := Lib.hid (fun w' => against_e cols w' hc)
  have okS := Lib.hid (scrollS_ok hS hfit rows cols)
  have hF := Lib.hid h.lt
  unfold scrollS at okS ⊢
  generalize hX : innB S.rows.length S.cols ⟨mt, ml, mb, mr⟩ = X at *
  have eX : inn S.rows.length S.cols mt ml mb mr = ⟨X.t, X.l, X.b, X.r⟩ := by rw [← hX]; rfl
  rw [eX] at IN
  simp only at IN
  have S1 := moveS_fit hS hfit (clampR rows 0 1000)
  have f1 : X.Fits (moveS S X (clampR rows 0 1000)).rows.length (moveS S X (clampR rows 0 1000)).cols := by rw [moveS_len]; exact hfit
  have S2 := moveS_fit S1 f1 (-clampR (agI rows) 0 1000)
  have f2 : X.Fits (moveS (moveS S X (clampR rows 0 1000)) X (-clampR (agI rows) 0 1000)).rows.length (moveS (moveS S X (clampR rows 0 1000)) X (-clampR (agI rows) 0 1000)).cols := by rw [moveS_len]; exact f1
  have S3 := movS_ok S2 X (fun n l r => -clampR cols 0 (cntN n l r 0))
  have f3 : X.Fits (eachS (moveS (moveS S X (clampR rows 0 1000)) X (-clampR (agI rows) 0 1000)) X (fun xs l r => movR xs l r (-clampR cols 0 (cntN xs.length l r 0)))).rows.length (eachS (moveS (moveS S X (clampR rows 0 1000)) X (-clampR (agI rows) 0 1000)) X (fun xs l r => movR xs l r (-clampR cols 0 (cntN xs.length l r 0)))).cols := by rw [eachS_len]; exact f2
  have UP := Lib.hid (fun w' (G : Nat → Prop) (hp : PageAt w' G p S) => (by have := up_p hp hS X rows; rwa [hon] at this : Calls Try.prog 54 #[.pointer (some ⟨p, 0, none⟩), boxV X.t X.l X.b X.r, .int .i64 rows] w' (fun e w2 => e = .returned (.tuple #[]) ∧ Did G p (moveS S X (clampR rows 0 1000)) w' w2)))
  generalize moveS S X (clampR rows 0 1000) = U1 at *
  have DW := Lib.hid (fun w' (G : Nat → Prop) (hp : PageAt w' G p U1) => (by have := down_p hp S1 X (agI rows); rwa [onB_fit f1 hx1 hx2] at this : Calls Try.prog 60 #[.pointer (some ⟨p, 0, none⟩), boxV X.t X.l X.b X.r, .int .i64 (agI rows)] w' (fun e w2 => e = .returned (.tuple #[]) ∧ Did G p (moveS U1 X (-clampR (agI rows) 0 1000)) w' w2)))
  generalize moveS U1 X (-clampR (agI rows) 0 1000) = U2 at *
  have LF := Lib.hid (fun w' (G : Nat → Prop) (hp : PageAt w' G p U2) => (by have := left_p hp S2 X cols; rwa [onB_fit f2 hx1 hx2] at this : Calls Try.prog 62 #[.pointer (some ⟨p, 0, none⟩), boxV X.t X.l X.b X.r, .int .i64 cols] w' (fun e w2 => e = .returned (.tuple #[]) ∧ Did G p (eachS U2 X (fun xs l r => movR xs l r (-clampR cols 0 (cntN xs.length l r 0)))) w' w2)))
  generalize eachS U2 X (fun xs l r => movR xs l r (-clampR cols 0 (cntN xs.length l r 0))) = U3 at *
  have RG := Lib.hid (fun w' (G : Nat → Prop) (hp : PageAt w' G p U3) => (by have := right_p hp S3 X (agI cols); rwa [onB_fit f3 hx1 hx2] at this : Calls Try.prog 63 #[.pointer (some ⟨p, 0, none⟩), boxV X.t X.l X.b X.r, .int .i64 (agI cols)] w' (fun e w2 => e = .returned (.tuple #[]) ∧ Did G p (eachS U3 X (fun xs l r => movR xs l r (clampR (agI cols) 0 (cntN xs.length l r 0)))) w' w2)))
  generalize eachS U3 X (fun xs l r => movR xs l r (clampR (agI cols) 0 (cntN xs.length l r 0))) = U4 at *
  generalize agI rows = ar at *
  generalize agI cols = ac at *
  have P0 := Lib.hid (fun w' (hb : Below w.heap.size w w') => h.grow hb)
  clear h hS S1 f1 S2 f2 S3 f3 hon eX hX hfit
  obtain ⟨xt, xl, xb, xr⟩ := X
  simp only at IN UP DW LF RG hx1 hx2
  go_enter Try.func28, Try.ntmps28
  go_upto_region 3 with (first
    | (go_at_call 29; ((with_reducible refine (BX.out _ (by (repeat' (first | (with_reducible exact Below.refl _ _) | (with_reducible refine Below.alloc ?_ ?_ _) | (with_reducible refine below_ext ?_ ?_ _) | (with_reducible refine Below.drew ?_) | (with_reducible refine below_drewN ?_ _) | (with_reducible refine Below.setCell ?_ ?_ _) | go_size | (simp only [go_sem]; omega) | (simp [go_sem]; done) | (simp [go_sem]; omega))))).mono ?_); rintro _ _ hgets; obtain ⟨rfl, x1, rfl⟩ := hgets.get; clear hgets))
    | (go_at_call 53; ((with_reducible refine (IN.out _).mono ?_); rintro _ _ hgets; obtain ⟨rfl, x2, rfl⟩ := hgets.get; clear hgets)))
  obtain ⟨W0, hW0⟩ : ∃ W0, W0 = (ext (ext (w.alloc (.cells #[.int .i64 0, .int .i64 0, .int .i64 S.rows.length, .int .i64 S.cols, .int .i64 mt, .int .i64 ml, .int .i64 mb, .int .i64 mr] 69)) x1) x2).alloc (.cells #[.int .i64 xt, .int .i64 xl, .int .i64 xb, .int .i64 xr] 31) := ⟨_, rfl⟩
  have hb0 : Below w.heap.size w W0 := by rw [hW0]; (repeat' (first | (with_reducible exact Below.refl _ _) | (with_reducible refine Below.alloc ?_ ?_ _) | (with_reducible refine below_ext ?_ ?_ _) | (with_reducible refine Below.drew ?_) | (with_reducible refine below_drewN ?_ _) | (with_reducible refine Below.setCell ?_ ?_ _) | go_size | (simp only [go_sem]; omega) | (simp [go_sem]; done) | (simp [go_sem]; omega)))
  obtain ⟨HB, hHB⟩ : ∃ HB, HB = w.heap.size + 1 + x1.sz + x2.sz := ⟨_, rfl⟩
  have B0 : W0.heap[HB]? = some (.cells #[.int .i64 xt, .int .i64 xl, .int .i64 xb, .int .i64 xr] 31 (0, 0)) := by rw [hW0, hHB]; (repeat (first | ((with_reducible refine heap_at _ _ ?_); (focus (first | rfl | (simp [go_sem]; done) | (simp [go_sem]; omega)))) | ((with_reducible refine (heap_old _ _ ?_).trans ?_); (focus (first | (simp [go_sem]; done) | (simp [go_sem]; omega)))) | ((with_reducible refine (block_ext _ _ ?_).trans ?_); (focus (first | (simp [go_sem]; done) | (simp [go_sem]; omega)))) | ((with_reducible refine (heap_drew _ _).trans ?_))))
  have P0' := P0.out _ hb0
  rw [← hW0, ← hHB]
  have hHw : w.heap.size ≤ HB := by omega
  have hFB : ∀ b, F b → b < w.heap.size := hF.out
  clear hW0 hHB P0
  have hBl := heap_in B0
  have c0 : W0.cell? ⟨HB, 0, none⟩ = some (.int .i64 xt) := by rw [cell_in B0]; rfl
  have c1 : W0.cell? ⟨HB, 1, none⟩ = some (.int .i64 xl) := by rw [cell_in B0]; rfl
  have c2 : W0.cell? ⟨HB, 2, none⟩ = some (.int .i64 xb) := by rw [cell_in B0]; rfl
  have c3 : W0.cell? ⟨HB, 3, none⟩ = some (.int .i64 xr) := by rw [cell_in B0]; rfl
  replace P0' := Lib.hid P0'
  go_upto_region 4 with (first
    | ((go_at_call 54); (with_reducible refine (UP.out _ _ P0'.out).mono ?_); (rintro _ W1 ⟨rfl, hD1⟩)))
  have B1 := (hD1.1.block HB hBl (fun f => by have := hFB _ f; omega)).trans B0
  have hG1 : ∀ b, more F W0 W1 b → b < W1.heap.size ∧ b ≠ HB := fun b g => ⟨hD1.2.lt b g, fun q => by subst q; rcases g with g | g; (have := hFB _ g; omega); omega⟩
  have P1 := Lib.hid hD1.2
  replace hD1 := Lib.hid hD1
  clear c0 c1 c2 c3
  have hBl1 := heap_in B1
  have c0 : W1.cell? ⟨HB, 0, none⟩ = some (.int .i64 xt) := by rw [cell_in B1]; rfl
  have c1 : W1.cell? ⟨HB, 1, none⟩ = some (.int .i64 xl) := by rw [cell_in B1]; rfl
  have c2 : W1.cell? ⟨HB, 2, none⟩ = some (.int .i64 xb) := by rw [cell_in B1]; rfl
  have c3 : W1.cell? ⟨HB, 3, none⟩ = some (.int .i64 xr) := by rw [cell_in B1]; rfl
  (refine wp_region_F (S := (fun w' => w'.cell? ⟨HB, 0, none⟩ = some (.int .i64 xt) ∧ w'.cell? ⟨HB, 1, none⟩ = some (.int .i64 xl) ∧ w'.cell? ⟨HB, 2, none⟩ = some (.int .i64 xb) ∧ w'.cell? ⟨HB, 3, none⟩ = some (.int .i64 xr))) 4 [false, false, false, false, false] rfl rfl (by kernel_rfl) ?_ (fun hHeld => ?_); (focus ((try dsimp only); (refine ⟨?_, ?_, ?_, ?_⟩ <;> simp [go_sem, c0, c1, c2, c3, hBl1]); done)))
  ((refine AtF.take (oi := ?_) (v := ?_) 0 ?_ ?_ ?_ ?_ (Or.inl ⟨?_, ?_⟩) (by assumption) ?_; rotate_left 2; rfl; kernel_rfl; kernel_rfl; exact (fun _ _ _ h => h); rfl; (focus (intro w hSw; (try dsimp only at hSw); go_simp; (try with_reducible rfl); done)); (try simp only [Act.put, List.setIfInBounds_toArray, List.set_cons_zero, List.set_cons_succ])); (refine AtF.take (oi := ?_) (v := ?_) 1 ?_ ?_ ?_ ?_ (Or.inl ⟨?_, ?_⟩) (by assumption) ?_; rotate_left 2; rfl; kernel_rfl; kernel_rfl; exact (fun _ _ _ h => h); rfl; (focus (intro w hSw; (try dsimp only at hSw); go_simp; (try with_reducible rfl); done)); (try simp only [Act.put, List.setIfInBounds_toArray, List.set_cons_zero, List.set_cons_succ])); (refine AtF.take (oi := ?_) (v := ?_) 2 ?_ ?_ ?_ ?_ (Or.inl ⟨?_, ?_⟩) (by assumption) ?_; rotate_left 2; rfl; kernel_rfl; kernel_rfl; exact (fun _ _ _ h => h); rfl; (focus (intro w hSw; (try dsimp only at hSw); go_simp; (try with_reducible rfl); done)); (try simp only [Act.put, List.setIfInBounds_toArray, List.set_cons_zero, List.set_cons_succ])))
  (refine AtF.only (oi := ?_) 3 ?_ ?_ (fun K hK => ?_); rotate_left 1; rfl; kernel_rfl; (try go_simp); (go_at_call 61; ((with_reducible refine (AG.out _).mono ?_); rintro _ _ hgets; obtain ⟨rfl, x3, rfl⟩ := hgets.get; clear hgets)); (refine hK.out _ _ ?_ (fun hHeld => ?_)); (focus ((try dsimp only); (refine ⟨?_, ?_, ?_, ?_⟩ <;> simp [go_sem, c0, c1, c2, c3, hBl1]); done)); clear hK K; (try simp only [Act.put, List.setIfInBounds_toArray, List.set_cons_zero, List.set_cons_succ]))
  (refine AtF.last (oi := ?_) ?_ ?_ (fun K hK => ?_); rotate_left 1; rfl; kernel_rfl; go_simp; (go_at_call 60; (with_reducible refine (DW.out _ _ (P1.out.grow (by (repeat' (first | (with_reducible exact Below.refl _ _) | (with_reducible refine Below.alloc ?_ ?_ _) | (with_reducible refine below_ext ?_ ?_ _) | (with_reducible refine Below.drew ?_) | (with_reducible refine below_drewN ?_ _) | (with_reducible refine Below.setCell ?_ ?_ _) | go_size | (simp only [go_sem]; omega) | (simp [go_sem]; done) | (simp [go_sem]; omega)))))).mono ?_); (rintro _ W2 ⟨rfl, hD2⟩)); refine hK.out _ _ ?_; clear hK K; (try simp only [Act.put, List.setIfInBounds_toArray, List.set_cons_zero, List.set_cons_succ]))
  clear hHeld
  replace hD2 := Did.back hD2 (show Below W1.heap.size W1 _ by (repeat' (first | (with_reducible exact Below.refl _ _) | (with_reducible refine Below.alloc ?_ ?_ _) | (with_reducible refine below_ext ?_ ?_ _) | (with_reducible refine Below.drew ?_) | (with_reducible refine below_drewN ?_ _) | (with_reducible refine Below.setCell ?_ ?_ _) | go_size | (simp only [go_sem]; omega) | (simp [go_sem]; done) | (simp [go_sem]; omega)))) (fun b g => (hG1 b g).1)
  have B2 := (hD2.1.block HB hBl1 (fun g => (hG1 _ g).2 rfl)).trans B1
  have hG2 : ∀ b, more (more F W0 W1) W1 W2 b → b < W2.heap.size ∧ b ≠ HB := fun b g => ⟨hD2.2.lt b g, fun q => by subst q; rcases g with g | g; exact (hG1 _ g).2 rfl; omega⟩
  have P2 := Lib.hid hD2.2
  replace hD2 := Lib.hid hD2
  clear c0 c1 c2 c3
  have hBl2 := heap_in B2
  have c0 : W2.cell? ⟨HB, 0, none⟩ = some (.int .i64 xt) := by rw [cell_in B2]; rfl
  have c1 : W2.cell? ⟨HB, 1, none⟩ = some (.int .i64 xl) := by rw [cell_in B2]; rfl
  have c2 : W2.cell? ⟨HB, 2, none⟩ = some (.int .i64 xb) := by rw [cell_in B2]; rfl
  have c3 : W2.cell? ⟨HB, 3, none⟩ = some (.int .i64 xr) := by rw [cell_in B2]; rfl
  go_upto_region 6 with (first
    | ((go_at_call 62); (with_reducible refine (LF.out _ _ P2.out).mono ?_); (rintro _ W3 ⟨rfl, hD3⟩)))
  have B3 := (hD3.1.block HB hBl2 (fun g => (hG2 _ g).2 rfl)).trans B2
  have hG3 : ∀ b, more (more (more F W0 W1) W1 W2) W2 W3 b → b < W3.heap.size ∧ b ≠ HB := fun b g => ⟨hD3.2.lt b g, fun q => by subst q; rcases g with g | g; exact (hG2 _ g).2 rfl; omega⟩
  have P3 := Lib.hid hD3.2
  replace hD3 := Lib.hid hD3
  clear c0 c1 c2 c3
  have hBl3 := heap_in B3
  have c0 : W3.cell? ⟨HB, 0, none⟩ = some (.int .i64 xt) := by rw [cell_in B3]; rfl
  have c1 : W3.cell? ⟨HB, 1, none⟩ = some (.int .i64 xl) := by rw [cell_in B3]; rfl
  have c2 : W3.cell? ⟨HB, 2, none⟩ = some (.int .i64 xb) := by rw [cell_in B3]; rfl
  have c3 : W3.cell? ⟨HB, 3, none⟩ = some (.int .i64 xr) := by rw [cell_in B3]; rfl
  (refine wp_region_F (S := (fun w' => w'.cell? ⟨HB, 0, none⟩ = some (.int .i64 xt) ∧ w'.cell? ⟨HB, 1, none⟩ = some (.int .i64 xl) ∧ w'.cell? ⟨HB, 2, none⟩ = some (.int .i64 xb) ∧ w'.cell? ⟨HB, 3, none⟩ = some (.int .i64 xr))) 4 [false, false, false, false, false] rfl rfl (by kernel_rfl) ?_ (fun hHeld => ?_); (focus ((try dsimp only); (refine ⟨?_, ?_, ?_, ?_⟩ <;> simp [go_sem, c0, c1, c2, c3, hBl3]); done)))
  ((refine AtF.take (oi := ?_) (v := ?_) 0 ?_ ?_ ?_ ?_ (Or.inl ⟨?_, ?_⟩) (by assumption) ?_; rotate_left 2; rfl; kernel_rfl; kernel_rfl; exact (fun _ _ _ h => h); rfl; (focus (intro w hSw; (try dsimp only at hSw); go_simp; (try with_reducible rfl); done)); (try simp only [Act.put, List.setIfInBounds_toArray, List.set_cons_zero, List.set_cons_succ])); (refine AtF.take (oi := ?_) (v := ?_) 1 ?_ ?_ ?_ ?_ (Or.inl ⟨?_, ?_⟩) (by assumption) ?_; rotate_left 2; rfl; kernel_rfl; kernel_rfl; exact (fun _ _ _ h => h); rfl; (focus (intro w hSw; (try dsimp only at hSw); go_simp; (try with_reducible rfl); done)); (try simp only [Act.put, List.setIfInBounds_toArray, List.set_cons_zero, List.set_cons_succ])); (refine AtF.take (oi := ?_) (v := ?_) 2 ?_ ?_ ?_ ?_ (Or.inl ⟨?_, ?_⟩) (by assumption) ?_; rotate_left 2; rfl; kernel_rfl; kernel_rfl; exact (fun _ _ _ h => h); rfl; (focus (intro w hSw; (try dsimp only at hSw); go_simp; (try with_reducible rfl); done)); (try simp only [Act.put, List.setIfInBounds_toArray, List.set_cons_zero, List.set_cons_succ])))
  (refine AtF.only (oi := ?_) 3 ?_ ?_ (fun K hK => ?_); rotate_left 1; rfl; kernel_rfl; (try go_simp); (go_at_call 61; ((with_reducible refine (AH.out _).mono ?_); rintro _ _ hgets; obtain ⟨rfl, x5, rfl⟩ := hgets.get; clear hgets)); (refine hK.out _ _ ?_ (fun hHeld => ?_)); (focus ((try dsimp only); (refine ⟨?_, ?_, ?_, ?_⟩ <;> simp [go_sem, c0, c1, c2, c3, hBl3]); done)); clear hK K; (try simp only [Act.put, List.setIfInBounds_toArray, List.set_cons_zero, List.set_cons_succ]))
  (refine AtF.last (oi := ?_) ?_ ?_ (fun K hK => ?_); rotate_left 1; rfl; kernel_rfl; go_simp; (go_at_call 63; (with_reducible refine (RG.out _ _ (P3.out.grow (by (repeat' (first | (with_reducible exact Below.refl _ _) | (with_reducible refine Below.alloc ?_ ?_ _) | (with_reducible refine below_ext ?_ ?_ _) | (with_reducible refine Below.drew ?_) | (with_reducible refine below_drewN ?_ _) | (with_reducible refine Below.setCell ?_ ?_ _) | go_size | (simp only [go_sem]; omega) | (simp [go_sem]; done) | (simp [go_sem]; omega)))))).mono ?_); (rintro _ W4 ⟨rfl, hD4⟩)); refine hK.out _ _ ?_; clear hK K; (try simp only [Act.put, List.setIfInBounds_toArray, List.set_cons_zero, List.set_cons_succ]))
  clear hHeld
  replace hD4 := Did.back hD4 (show Below W3.heap.size W3 _ by (repeat' (first | (with_reducible exact Below.refl _ _) | (with_reducible refine Below.alloc ?_ ?_ _) | (with_reducible refine below_ext ?_ ?_ _) | (with_reducible refine Below.drew ?_) | (with_reducible refine below_drewN ?_ _) | (with_reducible refine Below.setCell ?_ ?_ _) | go_size | (simp only [go_sem]; omega) | (simp [go_sem]; done) | (simp [go_sem]; omega)))) (fun b g => (hG3 b g).1)
  have FN := Lib.hid (Did.back (hD1.out.trans (hD2.out.trans (hD3.out.trans hD4 (fun b g => (hG2 b g).1)) (fun b g => (hG1 b g).1)) (fun b g => P0'.out.lt b g)) hb0 hFB)
  go_wp2
  go_returns
  exact ⟨rfl, FN.out⟩
end
end Go.Proofs.Ytdfiknemfpkdmaa
/- edit: Align.  -/
namespace Go.Proofs.Ytdfiknemfpkdmaa
open Go.RowKit
set_option linter.unusedVariables false
set_option linter.unusedSimpArgs false

section
variable {w : World} {F : Nat → Prop} {p : Nat} {S : PgS}
def fillE (S : PgS) : PgS := eachS S (onB S.rows.length S.cols ⟨0, 0, S.rows.length, S.cols⟩) (fun xs l r => eachR xs l r fun _ => ⟨69, 0, false⟩)
def alignS (S : PgS) : PgS := rowsJ (fillE S) 0 (fun _ r => (r.1, 0)) S.rows.length
theorem fillE_ok (hS : S.Ok) : (fillE S).Ok := eachS_ok hS _ (fun xs l r => eachR_len xs l r _) (fun xs l r h => eachR_ok h fun y hy => by simp [Cl.ok])
theorem fillE_len : (fillE S).rows.length = S.rows.length := eachS_len _
theorem alignS_ok (hS : S.Ok) : (alignS S).Ok := size0_ok (fillE_ok hS) _ _
set_option maxRecDepth 100000 in
set_option maxHeartbeats 8000000 in
theorem align_ed (h : PageAt w F p S) (hS : S.Ok) : Calls Try.prog 30 #[.pointer (some ⟨p, 0, none⟩)] w (fun e w' => e = .returned (.tuple #[]) ∧ Did F p (alignS S) w w') := by
  have BX := Lib.hid (fun w' (hb : Below w.heap.size w w') => box_p (h.grow hb))
  have FL := Lib.hid (fun w' (hb : Below w.heap.size w w') => (show Calls Try.prog 65 #[.pointer (some ⟨p, 0, none⟩), .agg #[.int .i64 0, .int .i64 0, .int .i64 S.rows.length, .int .i64 S.cols], .agg #[.int .i32 69, .int .u8 0, .bool false]] w' (fun e w2 => e = .returned (.tuple #[]) ∧ Did F p (fillE S) w' w2) from fill_p (h.grow hb) hS ⟨0, 0, S.rows.length, S.cols⟩ ⟨69, 0, false⟩))
  have hF := Lib.hid h.lt
  have okV := fillE_ok hS
  have hVm : (fillE S).rows.length = S.rows.length := fillE_len
  have hVn : (fillE S).cols = S.cols := rfl
  have hm1 := hS.r1
  have hm2 := hS.r2
  have hn1 := hS.c1
  have hn2 := hS.c2
  unfold alignS
  generalize hV : fillE S = V at *
  clear hV h hS
  generalize S.rows.length = m at *
  generalize S.cols = n at *
  go_enter Try.func30, Try.ntmps30
  go_upto_region 1 with (first
    | (go_at_call 29; ((with_reducible refine (BX.out _ (by (repeat' (first | (with_reducible exact Below.refl _ _) | (with_reducible refine Below.alloc ?_ ?_ _) | (with_reducible refine below_ext ?_ ?_ _) | (with_reducible refine Below.drew ?_) | (with_reducible refine below_drewN ?_ _) | (with_reducible refine Below.setCell ?_ ?_ _) | go_size | (simp only [go_sem]; omega) | (simp [go_sem]; done) | (simp [go_sem]; omega))))).mono ?_); rintro _ _ hgets; obtain ⟨rfl, x1, rfl⟩ := hgets.get; clear hgets))
    | ((go_at_call 65); (with_reducible refine (FL.out _ (by (repeat' (first | (with_reducible exact Below.refl _ _) | (with_reducible refine Below.alloc ?_ ?_ _) | (with_reducible refine below_ext ?_ ?_ _) | (with_reducible refine Below.drew ?_) | (with_reducible refine below_drewN ?_ _) | (with_reducible refine Below.setCell ?_ ?_ _) | go_size | (simp only [go_sem]; omega) | (simp [go_sem]; done) | (simp [go_sem]; omega))))).mono ?_); (rintro _ W1 ⟨rfl, hD⟩)))
  replace hD := Did.back hD (show Below w.heap.size w _ by (repeat' (first | (with_reducible exact Below.refl _ _) | (with_reducible refine Below.alloc ?_ ?_ _) | (with_reducible refine below_ext ?_ ?_ _) | (with_reducible refine Below.drew ?_) | (with_reducible refine below_drewN ?_ _) | (with_reducible refine Below.setCell ?_ ?_ _) | go_size | (simp only [go_sem]; omega) | (simp [go_sem]; done) | (simp [go_sem]; omega)))) hF.out
  have P1 := Lib.hid hD.2
  replace hD := Lib.hid hD
  have RW := Lib.hid (fun w' (hb : Below W1.heap.size W1 w') => rows_p (P1.out.grow hb))
  rw [hVm] at RW
  generalize hGG : more F w W1 = G at P1
  replace hGG := Lib.hid hGG
  have hGl := Lib.hid P1.out.lt
  go_wp2_with (go_at_call 16; ((with_reducible refine (RW.out _ (by (repeat' (first | (with_reducible exact Below.refl _ _) | (with_reducible refine Below.alloc ?_ ?_ _) | (with_reducible refine below_ext ?_ ?_ _) | (with_reducible refine Below.drew ?_) | (with_reducible refine below_drewN ?_ _) | (with_reducible refine Below.setCell ?_ ?_ _) | go_size | (simp only [go_sem]; omega) | (simp [go_sem]; done) | (simp [go_sem]; omega))))).mono ?_); rintro _ _ hgets; obtain ⟨rfl, x2, rfl⟩ := hgets.get; clear hgets))
  go_loopw [10] (fun av wv => ∃ a : Nat, a ≤ m ∧ av = .int .i64 a ∧ Hid (Did G p (rowsJ V 0 (fun _ r => (r.1, 0)) (a - 0)) W1 wv)) (fun av _ => m - (intOf av).toNat)
  case atStart => exact ⟨0, by omega, rfl, Lib.hid (by rw [Nat.sub_self, rowsJ_zero]; exact Did.same P1.out (by (repeat' (first | (with_reducible exact Below.refl _ _) | (with_reducible refine Below.alloc ?_ ?_ _) | (with_reducible refine below_ext ?_ ?_ _) | (with_reducible refine Below.drew ?_) | (with_reducible refine below_drewN ?_ _) | (with_reducible refine Below.setCell ?_ ?_ _) | go_size | (simp only [go_sem]; omega) | (simp [go_sem]; done) | (simp [go_sem]; omega)))))⟩
  case round =>
    obtain ⟨a, ha2, rfl, hDa⟩ := hrel
    by_cases hae : a < m
    · have e4 : decide ((a : Int) < m) = true := decide_eq_true (by omega)
      have hst2 := size0_step okV (Nat.zero_le a) (show a < V.rows.length by omega)
      have hll := lineOf_size0 (t := 0) (j := a - 0) okV (show a < V.rows.length by omega)
      have okR := size0_ok okV 0 (a - 0)
      have PA := Lib.hid hDa.out.2
      have LN := Lib.hid (fun w' (hb : Below wr.heap.size wr w') => line_p (PA.out.grow hb) okR a)
      have SL := Lib.hid (fun w' (hb : Below wr.heap.size wr w') A1 C1 (rd : Rd encC 3 w' A1 (lineOf (rowsJ V 0 (fun _ r => (r.1, 0)) (a - 0)) a).1) => setline_p (PA.out.grow hb) okR a A1 C1 0 _ rd)
      rw [hst2] at SL
      generalize lineOf (rowsJ V 0 (fun _ r => (r.1, 0)) (a - 0)) a = ln at *
      obtain ⟨zs', zz⟩ := ln
      simp only at hll LN SL
      have hpos := Lib.hid (show 0 < zs'.length by omega)
      have SD := Lib.hid (fun (g : Nat) (k : Nat) w' (h : Rd encC 3 w' (some ⟨g, 0, none⟩) zs') => sized_l (some ⟨g, 0, none⟩) k zz 0 zs' w' h (fun e => by cases e) (by omega) (by simp [maxLen]; omega))
      rw [show sizeI 0 = 0 from rfl] at SD
      clear hst2 hll hVm hVn
      go_wp2_with (first
        | (go_at_call 14
           (with_reducible refine (LN.out _ (by (repeat' (first | (with_reducible exact Below.refl _ _) | (with_reducible refine Below.alloc ?_ ?_ _) | (with_reducible refine below_ext ?_ ?_ _) | (with_reducible refine Below.drew ?_) | (with_reducible refine below_drewN ?_ _) | (with_reducible refine Below.setCell ?_ ?_ _) | go_size | (simp only [go_sem]; omega) | (simp [go_sem]; done) | (simp [go_sem]; omega))))).mono ?_)
           intro _ _ hp
           obtain ⟨q1, k1, y1, rfl, rfl, hR1, hg1⟩ := newL_row hp hpos.out
           have hR1 := Lib.hid hR1.rd
           clear hp)
        | (go_at_call 38
           (with_reducible refine (SD.out _ _ _ (by repeat (first | exact hR1.out | exact hR1 | refine Rd.ext ?_ _ | refine Rd.alloc ?_ _ | refine Rd.drew ?_))).mono ?_)
           intro _ _ hp
           obtain ⟨q2, k2, y2, rfl, rfl, hR2, hg2⟩ := newL_row hp hpos.out
           have hR2 := Lib.hid hR2.rd
           clear hp)
        | (go_at_call 33
           (with_reducible refine (SL.out _ (by (repeat' (first | (with_reducible exact Below.refl _ _) | (with_reducible refine Below.alloc ?_ ?_ _) | (with_reducible refine below_ext ?_ ?_ _) | (with_reducible refine Below.drew ?_) | (with_reducible refine below_drewN ?_ _) | (with_reducible refine Below.setCell ?_ ?_ _) | go_size | (simp only [go_sem]; omega) | (simp [go_sem]; done) | (simp [go_sem]; omega)))) _ _ (by repeat (first | exact hR2.out | exact hR2 | refine Rd.ext ?_ _ | refine Rd.alloc ?_ _ | refine Rd.drew ?_))).mono ?_)
           rintro _ W5 ⟨rfl, hD5⟩
           replace hD5 := Lib.hid (Did.back hD5 (show Below wr.heap.size wr _ by (repeat' (first | (with_reducible exact Below.refl _ _) | (with_reducible refine Below.alloc ?_ ?_ _) | (with_reducible refine below_ext ?_ ?_ _) | (with_reducible refine Below.drew ?_) | (with_reducible refine below_drewN ?_ _) | (with_reducible refine Below.setCell ?_ ?_ _) | go_size | (simp only [go_sem]; omega) | (simp [go_sem]; done) | (simp [go_sem]; omega)))) PA.out.lt)))
      have hN := hDa.out.trans hD5.out hGl.out
      exact ⟨⟨a + 1, by omega, by go_num, Lib.hid hN⟩, by simp [intOf]; omega⟩
    · obtain rfl : a = m := by omega
      have e4 : decide ((a : Int) < a) = false := by simp
      clear hae
      have hDa2 := hDa.out
      rw [← hGG.out, Nat.sub_zero] at hDa2
      have FN := Lib.hid (hD.out.trans hDa2 hF.out)
      go_wp2
      go_returns
      exact ⟨rfl, FN.out⟩
end
end Go.Proofs.Ytdfiknemfpkdmaa
/- edit, plain laws: what is kept, parts, twice.  -/
namespace Go.Proofs.Ytdfiknemfpkdmaa
open Go.RowKit
set_option linter.unusedVariables false
set_option linter.unusedSimpArgs false

section
variable {S : PgS} {sel ra : Bool} {k r c : Int} {i j : Nat}
theorem atS_row {T : PgS} (hT : T.Ok) (hi : i < T.rows.length) (hj : j < T.cols) : some (atS T i j) = (rowD T i).1[j]? := by
  have hl := hT.len hi
  rw [atS_in hi hj (by omega), rowD_in hi, List.getElem?_eq_getElem (by omega)]
theorem era_at (hS : S.Ok) (hi : i < S.rows.length) (hj : j < S.cols) : atS (eraS S sel ra k r c) i j = if hitB ra k r c i j then wipeC sel (atS S i j) else atS S i j := by
  have h1 := atS_row (T := eraS S sel ra k r c) (eraS_ok hS) (by rw [eraS_len]; exact hi) hj
  have h2 := atS_row hS hi hj
  rw [era_row hi] at h1
  simp only [List.getElem?_mapIdx, ← h2, Option.map_some] at h1
  exact Option.some.inj h1
theorem era_size (hi : i < S.rows.length) : (rowD (eraS S true ra k r c) i).2 = (rowD S i).2 := by
  rw [era_row hi]
  simp
/-- selective erasing leaves what is kept, and all renditions and keepings -/
theorem era_kept (hS : S.Ok) (hi : i < S.rows.length) (hj : j < S.cols) : atS (eraS S true ra k r c) i j = atS S i j ∨ ((atS S i j).k = false ∧ atS (eraS S true ra k r c) i j = ⟨32, (atS S i j).r, false⟩) := by
  rw [era_at hS hi hj]
  split
  · unfold wipeC cleanC
    simp only [if_true]
    cases hk : (atS S i j).k
    · right
      simp
    · left
      simp
  · exact .inl rfl
/-- what stands ahead and what stands from there on are all -/
theorem era_parts (hS : S.Ok) (hi : i < S.rows.length) (hj : j < S.cols) : atS (eraS S sel false 2 r c) i j = atS (eraS (eraS S sel false 1 r c) sel false 0 r c) i j := by
  have h1 := eraS_ok (sel := sel) (ra := false) (k := 1) (r := r) (c := c) hS
  rw [era_at hS hi hj, era_at h1 (by rw [eraS_len]; exact hi) hj, era_at hS hi hj]
  simp only [hitB, Bool.not_false, Bool.true_or, Bool.true_and, if_neg (show ¬ (2 : Int) = 0 by omega), if_neg (show ¬ (2 : Int) = 1 by omega), if_neg (show ¬ (1 : Int) = 0 by omega), if_true, decide_true, Bool.or_eq_true, Bool.and_eq_true, decide_eq_true_eq]
  by_cases q0 : r < i ∨ (r = i ∧ c ≤ j)
  · rw [if_pos q0]
    by_cases q1 : (i : Int) < r ∨ (r = i ∧ (j : Int) ≤ c)
    · rw [if_pos q1, wipeC_twice]
    · rw [if_neg q1]
  · rw [if_neg q0, if_pos (by omega)]
theorem era_parts_row (hS : S.Ok) : eraS S sel true 2 r c = eraS (eraS S sel true 0 r c) sel true 1 r c := by
  refine PgS.ext_rows (by rw [eraS_len, eraS_len, eraS_len]) rfl fun i hi => ?_
  rw [eraS_len] at hi
  rw [era_row hi, era_row (by rw [eraS_len]; exact hi), era_row hi]
  refine Prod.ext (List.ext_getElem? fun j => ?_) (by simp)
  simp only [List.getElem?_mapIdx, Option.map_map]
  congr 1
  funext y
  simp only [Function.comp, hitB, Bool.not_true, Bool.false_or, if_neg (show ¬ (2 : Int) = 0 by omega), if_neg (show ¬ (2 : Int) = 1 by omega), if_neg (show ¬ (1 : Int) = 0 by omega), if_true, decide_true, Bool.or_eq_true, Bool.and_eq_true, decide_eq_true_eq, Bool.and_true]
  by_cases q : r = i
  · rw [if_pos q]
    by_cases q0 : c ≤ j
    · rw [if_pos (c := (r = i ∧ (r < i ∨ r = i ∧ c ≤ j))) ⟨q, .inr ⟨q, q0⟩⟩]
      split
      · rw [wipeC_twice]
      · rfl
    · rw [if_neg (c := (r = i ∧ (r < i ∨ r = i ∧ c ≤ j))) (by omega), if_pos (by omega)]
  · rw [if_neg q, if_neg (fun h => q h.1), if_neg (fun h => q h.1)]
/-- all is erased: a new page -/
theorem era_all (hS : S.Ok) : eraS S false false 2 r c = resizeS ⟨[], 0⟩ S.rows.length S.cols := by
  have h1 := hS.r1
  have h2 := hS.r2
  have h3 := hS.c1
  have h4 := hS.c2
  have d1 : dimN (S.rows.length : Int) = S.rows.length := by unfold dimN; omega
  have d2 : dimN (S.cols : Int) = S.cols := by unfold dimN; omega
  refine PgS.ext_rows (by rw [eraS_len]; simp [resizeS, d1]) (by rw [show (eraS S false false 2 r c).cols = S.cols from rfl]; simp [resizeS, d2]) fun i hi => ?_
  rw [eraS_len] at hi
  rw [era_row hi, rowD_in (S := resizeS ⟨[], 0⟩ S.rows.length S.cols) (by simp [resizeS, d1]; exact hi)]
  simp only [resizeS, List.getElem_map, List.getElem_range, d2]
  rw [resRow_none (by simp)]
  refine Prod.ext (List.ext_getElem? fun j => ?_) ?_
  · have hl := rowD_len hS hi
    simp only [List.getElem?_mapIdx, List.getElem?_replicate]
    rcases Nat.lt_or_ge j S.cols with hj | hj
    · rw [List.getElem?_eq_getElem (by omega), if_pos hj]
      simp [hitB, wipeC]
    · rw [List.getElem?_eq_none (by omega), if_neg (by omega)]
      rfl
  · simp [fullB]
theorem blank_again {m n : Nat} (hm : 1 ≤ m ∧ m ≤ 500) (hn : 1 ≤ n ∧ n ≤ 500) : eraS (resizeS ⟨[], 0⟩ m n) false false k r c = resizeS ⟨[], 0⟩ m n := by
  have d1 : dimN (m : Int) = m := by unfold dimN; omega
  have d2 : dimN (n : Int) = n := by unfold dimN; omega
  have hl : (resizeS ⟨[], 0⟩ (m : Int) n).rows.length = m := by simp [resizeS, d1]
  refine PgS.ext_rows (by rw [eraS_len]) rfl fun i hi => ?_
  rw [eraS_len] at hi
  rw [era_row hi, rowD_in hi]
  have hr : (resizeS ⟨[], 0⟩ (m : Int) n).rows[i] = (List.replicate n erC, 0) := by
    simp only [resizeS, List.getElem_map, List.getElem_range, d2]
    exact resRow_none (by simp)
  rw [hr]
  refine Prod.ext (List.ext_getElem? fun j => ?_) ?_
  · simp only [List.getElem?_mapIdx, List.getElem?_replicate]
    by_cases hj : j < n
    · rw [if_pos hj]
      simp only [Option.map_some]
      split <;> rfl
    · rw [if_neg hj]
      rfl
  · simp only
    split <;> rfl
end
section
variable {S : PgS} {b : BxI}
theorem move_zero (hb : b.Fits S.rows.length S.cols) (hS : S.Ok) : moveS S b 0 = S := by
  refine PgS.ext_rows moveS_len rfl fun i hi => ?_
  rw [moveS_len] at hi
  have h1 := hb.t0
  have h2 := hb.bm
  refine Prod.ext (List.ext_getElem? fun j => ?_) ?_
  · rw [move_cell hS hb 0 hi]
    split
    · rename_i h
      unfold moveSrc
      rw [if_pos (by omega), show ((i : Int) + 0).toNat = i by omega]
      rfl
    · rfl
  · rw [move_size 0 hb hi]
    split
    · rename_i h
      unfold moveSrc
      rw [if_pos (by omega), show ((i : Int) + 0).toNat = i by omega]
      rfl
    · rfl
theorem mov_zero (xs : List Cl) (l r : Int) : movR xs l r 0 = xs := by
  unfold movR
  refine updR_id fun i hi _ h => ?_
  unfold movG
  simp only [Int.sub_zero]
  rw [if_pos (by simpa using h)]
  simp [hi]
theorem each_id (hb : b.Fits S.rows.length S.cols) (f : List Cl → Int → Int → List Cl) (hf : ∀ xs l r, f xs l r = xs) : eachS S b f = S := by
  refine PgS.ext_rows (eachS_len _) rfl fun i hi => ?_
  rw [eachS_len] at hi
  rw [each_row f hb hi, hf]
  split <;> rfl
/-- up by n rows, and nothing else -/
theorem scroll_up (hS : S.Ok) (hb : b.Fits S.rows.length S.cols) {n : Int} (h0 : 0 ≤ n) (h1 : n ≤ 1000) : scrollS S b n 0 = moveS S b n := by
  unfold scrollS
  have e1 : clampR n 0 1000 = n := by unfold clampR; rw [if_neg (by omega), if_neg (by omega)]
  have e2 : clampR (agI n) 0 1000 = 0 := by unfold clampR agI; split <;> (try split) <;> omega
  have ok1 := moveS_fit hS hb n
  have hb1 : b.Fits (moveS S b n).rows.length (moveS S b n).cols := by rw [moveS_len]; exact hb
  rw [e1, e2, show -(0 : Int) = 0 from rfl, move_zero hb1 ok1, each_id hb1 _ (fun xs l r => ?_), each_id hb1 _ (fun xs l r => ?_)]
  · have := cntN_bd xs.length l r
    rw [show agI 0 = 0 by unfold agI; omega, show clampR 0 0 (cntN xs.length l r 0) = 0 by unfold clampR; rw [if_neg (by omega), if_neg (by omega)], mov_zero]
  · have := cntN_bd xs.length l r
    rw [show clampR 0 0 (cntN xs.length l r 0) = 0 by unfold clampR; rw [if_neg (by omega), if_neg (by omega)], show -(0 : Int) = 0 from rfl, mov_zero]
theorem scroll_join (hS : S.Ok) (hb : b.Fits S.rows.length S.cols) {n : Int} (h0 : 0 ≤ n) (h1 : n ≤ 4) : scrollS (scrollS S b n 0) b 2 0 = scrollS S b (n + 2) 0 := by
  have ok1 := moveS_fit hS hb n
  have hb1 : b.Fits (moveS S b n).rows.length (moveS S b n).cols := by rw [moveS_len]; exact hb
  rw [scroll_up hS hb h0 (by omega), scroll_up ok1 hb1 (by omega) (by omega), scroll_up hS hb (by omega) (by omega), up_join hS hb h0 (by omega)]
end
end Go.Proofs.Ytdfiknemfpkdmaa
/- phosphorlaw15.awake: a page is aligned, and what stands from the cursor on is erased.  -/
namespace Go.Proofs.Ytdfiknemfpkdmaa
open Go.RowKit
set_option linter.unusedVariables false
set_option linter.unusedSimpArgs false

def aw15S0 : PgS := resizeS ⟨[], 0⟩ 2 3
def aw15S1 : PgS := alignS aw15S0
def aw15C : Cu := ⟨0, 1, 0, false, true, false, 0, 0, 0, 0, 0, 0, 0⟩
def aw15D : Cu := onU aw15S1.rows.length aw15S1.cols aw15C
def aw15S2 : PgS := eraS aw15S1 false false 0 aw15D.row aw15D.col
theorem aw15_ok0 : aw15S0.Ok := resizeS_ok _ _ _ (fun r hr => by cases hr)
theorem aw15_ok1 : aw15S1.Ok := alignS_ok aw15_ok0
theorem aw15_ok2 : aw15S2.Ok := eraS_ok aw15_ok1
theorem aw15_a : (atS aw15S2 0 0).g = 69 := by decide +kernel
theorem aw15_b : (atS aw15S2 0 1).g = 32 := by decide +kernel
theorem aw15_c : (atS aw15S2 1 2).g = 32 := by decide +kernel
theorem aw15_d : (doneU aw15S2 aw15D).col = 1 ∧ (doneU aw15S2 aw15D).wp = false := by decide +kernel
set_option maxRecDepth 100000 in
set_option maxHeartbeats 8000000 in
theorem awake_15 (w : World) : Calls Try.prog 8 #[] w (Gives w (.bool true)) := by
  have ok0 := aw15_ok0
  have ok1 := aw15_ok1
  have ok2 := aw15_ok2
  have NP := Lib.hid (fun w' => (by exact new_p 2 3 w' : Calls Try.prog 21 #[.int .i64 2, .int .i64 3] w' (NewPg aw15S0 w')))
  go_enter Try.func8, Try.ntmps8
  go_upto_region 2 with ((go_at_call 21); (with_reducible refine (NP.out _).mono ?_); (rintro _ _ ⟨p, F, x3, rfl, rfl, hFg, hPg⟩))
  have hbW := below_of_ext w x3
  generalize ext w x3 = w1 at hPg hbW ⊢
  have hBx := Lib.hid hbW
  have hPl := Lib.hid hPg.lt
  have AL := Lib.hid (fun w' (hb : Below w1.heap.size w1 w') => (by exact align_ed (hPg.grow hb) ok0 : Calls Try.prog 30 #[.pointer (some ⟨p, 0, none⟩)] w' (fun e w2 => e = .returned (.tuple #[]) ∧ Did F p aw15S1 w' w2)))
  go_upto_region 3 with (first
    | ((go_at_call 30); (with_reducible refine (AL.out _ (by (repeat' (first | (with_reducible exact Below.refl _ _) | (with_reducible refine Below.alloc ?_ ?_ _) | (with_reducible refine below_ext ?_ ?_ _) | (with_reducible refine Below.drew ?_) | (with_reducible refine below_drewN ?_ _) | (with_reducible refine Below.setCell ?_ ?_ _) | go_size | (simp only [go_sem]; omega) | (simp [go_sem]; done) | (simp [go_sem]; omega))))).mono ?_); (rintro _ w2 ⟨rfl, hD⟩)))
  have hb2 : Below w.heap.size w w2 := hbW.trans (hD.1.below (B := w.heap.size) (fun b hb => hFg b hb) hbW.size)
  have hP2 := hD.2
  have hF2 : ∀ b, more F w1 w2 b → w.heap.size ≤ b := fun b hb => hb.elim (hFg b) (fun q => Nat.le_trans hbW.size q.1)
  generalize more F w1 w2 = F2 at hP2 hF2
  clear AL hD
  have hPl2 := Lib.hid hP2.lt
  have DI := Lib.hid (fun w' (hb : Below w2.heap.size w2 w') => (by exact display_ed (hP2.grow hb) ok1 aw15C 0 false : Calls Try.prog 10 #[.pointer (some ⟨p, 0, none⟩), aw15C.v, .int .i64 0, .bool false] w' (fun e w3 => e = .returned (doneU aw15S2 aw15D).v ∧ Did F2 p aw15S2 w' w3)))
  have hd := aw15_d
  generalize doneU aw15S2 aw15D = dd at DI hd
  obtain ⟨dw, dc, dr, dk, dp, dg, da, db, dc', dd', dl, dr', ds⟩ := dd
  simp only [Cu.v, aw15C] at DI hd
  obtain ⟨rfl, rfl⟩ := hd
  go_upto_region 4 with (first
    | ((go_at_call 10); (with_reducible refine (DI.out _ (by (repeat' (first | (with_reducible exact Below.refl _ _) | (with_reducible refine Below.alloc ?_ ?_ _) | (with_reducible refine below_ext ?_ ?_ _) | (with_reducible refine Below.drew ?_) | (with_reducible refine below_drewN ?_ _) | (with_reducible refine Below.setCell ?_ ?_ _) | go_size | (simp only [go_sem]; omega) | (simp [go_sem]; done) | (simp [go_sem]; omega))))).mono ?_); (rintro _ w3 ⟨rfl, hD⟩)))
  have hb3 : Below w.heap.size w w3 := hb2.trans (hD.1.below (B := w.heap.size) (fun b hb => hF2 b hb) hb2.size)
  have hP3 := hD.2
  generalize more F2 w2 w3 = F3 at hP3
  clear DI hD
  have AT1 := Lib.hid (fun w' (hb : Below w3.heap.size w3 w') => at_p (hP3.grow hb) ok2 0 0)
  have AT2 := Lib.hid (fun w' (hb : Below w3.heap.size w3 w') => at_p (hP3.grow hb) ok2 0 1)
  have AT3 := Lib.hid (fun w' (hb : Below w3.heap.size w3 w') => at_p (hP3.grow hb) ok2 1 2)
  have g1 := aw15_a
  have g2 := aw15_b
  have g3 := aw15_c
  generalize atS aw15S2 0 0 = y1 at AT1 g1
  generalize atS aw15S2 0 1 = y2 at AT2 g2
  generalize atS aw15S2 1 2 = y3 at AT3 g3
  obtain ⟨yg1, yr1, yk1⟩ := y1
  obtain ⟨yg2, yr2, yk2⟩ := y2
  obtain ⟨yg3, yr3, yk3⟩ := y3
  simp only at g1 g2 g3
  subst g1 g2 g3
  go_wp2_with (first
    | (go_at_call 13; ((with_reducible refine (AT1.out _ (by (repeat' (first | (with_reducible exact Below.refl _ _) | (with_reducible refine Below.alloc ?_ ?_ _) | (with_reducible refine below_ext ?_ ?_ _) | (with_reducible refine Below.drew ?_) | (with_reducible refine below_drewN ?_ _) | (with_reducible refine Below.setCell ?_ ?_ _) | go_size | (simp only [go_sem]; omega) | (simp [go_sem]; done) | (simp [go_sem]; omega))))).mono ?_); rintro _ _ hgets; obtain ⟨rfl, x7, rfl⟩ := hgets.get; clear hgets))
    | (go_at_call 13; ((with_reducible refine (AT2.out _ (by (repeat' (first | (with_reducible exact Below.refl _ _) | (with_reducible refine Below.alloc ?_ ?_ _) | (with_reducible refine below_ext ?_ ?_ _) | (with_reducible refine Below.drew ?_) | (with_reducible refine below_drewN ?_ _) | (with_reducible refine Below.setCell ?_ ?_ _) | go_size | (simp only [go_sem]; omega) | (simp [go_sem]; done) | (simp [go_sem]; omega))))).mono ?_); rintro _ _ hgets; obtain ⟨rfl, x8, rfl⟩ := hgets.get; clear hgets))
    | (go_at_call 13; ((with_reducible refine (AT3.out _ (by (repeat' (first | (with_reducible exact Below.refl _ _) | (with_reducible refine Below.alloc ?_ ?_ _) | (with_reducible refine below_ext ?_ ?_ _) | (with_reducible refine Below.drew ?_) | (with_reducible refine below_drewN ?_ _) | (with_reducible refine Below.setCell ?_ ?_ _) | go_size | (simp only [go_sem]; omega) | (simp [go_sem]; done) | (simp [go_sem]; omega))))).mono ?_); rintro _ _ hgets; obtain ⟨rfl, x9, rfl⟩ := hgets.get; clear hgets)))
  go_returns
  exact ⟨rfl, hb3.trans (Below.mono (B := w3.heap.size) (by (repeat' (first | (with_reducible exact Below.refl _ _) | (with_reducible refine Below.alloc ?_ ?_ _) | (with_reducible refine below_ext ?_ ?_ _) | (with_reducible refine Below.drew ?_) | (with_reducible refine below_drewN ?_ _) | (with_reducible refine Below.setCell ?_ ?_ _) | go_size | (simp only [go_sem]; omega) | (simp [go_sem]; done) | (simp [go_sem]; omega)))) hb3.size)⟩
end Go.Proofs.Ytdfiknemfpkdmaa
