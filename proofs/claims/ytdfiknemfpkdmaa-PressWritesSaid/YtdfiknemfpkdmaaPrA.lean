/- press: a sheet in memory (a page, a cursor on it, its frame).  -/
import Derived.Test.YtdfiknemfpkdmaaSh
namespace Go.Proofs.Ytdfiknemfpkdmaa
open Go.RowKit
set_option linter.unusedVariables false
set_option linter.unusedSimpArgs false

/-- the frame, as cells -/
abbrev frL (m n : Nat) (x : BxI) : List Value := [.int .i64 0, .int .i64 0, .int .i64 m, .int .i64 n, .int .i64 x.t, .int .i64 x.l, .int .i64 x.b, .int .i64 x.r]
abbrev cuL (x : Cu) : List Value := [.int .i64 x.row, .int .i64 x.col, .int .u8 x.rd, .bool x.kp, .bool x.wp, .bool x.og, .int .i64 x.a, .int .i64 x.b, .int .i64 x.c, .int .i64 x.d, .int .i64 x.l, .int .i64 x.r, .int .i64 x.s]
/-- a sheet: block H -/
def PrAt (w : World) (H p : Nat) (x : Cu) (fr : List Value) : Prop := w.heap[H]? = some (.cells (.pointer (some ⟨p, 0, none⟩) :: (cuL x ++ fr)).toArray 112 (0, 0))
/-- taken to a page, the pen's wrap as it was -/
def onP (m n : Nat) (x : Cu) : Cu := { x with row := clampI 0 m x.row, col := clampI 0 n x.col }
section
variable {w w' : World} {H p : Nat} {x : Cu} {fr : List Value}
theorem PrAt.grow (h : PrAt w H p x fr) (hb : Below w.heap.size w w') : PrAt w' H p x fr := (hb.block _ (heap_in h)).trans h
theorem PrAt.page (h : PrAt w H p x fr) : w.cell? ⟨H, 0, none⟩ = some (.pointer (some ⟨p, 0, none⟩)) := by rw [cell_in h]; rfl
theorem PrAt.cur (h : PrAt w H p x fr) : w.rangeAt H 1 (cuL x) := range_blk h 1 _ (by simp)
theorem PrAt.frame (h : PrAt w H p x fr) : w.rangeAt H 14 fr := range_blk h 14 _ (by simp)
theorem PrAt.row (h : PrAt w H p x fr) : w.cell? ⟨H, 1, none⟩ = some (.int .i64 x.row) := by rw [cell_in h]; rfl
theorem PrAt.lt (h : PrAt w H p x fr) : H < w.heap.size := heap_in h
end
theorem sheet_fill (A : Option Addr) (cs fs : List Value) (hc : cs.length = 13) (hf : fs.length = 8) : Try.prog.built 112 [(0, .pointer A), (1, .agg cs.toArray), (2, .agg fs.toArray)] = some (.pointer A :: (cs ++ fs)).toArray := by
  have e : Try.prog.built 112 [(0, .pointer A), (1, .agg cs.toArray), (2, .agg fs.toArray)] = Instr.fill (fun i => (#[(0, 1), (1, 13), (14, 8)] : Array (Nat × Nat))[i]?) #[.pointer none, .int .i64 0, .int .i64 0, .int .u8 0, .bool false, .bool false, .bool false, .int .i64 0, .int .i64 0, .int .i64 0, .int .i64 0, .int .i64 0, .int .i64 0, .int .i64 0, .int .i64 0, .int .i64 0, .int .i64 0, .int .i64 0, .int .i64 0, .int .i64 0, .int .i64 0, .int .i64 0] [(0, .pointer A), (1, .agg cs.toArray), (2, .agg fs.toArray)] := by kernel_rfl
  rw [e]
  refine fill_cons (off := 0) (size := 1) rfl rfl (by simp) ?_
  refine fill_cons (off := 1) (size := 13) rfl (by simp [Value.cells, hc]) (by simp [Value.cells]) ?_
  refine fill_cons (off := 14) (size := 8) rfl (by simp [Value.cells, hf]) (by simp [Value.cells, hc]) ?_
  unfold Instr.fill
  simp [Value.cells, hc, hf]
end Go.Proofs.Ytdfiknemfpkdmaa
/- press.on, width, fit.  -/
namespace Go.Proofs.Ytdfiknemfpkdmaa
open Go.RowKit
set_option linter.unusedVariables false
set_option linter.unusedSimpArgs false

theorem wpList_built {P : Program} {ops : Array Oper} {rest : List Oper} {o : Oper} {a : Act} {w : World} {Q : Exit → Act → World → Prop} (hgd : o.guard = none) (t : TypeId) (parts : Array (Nat × Operand)) (ho : o.op = .build t parts) (v : Value) (parts' : Array (Nat × Value)) (hp : (parts.map fun (i, x) => (i, a.eval x)) = parts')
    (h : (Instr.build t parts').run P w = .ok v w) (k : wpList P ops Q rest (a.put o.dst v) w) : wpList P ops Q (o :: rest) a w := by
  refine wpList_plain hgd fun K hK => ?_
  subst hp
  unfold Oper.wp execOp
  simp only [ho, Sem.run_bind, h, Result.andThen_ok, Sem.run_pure]
  exact hK _ _ k
section
variable {w : World} {F : Nat → Prop} {p : Nat} {S : PgS}
set_option maxRecDepth 100000 in
set_option maxHeartbeats 8000000 in
theorem on_s (h : PageAt w F p S) (hS : S.Ok) (x : Cu) (f m : BxI) : Calls Try.prog 48 #[.pointer (some ⟨p, 0, none⟩), x.v, .agg #[.int .i64 f.t, .int .i64 f.l, .int .i64 f.b, .int .i64 f.r, .int .i64 m.t, .int .i64 m.l, .int .i64 m.b, .int .i64 m.r]] w
    (fun e w' => ∃ H y, e = .returned (.pointer (some ⟨H, 0, none⟩)) ∧ w' = ext w y ∧ w.heap.size ≤ H ∧ PrAt w' H p (onP S.rows.length S.cols x) (frL S.rows.length S.cols m)) := by
  have r1 := hS.r1
  have r2 := hS.r2
  have c1 := hS.c1
  have c2 := hS.c2
  have BX := Lib.hid (fun w' (hb : Below w.heap.size w w') => box_p (h.grow hb))
  obtain ⟨mt, ml, mb, mr⟩ := m
  obtain ⟨fT, fL, fB, fR⟩ := f
  have W := Lib.hid (fun w' => whole_f (pt := 0) (pl := 0) (pb := S.rows.length) (pr := S.cols) (mt := mt) (ml := ml) (mb := mb) (mr := mr) w')
  rw [show max 1 (S.rows.length : Int) = S.rows.length by omega, show max 1 (S.cols : Int) = S.cols by omega] at W
  have C := Lib.hid (fun w' => clamp_ne 0 0 S.rows.length S.cols x.row x.col w' (by omega) (by omega) (by omega) (by omega) (by omega) (by omega))
  obtain ⟨row, col, rd, kp, wp, og, a, b, c, d, l, r, s⟩ := x
  simp only [onP] at C ⊢
  clear h
  generalize clampI 0 S.rows.length row = R at *
  generalize clampI 0 S.cols col = Q at *
  go_enter Try.func48, Try.ntmps48
  go_upto_region 2 with (go_at_call 29; ((with_reducible refine (BX.out _ (by (repeat' (first | (with_reducible exact Below.refl _ _) | (with_reducible refine Below.alloc ?_ ?_ _) | (with_reducible refine below_ext ?_ ?_ _) | (with_reducible refine Below.drew ?_) | (with_reducible refine below_drewN ?_ _) | (with_reducible refine Below.setCell ?_ ?_ _) | go_size | (simp only [go_sem]; omega) | (simp [go_sem]; done) | (simp [go_sem]; omega))))).mono ?_); rintro _ _ hgets; obtain ⟨rfl, x1, rfl⟩ := hgets.get; clear hgets))
  (refine wp_region_F (S := (fun w' => w'.cell? ⟨w.heap.size, 0, none⟩ = some (.int .i64 row) ∧ w'.cell? ⟨w.heap.size, 1, none⟩ = some (.int .i64 col) ∧ w'.rangeAt (w.heap.size + 1) 0 (frL S.rows.length S.cols ⟨mt, ml, mb, mr⟩))) 6 [false, false, false, false, false, false, false] rfl rfl (by kernel_rfl) ?_ (fun hHeld => ?_); (focus ((try dsimp only); (refine ⟨by simp [go_sem], by simp [go_sem], range_grow (range_blk (heap_at _ _ (by simp)) 0 _ rfl) (by simp) _⟩); done)))
  (refine AtF.take (oi := ?_) (v := .agg (#[.int .i64 0, .int .i64 0, .int .i64 S.rows.length, .int .i64 S.cols, .int .i64 mt, .int .i64 ml, .int .i64 mb, .int .i64 mr])) 0 ?_ ?_ ?_ ?_ ?_ (by assumption) ?_; rotate_left 1; rfl; kernel_rfl; kernel_rfl; exact (fun _ _ _ h => h); (focus ((refine yieldsIf_load_mid rfl 69 (.tmp 5) rfl (w.heap.size + 1) 0 rfl (frL S.rows.length S.cols ⟨mt, ml, mb, mr⟩) _ (fun w' hS => hS.2.2) Try.underlying69 rfl (by kernel_rfl)); done)); (try simp only [Act.put, List.setIfInBounds_toArray, List.set_cons_zero, List.set_cons_succ]))
  ((refine AtF.take (oi := ?_) (v := ?_) 2 ?_ ?_ ?_ ?_ (Or.inl ⟨?_, ?_⟩) (by assumption) ?_; rotate_left 2; rfl; kernel_rfl; kernel_rfl; exact (fun _ _ _ h => h); rfl; (focus (intro w hSw; (try dsimp only at hSw); go_simp; (try with_reducible rfl); done)); (try simp only [Act.put, List.setIfInBounds_toArray, List.set_cons_zero, List.set_cons_succ])); (refine AtF.take (oi := ?_) (v := ?_) 3 ?_ ?_ ?_ ?_ (Or.inl ⟨?_, ?_⟩) (by assumption) ?_; rotate_left 2; rfl; kernel_rfl; kernel_rfl; exact (fun _ _ _ h => h); rfl; (focus (intro w hSw; (try dsimp only at hSw); go_simp; (try with_reducible rfl); done)); (try simp only [Act.put, List.setIfInBounds_toArray, List.set_cons_zero, List.set_cons_succ])))
  (refine AtF.only (oi := ?_) 1 ?_ ?_ (fun K hK => ?_); rotate_left 1; rfl; kernel_rfl; (try go_simp); (go_at_call 70; ((with_reducible refine (W.out _).mono ?_); rintro _ _ hgets; obtain ⟨rfl, x2, rfl⟩ := hgets.get; clear hgets)); (refine hK.out _ _ ?_ (fun hHeld => ?_)); (focus ((try dsimp only); (exact ⟨by simp [go_sem], by simp [go_sem], range_grow (range_grow (range_blk (heap_at _ _ (by simp)) 0 _ rfl) (by simp) _) (by simp; omega) _⟩); done)); clear hK K; (try simp only [Act.put, List.setIfInBounds_toArray, List.set_cons_zero, List.set_cons_succ]))
  (refine AtF.only (oi := ?_) 4 ?_ ?_ (fun K hK => ?_); rotate_left 1; rfl; kernel_rfl; (try go_simp); (go_at_call 69; ((with_reducible refine (C.out _).mono ?_); rintro _ _ hgets; obtain ⟨rfl, x3, rfl⟩ := hgets.get; clear hgets)); (refine hK.out _ _ ?_ (fun hHeld => ?_)); (focus ((try dsimp only); (exact ⟨by simp [go_sem], by simp [go_sem], range_grow (range_grow (range_grow (range_blk (heap_at _ _ (by simp)) 0 _ rfl) (by simp) _) (by simp; omega) _) (by simp; omega) _⟩); done)); clear hK K; (try simp only [Act.put, List.setIfInBounds_toArray, List.set_cons_zero, List.set_cons_succ]))
  ((refine AtF.take (oi := ?_) (v := ?_) 5 ?_ ?_ ?_ ?_ (Or.inl ⟨?_, ?_⟩) (by assumption) ?_; rotate_left 2; rfl; kernel_rfl; kernel_rfl; exact (fun _ _ _ h => h); rfl; (focus (intro w hSw; (try dsimp only at hSw); go_simp; (try with_reducible rfl); done)); (try simp only [Act.put, List.setIfInBounds_toArray, List.set_cons_zero, List.set_cons_succ])))
  (refine AtF.last (oi := ?_) ?_ ?_ (fun K hK => ?_); rotate_left 1; rfl; kernel_rfl; go_simp; skip; refine hK.out _ _ ?_; clear hK K; (try simp only [Act.put, List.setIfInBounds_toArray, List.set_cons_zero, List.set_cons_succ]))
  clear hHeld
  go_upto_region 3 with fail
  obtain ⟨W1, hW1⟩ : ∃ W1, W1 = ext (ext (ext ((w.alloc (.cells #[.int .i64 R, .int .i64 Q, .int .u8 rd, .bool kp, .bool wp, .bool og, .int .i64 a, .int .i64 b, .int .i64 c, .int .i64 d, .int .i64 l, .int .i64 r, .int .i64 s] 49)).alloc (.cells #[.int .i64 0, .int .i64 0, .int .i64 S.rows.length, .int .i64 S.cols, .int .i64 mt, .int .i64 ml, .int .i64 mb, .int .i64 mr] 69)) x1) x2) x3 := ⟨_, rfl⟩
  have b1 : W1.heap[w.heap.size]? = some (.cells #[.int .i64 R, .int .i64 Q, .int .u8 rd, .bool kp, .bool wp, .bool og, .int .i64 a, .int .i64 b, .int .i64 c, .int .i64 d, .int .i64 l, .int .i64 r, .int .i64 s] 49 (0, 0)) := by rw [hW1]; (repeat (first | ((with_reducible refine heap_at _ _ ?_); (focus (first | rfl | (simp [go_sem]; done) | (simp [go_sem]; omega)))) | ((with_reducible refine (heap_old _ _ ?_).trans ?_); (focus (first | (simp [go_sem]; done) | (simp [go_sem]; omega)))) | ((with_reducible refine (block_ext _ _ ?_).trans ?_); (focus (first | (simp [go_sem]; done) | (simp [go_sem]; omega)))) | ((with_reducible refine (heap_drew _ _).trans ?_))))
  have b2 : W1.heap[w.heap.size + 1]? = some (.cells #[.int .i64 0, .int .i64 0, .int .i64 S.rows.length, .int .i64 S.cols, .int .i64 mt, .int .i64 ml, .int .i64 mb, .int .i64 mr] 69 (0, 0)) := by rw [hW1]; (repeat (first | ((with_reducible refine heap_at _ _ ?_); (focus (first | rfl | (simp [go_sem]; done) | (simp [go_sem]; omega)))) | ((with_reducible refine (heap_old _ _ ?_).trans ?_); (focus (first | (simp [go_sem]; done) | (simp [go_sem]; omega)))) | ((with_reducible refine (block_ext _ _ ?_).trans ?_); (focus (first | (simp [go_sem]; done) | (simp [go_sem]; omega)))) | ((with_reducible refine (heap_drew _ _).trans ?_))))
  have hb : Below w.heap.size w W1 := by rw [hW1]; (repeat' (first | (with_reducible exact Below.refl _ _) | (with_reducible refine Below.alloc ?_ ?_ _) | (with_reducible refine below_ext ?_ ?_ _) | (with_reducible refine Below.drew ?_) | (with_reducible refine below_drewN ?_ _) | (with_reducible refine Below.setCell ?_ ?_ _) | go_size | (simp only [go_sem]; omega) | (simp [go_sem]; done) | (simp [go_sem]; omega)))
  have rg1 := range_blk b1 0 [.int .i64 R, .int .i64 Q, .int .u8 rd, .bool kp, .bool wp, .bool og, .int .i64 a, .int .i64 b, .int .i64 c, .int .i64 d, .int .i64 l, .int .i64 r, .int .i64 s] rfl
  have rg2 := range_blk b2 0 [.int .i64 0, .int .i64 0, .int .i64 S.rows.length, .int .i64 S.cols, .int .i64 mt, .int .i64 ml, .int .i64 mb, .int .i64 mr] rfl
  rw [← hW1]
  clear hW1 b1 b2 BX W C
  replace hb := Lib.hid hb
  go_wp2_with (first
    | (refine wpList_load_mid rfl 49 (.tmp 4) rfl w.heap.size 0 rfl [.int .i64 R, .int .i64 Q, .int .u8 rd, .bool kp, .bool wp, .bool og, .int .i64 a, .int .i64 b, .int .i64 c, .int .i64 d, .int .i64 l, .int .i64 r, .int .i64 s] _ rg1 Try.underlying49 rfl (by kernel_rfl) ?_)
    | (refine wpList_load_mid rfl 69 (.tmp 5) rfl (w.heap.size + 1) 0 rfl [.int .i64 0, .int .i64 0, .int .i64 S.rows.length, .int .i64 S.cols, .int .i64 mt, .int .i64 ml, .int .i64 mb, .int .i64 mr] _ rg2 Try.underlying69 rfl (by kernel_rfl) ?_)
    | (refine wpList_built rfl 112 #[(0, .tmp 16), (1, .tmp 17), (2, .tmp 18)] rfl (.agg (.pointer (some ⟨p, 0, none⟩) :: ([.int .i64 R, .int .i64 Q, .int .u8 rd, .bool kp, .bool wp, .bool og, .int .i64 a, .int .i64 b, .int .i64 c, .int .i64 d, .int .i64 l, .int .i64 r, .int .i64 s] ++ [.int .i64 0, .int .i64 0, .int .i64 S.rows.length, .int .i64 S.cols, .int .i64 mt, .int .i64 ml, .int .i64 mb, .int .i64 mr])).toArray) #[(0, .pointer (some ⟨p, 0, none⟩)), (1, .agg #[.int .i64 R, .int .i64 Q, .int .u8 rd, .bool kp, .bool wp, .bool og, .int .i64 a, .int .i64 b, .int .i64 c, .int .i64 d, .int .i64 l, .int .i64 r, .int .i64 s]), (2, .agg #[.int .i64 0, .int .i64 0, .int .i64 S.rows.length, .int .i64 S.cols, .int .i64 mt, .int .i64 ml, .int .i64 mb, .int .i64 mr])] (by kernel_rfl) (run_build _ _ _ _ (sheet_fill (some ⟨p, 0, none⟩) [.int .i64 R, .int .i64 Q, .int .u8 rd, .bool kp, .bool wp, .bool og, .int .i64 a, .int .i64 b, .int .i64 c, .int .i64 d, .int .i64 l, .int .i64 r, .int .i64 s] [.int .i64 0, .int .i64 0, .int .i64 S.rows.length, .int .i64 S.cols, .int .i64 mt, .int .i64 ml, .int .i64 mb, .int .i64 mr] rfl rfl)) ?_))
  go_returns
  obtain ⟨y, hy⟩ := ext_of (show Below w.heap.size w (W1.alloc (.cells (.pointer (some ⟨p, 0, none⟩) :: ([.int .i64 R, .int .i64 Q, .int .u8 rd, .bool kp, .bool wp, .bool og, .int .i64 a, .int .i64 b, .int .i64 c, .int .i64 d, .int .i64 l, .int .i64 r, .int .i64 s] ++ [.int .i64 0, .int .i64 0, .int .i64 S.rows.length, .int .i64 S.cols, .int .i64 mt, .int .i64 ml, .int .i64 mb, .int .i64 mr])).toArray 112)) from hb.out.alloc hb.out.size _)
  exact ⟨W1.heap.size, y, rfl, hy, hb.out.size, heap_at _ _ rfl⟩
set_option maxRecDepth 100000 in
set_option maxHeartbeats 8000000 in
theorem width_s {H : Nat} {fr : List Value} {x : Cu} (h : PageAt w F p S) (hS : S.Ok) (hp : PrAt w H p x fr) : Calls Try.prog 80 #[.pointer (some ⟨H, 0, none⟩)] w (Gives w (.int .i64 (widthI (lineOf S x.row).1.length (lineOf S x.row).2))) := by
  have LN := Lib.hid (fun w' (hb : Below w.heap.size w w') => line_p (h.grow hb) hS x.row)
  have WD := Lib.hid (fun A C w' => width_l A (lineOf S x.row).1.length C (lineOf S x.row).2 w' (by have := lineOf_short hS x.row; omega))
  generalize widthI (lineOf S x.row).1.length (lineOf S x.row).2 = wd at WD ⊢
  generalize (lineOf S x.row).2 = sz at LN WD
  generalize (lineOf S x.row).1 = ls at LN WD
  have c0 := hp.page
  have c1 := hp.row
  have hl := hp.lt
  clear h hp
  go_enter Try.func80, Try.ntmps80
  go_upto_region 1 with fail
  (refine wp_region_F (S := (fun w' => w'.cell? ⟨H, 0, none⟩ = some (.pointer (some ⟨p, 0, none⟩)) ∧ w'.cell? ⟨H, 1, none⟩ = some (.int .i64 x.row))) 12 [false, false, false, false, false, false, false, false, false, false, false, false, false] rfl rfl (by kernel_rfl) ?_ (fun hHeld => ?_); (focus ((try dsimp only); (exact ⟨by simp [go_sem, c0, hl], by simp [go_sem, c1, hl]⟩); done)))
  ((refine AtF.take (oi := ?_) (v := ?_) 0 ?_ ?_ ?_ ?_ (Or.inl ⟨?_, ?_⟩) (by assumption) ?_; rotate_left 2; rfl; kernel_rfl; kernel_rfl; exact (fun _ _ _ h => h); rfl; (focus (intro w hSw; (try dsimp only at hSw); go_simp; (try with_reducible rfl); done)); (try simp only [Act.put, List.setIfInBounds_toArray, List.set_cons_zero, List.set_cons_succ])); (refine AtF.take (oi := ?_) (v := ?_) 1 ?_ ?_ ?_ ?_ (Or.inl ⟨?_, ?_⟩) (by assumption) ?_; rotate_left 2; rfl; kernel_rfl; kernel_rfl; exact (fun _ _ _ h => h); rfl; (focus (intro w hSw; (try dsimp only at hSw); go_simp; (try with_reducible rfl); done)); (try simp only [Act.put, List.setIfInBounds_toArray, List.set_cons_zero, List.set_cons_succ])); (refine AtF.take (oi := ?_) (v := ?_) 2 ?_ ?_ ?_ ?_ (Or.inl ⟨?_, ?_⟩) (by assumption) ?_; rotate_left 2; rfl; kernel_rfl; kernel_rfl; exact (fun _ _ _ h => h); rfl; (focus (intro w hSw; (try dsimp only at hSw); go_simp; (try with_reducible rfl); done)); (try simp only [Act.put, List.setIfInBounds_toArray, List.set_cons_zero, List.set_cons_succ])); (refine AtF.take (oi := ?_) (v := ?_) 3 ?_ ?_ ?_ ?_ (Or.inl ⟨?_, ?_⟩) (by assumption) ?_; rotate_left 2; rfl; kernel_rfl; kernel_rfl; exact (fun _ _ _ h => h); rfl; (focus (intro w hSw; (try dsimp only at hSw); go_simp; (try with_reducible rfl); done)); (try simp only [Act.put, List.setIfInBounds_toArray, List.set_cons_zero, List.set_cons_succ])); (refine AtF.take (oi := ?_) (v := ?_) 4 ?_ ?_ ?_ ?_ (Or.inl ⟨?_, ?_⟩) (by assumption) ?_; rotate_left 2; rfl; kernel_rfl; kernel_rfl; exact (fun _ _ _ h => h); rfl; (focus (intro w hSw; (try dsimp only at hSw); go_simp; (try with_reducible rfl); done)); (try simp only [Act.put, List.setIfInBounds_toArray, List.set_cons_zero, List.set_cons_succ])); (refine AtF.take (oi := ?_) (v := ?_) 5 ?_ ?_ ?_ ?_ (Or.inl ⟨?_, ?_⟩) (by assumption) ?_; rotate_left 2; rfl; kernel_rfl; kernel_rfl; exact (fun _ _ _ h => h); rfl; (focus (intro w hSw; (try dsimp only at hSw); go_simp; (try with_reducible rfl); done)); (try simp only [Act.put, List.setIfInBounds_toArray, List.set_cons_zero, List.set_cons_succ])); (refine AtF.take (oi := ?_) (v := ?_) 6 ?_ ?_ ?_ ?_ (Or.inl ⟨?_, ?_⟩) (by assumption) ?_; rotate_left 2; rfl; kernel_rfl; kernel_rfl; exact (fun _ _ _ h => h); rfl; (focus (intro w hSw; (try dsimp only at hSw); go_simp; (try with_reducible rfl); done)); (try simp only [Act.put, List.setIfInBounds_toArray, List.set_cons_zero, List.set_cons_succ])); (refine AtF.take (oi := ?_) (v := ?_) 7 ?_ ?_ ?_ ?_ (Or.inl ⟨?_, ?_⟩) (by assumption) ?_; rotate_left 2; rfl; kernel_rfl; kernel_rfl; exact (fun _ _ _ h => h); rfl; (focus (intro w hSw; (try dsimp only at hSw); go_simp; (try with_reducible rfl); done)); (try simp only [Act.put, List.setIfInBounds_toArray, List.set_cons_zero, List.set_cons_succ])); (refine AtF.take (oi := ?_) (v := ?_) 8 ?_ ?_ ?_ ?_ (Or.inl ⟨?_, ?_⟩) (by assumption) ?_; rotate_left 2; rfl; kernel_rfl; kernel_rfl; exact (fun _ _ _ h => h); rfl; (focus (intro w hSw; (try dsimp only at hSw); go_simp; (try with_reducible rfl); done)); (try simp only [Act.put, List.setIfInBounds_toArray, List.set_cons_zero, List.set_cons_succ])); (refine AtF.take (oi := ?_) (v := ?_) 9 ?_ ?_ ?_ ?_ (Or.inl ⟨?_, ?_⟩) (by assumption) ?_; rotate_left 2; rfl; kernel_rfl; kernel_rfl; exact (fun _ _ _ h => h); rfl; (focus (intro w hSw; (try dsimp only at hSw); go_simp; (try with_reducible rfl); done)); (try simp only [Act.put, List.setIfInBounds_toArray, List.set_cons_zero, List.set_cons_succ])))
  (refine AtF.only (oi := ?_) 10 ?_ ?_ (fun K hK => ?_); rotate_left 1; rfl; kernel_rfl; (try go_simp); (go_at_call 14); (with_reducible refine (LN.out _ (by (repeat' (first | (with_reducible exact Below.refl _ _) | (with_reducible refine Below.alloc ?_ ?_ _) | (with_reducible refine below_ext ?_ ?_ _) | (with_reducible refine Below.drew ?_) | (with_reducible refine below_drewN ?_ _) | (with_reducible refine Below.setCell ?_ ?_ _) | go_size | (simp only [go_sem]; omega) | (simp [go_sem]; done) | (simp [go_sem]; omega))))).mono ?_); (rintro _ _ ⟨A1, cc, x1, rfl, rfl, hO⟩); clear hO; (refine hK.out _ _ ?_ (fun hHeld => ?_)); (focus ((try dsimp only); (exact ⟨by simp [go_sem, c0, hl], by simp [go_sem, c1, hl]⟩); done)); clear hK K; (try simp only [Act.put, List.setIfInBounds_toArray, List.set_cons_zero, List.set_cons_succ]))
  (refine AtF.only (oi := ?_) 11 ?_ ?_ (fun K hK => ?_); rotate_left 1; rfl; kernel_rfl; (try go_simp); (go_at_call 76; ((with_reducible refine (WD.out _ _ _).mono ?_); rintro _ _ hgets; obtain ⟨rfl, x2, rfl⟩ := hgets.get; clear hgets)); (refine hK.out _ _ ?_ (fun hHeld => ?_)); (focus ((try dsimp only); (exact ⟨by simp [go_sem, c0, hl], by simp [go_sem, c1, hl]⟩); done)); clear hK K; (try simp only [Act.put, List.setIfInBounds_toArray, List.set_cons_zero, List.set_cons_succ]))
  (refine AtF.last (oi := ?_) ?_ ?_ (fun K hK => ?_); rotate_left 1; rfl; kernel_rfl; go_simp; skip; refine hK.out _ _ ?_; clear hK K; (try simp only [Act.put, List.setIfInBounds_toArray, List.set_cons_zero, List.set_cons_succ]))
  go_wp2
  go_returns
  exact ⟨rfl, by (repeat' (first | (with_reducible exact Below.refl _ _) | (with_reducible refine Below.alloc ?_ ?_ _) | (with_reducible refine below_ext ?_ ?_ _) | (with_reducible refine Below.drew ?_) | (with_reducible refine below_drewN ?_ _) | (with_reducible refine Below.setCell ?_ ?_ _) | go_size | (simp only [go_sem]; omega) | (simp [go_sem]; done) | (simp [go_sem]; omega)))⟩
set_option maxRecDepth 100000 in
set_option maxHeartbeats 8000000 in
theorem fit_s {H : Nat} {fr : List Value} {x : Cu} (h : PageAt w F p S) (hS : S.Ok) (hp : PrAt w H p x fr) : Calls Try.prog 49 #[.pointer (some ⟨H, 0, none⟩)] w (Gives w (doneU S x).v) := by
  have WS := Lib.hid (fun w' (hb : Below w.heap.size w w') => width_s (h.grow hb) hS (hp.grow hb))
  have hwd : widthI (lineOf S x.row).1.length (lineOf S x.row).2 ≤ 9223372036854775807 := by have := lineOf_short hS x.row; unfold widthI; split <;> omega
  have rg := hp.cur
  have hl := hp.lt
  clear h hp
  obtain ⟨row, col, rd, kp, wp, og, a, b, c, d, l, r, s⟩ := x
  have FT := Lib.hid (fun w' => fit_c (row := row) (col := col) (rd := rd) (kp := kp) (wp := wp) (og := og) (a := a) (b := b) (c := c) (d := d) (l := l) (r := r) (s := s) (widthI (lineOf S row).1.length (lineOf S row).2) hwd w')
  simp only [doneU, fitU] at WS ⊢
  generalize widthI (lineOf S row).1.length (lineOf S row).2 = wd at WS FT ⊢
  go_enter Try.func49, Try.ntmps49
  go_upto_region 1 with fail
  (refine wp_region_F (S := (fun w' => w'.rangeAt H 1 (cuL ⟨row, col, rd, kp, wp, og, a, b, c, d, l, r, s⟩))) 7 [false, false, false, false, false, false, false, false] rfl rfl (by kernel_rfl) ?_ (fun hHeld => ?_); (focus ((try dsimp only); (exact fun j v hv => by have := rg j v hv; simp [go_sem, hl]; exact this); done)))
  ((refine AtF.take (oi := ?_) (v := ?_) 0 ?_ ?_ ?_ ?_ (Or.inl ⟨?_, ?_⟩) (by assumption) ?_; rotate_left 2; rfl; kernel_rfl; kernel_rfl; exact (fun _ _ _ h => h); rfl; (focus (intro w hSw; (try dsimp only at hSw); go_simp; (try with_reducible rfl); done)); (try simp only [Act.put, List.setIfInBounds_toArray, List.set_cons_zero, List.set_cons_succ])); (refine AtF.take (oi := ?_) (v := ?_) 1 ?_ ?_ ?_ ?_ (Or.inl ⟨?_, ?_⟩) (by assumption) ?_; rotate_left 2; rfl; kernel_rfl; kernel_rfl; exact (fun _ _ _ h => h); rfl; (focus (intro w hSw; (try dsimp only at hSw); go_simp; (try with_reducible rfl); done)); (try simp only [Act.put, List.setIfInBounds_toArray, List.set_cons_zero, List.set_cons_succ])); (refine AtF.take (oi := ?_) (v := ?_) 2 ?_ ?_ ?_ ?_ (Or.inl ⟨?_, ?_⟩) (by assumption) ?_; rotate_left 2; rfl; kernel_rfl; kernel_rfl; exact (fun _ _ _ h => h); rfl; (focus (intro w hSw; (try dsimp only at hSw); go_simp; (try with_reducible rfl); done)); (try simp only [Act.put, List.setIfInBounds_toArray, List.set_cons_zero, List.set_cons_succ])))
  (refine AtF.take (oi := ?_) (v := .agg #[.int .i64 row, .int .i64 col, .int .u8 rd, .bool kp, .bool wp, .bool og, .int .i64 a, .int .i64 b, .int .i64 c, .int .i64 d, .int .i64 l, .int .i64 r, .int .i64 s]) 3 ?_ ?_ ?_ ?_ ?_ (by assumption) ?_; rotate_left 1; rfl; kernel_rfl; kernel_rfl; exact (fun _ _ _ h => h); (focus ((refine yieldsIf_load_mid rfl 49 (.tmp 5) rfl H 1 rfl (cuL ⟨row, col, rd, kp, wp, og, a, b, c, d, l, r, s⟩) _ (fun w' hS => hS) Try.underlying49 rfl (by kernel_rfl)); done)); (try simp only [Act.put, List.setIfInBounds_toArray, List.set_cons_zero, List.set_cons_succ]))
  ((refine AtF.take (oi := ?_) (v := ?_) 4 ?_ ?_ ?_ ?_ (Or.inl ⟨?_, ?_⟩) (by assumption) ?_; rotate_left 2; rfl; kernel_rfl; kernel_rfl; exact (fun _ _ _ h => h); rfl; (focus (intro w hSw; (try dsimp only at hSw); go_simp; (try with_reducible rfl); done)); (try simp only [Act.put, List.setIfInBounds_toArray, List.set_cons_zero, List.set_cons_succ])))
  (refine AtF.only (oi := ?_) 5 ?_ ?_ (fun K hK => ?_); rotate_left 1; rfl; kernel_rfl; (try go_simp); (go_at_call 80; ((with_reducible refine (WS.out _ (by (repeat' (first | (with_reducible exact Below.refl _ _) | (with_reducible refine Below.alloc ?_ ?_ _) | (with_reducible refine below_ext ?_ ?_ _) | (with_reducible refine Below.drew ?_) | (with_reducible refine below_drewN ?_ _) | (with_reducible refine Below.setCell ?_ ?_ _) | go_size | (simp only [go_sem]; omega) | (simp [go_sem]; done) | (simp [go_sem]; omega))))).mono ?_); rintro _ _ hgets; obtain ⟨rfl, x1, rfl⟩ := hgets.get; clear hgets)); (refine hK.out _ _ ?_ (fun hHeld => ?_)); (focus ((try dsimp only); (exact fun j v hv => by have := rg j v hv; simp [go_sem, hl]; exact this); done)); clear hK K; (try simp only [Act.put, List.setIfInBounds_toArray, List.set_cons_zero, List.set_cons_succ]))
  (refine AtF.only (oi := ?_) 6 ?_ ?_ (fun K hK => ?_); rotate_left 1; rfl; kernel_rfl; (try go_simp); (go_at_call 75; ((with_reducible refine (FT.out _).mono ?_); rintro _ _ hgets; obtain ⟨rfl, x2, rfl⟩ := hgets.get; clear hgets)); (refine hK.out _ _ ?_ (fun hHeld => ?_)); (focus ((try dsimp only); (exact fun j v hv => by have := rg j v hv; simp [go_sem, hl]; exact this); done)); clear hK K; (try simp only [Act.put, List.setIfInBounds_toArray, List.set_cons_zero, List.set_cons_succ]))
  (refine AtF.last (oi := ?_) ?_ ?_ (fun K hK => ?_); rotate_left 1; rfl; kernel_rfl; go_simp; skip; refine hK.out _ _ ?_; clear hK K; (try simp only [Act.put, List.setIfInBounds_toArray, List.set_cons_zero, List.set_cons_succ]))
  go_wp2
  go_returns
  exact ⟨rfl, by (repeat' (first | (with_reducible exact Below.refl _ _) | (with_reducible refine Below.alloc ?_ ?_ _) | (with_reducible refine below_ext ?_ ?_ _) | (with_reducible refine Below.drew ?_) | (with_reducible refine below_drewN ?_ _) | (with_reducible refine Below.setCell ?_ ?_ _) | go_size | (simp only [go_sem]; omega) | (simp [go_sem]; done) | (simp [go_sem]; omega)))⟩
end
end Go.Proofs.Ytdfiknemfpkdmaa
/- press.feed.  -/
namespace Go.Proofs.Ytdfiknemfpkdmaa
open Go.RowKit
set_option linter.unusedVariables false
set_option linter.unusedSimpArgs false

theorem setCells_any {B : Nat} {t : TypeId} : ∀ (vs : List Value) (o : Nat) (W : World) (cur : Array Value), W.heap[B]? = some (.cells cur t (0, 0)) → o + vs.length ≤ cur.size →
    (W.setCells B o vs).heap[B]? = some (.cells (cur.toList.take o ++ vs ++ cur.toList.drop (o + vs.length)).toArray t (0, 0)) ∧ Keep (· = B) W (W.setCells B o vs)
  | [], o, W, cur, h, hl => by
    refine ⟨?_, Keep.refl _ _⟩
    have e : cur.toList.take o ++ [] ++ cur.toList.drop (o + ([] : List Value).length) = cur.toList := by simp
    rw [e]
    exact h
  | v :: r, o, W, cur, h, hl => by
    simp only [List.length_cons] at hl
    have h1 : (W.setCell ⟨B, o, none⟩ v).heap[B]? = some (.cells (cur.setIfInBounds o v) t (0, 0)) := by simp [World.setCell, Array.getElem?_modify, h]
    obtain ⟨h2, h3⟩ := setCells_any r (o + 1) (W.setCell ⟨B, o, none⟩ v) (cur.setIfInBounds o v) h1 (by simp; omega)
    refine ⟨?_, ((Keep.refl (· = B) W).set (p := ⟨B, o, none⟩) (.inl rfl) v).trans h3 (fun x hx => .inl hx)⟩
    show ((W.setCell ⟨B, o, none⟩ v).setCells B (o + 1) r).heap[B]? = _
    rw [h2]
    have hlt : o < cur.toList.length := by simp; omega
    have e : (cur.setIfInBounds o v).toList.take (o + 1) ++ r ++ (cur.setIfInBounds o v).toList.drop (o + 1 + r.length) = cur.toList.take o ++ v :: r ++ cur.toList.drop (o + (v :: r).length) := by
      rw [Array.toList_setIfInBounds, List.take_succ_eq_append_getElem (by simpa using hlt), List.getElem_set_self, List.take_set_of_le (Nat.le_refl _), List.drop_set_of_lt (by omega), List.length_cons, show o + 1 + r.length = o + (r.length + 1) by omega]
      simp
    rw [e]
theorem there_any {w : World} {b : Nat} {arr : Array Value} {t : TypeId} (h : w.heap[b]? = some (.cells arr t (0, 0))) {o n : Nat} (hn : o + n ≤ arr.size) : w.there b o n := by
  intro j hj
  rw [cell_in h, frozen_in h]
  refine ⟨?_, rfl⟩
  rw [Array.getElem?_eq_getElem (by omega)]
  rfl
theorem PrAt.store {w : World} {H p : Nat} {x : Cu} {fr : List Value} (h : PrAt w H p x fr) (z : Cu) : ∃ W', w.setCells H 1 (cuL z) = W' ∧ Keep (· = H) w W' ∧ PrAt W' H p z fr := by
  obtain ⟨h1, h2⟩ := setCells_any (cuL z) 1 w _ h (by simp)
  exact ⟨_, rfl, h2, by unfold PrAt; rw [h1]; simp⟩
theorem PrAt.there1 {w : World} {H p : Nat} {x : Cu} {fr : List Value} (h : PrAt w H p x fr) : w.there H 1 13 := there_any h (by simp)
theorem PrAt.wrap {w : World} {H p : Nat} {x : Cu} {fr : List Value} (h : PrAt w H p x fr) (v : Bool) : Keep (· = H) w (w.setCell ⟨H, 5, none⟩ (.bool v)) ∧ PrAt (w.setCell ⟨H, 5, none⟩ (.bool v)) H p { x with wp := v } fr := by
  refine ⟨(Keep.refl (· = H) w).set (p := ⟨H, 5, none⟩) (.inl rfl) _, ?_⟩
  have h1 : w.heap[H]? = _ := h
  unfold PrAt
  simp [World.setCell, Array.getElem?_modify, h1]
section
variable {w : World} {F : Nat → Prop} {p : Nat} {S : PgS}
set_option maxRecDepth 100000 in
set_option maxHeartbeats 8000000 in
theorem feed_move {H : Nat} {x z : Cu} {fr : List Value} (hf8 : fr.length = 8) (hp : PrAt w H p x fr) (k : Nat) (c scr : Value) (hk : ∀ args w, (callFunc k args).run Try.prog w = .ok (.enter k args) w)
    (hM : ∀ w', Below w.heap.size w w' → Calls Try.prog k #[c, .agg fr.toArray, .int .i64 1] w' (Gives w' z.v)) :
    Calls Try.prog 52 #[.pointer (some ⟨H, 0, none⟩), .bool false, scr, .func (.func k) #[c] #[]] w (fun e w' => e = .returned (.tuple #[]) ∧ Keep (· = H) w w' ∧ PrAt w' H p { z with wp := false } fr) := by
  have rg := hp.frame
  have hM2 := Lib.hid (fun w' (hb : Below w.heap.size w w') => (by exact hM w' hb : Calls Try.prog k #[c, .agg fr.toArray, .int .i64 1] w' (Gives w' (.agg (cuL z).toArray))))
  have hi8 := Lib.hid hf8
  clear hM hf8
  go_enter Try.func52, Try.ntmps52
  have hp' := Lib.hid hp
  have hl := hp.lt
  clear hp
  go_upto_region 4 with (first
    | (refine wpList_load_mid rfl 69 (.tmp 15) rfl H 14 rfl fr _ rg Try.underlying69 rfl (by rw [hi8.out]; kernel_rfl) ?_)
    | ((with_reducible refine (hM2.out _ (by (repeat' (first | (with_reducible exact Below.refl _ _) | (with_reducible refine Below.alloc ?_ ?_ _) | (with_reducible refine below_ext ?_ ?_ _) | (with_reducible refine Below.drew ?_) | (with_reducible refine below_drewN ?_ _) | (with_reducible refine Below.setCell ?_ ?_ _) | go_size | (simp only [go_sem]; omega) | (simp [go_sem]; done) | (simp [go_sem]; omega))))).mono ?_); rintro _ _ hgets; obtain ⟨rfl, x1, rfl⟩ := hgets.get; clear hgets)
    | (refine wpList_store_mid rfl 49 (.tmp 19) (.tmp 17) rfl H 1 (cuL z).toArray rfl rfl (hp'.out.grow (below_of_ext w x1)).there1 (by kernel_rfl) (all_one _ rfl) ?_))
  obtain ⟨W2, e2, k2, p2⟩ := (hp'.out.grow (below_of_ext w x1)).store z
  rw [e2]
  obtain ⟨k3, p3⟩ := p2.wrap false
  have q5 : W2.cell? ⟨H, 5, none⟩ = some (.bool z.wp) := by rw [cell_in p2]; rfl
  have f5 := frozen_in (q := 5) p2
  have hl2 := p2.lt
  have FN := Lib.hid (And.intro (((Keep.of_below (F := (· = H)) (below_of_ext w x1)).trans k2 (fun x hx => .inl hx)).trans k3 (fun x hx => .inl hx)) p3)
  clear k2 k3 p3 p2 e2
  go_wp2_with fail
  go_returns
  exact ⟨rfl, FN.out⟩
set_option maxRecDepth 100000 in
set_option maxHeartbeats 8000000 in
theorem feed_none {H : Nat} {x : Cu} {fr : List Value} (hf8 : fr.length = 8) (hp : PrAt w H p x fr) (scr mv : Value)
    (hIn : ∀ w', Calls Try.prog 83 #[.agg (cuL x).toArray, .agg fr.toArray] w' (Gives w' (.bool false))) :
    Calls Try.prog 52 #[.pointer (some ⟨H, 0, none⟩), .bool true, scr, mv] w (fun e w' => e = .returned (.tuple #[]) ∧ Keep (· = H) w w' ∧ PrAt w' H p { x with wp := false } fr) := by
  have rg := hp.frame
  have rgc := hp.cur
  have hI := Lib.hid hIn
  have hi8 := Lib.hid hf8
  have hl := hp.lt
  have hp' := Lib.hid hp
  clear hIn hf8 hp
  go_enter Try.func52, Try.ntmps52
  go_upto_region 2 with fail
  (refine wp_region_F (S := (fun w' => w'.rangeAt H 1 (cuL x) ∧ w'.rangeAt H 14 fr)) 9 [false, false, false, false, false, false, false, false, false, false] rfl rfl (by kernel_rfl) ?_ (fun hHeld => ?_); (focus ((try dsimp only); (exact ⟨rgc, rg⟩); done)))
  ((refine AtF.take (oi := ?_) (v := ?_) 0 ?_ ?_ ?_ ?_ (Or.inl ⟨?_, ?_⟩) (by assumption) ?_; rotate_left 2; rfl; kernel_rfl; kernel_rfl; exact (fun _ _ _ h => h); rfl; (focus (intro w hSw; (try dsimp only at hSw); go_simp; (try with_reducible rfl); done)); (try simp only [Act.put, List.setIfInBounds_toArray, List.set_cons_zero, List.set_cons_succ])); (refine AtF.take (oi := ?_) (v := ?_) 1 ?_ ?_ ?_ ?_ (Or.inl ⟨?_, ?_⟩) (by assumption) ?_; rotate_left 2; rfl; kernel_rfl; kernel_rfl; exact (fun _ _ _ h => h); rfl; (focus (intro w hSw; (try dsimp only at hSw); go_simp; (try with_reducible rfl); done)); (try simp only [Act.put, List.setIfInBounds_toArray, List.set_cons_zero, List.set_cons_succ])); (refine AtF.take (oi := ?_) (v := ?_) 2 ?_ ?_ ?_ ?_ (Or.inl ⟨?_, ?_⟩) (by assumption) ?_; rotate_left 2; rfl; kernel_rfl; kernel_rfl; exact (fun _ _ _ h => h); rfl; (focus (intro w hSw; (try dsimp only at hSw); go_simp; (try with_reducible rfl); done)); (try simp only [Act.put, List.setIfInBounds_toArray, List.set_cons_zero, List.set_cons_succ])))
  (refine AtF.take (oi := ?_) (v := .agg (cuL x).toArray) 3 ?_ ?_ ?_ ?_ ?_ (by assumption) ?_; rotate_left 1; rfl; kernel_rfl; kernel_rfl; exact (fun _ _ _ h => h); (focus ((refine yieldsIf_load_mid rfl 49 (.tmp 23) rfl H 1 rfl (cuL x) _ (fun w' hS => hS.1) Try.underlying49 rfl (by kernel_rfl)); done)); (try simp only [Act.put, List.setIfInBounds_toArray, List.set_cons_zero, List.set_cons_succ]))
  ((refine AtF.take (oi := ?_) (v := ?_) 4 ?_ ?_ ?_ ?_ (Or.inl ⟨?_, ?_⟩) (by assumption) ?_; rotate_left 2; rfl; kernel_rfl; kernel_rfl; exact (fun _ _ _ h => h); rfl; (focus (intro w hSw; (try dsimp only at hSw); go_simp; (try with_reducible rfl); done)); (try simp only [Act.put, List.setIfInBounds_toArray, List.set_cons_zero, List.set_cons_succ])); (refine AtF.take (oi := ?_) (v := ?_) 5 ?_ ?_ ?_ ?_ (Or.inl ⟨?_, ?_⟩) (by assumption) ?_; rotate_left 2; rfl; kernel_rfl; kernel_rfl; exact (fun _ _ _ h => h); rfl; (focus (intro w hSw; (try dsimp only at hSw); go_simp; (try with_reducible rfl); done)); (try simp only [Act.put, List.setIfInBounds_toArray, List.set_cons_zero, List.set_cons_succ])); (refine AtF.take (oi := ?_) (v := ?_) 6 ?_ ?_ ?_ ?_ (Or.inl ⟨?_, ?_⟩) (by assumption) ?_; rotate_left 2; rfl; kernel_rfl; kernel_rfl; exact (fun _ _ _ h => h); rfl; (focus (intro w hSw; (try dsimp only at hSw); go_simp; (try with_reducible rfl); done)); (try simp only [Act.put, List.setIfInBounds_toArray, List.set_cons_zero, List.set_cons_succ])))
  (refine AtF.take (oi := ?_) (v := .agg fr.toArray) 7 ?_ ?_ ?_ ?_ ?_ (by assumption) ?_; rotate_left 1; rfl; kernel_rfl; kernel_rfl; exact (fun _ _ _ h => h); (focus ((refine yieldsIf_load_mid rfl 69 (.tmp 27) rfl H 14 rfl fr _ (fun w' hS => hS.2) Try.underlying69 rfl (by rw [hi8.out]; kernel_rfl)); done)); (try simp only [Act.put, List.setIfInBounds_toArray, List.set_cons_zero, List.set_cons_succ]))
  (refine AtF.only (oi := ?_) 8 ?_ ?_ (fun K hK => ?_); rotate_left 1; rfl; kernel_rfl; (try go_simp); (go_at_call 83; ((with_reducible refine (hI.out _).mono ?_); rintro _ _ hgets; obtain ⟨rfl, x1, rfl⟩ := hgets.get; clear hgets)); (refine hK.out _ _ ?_ (fun hHeld => ?_)); (focus ((try dsimp only); (exact ⟨range_grow rgc hl _, range_grow rg hl _⟩); done)); clear hK K; (try simp only [Act.put, List.setIfInBounds_toArray, List.set_cons_zero, List.set_cons_succ]))
  (refine AtF.last (oi := ?_) ?_ ?_ (fun K hK => ?_); rotate_left 1; rfl; kernel_rfl; go_simp; skip; refine hK.out _ _ ?_; clear hK K; (try simp only [Act.put, List.setIfInBounds_toArray, List.set_cons_zero, List.set_cons_succ]))
  clear hHeld
  obtain ⟨W2, hW2⟩ : ∃ W2, W2 = ext w.drew x1 := ⟨_, rfl⟩
  have hb2 : Below w.heap.size w W2 := by rw [hW2]; (repeat' (first | (with_reducible exact Below.refl _ _) | (with_reducible refine Below.alloc ?_ ?_ _) | (with_reducible refine below_ext ?_ ?_ _) | (with_reducible refine Below.drew ?_) | (with_reducible refine below_drewN ?_ _) | (with_reducible refine Below.setCell ?_ ?_ _) | go_size | (simp only [go_sem]; omega) | (simp [go_sem]; done) | (simp [go_sem]; omega)))
  have p2 := hp'.out.grow hb2
  obtain ⟨k3, p3⟩ := p2.wrap false
  have q5 : W2.cell? ⟨H, 5, none⟩ = some (.bool x.wp) := by rw [cell_in p2]; rfl
  have f5 := frozen_in (q := 5) p2
  have hl2 := p2.lt
  have FN := Lib.hid (And.intro ((Keep.of_below (F := (· = H)) hb2).trans k3 (fun x hx => .inl hx)) p3)
  try rw [ext_drew] at hW2
  rw [← hW2]
  clear k3 p3 p2 hW2 hb2
  go_wp2_with fail
  go_returns
  exact ⟨rfl, FN.out⟩
set_option maxRecDepth 100000 in
set_option maxHeartbeats 8000000 in
theorem feed_scroll {H : Nat} {x : Cu} {fr : List Value} {T : PgS} (hf8 : fr.length = 8) (hp : PrAt w H p x fr) (hFl : ∀ b, F b → b < w.heap.size) (hFH : ¬ F H) (k : Nat) (hk : ∀ args w, (callFunc k args).run Try.prog w = .ok (.enter k args) w) (mv : Value) (t l b r : Int)
    (hIn : ∀ w', Calls Try.prog 83 #[.agg (cuL x).toArray, .agg fr.toArray] w' (Gives w' (.bool true))) (hNn : ∀ w', Calls Try.prog 53 #[.agg fr.toArray] w' (Gives w' (boxV t l b r)))
    (hS : ∀ w', Below w.heap.size w w' → Calls Try.prog k #[.pointer (some ⟨p, 0, none⟩), boxV t l b r, .int .i64 1] w' (fun e w2 => e = .returned (.tuple #[]) ∧ Did F p T w' w2)) :
    Calls Try.prog 52 #[.pointer (some ⟨H, 0, none⟩), .bool true, .func (.func k) #[.pointer (some ⟨p, 0, none⟩)] #[], mv] w (fun e w' => e = .returned (.tuple #[]) ∧ ∃ W2, Did F p T w W2 ∧ Keep (· = H) W2 w' ∧ PrAt w' H p { x with wp := false } fr) := by
  have rg := hp.frame
  have rgc := hp.cur
  have hI := Lib.hid hIn
  have hN := Lib.hid hNn
  have hC := Lib.hid hS
  have hi8 := Lib.hid hf8
  have hl := hp.lt
  have hp' := Lib.hid hp
  have hFl' := Lib.hid hFl
  clear hIn hNn hS hf8 hp hFl
  go_enter Try.func52, Try.ntmps52
  go_upto_region 2 with fail
  (refine wp_region_F (S := (fun w' => w'.rangeAt H 1 (cuL x) ∧ w'.rangeAt H 14 fr)) 9 [false, false, false, false, false, false, false, false, false, false] rfl rfl (by kernel_rfl) ?_ (fun hHeld => ?_); (focus ((try dsimp only); (exact ⟨rgc, rg⟩); done)))
  ((refine AtF.take (oi := ?_) (v := ?_) 0 ?_ ?_ ?_ ?_ (Or.inl ⟨?_, ?_⟩) (by assumption) ?_; rotate_left 2; rfl; kernel_rfl; kernel_rfl; exact (fun _ _ _ h => h); rfl; (focus (intro w hSw; (try dsimp only at hSw); go_simp; (try with_reducible rfl); done)); (try simp only [Act.put, List.setIfInBounds_toArray, List.set_cons_zero, List.set_cons_succ])); (refine AtF.take (oi := ?_) (v := ?_) 1 ?_ ?_ ?_ ?_ (Or.inl ⟨?_, ?_⟩) (by assumption) ?_; rotate_left 2; rfl; kernel_rfl; kernel_rfl; exact (fun _ _ _ h => h); rfl; (focus (intro w hSw; (try dsimp only at hSw); go_simp; (try with_reducible rfl); done)); (try simp only [Act.put, List.setIfInBounds_toArray, List.set_cons_zero, List.set_cons_succ])); (refine AtF.take (oi := ?_) (v := ?_) 2 ?_ ?_ ?_ ?_ (Or.inl ⟨?_, ?_⟩) (by assumption) ?_; rotate_left 2; rfl; kernel_rfl; kernel_rfl; exact (fun _ _ _ h => h); rfl; (focus (intro w hSw; (try dsimp only at hSw); go_simp; (try with_reducible rfl); done)); (try simp only [Act.put, List.setIfInBounds_toArray, List.set_cons_zero, List.set_cons_succ])))
  (refine AtF.take (oi := ?_) (v := .agg (cuL x).toArray) 3 ?_ ?_ ?_ ?_ ?_ (by assumption) ?_; rotate_left 1; rfl; kernel_rfl; kernel_rfl; exact (fun _ _ _ h => h); (focus ((refine yieldsIf_load_mid rfl 49 (.tmp 23) rfl H 1 rfl (cuL x) _ (fun w' hS => hS.1) Try.underlying49 rfl (by kernel_rfl)); done)); (try simp only [Act.put, List.setIfInBounds_toArray, List.set_cons_zero, List.set_cons_succ]))
  ((refine AtF.take (oi := ?_) (v := ?_) 4 ?_ ?_ ?_ ?_ (Or.inl ⟨?_, ?_⟩) (by assumption) ?_; rotate_left 2; rfl; kernel_rfl; kernel_rfl; exact (fun _ _ _ h => h); rfl; (focus (intro w hSw; (try dsimp only at hSw); go_simp; (try with_reducible rfl); done)); (try simp only [Act.put, List.setIfInBounds_toArray, List.set_cons_zero, List.set_cons_succ])); (refine AtF.take (oi := ?_) (v := ?_) 5 ?_ ?_ ?_ ?_ (Or.inl ⟨?_, ?_⟩) (by assumption) ?_; rotate_left 2; rfl; kernel_rfl; kernel_rfl; exact (fun _ _ _ h => h); rfl; (focus (intro w hSw; (try dsimp only at hSw); go_simp; (try with_reducible rfl); done)); (try simp only [Act.put, List.setIfInBounds_toArray, List.set_cons_zero, List.set_cons_succ])); (refine AtF.take (oi := ?_) (v := ?_) 6 ?_ ?_ ?_ ?_ (Or.inl ⟨?_, ?_⟩) (by assumption) ?_; rotate_left 2; rfl; kernel_rfl; kernel_rfl; exact (fun _ _ _ h => h); rfl; (focus (intro w hSw; (try dsimp only at hSw); go_simp; (try with_reducible rfl); done)); (try simp only [Act.put, List.setIfInBounds_toArray, List.set_cons_zero, List.set_cons_succ])))
  (refine AtF.take (oi := ?_) (v := .agg fr.toArray) 7 ?_ ?_ ?_ ?_ ?_ (by assumption) ?_; rotate_left 1; rfl; kernel_rfl; kernel_rfl; exact (fun _ _ _ h => h); (focus ((refine yieldsIf_load_mid rfl 69 (.tmp 27) rfl H 14 rfl fr _ (fun w' hS => hS.2) Try.underlying69 rfl (by rw [hi8.out]; kernel_rfl)); done)); (try simp only [Act.put, List.setIfInBounds_toArray, List.set_cons_zero, List.set_cons_succ]))
  (refine AtF.only (oi := ?_) 8 ?_ ?_ (fun K hK => ?_); rotate_left 1; rfl; kernel_rfl; (try go_simp); (go_at_call 83; ((with_reducible refine (hI.out _).mono ?_); rintro _ _ hgets; obtain ⟨rfl, x1, rfl⟩ := hgets.get; clear hgets)); (refine hK.out _ _ ?_ (fun hHeld => ?_)); (focus ((try dsimp only); (exact ⟨range_grow rgc hl _, range_grow rg hl _⟩); done)); clear hK K; (try simp only [Act.put, List.setIfInBounds_toArray, List.set_cons_zero, List.set_cons_succ]))
  (refine AtF.last (oi := ?_) ?_ ?_ (fun K hK => ?_); rotate_left 1; rfl; kernel_rfl; go_simp; skip; refine hK.out _ _ ?_; clear hK K; (try simp only [Act.put, List.setIfInBounds_toArray, List.set_cons_zero, List.set_cons_succ]))
  clear hHeld
  obtain ⟨W0, hW0⟩ : ∃ W0, W0 = ext w.drew x1 := ⟨_, rfl⟩
  have hb0 : Below w.heap.size w W0 := by rw [hW0]; (repeat' (first | (with_reducible exact Below.refl _ _) | (with_reducible refine Below.alloc ?_ ?_ _) | (with_reducible refine below_ext ?_ ?_ _) | (with_reducible refine Below.drew ?_) | (with_reducible refine below_drewN ?_ _) | (with_reducible refine Below.setCell ?_ ?_ _) | go_size | (simp only [go_sem]; omega) | (simp [go_sem]; done) | (simp [go_sem]; omega)))
  have rg0 := (hp'.out.grow hb0).frame
  try rw [ext_drew] at hW0
  rw [← hW0]
  have hC0 := Lib.hid (fun w' (h : Below W0.heap.size W0 w') => hC.out w' (hb0.trans (h.mono hb0.size)))
  replace hb0 := Lib.hid hb0
  clear hW0
  go_upto_region 4 with (first
    | (refine wpList_load_mid rfl 69 (.tmp 33) rfl H 14 rfl fr _ rg0 Try.underlying69 rfl (by rw [hi8.out]; kernel_rfl) ?_)
    | (go_at_call 53; ((with_reducible refine (hN.out _).mono ?_); rintro _ _ hgets; obtain ⟨rfl, x2, rfl⟩ := hgets.get; clear hgets))
    | ((with_reducible refine (hC0.out _ (by (repeat' (first | (with_reducible exact Below.refl _ _) | (with_reducible refine Below.alloc ?_ ?_ _) | (with_reducible refine below_ext ?_ ?_ _) | (with_reducible refine Below.drew ?_) | (with_reducible refine below_drewN ?_ _) | (with_reducible refine Below.setCell ?_ ?_ _) | go_size | (simp only [go_sem]; omega) | (simp [go_sem]; done) | (simp [go_sem]; omega))))).mono ?_); rintro _ W2 ⟨rfl, hD⟩))
  replace hD := Did.back hD (hb0.out.trans (Below.mono (B := W0.heap.size) (by (repeat' (first | (with_reducible exact Below.refl _ _) | (with_reducible refine Below.alloc ?_ ?_ _) | (with_reducible refine below_ext ?_ ?_ _) | (with_reducible refine Below.drew ?_) | (with_reducible refine below_drewN ?_ _) | (with_reducible refine Below.setCell ?_ ?_ _) | go_size | (simp only [go_sem]; omega) | (simp [go_sem]; done) | (simp [go_sem]; omega)))) hb0.out.size)) hFl'.out
  have p2 := (show PrAt W2 H p x fr from (hD.1.block H hl hFH).trans hp'.out)
  obtain ⟨k3, p3⟩ := p2.wrap false
  have q5 : W2.cell? ⟨H, 5, none⟩ = some (.bool x.wp) := by rw [cell_in p2]; rfl
  have f5 := frozen_in (q := 5) p2
  have hl2 := p2.lt
  have FN := Lib.hid (And.intro hD (And.intro k3 p3))
  clear k3 p3 p2 hD
  go_wp2_with fail
  go_returns
  exact ⟨rfl, W2, FN.out⟩
end
end Go.Proofs.Ytdfiknemfpkdmaa
