/- The reference's pages: Cells.  -/
import Derived.Test.YtignkkejkknddaaGreatPgD
import Derived.Test.YtignkkejkknddaaGreatPgB
import Derived.Test.YtignkkejkknddaaGreatRegionF
namespace Go.Proofs.YtignkkejkknddaaGreat
open Go.RowKit
set_option linter.unusedVariables false
set_option linter.unusedSimpArgs false

/-- a row that a call made -/
theorem newCs_row {w w' : World} {e : Ending} {xs : List Cl} (h : NewCs w xs e w') : ∃ (r : RowD) (x : More), e = .returned (.slice r.adr r.n r.c) ∧ w' = ext w x ∧ r.Live w.heap.size (ext w x) ∧ r.n = xs.length ∧ Rd encC 3 (ext w x) r.adr xs := by
  obtain ⟨A, c, x, rfl, rfl, hO⟩ := h
  obtain ⟨A0, c0, e0, h1, h2⟩ := hO.form
  injection e0 with e1 _ e3
  subst e1 e3
  obtain ⟨r, hv, hn, hl⟩ := row_of_part hO 0 xs.length c (by omega) h1
  have hA : A.map (fun a : Addr => (⟨a.block, a.off + 0 * 3, none⟩ : Addr)) = A := by
    rcases hO.2 with ⟨e, _⟩ | ⟨g, cap, cur, e, _⟩
    · injection e with e1
      subst e1
      rfl
    · injection e with e1
      subst e1
      rfl
  rw [hA] at hv
  have hadr : r.adr = A := by
    have := hv
    simp only [RowD.v] at this
    injection this
  refine ⟨r, x, ?_, rfl, hl, hn, by rw [hadr]; exact hO.rd encC_len⟩
  rw [show Value.slice r.adr r.n r.c = r.v from rfl, hv]
section
variable {S : PgS} {w : World}
set_option maxRecDepth 100000 in
set_option maxHeartbeats 8000000 in
theorem refcells_c (U : Value) (b : BxI) (h : RefV w U S) (hS : S.Ok) : Calls Tryz.prog 49 #[U, boxV b.t b.l b.b b.r] w (NewCells w (cellsS S (onB S.rows.length S.cols b))) := by
  have BX := Lib.hid (fun w' (hb : Below w.heap.size w w') => refbox_c U S w' (h.grow hb))
  have M := Lib.hid (fun w' => meet_r b.t b.l b.b b.r 0 0 S.rows.length S.cols w')
  rw [onB_v] at M
  have HB := onB_in S.rows.length S.cols b
  obtain ⟨A, n, rows, rfl, hl, hv, hn⟩ := h.op
  have hrow := Lib.hid (fun i (hi : i < S.rows.length) => hl.at hv hi)
  have hwid := Lib.hid (fun (i : Nat) (hi : i < S.rows.length) => hS.wid _ (List.getElem_mem hi))
  have hr2 := hS.r2
  have hc2 := hS.c2
  clear h hl hv hn
  generalize onB S.rows.length S.cols b = y at M HB ⊢
  obtain ⟨t, l, b', r⟩ := y
  obtain ⟨xt, xl, xb, xr⟩ := b
  simp only at M HB ⊢
  obtain ⟨m, hm⟩ : ∃ m : Nat, m = (b' - t).toNat := ⟨_, rfl⟩
  have hval : cellsS S ⟨t, l, b', r⟩ = (List.range m).map fun i => cutR (S.rows.getD (t.toNat + i) ([], 0)).1 l r := by
    unfold cellsS
    simp only [← hm]
  rw [hval]
  generalize hvs : (List.range m).map (fun i => cutR (S.rows.getD (t.toNat + i) ([], 0)).1 l r) = vals
  replace hvs := Lib.hid hvs
  clear hval hS
  go_enter Tryz.func49, Tryz.ntmps49
  go_upto_region 1 with fail
  (refine wp_region_tail 4 (by kernel_rfl) (by kernel_rfl) ?_; simp only [List.take_succ_cons, List.take_zero, List.drop_succ_cons, List.drop_zero])
  repeat (go_big_quiet_step (first | ((go_at_call 9; with_reducible exact Calls.free (BX.out _ (by (repeat' (first | (with_reducible exact Below.refl _ _) | (with_reducible refine Below.alloc ?_ ?_ _) | (with_reducible refine below_ext ?_ ?_ _) | (with_reducible refine Below.drew ?_) | (with_reducible refine below_drewN ?_ _) | (with_reducible refine Below.setCell ?_ ?_ _) | go_size | (simp only [go_sem]; omega) | (simp [go_sem]; done) | (simp [go_sem]; omega))))))) | ((go_at_call 95; with_reducible exact Calls.free (M.out _)))))
  refine wpQuiet_nil ?_; rintro _ ⟨x1, rfl⟩
  go_wp2
  obtain ⟨W, hW⟩ : ∃ W, W = ext ((w.alloc (.cells #[.slice A S.rows.length n, .int .i64 S.cols] 39)).alloc (.cells #[.int .i64 t, .int .i64 l, .int .i64 b', .int .i64 r] 31)) x1 := ⟨_, rfl⟩
  have hbW : Below w.heap.size w W := by rw [hW]; (repeat' (first | (with_reducible exact Below.refl _ _) | (with_reducible refine Below.alloc ?_ ?_ _) | (with_reducible refine below_ext ?_ ?_ _) | (with_reducible refine Below.drew ?_) | (with_reducible refine below_drewN ?_ _) | (with_reducible refine Below.setCell ?_ ?_ _) | go_size | (simp only [go_sem]; omega) | (simp [go_sem]; done) | (simp [go_sem]; omega)))
  have hsz : W.heap.size = w.heap.size + 1 + 1 + x1.sz := by rw [hW]; simp
  have P0 : W.cell? ⟨w.heap.size, 0, none⟩ = some (.slice A S.rows.length n) := by rw [hW]; simp [go_sem]
  have B1 : W.cell? ⟨w.heap.size + 1, 1, none⟩ = some (.int .i64 l) := by rw [hW]; simp [go_sem]
  have B2 : W.cell? ⟨w.heap.size + 1, 2, none⟩ = some (.int .i64 b') := by rw [hW]; simp [go_sem]
  have B3 : W.cell? ⟨w.heap.size + 1, 3, none⟩ = some (.int .i64 r) := by rw [hW]; simp [go_sem]
  rw [← hW]
  clear hW BX M
  have hz0 : w.heap.size < W.heap.size := by omega
  have hz1 : w.heap.size + 1 < W.heap.size := by omega
  have hrW := Lib.hid (fun i (hi : i < S.rows.length) => (by
    obtain ⟨L, g, k, xs, z, h1, h2, h3, h4, h5, h6, h7, h8⟩ := hrow.out i hi
    exact ⟨L, g, k, xs, z, h1, h2, h3.grow hbW, Nat.lt_of_lt_of_le h8 hbW.size, (hbW.cell (p := ⟨L, _, none⟩) h8).trans h6, (hbW.cell (p := ⟨L, _, none⟩) h8).trans h7⟩ : ∃ L g k xs z, A = some ⟨L, 0, none⟩ ∧ S.rows[i] = (xs, z) ∧ RowM.At W ⟨g, k, xs, z⟩ ∧ L < W.heap.size ∧ W.cell? ⟨L, i * 2, none⟩ = some (.slice (some ⟨g, 0, none⟩) xs.length k) ∧ W.cell? ⟨L, i * 2 + 1, none⟩ = some (.int .i64 z)))
  clear hrow hsz
  replace hbW := Lib.hid hbW
  go_loopw [5, 6] (fun lv iv wr => ∃ (j : Nat) (A' : Option Addr) (n' c' : Nat) (rows' : List (RowD × List Cl)) (x : More), j ≤ m ∧ lv = .slice A' n' c' ∧ iv = .int .i64 (t + j) ∧ wr = ext W x ∧
      Hid (CellsAt W.heap.size (ext W x) (.slice A' n' c') rows') ∧ Hid (rows'.map Prod.snd = (List.range j).map fun i => cutR (S.rows.getD (t.toNat + i) ([], 0)).1 l r)) (fun _ iv _ => (b' - intOf iv).toNat)
  case atStart => exact ⟨0, none, 0, 0, [], ⟨#[], W.drawn⟩, by omega, rfl, by simp, by simp [ext], CellsAt.nil _ _, rfl⟩
  case round =>
    obtain ⟨j, A', n', c', rows', x, hj, rfl, rfl, rfl, hC, hV⟩ := hrel
    by_cases hlt : t + j < b'
    · have hin : t.toNat + j < S.rows.length := by omega
      obtain ⟨L, g, k, xs, z, rfl, e1, hA, d3, d0, d1⟩ := hrW.out (t.toNat + j) hin
      have hw := hwid.out (t.toNat + j) hin
      rw [e1] at hw
      simp only at hw
      have ei : t + (j : Int) = ((t.toNat + j : Nat) : Int) := by omega
      have X := Lib.hid hA.rd
      have hx6 : xs.length ≤ 1000000 := by omega
      have CU := Lib.hid (fun w' (h : Rd encC 3 w' (some ⟨g, 0, none⟩) xs) => (by
        rw [← cutTo_cutR]
        exact cut_r (some ⟨g, 0, none⟩) k z l r xs w' h hx6 : Calls Tryz.prog 96 #[lineV (some ⟨g, 0, none⟩) xs.length k z, .int .i64 l, .int .i64 r] w' (NewCs w' (cutR xs l r))))
      have hval := Lib.hid (show cutR xs l r = cutR (S.rows.getD (t.toNat + j) ([], 0)).1 l r by simp [hin, e1])
      have hlen := Lib.hid (show rows'.length ≤ 1000 by have := congrArg List.length hV.out; simp at this; omega)
      clear hA e1 hw
      generalize hq : t.toNat + j = q at ei hin d0 d1 hval
      replace hq := Lib.hid hq
      rw [ei]
      go_upto_region 6 with fail
      go_region_held3 (fun w' => w'.cell? ⟨w.heap.size, 0, none⟩ = some (.slice (some ⟨L, 0, none⟩) S.rows.length n) ∧ w'.cell? ⟨w.heap.size + 1, 1, none⟩ = some (.int .i64 l) ∧ w'.cell? ⟨w.heap.size + 1, 3, none⟩ = some (.int .i64 r) ∧ w'.cell? ⟨L, q * 2, none⟩ = some (.slice (some ⟨g, 0, none⟩) xs.length k) ∧ w'.cell? ⟨L, q * 2 + 1, none⟩ = some (.int .i64 z)) ((refine ⟨?_, ?_, ?_, ?_, ?_⟩ <;> simp [go_sem, P0, B1, B3, hz0, hz1, d0, d1, d3])) ((first
        | (go_at_call 96
           (with_reducible refine (CU.out _ (by repeat (first | exact X.out | exact X | refine Rd.ext ?_ _ | refine Rd.alloc ?_ _ | refine Rd.drew ?_))).mono ?_)
           intro _ _ hp
           obtain ⟨rw1, x3, rfl, rfl, hR, hn1, hrd1⟩ := newCs_row hp
           try simp only [ext_drew] at hR hrd1
           replace hR := Lib.hid hR
           replace hn1 := Lib.hid hn1
           replace hrd1 := Lib.hid hrd1
           clear hp)
        | (refine step_do rfl (cells_app (x := x) (x1 := x3) (.tmp 19) (.tmp 30) rfl rw1 (cutR xs l r) _ rfl rfl hC.out hR.out hn1.out hrd1.out rfl (by simp [go_sem]) hlen.out ?_)
           intro A2 n2 c2 x4 hC2
           replace hC2 := Lib.hid hC2)))
      all_goals go_wp2
      all_goals
        refine ⟨⟨j + 1, A2, n2, c2, _, x4, by omega, rfl, by go_num, rfl, hC2, ?_⟩, by simp [intOf]; omega⟩
        refine Lib.hid ?_
        rw [List.map_append, hV.out, List.range_succ, List.map_append, List.map_singleton, List.map_singleton, hval.out, hq.out]
    · obtain rfl : j = m := by omega
      go_wp2
      go_returns
      obtain ⟨x5, e5⟩ := ext_of (show Below w.heap.size w (ext W x) from below_ext hbW.out hbW.out.size x)
      refine ⟨_, rows', x5, rfl, e5, ?_, hV.out.trans (by rw [← hvs.out])⟩
      have h9 := hC.out
      rw [e5] at h9
      exact h9.mono hbW.out.size
end
end Go.Proofs.YtignkkejkknddaaGreat
/- Pages: is a page the document's?  -/
namespace Go.Proofs.YtignkkejkknddaaGreat
open Go.RowKit
set_option linter.unusedVariables false
set_option linter.unusedSimpArgs false

theorem box_same_neq (x y z u : Int) (w : World) : (binOp .neq 31 (.agg #[.int .i64 x, .int .i64 y, .int .i64 z, .int .i64 u]) (.agg #[.int .i64 x, .int .i64 y, .int .i64 z, .int .i64 u])).run Tryz.prog w = .ok (.bool false) w := by
  simp [go_sem]
attribute [local go_sem ↓] box_same_neq
section
variable {F : Nat → Prop} {p : Nat} {S : PgS} {w : World}
set_option maxRecDepth 100000 in
set_option maxHeartbeats 4000000 in
theorem is_c (U : Value) (h : PageAt w F p S) (hS : S.Ok) (h' : RefV w U S) : Calls Tryz.prog 16 #[.pointer (some ⟨p, 0, none⟩), U] w (Gives w (.bool true)) := by
  have RW := Lib.hid (fun w' (hb : Below w.heap.size w w') => rows_p (h.grow hb))
  have CO := Lib.hid (fun w' (hb : Below w.heap.size w w') => cols_p (h.grow hb))
  have BX := Lib.hid (fun w' (hb : Below w.heap.size w w') => box_p (h.grow hb))
  have RB := Lib.hid (fun w' (hb : Below w.heap.size w w') => refbox_c U S w' (h'.grow hb))
  have LN := Lib.hid (fun (i : Nat) (hi : i < S.rows.length) w' (hb : Below w.heap.size w w') => (by
    have := line_p (h.grow hb) hS i
    rw [lineOf_in hi] at this
    exact this : Calls Tryz.prog 19 #[.pointer (some ⟨p, 0, none⟩), .int .i64 i] w' (NewL w' S.rows[i].1 S.rows[i].2)))
  obtain ⟨A, n, rows, rfl, hl, hv, hn⟩ := h'.op
  have hrow := Lib.hid (fun i (hi : i < S.rows.length) => hl.at hv hi)
  have hS2 := Lib.hid hS
  have hr2 := hS.r2
  clear h h' hl hv hn hS
  go_enter Tryz.func16, Tryz.ntmps16
  go_upto_region 1 with fail
  (refine wp_region_free (by kernel_rfl) (by kernel_rfl) ?_)
  repeat (go_big_quiet_step (first | ((go_at_call 28; with_reducible exact Calls.free (RW.out _ (by (repeat' (first | (with_reducible exact Below.refl _ _) | (with_reducible refine Below.alloc ?_ ?_ _) | (with_reducible refine below_ext ?_ ?_ _) | (with_reducible refine Below.drew ?_) | (with_reducible refine below_drewN ?_ _) | (with_reducible refine Below.setCell ?_ ?_ _) | go_size | (simp only [go_sem]; omega) | (simp [go_sem]; done) | (simp [go_sem]; omega))))))) | ((go_at_call 29; with_reducible exact Calls.free (CO.out _ (by (repeat' (first | (with_reducible exact Below.refl _ _) | (with_reducible refine Below.alloc ?_ ?_ _) | (with_reducible refine below_ext ?_ ?_ _) | (with_reducible refine Below.drew ?_) | (with_reducible refine below_drewN ?_ _) | (with_reducible refine Below.setCell ?_ ?_ _) | go_size | (simp only [go_sem]; omega) | (simp [go_sem]; done) | (simp [go_sem]; omega))))))) | ((go_at_call 24; with_reducible exact Calls.free (BX.out _ (by (repeat' (first | (with_reducible exact Below.refl _ _) | (with_reducible refine Below.alloc ?_ ?_ _) | (with_reducible refine below_ext ?_ ?_ _) | (with_reducible refine Below.drew ?_) | (with_reducible refine below_drewN ?_ _) | (with_reducible refine Below.setCell ?_ ?_ _) | go_size | (simp only [go_sem]; omega) | (simp [go_sem]; done) | (simp [go_sem]; omega))))))) | ((go_at_call 9; with_reducible exact Calls.free (RB.out _ (by (repeat' (first | (with_reducible exact Below.refl _ _) | (with_reducible refine Below.alloc ?_ ?_ _) | (with_reducible refine below_ext ?_ ?_ _) | (with_reducible refine Below.drew ?_) | (with_reducible refine below_drewN ?_ _) | (with_reducible refine Below.setCell ?_ ?_ _) | go_size | (simp only [go_sem]; omega) | (simp [go_sem]; done) | (simp [go_sem]; omega)))))))))
  refine wpQuiet_nil ?_; rintro _ ⟨x1, rfl⟩
  go_wp2
  obtain ⟨W, hW⟩ : ∃ W, W = ext (w.alloc (.cells #[.slice A S.rows.length n, .int .i64 S.cols] 39)) x1 := ⟨_, rfl⟩
  have hbW : Below w.heap.size w W := by rw [hW]; (repeat' (first | (with_reducible exact Below.refl _ _) | (with_reducible refine Below.alloc ?_ ?_ _) | (with_reducible refine below_ext ?_ ?_ _) | (with_reducible refine Below.drew ?_) | (with_reducible refine below_drewN ?_ _) | (with_reducible refine Below.setCell ?_ ?_ _) | go_size | (simp only [go_sem]; omega) | (simp [go_sem]; done) | (simp [go_sem]; omega)))
  rw [← hW]
  clear hW RW CO BX RB
  have hrW := Lib.hid (fun i (hi : i < S.rows.length) => (by
    obtain ⟨L, g, k, xs, z, h1, h2, h3, h4, h5, h6, h7, h8⟩ := hrow.out i hi
    exact ⟨L, g, k, xs, z, h1, h2, h3.grow hbW, Nat.lt_of_lt_of_le h8 hbW.size, (hbW.cell (p := ⟨L, _, none⟩) h8).trans h6, (hbW.cell (p := ⟨L, _, none⟩) h8).trans h7⟩ : ∃ L g k xs z, A = some ⟨L, 0, none⟩ ∧ S.rows[i] = (xs, z) ∧ RowM.At W ⟨g, k, xs, z⟩ ∧ L < W.heap.size ∧ W.cell? ⟨L, i * 2, none⟩ = some (.slice (some ⟨g, 0, none⟩) xs.length k) ∧ W.cell? ⟨L, i * 2 + 1, none⟩ = some (.int .i64 z)))
  clear hrow
  replace hbW := Lib.hid hbW
  go_loopw [34] (fun iv wr => ∃ (j : Nat) (x : More), j ≤ S.rows.length ∧ iv = .int .i64 j ∧ wr = ext W x) (fun iv _ => S.rows.length - (intOf iv).toNat)
  case atStart => exact ⟨0, ⟨#[], W.drawn⟩, by omega, rfl, by simp [ext]⟩
  case round =>
    obtain ⟨j, x, hj, rfl, rfl⟩ := hrel
    by_cases hlt : j < S.rows.length
    · obtain ⟨L, g, k, xs, z, rfl, e1, hA, d3, d0, d1⟩ := hrW.out j hlt
      have hw := hS2.out.len hlt
      have hc1 := hS2.out.c1
      have hc2 := hS2.out.c2
      have hbx : Below w.heap.size w (ext W x) := below_ext hbW.out hbW.out.size x
      have LJ := Lib.hid (fun w' (hb : Below (ext W x).heap.size (ext W x) w') => LN.out j hlt w' (hbx.trans (hb.mono hbx.size)))
      clear hbx
      rw [e1] at hw LJ
      simp only at hw LJ
      have X := Lib.hid hA.rd
      have hpos := Lib.hid (show 0 < xs.length by omega)
      have SM := Lib.hid (fun g1 k1 w' (h1 : Rd encC 3 w' (some ⟨g1, 0, none⟩) xs) (h2 : Rd encC 3 w' (some ⟨g, 0, none⟩) xs) => (by
        have := same_lr (some ⟨g1, 0, none⟩) (some ⟨g, 0, none⟩) k1 k xs xs z z w' h1 h2 (by omega) (by omega)
        have e : sameL xs z xs z = true := by simp [sameL]
        rw [e] at this
        exact this : Calls Tryz.prog 55 #[lineV (some ⟨g1, 0, none⟩) xs.length k1 z, lineV (some ⟨g, 0, none⟩) xs.length k z] w' (Gives w' (.bool true))))
      replace hw := Lib.hid hw
      clear hA e1
      go_upto_region 6 with fail
      (refine wp_region_F (S := (fun w' => w'.cell? ⟨W.heap.size + x.sz, 0, none⟩ = some (.slice (some ⟨g, 0, none⟩) xs.length k) ∧ w'.cell? ⟨W.heap.size + x.sz, 1, none⟩ = some (.int .i64 z))) 5 [false, false, false, false, false, false] rfl rfl (by kernel_rfl) ?_ (fun hHeld => ?_); (focus ((try dsimp only); (refine ⟨?_, ?_⟩ <;> simp [go_sem]); done)))
      ((refine AtF.take (oi := ?_) (v := ?_) 0 ?_ ?_ ?_ ?_ (Or.inl ⟨?_, ?_⟩) (by assumption) ?_; rotate_left 2; rfl; kernel_rfl; kernel_rfl; exact (fun _ _ _ h => h); rfl; (focus (intro w hSw; (try dsimp only at hSw); go_simp; (try with_reducible rfl); done)); (try simp only [Act.put, List.setIfInBounds_toArray, List.set_cons_zero, List.set_cons_succ])); (refine AtF.take (oi := ?_) (v := ?_) 1 ?_ ?_ ?_ ?_ (Or.inl ⟨?_, ?_⟩) (by assumption) ?_; rotate_left 2; rfl; kernel_rfl; kernel_rfl; exact (fun _ _ _ h => h); rfl; (focus (intro w hSw; (try dsimp only at hSw); go_simp; (try with_reducible rfl); done)); (try simp only [Act.put, List.setIfInBounds_toArray, List.set_cons_zero, List.set_cons_succ])); (refine AtF.take (oi := ?_) (v := ?_) 3 ?_ ?_ ?_ ?_ (Or.inl ⟨?_, ?_⟩) (by assumption) ?_; rotate_left 2; rfl; kernel_rfl; kernel_rfl; exact (fun _ _ _ h => h); rfl; (focus (intro w hSw; (try dsimp only at hSw); go_simp; (try with_reducible rfl); done)); (try simp only [Act.put, List.setIfInBounds_toArray, List.set_cons_zero, List.set_cons_succ])))
      (refine AtF.only (oi := ?_) 2 ?_ ?_ (fun K hK => ?_); rotate_left 1; rfl; kernel_rfl; (try go_simp); (go_at_call 19); (with_reducible refine (LJ.out _ (by (repeat' (first | (with_reducible exact Below.refl _ _) | (with_reducible refine Below.alloc ?_ ?_ _) | (with_reducible refine below_ext ?_ ?_ _) | (with_reducible refine Below.drew ?_) | (with_reducible refine below_drewN ?_ _) | (with_reducible refine Below.setCell ?_ ?_ _) | go_size | (simp only [go_sem]; omega) | (simp [go_sem]; done) | (simp [go_sem]; omega))))).mono ?_); intro _ _ hp; obtain ⟨g1, k1, x3, rfl, rfl, hR, hg⟩ := newL_row hp hpos.out; (try simp only [ext_drew] at hR); replace hR := Lib.hid hR.rd; clear hp; (refine hK.out _ _ ?_ (fun hHeld => ?_)); (focus ((try dsimp only); (refine ⟨?_, ?_⟩ <;> simp [go_sem]); done)); clear hK K; (try simp only [Act.put, List.setIfInBounds_toArray, List.set_cons_zero, List.set_cons_succ]))
      (refine AtF.only (oi := ?_) 4 ?_ ?_ (fun K hK => ?_); rotate_left 1; rfl; kernel_rfl; (try go_simp); (go_at_call 55); (with_reducible refine (SM.out _ _ _ (by repeat (first | exact hR.out | exact hR | refine Rd.ext ?_ _ | refine Rd.alloc ?_ _ | refine Rd.drew ?_)) (by repeat (first | exact X.out | exact X | refine Rd.ext ?_ _ | refine Rd.alloc ?_ _ | refine Rd.drew ?_))).mono ?_); (rintro _ _ hgets; obtain ⟨rfl, x4, rfl⟩ := hgets.get; clear hgets); (refine hK.out _ _ ?_ (fun hHeld => ?_)); (focus ((try dsimp only); (refine ⟨?_, ?_⟩ <;> simp [go_sem]); done)); clear hK K; (try simp only [Act.put, List.setIfInBounds_toArray, List.set_cons_zero, List.set_cons_succ]))
      (refine AtF.last (oi := ?_) ?_ ?_ (fun K hK => ?_); rotate_left 1; rfl; kernel_rfl; go_simp; skip; refine hK.out _ _ ?_; clear hK K; (try simp only [Act.put, List.setIfInBounds_toArray, List.set_cons_zero, List.set_cons_succ]))
      clear hR
      go_wp2
      obtain ⟨x9, e9⟩ := ext_of (show Below W.heap.size W (ext (ext ((ext W x).alloc (.cells #[.slice (some ⟨g, 0, none⟩) xs.length k, .int .i64 z] 67)) x3) x4) by (repeat' (first | (with_reducible exact Below.refl _ _) | (with_reducible refine Below.alloc ?_ ?_ _) | (with_reducible refine below_ext ?_ ?_ _) | (with_reducible refine Below.drew ?_) | (with_reducible refine below_drewN ?_ _) | (with_reducible refine Below.setCell ?_ ?_ _) | go_size | (simp only [go_sem]; omega) | (simp [go_sem]; done) | (simp [go_sem]; omega))))
      exact ⟨⟨j + 1, x9, by omega, by go_num, e9⟩, by simp [intOf]; omega⟩
    · obtain rfl : j = S.rows.length := by omega
      have hbx := below_ext hbW.out hbW.out.size x
      replace hbx := Lib.hid hbx
      go_wp2
      go_returns
      exact ⟨rfl, hbx.out⟩
end
end Go.Proofs.YtignkkejkknddaaGreat
