/- The reference's pages: Cells.  -/
import Derived.Test.YtpahcgappaifnaaGreatPgD
import Derived.Test.YtpahcgappaifnaaGreatPgB
namespace Go.Proofs.YtpahcgappaifnaaGreat
open Go.RowKit
set_option linter.unusedVariables false
set_option linter.unusedSimpArgs false

/-- a row that a call made -/
theorem newCs_row {w w' : World} {e : Ending} {xs : List Cl} (h : NewCs w xs e w') : ∃ (r : RowD) (x : More), e = .returned (.slice r.adr r.n r.c) ∧ w' = ext w x ∧ r.Live w.heap.size (ext w x) ∧ r.n = xs.length ∧ Rd encC 3 (ext w x) r.adr xs := by
  obtain ⟨A, c, x, rfl, rfl, hO⟩ := h
  obtain ⟨A0, c0, e0, h1, h2⟩ := hO.form
  injection e0 with e1 _ e3
  subst e1 e3
  obtain ⟨r, hv, hn, hl⟩ := row_of_part hO 0 xs.length c (by omega) h1
  have hA : A.map (fun a : Addr => (⟨a.block, a.off + 0 * 3, none⟩ : Addr)) = A := by
    rcases hO.2 with ⟨e, _⟩ | ⟨g, cap, cur, e, _⟩
    · injection e with e1
      subst e1
      rfl
    · injection e with e1
      subst e1
      rfl
  rw [hA] at hv
  have hadr : r.adr = A := by
    have := hv
    simp only [RowD.v] at this
    injection this
  refine ⟨r, x, ?_, rfl, hl, hn, by rw [hadr]; exact hO.rd encC_len⟩
  rw [show Value.slice r.adr r.n r.c = r.v from rfl, hv]
section
variable {S : PgS} {w : World}
set_option maxRecDepth 100000 in
set_option maxHeartbeats 8000000 in
theorem refcells_c (U : Value) (b : BxI) (h : RefV w U S) (hS : S.Ok) : Calls Tryz.prog 22 #[U, boxV b.t b.l b.b b.r] w (NewCells w (cellsS S (onB S.rows.length S.cols b))) := by
  have BX := Lib.hid (fun w' (hb : Below w.heap.size w w') => refbox_c U S w' (h.grow hb))
  have M := Lib.hid (fun w' => meet_r b.t b.l b.b b.r 0 0 S.rows.length S.cols w')
  rw [onB_v] at M
  have HB := onB_in S.rows.length S.cols b
  obtain ⟨A, n, rows, rfl, hl, hv, hn⟩ := h.op
  have hrow := Lib.hid (fun i (hi : i < S.rows.length) => hl.at hv hi)
  have hwid := Lib.hid (fun (i : Nat) (hi : i < S.rows.length) => hS.wid _ (List.getElem_mem hi))
  have hr2 := hS.r2
  have hc2 := hS.c2
  clear h hl hv hn
  generalize onB S.rows.length S.cols b = y at M HB ⊢
  obtain ⟨t, l, b', r⟩ := y
  obtain ⟨xt, xl, xb, xr⟩ := b
  simp only at M HB ⊢
  obtain ⟨m, hm⟩ : ∃ m : Nat, m = (b' - t).toNat := ⟨_, rfl⟩
  have hval : cellsS S ⟨t, l, b', r⟩ = (List.range m).map fun i => cutR (S.rows.getD (t.toNat + i) ([], 0)).1 l r := by
    unfold cellsS
    simp only [← hm]
  rw [hval]
  generalize hvs : (List.range m).map (fun i => cutR (S.rows.getD (t.toNat + i) ([], 0)).1 l r) = vals
  replace hvs := Lib.hid hvs
  clear hval hS
  go_enter Tryz.func22, Tryz.ntmps22
  go_upto_region 1 with fail
  (refine wp_region_tail 4 (by kernel_rfl) (by kernel_rfl) ?_; simp only [List.take_succ_cons, List.take_zero, List.drop_succ_cons, List.drop_zero])
  repeat (go_big_quiet_step (first | ((go_at_call 28; with_reducible exact Calls.free (BX.out _ (by (repeat' (first | (with_reducible exact Below.refl _ _) | (with_reducible refine Below.alloc ?_ ?_ _) | (with_reducible refine below_ext ?_ ?_ _) | (with_reducible refine Below.drew ?_) | (with_reducible refine below_drewN ?_ _) | (with_reducible refine Below.setCell ?_ ?_ _) | go_size | (simp only [go_sem]; omega) | (simp [go_sem]; done) | (simp [go_sem]; omega))))))) | ((go_at_call 58; with_reducible exact Calls.free (M.out _)))))
  refine wpQuiet_nil ?_; rintro _ ⟨x1, rfl⟩
  go_wp2
  obtain ⟨W, hW⟩ : ∃ W, W = ext ((w.alloc (.cells #[.slice A S.rows.length n, .int .i64 S.cols] 27)).alloc (.cells #[.int .i64 t, .int .i64 l, .int .i64 b', .int .i64 r] 32)) x1 := ⟨_, rfl⟩
  have hbW : Below w.heap.size w W := by rw [hW]; (repeat' (first | (with_reducible exact Below.refl _ _) | (with_reducible refine Below.alloc ?_ ?_ _) | (with_reducible refine below_ext ?_ ?_ _) | (with_reducible refine Below.drew ?_) | (with_reducible refine below_drewN ?_ _) | (with_reducible refine Below.setCell ?_ ?_ _) | go_size | (simp only [go_sem]; omega) | (simp [go_sem]; done) | (simp [go_sem]; omega)))
  have hsz : W.heap.size = w.heap.size + 1 + 1 + x1.sz := by rw [hW]; simp
  have P0 : W.cell? ⟨w.heap.size, 0, none⟩ = some (.slice A S.rows.length n) := by rw [hW]; simp [go_sem]
  have B1 : W.cell? ⟨w.heap.size + 1, 1, none⟩ = some (.int .i64 l) := by rw [hW]; simp [go_sem]
  have B2 : W.cell? ⟨w.heap.size + 1, 2, none⟩ = some (.int .i64 b') := by rw [hW]; simp [go_sem]
  have B3 : W.cell? ⟨w.heap.size + 1, 3, none⟩ = some (.int .i64 r) := by rw [hW]; simp [go_sem]
  rw [← hW]
  clear hW BX M
  have hz0 : w.heap.size < W.heap.size := by omega
  have hz1 : w.heap.size + 1 < W.heap.size := by omega
  have hrW := Lib.hid (fun i (hi : i < S.rows.length) => (by
    obtain ⟨L, g, k, xs, z, h1, h2, h3, h4, h5, h6, h7, h8⟩ := hrow.out i hi
    exact ⟨L, g, k, xs, z, h1, h2, h3.grow hbW, Nat.lt_of_lt_of_le h8 hbW.size, (hbW.cell (p := ⟨L, _, none⟩) h8).trans h6, (hbW.cell (p := ⟨L, _, none⟩) h8).trans h7⟩ : ∃ L g k xs z, A = some ⟨L, 0, none⟩ ∧ S.rows[i] = (xs, z) ∧ RowM.At W ⟨g, k, xs, z⟩ ∧ L < W.heap.size ∧ W.cell? ⟨L, i * 2, none⟩ = some (.slice (some ⟨g, 0, none⟩) xs.length k) ∧ W.cell? ⟨L, i * 2 + 1, none⟩ = some (.int .i64 z)))
  clear hrow hsz
  replace hbW := Lib.hid hbW
  go_loopw [5, 6] (fun lv iv wr => ∃ (j : Nat) (A' : Option Addr) (n' c' : Nat) (rows' : List (RowD × List Cl)) (x : More), j ≤ m ∧ lv = .slice A' n' c' ∧ iv = .int .i64 (t + j) ∧ wr = ext W x ∧
      Hid (CellsAt W.heap.size (ext W x) (.slice A' n' c') rows') ∧ Hid (rows'.map Prod.snd = (List.range j).map fun i => cutR (S.rows.getD (t.toNat + i) ([], 0)).1 l r)) (fun _ iv _ => (b' - intOf iv).toNat)
  case atStart => exact ⟨0, none, 0, 0, [], ⟨#[], W.drawn⟩, by omega, rfl, by simp, by simp [ext], CellsAt.nil _ _, rfl⟩
  case round =>
    obtain ⟨j, A', n', c', rows', x, hj, rfl, rfl, rfl, hC, hV⟩ := hrel
    by_cases hlt : t + j < b'
    · have hin : t.toNat + j < S.rows.length := by omega
      obtain ⟨L, g, k, xs, z, rfl, e1, hA, d3, d0, d1⟩ := hrW.out (t.toNat + j) hin
      have hw := hwid.out (t.toNat + j) hin
      rw [e1] at hw
      simp only at hw
      have ei : t + (j : Int) = ((t.toNat + j : Nat) : Int) := by omega
      have X := Lib.hid hA.rd
      have hx6 : xs.length ≤ 1000000 := by omega
      have CU := Lib.hid (fun w' (h : Rd encC 3 w' (some ⟨g, 0, none⟩) xs) => (by
        rw [← cutTo_cutR]
        exact cut_r (some ⟨g, 0, none⟩) k z l r xs w' h hx6 : Calls Tryz.prog 64 #[lineV (some ⟨g, 0, none⟩) xs.length k z, .int .i64 l, .int .i64 r] w' (NewCs w' (cutR xs l r))))
      have hval := Lib.hid (show cutR xs l r = cutR (S.rows.getD (t.toNat + j) ([], 0)).1 l r by simp [hin, e1])
      have hlen := Lib.hid (show rows'.length ≤ 1000 by have := congrArg List.length hV.out; simp at this; omega)
      clear hA e1 hw
      generalize hq : t.toNat + j = q at ei hin d0 d1 hval
      replace hq := Lib.hid hq
      rw [ei]
      go_upto_region 6 with fail
      go_region_held3 (fun w' => w'.cell? ⟨w.heap.size, 0, none⟩ = some (.slice (some ⟨L, 0, none⟩) S.rows.length n) ∧ w'.cell? ⟨w.heap.size + 1, 1, none⟩ = some (.int .i64 l) ∧ w'.cell? ⟨w.heap.size + 1, 3, none⟩ = some (.int .i64 r) ∧ w'.cell? ⟨L, q * 2, none⟩ = some (.slice (some ⟨g, 0, none⟩) xs.length k) ∧ w'.cell? ⟨L, q * 2 + 1, none⟩ = some (.int .i64 z)) ((refine ⟨?_, ?_, ?_, ?_, ?_⟩ <;> simp [go_sem, P0, B1, B3, hz0, hz1, d0, d1, d3])) ((first
        | (go_at_call 64
           (with_reducible refine (CU.out _ (by repeat (first | exact X.out | exact X | refine Rd.ext ?_ _ | refine Rd.alloc ?_ _ | refine Rd.drew ?_))).mono ?_)
           intro _ _ hp
           obtain ⟨rw1, x3, rfl, rfl, hR, hn1, hrd1⟩ := newCs_row hp
           try simp only [ext_drew] at hR hrd1
           replace hR := Lib.hid hR
           replace hn1 := Lib.hid hn1
           replace hrd1 := Lib.hid hrd1
           clear hp)
        | (refine step_do rfl (cells_app (x := x) (x1 := x3) (.tmp 19) (.tmp 30) rfl rw1 (cutR xs l r) _ rfl rfl hC.out hR.out hn1.out hrd1.out rfl (by simp [go_sem]) hlen.out ?_)
           intro A2 n2 c2 x4 hC2
           replace hC2 := Lib.hid hC2)))
      all_goals go_wp2
      all_goals
        refine ⟨⟨j + 1, A2, n2, c2, _, x4, by omega, rfl, by go_num, rfl, hC2, ?_⟩, by simp [intOf]; omega⟩
        refine Lib.hid ?_
        rw [List.map_append, hV.out, List.range_succ, List.map_append, List.map_singleton, List.map_singleton, hval.out, hq.out]
    · obtain rfl : j = m := by omega
      go_wp2
      go_returns
      obtain ⟨x5, e5⟩ := ext_of (show Below w.heap.size w (ext W x) from below_ext hbW.out hbW.out.size x)
      refine ⟨_, rows', x5, rfl, e5, ?_, hV.out.trans (by rw [← hvs.out])⟩
      have h9 := hC.out
      rw [e5] at h9
      exact h9.mono hbW.out.size
end
end Go.Proofs.YtpahcgappaifnaaGreat
