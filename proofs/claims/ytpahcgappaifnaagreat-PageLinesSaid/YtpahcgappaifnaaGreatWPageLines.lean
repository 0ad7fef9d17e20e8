/- PageLines: the walk.  -/
import Derived.Test.YtpahcgappaifnaaGreatPgTwin
namespace Go.Proofs.YtpahcgappaifnaaGreat
open Go.RowKit
set_option linter.unusedVariables false
set_option linter.unusedSimpArgs false

theorem resR_twice (xs : List Cl) (n : Nat) : resR (resR xs n) n = resR xs n := by
  unfold resR
  rw [List.take_of_length_le (by rw [layOn_len _ _ _ (by simp; omega), List.length_replicate]; exact Nat.le_refl _)]
  have hl : (layOn (List.replicate n erC) 0 (xs.take n)).length = n := by rw [layOn_len _ _ _ (by simp; omega), List.length_replicate]
  generalize layOn (List.replicate n erC) 0 (xs.take n) = ys at hl
  subst hl
  unfold layOn
  simp
theorem sizeI_twice (s : Int) : sizeI (sizeI s) = sizeI s := by unfold sizeI; split <;> (try split) <;> (try omega) <;> rfl
/-- a line that was set is set again to what it holds -/
theorem setLine_twice (S : PgS) (i : Int) (xs : List Cl) (s : Int) : setLineS (setLineS S i xs s) i (lineOf (setLineS S i xs s) i).1 (lineOf (setLineS S i xs s) i).2 = setLineS S i xs s := by
  by_cases h : thereI S.rows.length i = true
  · have e : setLineS S i xs s = setRowS S i.toNat (resR xs S.cols, sizeI s) := by unfold setLineS; rw [if_pos h]
    rw [e]
    have hi : i.toNat < S.rows.length := by unfold thereI at h; simp at h; omega
    have e2 : lineOf (setRowS S i.toNat (resR xs S.cols, sizeI s)) i = (resR xs S.cols, sizeI s) := by
      unfold lineOf
      rw [setRowS_len, if_pos h]
      simp [setRowS, hi]
    rw [e2]
    unfold setLineS
    rw [setRowS_len, if_pos h, setRowS_twice]
    simp only [setRowS_cols]
    rw [resR_twice, sizeI_twice]
  · have e : ∀ ys z, setLineS S i ys z = S := fun ys z => by unfold setLineS; rw [if_neg h]
    rw [e, e]
theorem lineOf_ok {S : PgS} (hS : S.Ok) (i : Int) : (lineOf S i).1.length ≤ 1000000 := by
  unfold lineOf
  split
  · rename_i h
    have hi : i.toNat < S.rows.length := by unfold thereI at h; simp at h; omega
    have := hS.wid S.rows[i.toNat] (List.getElem_mem hi)
    have := hS.c2
    rw [List.getD_eq_getElem?_getD, List.getElem?_eq_getElem hi]
    simp only [Option.getD_some]
    omega
  · simp
set_option maxRecDepth 100000 in
set_option maxHeartbeats 8000000 in
theorem PageLines_walk (w : World) (A : Option Addr) (C : Nat) (xs : List ActD) (rd : Rd ActD.cells 13 w A xs) (hl : xs.length ≤ C) (hm : C ≤ maxLen) (ha : ∀ a ∈ xs, a.Ok w)
    (row : Int) (_ : (Lit.int .i64 row).wf = true) (Al : Option Addr) (Cp : Nat) (zs : List Cl) (sz : Int) (rdz : Rd encC 3 w Al zs) (lz : zs.length ≤ Cp) (mz : Cp ≤ maxLen) (oz : ∀ y ∈ zs, y.ok) :
    Calls Tryz.prog 6 #[.slice A xs.length C, .int .i64 row, lineV Al zs.length Cp sz] w (fun e w' => e = .returned (.bool true) ∧ Below w.heap.size w w') := by
  have P1 := Lib.hid (play_at 5 7 xs A C rd hl hm ha)
  have ok1 := playNew_ok 5 7 xs ha
  generalize playNew 5 7 xs = S1 at P1 ok1
  clear rd ha
  obtain ⟨ys, hys⟩ : ∃ ys, ys = zs.take 60 := ⟨_, rfl⟩
  have hy60 : ys.length ≤ 60 := by rw [hys]; simp; omega
  have oy : ∀ y ∈ ys, y.ok := fun y hy => oz y (by rw [hys] at hy; exact List.mem_of_mem_take hy)
  have rdy : Rd encC 3 w Al ys := by rw [hys]; exact rdz.take 60
  have hlen : ys.length = min 60 zs.length := by rw [hys]; simp
  have hnil : 0 < zs.length → ∃ ad, Al = some ad := fun h => by obtain ⟨b, o, e, _⟩ := rdz h; exact ⟨_, e⟩
  clear hys rdz oz
  generalize zs.length = nz at *
  have okT := setLineS_ok ok1 row sz oy
  have tw := setLine_twice S1 row ys sz
  have SP := Lib.hid (fun w' F p (h : PageAt w' F p S1) A1 C1 (rd : Rd encC 3 w' A1 ys) => setline_p h ok1 row A1 C1 sz ys rd)
  have SR := Lib.hid (fun w' U (h : RefV w' U S1) (rd : Rd encC 3 w' Al ys) => refset_c U row Al Cp ys sz h ok1 rd (by omega))
  have CE := Lib.hid (fun w' (rd : Rd encC 3 w' Al ys) => cells_c Al Cp ys w' rd (by omega) (by simp [maxLen]; omega))
  generalize setLineS S1 row ys sz = T at okT tw SP SR
  have LN := Lib.hid (fun w' F p (h : PageAt w' F p T) => line_p h okT row)
  have SL := Lib.hid (fun w' F p (h : PageAt w' F p T) A1 C1 (rd : Rd encC 3 w' A1 (lineOf T row).1) => setline_p h okT row A1 C1 (lineOf T row).2 (lineOf T row).1 rd)
  rw [tw] at SL
  generalize lineOf T row = lt at LN SL
  obtain ⟨lx, ls⟩ := lt
  replace hlen := Lib.hid hlen
  have AW := Lib.hid awake_7
  show Calls Tryz.prog 6 #[.slice A xs.length C, .int .i64 row, .agg #[.slice Al nz Cp, .int .i64 sz]] w _
  go_enter Tryz.func6, Tryz.ntmps6
  go_upto_region 3 with (first
    | (go_at_call 8; ((with_reducible refine (AW.out _).mono ?_); rintro _ _ hgets; obtain ⟨rfl, x1, rfl⟩ := hgets.get; clear hgets)))
  go_upto_region 4 with (first
    | ((go_at_call 9); (with_reducible refine (P1.out _ (by (repeat' (first | (with_reducible exact Below.refl _ _) | (with_reducible refine Below.alloc ?_ ?_ _) | (with_reducible refine below_ext ?_ ?_ _) | (with_reducible refine Below.drew ?_) | (with_reducible refine below_drewN ?_ _) | (with_reducible refine Below.setCell ?_ ?_ _) | go_size | (simp only [go_sem]; omega) | (simp [go_sem]; done) | (simp [go_sem]; omega))))).mono ?_); (rintro _ W ⟨p, _, F, rfl, hb, hp, hr, hf⟩); (obtain ⟨V, ru, rfl, e1, e2, e3⟩ := id hr); (obtain ⟨A1, c1, rfl, _, _⟩ := e1.form); clear e1 e2 e3; replace hb := Lib.hid hb; replace hp := Lib.hid hp; replace hr := Lib.hid hr; replace hf := Lib.hid hf))
  obtain ⟨W1, hW1⟩ : ∃ W1, W1 = W.alloc (.cells #[.slice A1 ru.length c1, .int .i64 S1.cols] 27) := ⟨_, rfl⟩
  have T1 := Lib.hid (Twin.start hb.out hp.out hr.out hf.out rfl)
  rw [← hW1] at T1 ⊢
  have B1 := Lib.hid ((T1.out.old (by simp; omega)).trans (box_at w _ x1))
  have hb1 : Below w.heap.size w W1 := (show Below w.heap.size w (ext (w.alloc (.cells #[.slice Al nz Cp, .int .i64 sz] 47)) x1) by (repeat' (first | (with_reducible exact Below.refl _ _) | (with_reducible refine Below.alloc ?_ ?_ _) | (with_reducible refine below_ext ?_ ?_ _) | (with_reducible refine Below.drew ?_) | (with_reducible refine below_drewN ?_ _) | (with_reducible refine Below.setCell ?_ ?_ _) | go_size | (simp only [go_sem]; omega) | (simp [go_sem]; done) | (simp [go_sem]; omega)))).trans (T1.out.below.mono (by simp; omega))
  generalize W.heap.size = H1 at T1 ⊢
  generalize ru.length = n1 at T1 ⊢
  clear hW1 hb hp hr hf P1
  have hle : w.heap.size < W1.heap.size := heap_in B1.out
  have b0 : W1.cell? ⟨w.heap.size, 0, none⟩ = some (.slice Al nz Cp) := by rw [cell_in B1.out]; rfl
  have b1 : W1.cell? ⟨w.heap.size, 1, none⟩ = some (.int .i64 sz) := by rw [cell_in B1.out]; rfl
  have bf : W1.frozen? ⟨w.heap.size, 0, none⟩ = false := frozen_in B1.out
  go_upto_if 24 with fail
  go_cut [] (fun wx => Keep (· = w.heap.size) W1 wx ∧ wx.heap[w.heap.size]? = some (.cells #[.slice Al ys.length Cp, .int .i64 sz] 47 (0, 0)))
  case first =>
    by_cases q : 60 < nz
    · have hpc : 60 ≤ Cp := by omega
      have hk : ys.length = 60 := by have := hlen.out; omega
      replace hk := Lib.hid hk
      obtain ⟨ad, rfl⟩ := hnil (by omega)
      go_wp2
      go_meet
      rw [hk.out]
      exact ⟨(show Keep (· = w.heap.size) W1 W1 from Keep.refl _ _).set (.inl rfl) _, by simp [World.setCell, Array.getElem?_modify, B1.out]⟩
    · have hk : ys.length = nz := by have := hlen.out; omega
      replace hk := Lib.hid hk
      go_wp2
      go_meet
      rw [hk.out]
      exact ⟨Keep.of_below (Below.refl _ _), B1.out⟩
  obtain ⟨hk, B2⟩ := hcut
  replace B2 := Lib.hid B2
  have hF1 : ∀ b, F b → w.heap.size < b ∧ b < H1 := fun b f => ⟨by have := (T1.out.ge b f).1; simp at this; omega, (T1.out.ge b f).2⟩
  have hH1 : w.heap.size < H1 := by have := T1.out.hh; simp at this; omega
  have PP := Lib.hid (T1.out.page.keep hk (fun b f e => by have := hF1 b f; omega))
  have RF := Lib.hid (((T1.out.ref.mono (G := fun b => F b ∨ b = w.heap.size) (fun b _ h => h.imp id (fun e => by simp; omega))).keep (hk.mono (fun b e => .inr e))).mono (G := F) (fun b _ f => .inl f))
  have q1 := Lib.hid ((hk.block _ (heap_in T1.out.blk) (by omega)).trans T1.out.blk)
  have hb2 : Below w.heap.size w wc := hb1.trans (hk.below (B := w.heap.size) (fun b e => by omega) (by omega))
  have rdy2 := Lib.hid (fun w' (h : Below w.heap.size w w') => rdy.below h)
  clear hk T1 B1 hb1 b0 b1 bf rdy
  have b0 : wc.cell? ⟨w.heap.size, 0, none⟩ = some (.slice Al ys.length Cp) := by rw [cell_in B2.out]; rfl
  have b1 : wc.cell? ⟨w.heap.size, 1, none⟩ = some (.int .i64 sz) := by rw [cell_in B2.out]; rfl
  have hlx : w.heap.size < wc.heap.size := heap_in B2.out
  go_upto_region 8 with fail
  (refine wp_region_F (S := (fun w' => w'.cell? ⟨w.heap.size, 0, none⟩ = some (.slice Al ys.length Cp) ∧ w'.cell? ⟨w.heap.size, 1, none⟩ = some (.int .i64 sz))) 8 [false, false, false, false, false, false, false, false, false] rfl rfl (by kernel_rfl) ?_ (fun hHeld => ?_); (focus ((try dsimp only); (refine ⟨?_, ?_⟩ <;> simp [go_sem, b0, b1, hlx]); done)))
  ((refine AtF.take (oi := ?_) (v := ?_) 0 ?_ ?_ ?_ ?_ (Or.inl ⟨?_, ?_⟩) (by assumption) ?_; rotate_left 2; rfl; kernel_rfl; kernel_rfl; exact (fun _ _ _ h => h); rfl; (focus (intro w hSw; (try dsimp only at hSw); go_simp; (try with_reducible rfl); done)); (try simp only [Act.put, List.setIfInBounds_toArray, List.set_cons_zero, List.set_cons_succ])); (refine AtF.take (oi := ?_) (v := ?_) 1 ?_ ?_ ?_ ?_ (Or.inl ⟨?_, ?_⟩) (by assumption) ?_; rotate_left 2; rfl; kernel_rfl; kernel_rfl; exact (fun _ _ _ h => h); rfl; (focus (intro w hSw; (try dsimp only at hSw); go_simp; (try with_reducible rfl); done)); (try simp only [Act.put, List.setIfInBounds_toArray, List.set_cons_zero, List.set_cons_succ])); (refine AtF.take (oi := ?_) (v := ?_) 2 ?_ ?_ ?_ ?_ (Or.inl ⟨?_, ?_⟩) (by assumption) ?_; rotate_left 2; rfl; kernel_rfl; kernel_rfl; exact (fun _ _ _ h => h); rfl; (focus (intro w hSw; (try dsimp only at hSw); go_simp; (try with_reducible rfl); done)); (try simp only [Act.put, List.setIfInBounds_toArray, List.set_cons_zero, List.set_cons_succ])); (refine AtF.take (oi := ?_) (v := ?_) 3 ?_ ?_ ?_ ?_ (Or.inl ⟨?_, ?_⟩) (by assumption) ?_; rotate_left 2; rfl; kernel_rfl; kernel_rfl; exact (fun _ _ _ h => h); rfl; (focus (intro w hSw; (try dsimp only at hSw); go_simp; (try with_reducible rfl); done)); (try simp only [Act.put, List.setIfInBounds_toArray, List.set_cons_zero, List.set_cons_succ])); (refine AtF.take (oi := ?_) (v := ?_) 5 ?_ ?_ ?_ ?_ (Or.inl ⟨?_, ?_⟩) (by assumption) ?_; rotate_left 2; rfl; kernel_rfl; kernel_rfl; exact (fun _ _ _ h => h); rfl; (focus (intro w hSw; (try dsimp only at hSw); go_simp; (try with_reducible rfl); done)); (try simp only [Act.put, List.setIfInBounds_toArray, List.set_cons_zero, List.set_cons_succ])); (refine AtF.take (oi := ?_) (v := ?_) 6 ?_ ?_ ?_ ?_ (Or.inl ⟨?_, ?_⟩) (by assumption) ?_; rotate_left 2; rfl; kernel_rfl; kernel_rfl; exact (fun _ _ _ h => h); rfl; (focus (intro w hSw; (try dsimp only at hSw); go_simp; (try with_reducible rfl); done)); (try simp only [Act.put, List.setIfInBounds_toArray, List.set_cons_zero, List.set_cons_succ])))
  (refine AtF.only (oi := ?_) 4 ?_ ?_ (fun K hK => ?_); rotate_left 1; rfl; kernel_rfl; (try go_simp); (go_at_call 19); (with_reducible refine (CE.out _ (rdy2.out _ (hb2.trans (Below.mono (B := wc.heap.size) (by (repeat' (first | (with_reducible exact Below.refl _ _) | (with_reducible refine Below.alloc ?_ ?_ _) | (with_reducible refine below_ext ?_ ?_ _) | (with_reducible refine Below.drew ?_) | (with_reducible refine below_drewN ?_ _) | (with_reducible refine Below.setCell ?_ ?_ _) | go_size | (simp only [go_sem]; omega) | (simp [go_sem]; done) | (simp [go_sem]; omega)))) hb2.size)))).mono ?_); (rintro _ _ ⟨A5, c5, x5, rfl, rfl, hO5⟩); replace hO5 := Lib.hid (hO5.rd encC_len); (try simp only [ext_drew] at hO5); (refine hK.out _ _ ?_ (fun hHeld => ?_)); (focus ((try dsimp only); (refine ⟨?_, ?_⟩ <;> simp [go_sem, b0, b1, hlx]); done)); clear hK K; (try simp only [Act.put, List.setIfInBounds_toArray, List.set_cons_zero, List.set_cons_succ]))
  ((refine AtF.take (oi := ?_) (v := ?_) 7 ?_ ?_ ?_ ?_ (Or.inl ⟨?_, ?_⟩) (by assumption) ?_; rotate_left 2; rfl; kernel_rfl; kernel_rfl; exact (fun _ _ _ h => h); rfl; (focus (intro w hSw; (try dsimp only at hSw); go_simp; (try with_reducible rfl); done)); (try simp only [Act.put, List.setIfInBounds_toArray, List.set_cons_zero, List.set_cons_succ])))
  (refine AtF.last (oi := ?_) ?_ ?_ (fun K hK => ?_); rotate_left 1; rfl; kernel_rfl; go_simp; (go_at_call 18); (with_reducible refine (SP.out _ F p (PP.out.grow (by (repeat' (first | (with_reducible exact Below.refl _ _) | (with_reducible refine Below.alloc ?_ ?_ _) | (with_reducible refine below_ext ?_ ?_ _) | (with_reducible refine Below.drew ?_) | (with_reducible refine below_drewN ?_ _) | (with_reducible refine Below.setCell ?_ ?_ _) | go_size | (simp only [go_sem]; omega) | (simp [go_sem]; done) | (simp [go_sem]; omega))))) A5 c5 hO5.out).mono ?_); (rintro _ W3 ⟨rfl, hD⟩); replace hD := Lib.hid hD; refine hK.out _ _ ?_; clear hK K; (try simp only [Act.put, List.setIfInBounds_toArray, List.set_cons_zero, List.set_cons_succ]))
  replace hD := Lib.hid (Did.back hD.out (below_of_ext wc x5) PP.out.lt)
  have B3 := Lib.hid ((hD.out.1.block _ (heap_in B2.out) (fun f => by have := hF1 _ f; omega)).trans B2.out)
  have q3 := Lib.hid ((hD.out.1.block _ (heap_in q1.out) (fun f => by have := hF1 _ f; omega)).trans q1.out)
  have hb3 : Below w.heap.size w W3 := hb2.trans (hD.out.1.below (B := w.heap.size) (fun b f => by have := hF1 _ f; omega) hb2.size)
  have RA := Lib.hid (RF.out.more hD.out.1)
  have R3 := Lib.hid (RA.out.v)
  have P3 := Lib.hid hD.out.2
  have hH2 := heap_in q1.out
  have hF3 : ∀ b, more F wc W3 b → w.heap.size < b ∧ b ≠ H1 := fun b f => by
    rcases f with f | f
    · have := hF1 b f; omega
    · omega
  generalize more F wc W3 = F3 at P3 hF3 RA
  clear hH2
  clear hD hF1 PP RF q1 hb2 B2 b0 b1 hlx hHeld SP CE
  have b0 : W3.cell? ⟨w.heap.size, 0, none⟩ = some (.slice Al ys.length Cp) := by rw [cell_in B3.out]; rfl
  have b1 : W3.cell? ⟨w.heap.size, 1, none⟩ = some (.int .i64 sz) := by rw [cell_in B3.out]; rfl
  have s0 : W3.cell? ⟨H1, 0, none⟩ = some (.slice A1 n1 c1) := by rw [cell_in q3.out]; rfl
  have s1 : W3.cell? ⟨H1, 1, none⟩ = some (.int .i64 S1.cols) := by rw [cell_in q3.out]; rfl
  have g1 := heap_in q3.out
  have g3 := heap_in B3.out
  have okT3 := Lib.hid okT
  have IS1 := Lib.hid (fun x V rws (hl : Lns (ext W3 x) V rws) (hv : rws.map RowM.val = T.rows) w' (hb : Below (ext W3 x).heap.size (ext W3 x) w') => is_c (.agg #[V, .int .i64 T.cols]) (P3.out.grow ((below_of_ext W3 x).trans (hb.mono (below_of_ext W3 x).size))) okT3.out ⟨V, rws, rfl, hl.grow hb, hv⟩)
  go_upto_region 11 with (first
    | ((go_at_call 20); (with_reducible refine (SR.out _ _ (R3.out.grow (by (repeat' (first | (with_reducible exact Below.refl _ _) | (with_reducible refine Below.alloc ?_ ?_ _) | (with_reducible refine below_ext ?_ ?_ _) | (with_reducible refine Below.drew ?_) | (with_reducible refine below_drewN ?_ _) | (with_reducible refine Below.setCell ?_ ?_ _) | go_size | (simp only [go_sem]; omega) | (simp [go_sem]; done) | (simp [go_sem]; omega))))) (rdy2.out _ (hb3.trans (Below.mono (B := W3.heap.size) (by (repeat' (first | (with_reducible exact Below.refl _ _) | (with_reducible refine Below.alloc ?_ ?_ _) | (with_reducible refine below_ext ?_ ?_ _) | (with_reducible refine Below.drew ?_) | (with_reducible refine below_drewN ?_ _) | (with_reducible refine Below.setCell ?_ ?_ _) | go_size | (simp only [go_sem]; omega) | (simp [go_sem]; done) | (simp [go_sem]; omega)))) hb3.size)))).mono ?_); (rintro _ _ ⟨V5, rw5, x5, rfl, rfl, hl5, hv5, -⟩); have IS3 := Lib.hid (IS1.out _ _ _ hl5 hv5); clear hl5 hv5)
    | (go_at_call 16; ((with_reducible refine (IS3.out _ (by (repeat' (first | (with_reducible exact Below.refl _ _) | (with_reducible refine Below.alloc ?_ ?_ _) | (with_reducible refine below_ext ?_ ?_ _) | (with_reducible refine Below.drew ?_) | (with_reducible refine below_drewN ?_ _) | (with_reducible refine Below.setCell ?_ ?_ _) | go_size | (simp only [go_sem]; omega) | (simp [go_sem]; done) | (simp [go_sem]; omega))))).mono ?_); rintro _ _ hgets; obtain ⟨rfl, x6, rfl⟩ := hgets.get; clear hgets)))
  clear IS1 IS3
  go_upto_region 13 with (first
    | ((go_at_call 14); (with_reducible refine (LN.out _ _ p (P3.out.grow (by (repeat' (first | (with_reducible exact Below.refl _ _) | (with_reducible refine Below.alloc ?_ ?_ _) | (with_reducible refine below_ext ?_ ?_ _) | (with_reducible refine Below.drew ?_) | (with_reducible refine below_drewN ?_ _) | (with_reducible refine Below.setCell ?_ ?_ _) | go_size | (simp only [go_sem]; omega) | (simp [go_sem]; done) | (simp [go_sem]; omega)))))).mono ?_); (rintro _ _ ⟨A8, c8, x8, rfl, rfl, hO8⟩); replace hO8 := Lib.hid hO8)
    | ((go_at_call 18); (with_reducible refine (SL.out _ _ p (P3.out.grow (by (repeat' (first | (with_reducible exact Below.refl _ _) | (with_reducible refine Below.alloc ?_ ?_ _) | (with_reducible refine below_ext ?_ ?_ _) | (with_reducible refine Below.drew ?_) | (with_reducible refine below_drewN ?_ _) | (with_reducible refine Below.setCell ?_ ?_ _) | go_size | (simp only [go_sem]; omega) | (simp [go_sem]; done) | (simp [go_sem]; omega))))) A8 c8 (by repeat (first | with_reducible exact (own_over hO8.out (by simp [go_sem]) (by simp [go_sem])).rd encC_len | with_reducible exact hO8.out.rd encC_len | with_reducible refine Rd.ext ?_ _ | with_reducible refine Rd.alloc ?_ _ | with_reducible refine Rd.drew ?_))).mono ?_); (rintro _ W4 ⟨rfl, hD⟩); replace hD := Lib.hid hD))
  replace hD := Lib.hid (Did.back hD.out (show Below W3.heap.size W3 _ by (repeat' (first | (with_reducible exact Below.refl _ _) | (with_reducible refine Below.alloc ?_ ?_ _) | (with_reducible refine below_ext ?_ ?_ _) | (with_reducible refine Below.drew ?_) | (with_reducible refine below_drewN ?_ _) | (with_reducible refine Below.setCell ?_ ?_ _) | go_size | (simp only [go_sem]; omega) | (simp [go_sem]; done) | (simp [go_sem]; omega)))) P3.out.lt)
  have B4 := Lib.hid ((hD.out.1.block _ (heap_in B3.out) (fun f => by have := hF3 _ f; omega)).trans B3.out)
  have q4 := Lib.hid ((hD.out.1.block _ (heap_in q3.out) (fun f => by have := hF3 _ f; omega)).trans q3.out)
  have hb4 : Below w.heap.size w W4 := hb3.trans (hD.out.1.below (B := w.heap.size) (fun b f => by have := hF3 _ f; omega) hb3.size)
  have R4 := Lib.hid ((RA.out.keep hD.out.1).v)
  have P4 := Lib.hid hD.out.2
  clear hD hF3 RA R3 P3 B3 q3 b0 b1 s0 s1 g1 g3 hO8 LN SL hb3
  have b0 : W4.cell? ⟨w.heap.size, 0, none⟩ = some (.slice Al ys.length Cp) := by rw [cell_in B4.out]; rfl
  have b1 : W4.cell? ⟨w.heap.size, 1, none⟩ = some (.int .i64 sz) := by rw [cell_in B4.out]; rfl
  have s0 : W4.cell? ⟨H1, 0, none⟩ = some (.slice A1 n1 c1) := by rw [cell_in q4.out]; rfl
  have s1 : W4.cell? ⟨H1, 1, none⟩ = some (.int .i64 S1.cols) := by rw [cell_in q4.out]; rfl
  have g1 := heap_in q4.out
  have g3 := heap_in B4.out
  have IS1 := Lib.hid (fun x V rws (hl : Lns (ext W4 x) V rws) (hv : rws.map RowM.val = T.rows) w' (hb : Below (ext W4 x).heap.size (ext W4 x) w') => is_c (.agg #[V, .int .i64 T.cols]) (P4.out.grow ((below_of_ext W4 x).trans (hb.mono (below_of_ext W4 x).size))) okT3.out ⟨V, rws, rfl, hl.grow hb, hv⟩)
  go_wp2_with (first
    | ((go_at_call 20); (with_reducible refine (SR.out _ _ (R4.out.grow (by (repeat' (first | (with_reducible exact Below.refl _ _) | (with_reducible refine Below.alloc ?_ ?_ _) | (with_reducible refine below_ext ?_ ?_ _) | (with_reducible refine Below.drew ?_) | (with_reducible refine below_drewN ?_ _) | (with_reducible refine Below.setCell ?_ ?_ _) | go_size | (simp only [go_sem]; omega) | (simp [go_sem]; done) | (simp [go_sem]; omega))))) (rdy2.out _ (hb4.trans (Below.mono (B := W4.heap.size) (by (repeat' (first | (with_reducible exact Below.refl _ _) | (with_reducible refine Below.alloc ?_ ?_ _) | (with_reducible refine below_ext ?_ ?_ _) | (with_reducible refine Below.drew ?_) | (with_reducible refine below_drewN ?_ _) | (with_reducible refine Below.setCell ?_ ?_ _) | go_size | (simp only [go_sem]; omega) | (simp [go_sem]; done) | (simp [go_sem]; omega)))) hb4.size)))).mono ?_); (rintro _ _ ⟨V7, rw7, x7, rfl, rfl, hl7, hv7, -⟩); have IS3 := Lib.hid (IS1.out _ _ _ hl7 hv7); clear hl7 hv7)
    | (go_at_call 16; ((with_reducible refine (IS3.out _ (by (repeat' (first | (with_reducible exact Below.refl _ _) | (with_reducible refine Below.alloc ?_ ?_ _) | (with_reducible refine below_ext ?_ ?_ _) | (with_reducible refine Below.drew ?_) | (with_reducible refine below_drewN ?_ _) | (with_reducible refine Below.setCell ?_ ?_ _) | go_size | (simp only [go_sem]; omega) | (simp [go_sem]; done) | (simp [go_sem]; omega))))).mono ?_); rintro _ _ hgets; obtain ⟨rfl, x9, rfl⟩ := hgets.get; clear hgets)))
  go_returns
  exact ⟨rfl, hb4.trans (Below.mono (B := W4.heap.size) (by (repeat' (first | (with_reducible exact Below.refl _ _) | (with_reducible refine Below.alloc ?_ ?_ _) | (with_reducible refine below_ext ?_ ?_ _) | (with_reducible refine Below.drew ?_) | (with_reducible refine below_drewN ?_ _) | (with_reducible refine Below.setCell ?_ ?_ _) | go_size | (simp only [go_sem]; omega) | (simp [go_sem]; done) | (simp [go_sem]; omega)))) hb4.size)⟩
end Go.Proofs.YtpahcgappaifnaaGreat
