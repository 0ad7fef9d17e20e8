/- BookApart: the walk.  -/
import Derived.Test.YtpahcgappaifnaaBkPl
import Derived.Test.YtpahcgappaifnaaAwake8
namespace Go.Proofs.Ytpahcgappaifnaa
open Go.RowKit
set_option linter.unusedVariables false
set_option linter.unusedSimpArgs false

set_option maxRecDepth 100000 in
set_option maxHeartbeats 8000000 in
theorem BookApart_walk (w : World) (k : Int) (_wk : (Lit.int .i64 k).wf = true) (A : Option Addr) (C : Nat) (acts : List ActB) (rd : Rd ActB.cells 12 w A acts) (hl : acts.length ≤ C) (hm : C ≤ maxLen) (ha : ∀ a ∈ acts, a.Ok) (a : ActB) (hact : a.Ok) :
    Calls Try.prog 4 #[.int .i64 k, .slice A acts.length C, a.v] w (Gives w (.bool true)) := by
  obtain ⟨kd, an, tt, ⟨xt, xl, xb, xr⟩, pr, pc, ⟨yg, yr, yk⟩⟩ := a
  have hyo := hact.y
  simp only at hyo
  show Calls Try.prog 4 #[.int .i64 k, .slice A acts.length C, .agg #[.int .i64 kd, .int .i64 an, .int .i64 tt, .int .i64 xt, .int .i64 xl, .int .i64 xb, .int .i64 xr, .int .i64 pr, .int .i64 pc, .int .i32 yg, .int .u8 yr, .bool yk]] w _
  have AW := Lib.hid awake_8
  have PL := Lib.hid (fun w' (hb : Below w.heap.size w w') => played_c k acts A C w' (rd.below hb) ha (by simp only [maxLen] at hm; omega))
  have okT := playB_ok k ha
  generalize playB k acts = T at PL okT
  clear rd ha hact
  go_enter Try.func4, Try.ntmps4
  go_upto_region 4 with (first
    | (go_at_call 7; ((with_reducible refine (AW.out _).mono ?_); rintro _ _ hgets; obtain ⟨rfl, x1, rfl⟩ := hgets.get; clear hgets))
    | ((go_at_call 8); (with_reducible refine (PL.out _ (by (repeat' (first | (with_reducible exact Below.refl _ _) | (with_reducible refine Below.alloc ?_ ?_ _) | (with_reducible refine below_ext ?_ ?_ _) | (with_reducible refine Below.drew ?_) | (with_reducible refine below_drewN ?_ _) | (with_reducible refine Below.setCell ?_ ?_ _) | go_size | (simp only [go_sem]; omega) | (simp [go_sem]; done) | (simp [go_sem]; omega))))).mono ?_); (rintro _ w2 ⟨b, F, U, rfl, hb, hbk, hr, hF⟩); (obtain ⟨A2, c2, us2, ⟨tA, tm, tc, tn⟩, rfl, hr⟩ := hr); (simp only [RPg.V]); replace hb := Lib.hid hb; replace hbk := Lib.hid hbk; replace hr := Lib.hid hr; replace hF := Lib.hid hF))
  obtain ⟨W1, hW1⟩ : ∃ W1, W1 = ext (w.alloc (.cells #[.int .i64 kd, .int .i64 an, .int .i64 tt, .int .i64 xt, .int .i64 xl, .int .i64 xb, .int .i64 xr, .int .i64 pr, .int .i64 pc, .int .i32 yg, .int .u8 yr, .bool yk] 43)) x1 := ⟨_, rfl⟩
  have hb1 : Below w.heap.size w W1 := by rw [hW1]; (repeat' (first | (with_reducible exact Below.refl _ _) | (with_reducible refine Below.alloc ?_ ?_ _) | (with_reducible refine below_ext ?_ ?_ _) | (with_reducible refine Below.drew ?_) | (with_reducible refine below_drewN ?_ _) | (with_reducible refine Below.setCell ?_ ?_ _) | go_size | (simp only [go_sem]; omega) | (simp [go_sem]; done) | (simp [go_sem]; omega)))
  have hact1 : W1.heap[w.heap.size]? = some (.cells #[.int .i64 kd, .int .i64 an, .int .i64 tt, .int .i64 xt, .int .i64 xl, .int .i64 xb, .int .i64 xr, .int .i64 pr, .int .i64 pc, .int .i32 yg, .int .u8 yr, .bool yk] 43 (0, 0)) := by rw [hW1]; exact (block_ext _ _ (by simp)).trans (heap_alloc_new w _)
  rw [← hW1] at hb hr hF
  clear hW1
  obtain ⟨W3, hW3⟩ : ∃ W3, W3 = w2.alloc (.cells #[.slice A2 T.pages.length c2, .slice tA tm tc, .int .i64 tn, .int .i64 T.now, .bool T.below] 30) := ⟨_, rfl⟩
  have hg3 : Below w2.heap.size w2 W3 := by rw [hW3]; (repeat' (first | (with_reducible exact Below.refl _ _) | (with_reducible refine Below.alloc ?_ ?_ _) | (with_reducible refine below_ext ?_ ?_ _) | (with_reducible refine Below.drew ?_) | (with_reducible refine below_drewN ?_ _) | (with_reducible refine Below.setCell ?_ ?_ _) | go_size | (simp only [go_sem]; omega) | (simp [go_sem]; done) | (simp [go_sem]; omega)))
  have hv3 : W3.heap[w2.heap.size]? = some (.cells #[.slice A2 T.pages.length c2, .slice tA tm tc, .int .i64 tn, .int .i64 T.now, .bool T.below] 30 (0, 0)) := by rw [hW3]; exact heap_alloc_new _ _
  rw [← hW3]
  clear hW3
  have hb3 : Below w.heap.size w W3 := hb1.trans ((hb.out.trans (hg3.mono hb.out.size)).mono hb1.size)
  have ha3 := ((hb.out.trans (hg3.mono hb.out.size)).block _ (heap_in hact1)).trans hact1
  have hbk3 := hbk.out.grow hg3
  have hFlt := hbk.out.lt
  have hRB := Lib.hid (show RBo W3 F T A2 us2 ⟨tA, tm, tc, tn⟩ from ⟨(hr.out.grow hg3).ps.mono (fun x _ f => .inl f), (hr.out.grow hg3).st.mono (fun x _ f => .inl f)⟩)
  have hFw : ∀ x, F x → w.heap.size < x := fun x hx => by have := hF.out x hx; have := heap_in hact1; omega
  obtain ⟨Hv, hHv⟩ : ∃ Hv, Hv = w2.heap.size := ⟨_, rfl⟩
  rw [← hHv] at hv3 hFlt ⊢
  clear hHv hb1 hact1 hb hbk hr hF hg3
  replace hFlt := Lib.hid hFlt
  replace hFw := Lib.hid hFw
  replace hb3 := Lib.hid hb3
  obtain ⟨V, ps, st, hO⟩ := hbk3
  have LK := Lib.hid (fun x w' (hb : Below W3.heap.size W3 w') => look_b (hO.grow hb) x)
  have k1 : W3.cell? ⟨w.heap.size, 1, none⟩ = some (.int .i64 an) := by rw [cell_in ha3]; rfl
  have kl := heap_in ha3
  replace hO := Lib.hid hO
  go_upto_region 7 with ((go_at_call 10); (with_reducible refine (LK.out _ _ (by (repeat' (first | (with_reducible exact Below.refl _ _) | (with_reducible refine Below.alloc ?_ ?_ _) | (with_reducible refine below_ext ?_ ?_ _) | (with_reducible refine Below.drew ?_) | (with_reducible refine below_drewN ?_ _) | (with_reducible refine Below.setCell ?_ ?_ _) | go_size | (simp only [go_sem]; omega) | (simp [go_sem]; done) | (simp [go_sem]; omega))))).mono ?_); (rintro _ w4 ⟨rfl, hD⟩))
  generalize (an.tmod 2 == 0) = lk at hD ⊢
  have ok4 : (BkS.mk T.pages T.status T.now lk).Ok := ⟨okT.p1, okT.p2, okT.nw, okT.pg, okT.st⟩
  have ha4 := (hD.1.block _ kl (fun f => Nat.lt_irrefl _ (hFw.out _ f))).trans ha3
  obtain ⟨V4, ps4, st4, hO4⟩ := hD.2
  have TB := Lib.hid (fun w' (hb : Below w4.heap.size w4 w') => turn_b (hO4.grow hb) ok4 tt)
  have k2 : w4.cell? ⟨w.heap.size, 2, none⟩ = some (.int .i64 tt) := by rw [cell_in ha4]; rfl
  have kl4 := heap_in ha4
  have hlt4 := hO4.lt
  replace hD := Lib.hid hD
  clear hO4 LK k1 kl
  go_upto_region 8 with ((go_at_call 11); (with_reducible refine (TB.out _ (by (repeat' (first | (with_reducible exact Below.refl _ _) | (with_reducible refine Below.alloc ?_ ?_ _) | (with_reducible refine below_ext ?_ ?_ _) | (with_reducible refine Below.drew ?_) | (with_reducible refine below_drewN ?_ _) | (with_reducible refine Below.setCell ?_ ?_ _) | go_size | (simp only [go_sem]; omega) | (simp [go_sem]; done) | (simp [go_sem]; omega))))).mono ?_); (rintro _ w5 ⟨rfl, hE⟩))
  have hT2 : BDid F b ((BkS.mk T.pages T.status T.now lk).turn tt) W3 w5 := hD.out.trans hE hO.out.lt
  have ok5 := turn_ok ok4 tt
  have e5n : ((BkS.mk T.pages T.status T.now lk).turn tt).pages = T.pages ∧ ((BkS.mk T.pages T.status T.now lk).turn tt).status = T.status ∧ ((BkS.mk T.pages T.status T.now lk).turn tt).below = lk := ⟨rfl, rfl, rfl⟩
  generalize (BkS.mk T.pages T.status T.now lk).turn tt = T2 at hT2 ok5 e5n
  have ha5 := (hT2.1.block _ (heap_in ha3) (fun f => Nat.lt_irrefl _ (hFw.out _ f))).trans ha3
  obtain ⟨V5, ps5, st5, hO5⟩ := hT2.2
  obtain ⟨rb, hrb, hPb⟩ := hO5.sheet ok5
  have NW := Lib.hid (fun w' (hb : Below w5.heap.size w5 w') => now_b (hO5.grow hb))
  have ON := Lib.hid (fun w' (hb : Below w5.heap.size w5 w') => on_b (hO5.grow hb))
  rw [e5n.2.2] at ON
  have SH := Lib.hid (fun w' (hb : Below w5.heap.size w5 w') => sheet_b (hO5.grow hb) ok5 hrb)
  have BX := Lib.hid (fun w' (hb : Below w5.heap.size w5 w') => box_p (hPb.grow hb))
  have FI := Lib.hid (fun w' (hb : Below w5.heap.size w5 w') => fill_p (hPb.grow hb) (BkS.sheet_ok ok5) ⟨0, 0, T2.sheet.rows.length, T2.sheet.cols⟩ ⟨yg, yr, yk⟩)
  obtain ⟨P, hP⟩ : ∃ P, P = eachS T2.sheet (onB T2.sheet.rows.length T2.sheet.cols ⟨0, 0, T2.sheet.rows.length, T2.sheet.cols⟩) (fun xs l r => eachR xs l r fun _ => ⟨yg, yr, yk⟩) := ⟨_, rfl⟩
  rw [← hP] at FI
  have okP : P.Ok := by rw [hP]; exact eachS_ok (BkS.sheet_ok ok5) _ (fun xs l r => eachR_len _ _ _ _) (fun xs l r h => eachR_ok h (fun _ _ => hyo))
  have BK := Lib.hid (fun w' (hb : Below w5.heap.size w5 w') w6 (hd : Did rb.F rb.p P w' w6) => hT2.trans (hO5.act hrb (Did.back hd hb hPb.lt)).did hO.out.lt)
  have k9 : w5.cell? ⟨w.heap.size, 9, none⟩ = some (.int .i32 yg) := by rw [cell_in ha5]; rfl
  have k10 : w5.cell? ⟨w.heap.size, 10, none⟩ = some (.int .u8 yr) := by rw [cell_in ha5]; rfl
  have k11 : w5.cell? ⟨w.heap.size, 11, none⟩ = some (.bool yk) := by rw [cell_in ha5]; rfl
  have kl5 := heap_in ha5
  clear hP hO5 hrb hPb hE hT2 k2 kl4 hlt4 hD TB ha4 ha5
  go_upto_region 9 with (first
    | (go_at_call 12; ((with_reducible refine (NW.out _ (by (repeat' (first | (with_reducible exact Below.refl _ _) | (with_reducible refine Below.alloc ?_ ?_ _) | (with_reducible refine below_ext ?_ ?_ _) | (with_reducible refine Below.drew ?_) | (with_reducible refine below_drewN ?_ _) | (with_reducible refine Below.setCell ?_ ?_ _) | go_size | (simp only [go_sem]; omega) | (simp [go_sem]; done) | (simp [go_sem]; omega))))).mono ?_); rintro _ _ hgets; obtain ⟨rfl, x5, rfl⟩ := hgets.get; clear hgets))
    | (go_at_call 13; ((with_reducible refine (ON.out _ (by (repeat' (first | (with_reducible exact Below.refl _ _) | (with_reducible refine Below.alloc ?_ ?_ _) | (with_reducible refine below_ext ?_ ?_ _) | (with_reducible refine Below.drew ?_) | (with_reducible refine below_drewN ?_ _) | (with_reducible refine Below.setCell ?_ ?_ _) | go_size | (simp only [go_sem]; omega) | (simp [go_sem]; done) | (simp [go_sem]; omega))))).mono ?_); rintro _ _ hgets; obtain ⟨rfl, x6, rfl⟩ := hgets.get; clear hgets)))
  (refine wp_region_tail 7 (by kernel_rfl) (by kernel_rfl) ?_; simp only [List.take_succ_cons, List.take_zero, List.drop_succ_cons, List.drop_zero])
  repeat (go_big_quiet_step (first | ((go_at_call 14; with_reducible exact Calls.free (SH.out _ (by (repeat' (first | (with_reducible exact Below.refl _ _) | (with_reducible refine Below.alloc ?_ ?_ _) | (with_reducible refine below_ext ?_ ?_ _) | (with_reducible refine Below.drew ?_) | (with_reducible refine below_drewN ?_ _) | (with_reducible refine Below.setCell ?_ ?_ _) | go_size | (simp only [go_sem]; omega) | (simp [go_sem]; done) | (simp [go_sem]; omega))))))) | ((go_at_call 16; with_reducible exact Calls.free (BX.out _ (by (repeat' (first | (with_reducible exact Below.refl _ _) | (with_reducible refine Below.alloc ?_ ?_ _) | (with_reducible refine below_ext ?_ ?_ _) | (with_reducible refine Below.drew ?_) | (with_reducible refine below_drewN ?_ _) | (with_reducible refine Below.setCell ?_ ?_ _) | go_size | (simp only [go_sem]; omega) | (simp [go_sem]; done) | (simp [go_sem]; omega)))))))))
  refine wpQuiet_nil ?_; rintro _ ⟨x7, rfl⟩
  go_upto_region 10 with ((go_at_call 15); (with_reducible refine (FI.out _ (by (repeat' (first | (with_reducible exact Below.refl _ _) | (with_reducible refine Below.alloc ?_ ?_ _) | (with_reducible refine below_ext ?_ ?_ _) | (with_reducible refine Below.drew ?_) | (with_reducible refine below_drewN ?_ _) | (with_reducible refine Below.setCell ?_ ?_ _) | go_size | (simp only [go_sem]; omega) | (simp [go_sem]; done) | (simp [go_sem]; omega))))).mono ?_); (rintro _ w6 ⟨rfl, hd⟩); (have hT3 := BK.out _ (by (repeat' (first | (with_reducible exact Below.refl _ _) | (with_reducible refine Below.alloc ?_ ?_ _) | (with_reducible refine below_ext ?_ ?_ _) | (with_reducible refine Below.drew ?_) | (with_reducible refine below_drewN ?_ _) | (with_reducible refine Below.setCell ?_ ?_ _) | go_size | (simp only [go_sem]; omega) | (simp [go_sem]; done) | (simp [go_sem]; omega)))) _ hd); clear hd)
  clear k9 k10 k11 kl5 NW ON SH BX FI BK
  have ok3 : (T2.set T2.at P).Ok := ok5.set _ okP
  have hlen3 : (T2.set T2.at P).pages.length = T.pages.length := by rw [BkS.set_len, e5n.1]
  have hpg : ∀ i, (lk = true ∨ i ≠ T2.now) → (T2.set T2.at P).pages[i]? = T.pages[i]? := fun i hc => by
    have e1 := e5n.1
    have e3 := e5n.2.2
    have hnw := ok5.nw
    unfold BkS.set BkS.at
    rw [e3]
    cases lk
    · simp only [Bool.false_eq_true, if_false, hnw, if_true]
      have hne : i ≠ T2.now := hc.elim (fun h => by cases h) id
      rw [List.getElem?_set_ne (fun e => hne e.symm), e1]
    · simp [e1]
  have hst : lk = false → (T2.set T2.at P).status = T.status := fun hc => by
    unfold BkS.set BkS.at
    rw [e5n.2.2, hc]
    have hnw := ok5.nw
    simp only [Bool.false_eq_true, if_false, hnw, if_true]
    exact e5n.2.1
  generalize T2.set T2.at P = T3 at hT3 ok3 hlen3 hpg hst
  have hb6 : Below w.heap.size w w6 := hb3.out.trans (hT3.1.below (fun x f => Nat.le_of_lt (hFw.out x f)) hb3.out.size)
  have hv6 := (hT3.1.block Hv (heap_in hv3) (fun f => Nat.lt_irrefl _ (hFlt.out _ f))).trans hv3
  have R6 := hRB.out.keep hT3.1 (fun x h => h)
  obtain ⟨V6, ps6, st6, hO6⟩ := hT3.2
  have p2 := okT.p2
  have PG := Lib.hid (fun i (hi : i < T.pages.length) => (by
    have hi3 : i < T3.pages.length := by rw [hlen3]; exact hi
    obtain ⟨r, hr, -, hP⟩ := hO6.get hi3
    obtain ⟨q, L, o, -, hA, hq, d0, d1, hL⟩ := R6.ps.get hi
    exact ⟨r.p, q, L, o, hA, d0, d1, hL, fun w' hb => page_b (hO6.grow hb) ok3 hr, fun hc w' hb => is_c _ (by have e := hpg i hc; rw [List.getElem?_eq_getElem hi3, List.getElem?_eq_getElem hi] at e; rw [← Option.some.inj e]; exact hP.grow hb) (okT.pg _ (List.getElem_mem hi)) (hq.grow hb).v⟩ :
      ∃ (p : Nat) (q : RPg) (L o : Nat), A2 = some ⟨L, o, none⟩ ∧ w6.cell? ⟨L, o + i * 2, none⟩ = some q.V ∧ w6.cell? ⟨L, o + i * 2 + 1, none⟩ = some (.int .i64 q.n) ∧ L < w6.heap.size ∧
        (∀ w', Below w6.heap.size w6 w' → Calls Try.prog 18 #[ptrV b, .int .i64 i] w' (Gives w' (ptrV p))) ∧ ((lk = true ∨ i ≠ T2.now) → ∀ w', Below w6.heap.size w6 w' → Calls Try.prog 17 #[ptrV p, q.v] w' (Gives w' (.bool true)))))
  have ST := Lib.hid (fun w' (hb : Below w6.heap.size w6 w') => status_b (hO6.grow hb))
  have IS := Lib.hid (fun (hc : lk = false) w' (hb : Below w6.heap.size w6 w') => is_c _ (by rw [← hst hc]; exact hO6.stat.grow hb) okT.st (R6.st.grow hb).v)
  simp only [RPg.v, RPg.V] at PG IS
  obtain ⟨c0, c1, c2', c3, c4, vl, -⟩ := five hv6
  replace hb6 := Lib.hid hb6
  clear hT3 hO6 R6 hpg hst hlen3 ok3 ok4 ok5 okP e5n hv6 hv3 ha3 hRB hFlt hFw hb3 hO hyo
  go_wp2
  go_loopw [50] (fun iv wr => ∃ (j : Nat) (x : More), j ≤ T.pages.length ∧ iv = .int .i64 j ∧ wr = ext w6 x) (fun iv _ => T.pages.length - (intOf iv).toNat)
  case atStart => exact ⟨0, ⟨#[], w6.drawn⟩, by omega, rfl, by simp [ext]⟩
  case round =>
    obtain ⟨j, x, hj, rfl, rfl⟩ := hrel
    by_cases hlt : j < T.pages.length
    · obtain ⟨p, ⟨qA, qm, qc, qn⟩, L, o, rfl, d0, d1, hL, PGj, ISj⟩ := PG.out j hlt
      simp only [RPg.v, RPg.V] at d0 d1 ISj
      replace PGj := Lib.hid PGj
      cases hlk : lk
      · by_cases hn : j = T2.now
        · have hq : ((j : Int) != (T2.now : Int)) = false := by rw [hn]; simp
          clear hn ISj
          subst hlk
          go_wp2
          (refine wp_region_free (by kernel_rfl) (by kernel_rfl) ?_)
          repeat (go_big_quiet_step (fail))
          refine wpQuiet_nil ?_; rintro _ ⟨x3, rfl⟩
          go_wp2
          obtain ⟨x9, e9⟩ := ext_of (show Below w6.heap.size w6 (ext ((ext w6 x).alloc (.cells #[.slice qA qm qc, .int .i64 qn] 28)) x3) by (repeat' (first | (with_reducible exact Below.refl _ _) | (with_reducible refine Below.alloc ?_ ?_ _) | (with_reducible refine below_ext ?_ ?_ _) | (with_reducible refine Below.drew ?_) | (with_reducible refine below_drewN ?_ _) | (with_reducible refine Below.setCell ?_ ?_ _) | go_size | (simp only [go_sem]; omega) | (simp [go_sem]; done) | (simp [go_sem]; omega))))
          exact ⟨⟨j + 1, x9, by omega, by go_num, e9⟩, by simp [intOf]; omega⟩
        · have hq : ((j : Int) != (T2.now : Int)) = true := by rw [bne_iff_ne]; omega
          replace ISj := Lib.hid (ISj (.inr hn))
          clear hn
          subst hlk
          go_wp2
          (refine wp_region_free (by kernel_rfl) (by kernel_rfl) ?_)
          repeat (go_big_quiet_step (first | ((go_at_call 18; with_reducible exact Calls.free (PGj.out _ (by (repeat' (first | (with_reducible exact Below.refl _ _) | (with_reducible refine Below.alloc ?_ ?_ _) | (with_reducible refine below_ext ?_ ?_ _) | (with_reducible refine Below.drew ?_) | (with_reducible refine below_drewN ?_ _) | (with_reducible refine Below.setCell ?_ ?_ _) | go_size | (simp only [go_sem]; omega) | (simp [go_sem]; done) | (simp [go_sem]; omega))))))) | ((go_at_call 17; with_reducible exact Calls.free (ISj.out _ (by (repeat' (first | (with_reducible exact Below.refl _ _) | (with_reducible refine Below.alloc ?_ ?_ _) | (with_reducible refine below_ext ?_ ?_ _) | (with_reducible refine Below.drew ?_) | (with_reducible refine below_drewN ?_ _) | (with_reducible refine Below.setCell ?_ ?_ _) | go_size | (simp only [go_sem]; omega) | (simp [go_sem]; done) | (simp [go_sem]; omega)))))))))
          refine wpQuiet_nil ?_; rintro _ ⟨x3, rfl⟩
          go_wp2
          obtain ⟨x9, e9⟩ := ext_of (show Below w6.heap.size w6 (ext ((ext w6 x).alloc (.cells #[.slice qA qm qc, .int .i64 qn] 28)) x3) by (repeat' (first | (with_reducible exact Below.refl _ _) | (with_reducible refine Below.alloc ?_ ?_ _) | (with_reducible refine below_ext ?_ ?_ _) | (with_reducible refine Below.drew ?_) | (with_reducible refine below_drewN ?_ _) | (with_reducible refine Below.setCell ?_ ?_ _) | go_size | (simp only [go_sem]; omega) | (simp [go_sem]; done) | (simp [go_sem]; omega))))
          exact ⟨⟨j + 1, x9, by omega, by go_num, e9⟩, by simp [intOf]; omega⟩
      · replace ISj := Lib.hid (ISj (.inl hlk))
        subst hlk
        go_wp2
        (refine wp_region_free (by kernel_rfl) (by kernel_rfl) ?_)
        repeat (go_big_quiet_step (first | ((go_at_call 18; with_reducible exact Calls.free (PGj.out _ (by (repeat' (first | (with_reducible exact Below.refl _ _) | (with_reducible refine Below.alloc ?_ ?_ _) | (with_reducible refine below_ext ?_ ?_ _) | (with_reducible refine Below.drew ?_) | (with_reducible refine below_drewN ?_ _) | (with_reducible refine Below.setCell ?_ ?_ _) | go_size | (simp only [go_sem]; omega) | (simp [go_sem]; done) | (simp [go_sem]; omega))))))) | ((go_at_call 17; with_reducible exact Calls.free (ISj.out _ (by (repeat' (first | (with_reducible exact Below.refl _ _) | (with_reducible refine Below.alloc ?_ ?_ _) | (with_reducible refine below_ext ?_ ?_ _) | (with_reducible refine Below.drew ?_) | (with_reducible refine below_drewN ?_ _) | (with_reducible refine Below.setCell ?_ ?_ _) | go_size | (simp only [go_sem]; omega) | (simp [go_sem]; done) | (simp [go_sem]; omega)))))))))
        refine wpQuiet_nil ?_; rintro _ ⟨x3, rfl⟩
        go_wp2
        obtain ⟨x9, e9⟩ := ext_of (show Below w6.heap.size w6 (ext ((ext w6 x).alloc (.cells #[.slice qA qm qc, .int .i64 qn] 28)) x3) by (repeat' (first | (with_reducible exact Below.refl _ _) | (with_reducible refine Below.alloc ?_ ?_ _) | (with_reducible refine below_ext ?_ ?_ _) | (with_reducible refine Below.drew ?_) | (with_reducible refine below_drewN ?_ _) | (with_reducible refine Below.setCell ?_ ?_ _) | go_size | (simp only [go_sem]; omega) | (simp [go_sem]; done) | (simp [go_sem]; omega))))
        exact ⟨⟨j + 1, x9, by omega, by go_num, e9⟩, by simp [intOf]; omega⟩
    · obtain rfl : j = T.pages.length := by omega
      clear PG
      cases hlk : lk
      · replace IS := Lib.hid (IS.out hlk)
        subst hlk
        go_wp2
        (refine wp_region_free (by kernel_rfl) (by kernel_rfl) ?_)
        repeat (go_big_quiet_step (first | ((go_at_call 19; with_reducible exact Calls.free (ST.out _ (by (repeat' (first | (with_reducible exact Below.refl _ _) | (with_reducible refine Below.alloc ?_ ?_ _) | (with_reducible refine below_ext ?_ ?_ _) | (with_reducible refine Below.drew ?_) | (with_reducible refine below_drewN ?_ _) | (with_reducible refine Below.setCell ?_ ?_ _) | go_size | (simp only [go_sem]; omega) | (simp [go_sem]; done) | (simp [go_sem]; omega))))))) | ((go_at_call 17; with_reducible exact Calls.free (IS.out _ (by (repeat' (first | (with_reducible exact Below.refl _ _) | (with_reducible refine Below.alloc ?_ ?_ _) | (with_reducible refine below_ext ?_ ?_ _) | (with_reducible refine Below.drew ?_) | (with_reducible refine below_drewN ?_ _) | (with_reducible refine Below.setCell ?_ ?_ _) | go_size | (simp only [go_sem]; omega) | (simp [go_sem]; done) | (simp [go_sem]; omega)))))))))
        refine wpQuiet_nil ?_; rintro _ ⟨x3, rfl⟩
        go_wp2
        go_returns
        exact ⟨rfl, hb6.out.trans (Below.mono (B := w6.heap.size) (by (repeat' (first | (with_reducible exact Below.refl _ _) | (with_reducible refine Below.alloc ?_ ?_ _) | (with_reducible refine below_ext ?_ ?_ _) | (with_reducible refine Below.drew ?_) | (with_reducible refine below_drewN ?_ _) | (with_reducible refine Below.setCell ?_ ?_ _) | go_size | (simp only [go_sem]; omega) | (simp [go_sem]; done) | (simp [go_sem]; omega)))) hb6.out.size)⟩
      · subst hlk
        go_wp2
        (refine wp_region_free (by kernel_rfl) (by kernel_rfl) ?_)
        repeat (go_big_quiet_step (fail))
        refine wpQuiet_nil ?_; rintro _ ⟨x3, rfl⟩
        go_wp2
        go_returns
        exact ⟨rfl, hb6.out.trans (Below.mono (B := w6.heap.size) (by (repeat' (first | (with_reducible exact Below.refl _ _) | (with_reducible refine Below.alloc ?_ ?_ _) | (with_reducible refine below_ext ?_ ?_ _) | (with_reducible refine Below.drew ?_) | (with_reducible refine below_drewN ?_ _) | (with_reducible refine Below.setCell ?_ ?_ _) | go_size | (simp only [go_sem]; omega) | (simp [go_sem]; done) | (simp [go_sem]; omega)))) hb6.out.size)⟩
end Go.Proofs.Ytpahcgappaifnaa
