/- Pages: Copy.  -/
import Derived.Test.YtignkkejkknddaaGreatPgB
import Derived.Test.YtignkkejkknddaaGreatRegionF
import Derived.Test.YtignkkejkknddaaGreatPgA
import Derived.Test.YtignkkejkknddaaGreatLineD
namespace Go.Proofs.YtignkkejkknddaaGreat
open Go.RowKit
set_option linter.unusedVariables false
set_option linter.unusedSimpArgs false

attribute [local go_sem ↓] slice_from
theorem rd_cut {w : World} {a : Option Addr} {k : Nat} {xs : List Cl} (h : Rd encC 3 w a xs) (hk : xs.length ≤ k) (m : Nat) : Rd encC 3 w (cutA a k m) (xs.drop m) := fun h0 => by
  have h1 : m < xs.length := by rw [List.length_drop] at h0; omega
  obtain ⟨b, off, e, hd⟩ := h.drop (k := m) h1
  unfold cutA
  rw [if_neg (by omega), e, show Option.map (fun x : Addr => x.add (m * 3)) (some ⟨b, off, none⟩) = some ⟨b, off + m * 3, none⟩ by simp [addr_add]]
  exact hd h0
section
variable {F G : Nat → Prop} {p q : Nat} {S T : PgS} {w : World}
set_option maxRecDepth 100000 in
set_option maxHeartbeats 8000000 in
theorem copy_p (h : PageAt w F p S) (hS : S.Ok) (k : PageAt w G q T) (hT : T.Ok) (b : BxI) (r c : Int) (hr : -9223372036854775808 ≤ r) (hc : -9223372036854775808 ≤ c) :
    Calls Tryz.prog 98 #[.pointer (some ⟨p, 0, none⟩), .pointer (some ⟨q, 0, none⟩), boxV b.t b.l b.b b.r, .agg #[.int .i64 r, .int .i64 c]] w (fun e w' => e = .returned (.tuple #[]) ∧ Did F p (pasteS S T (onB T.rows.length T.cols b) r c) w w') := by
  have ON := Lib.hid (fun w' (hb : Below w.heap.size w w') => on_p (k.grow hb) b)
  have CE := Lib.hid (fun w' (hb : Below w.heap.size w w') => cells_p (k.grow hb) hT (onB T.rows.length T.cols b))
  rw [onB_twice] at CE
  have HB := onB_in T.rows.length T.cols b
  have hT2 := Lib.hid hT
  have hS2 := Lib.hid hS
  have hP := Lib.hid h
  have pl := h.lt p h.self
  generalize onB T.rows.length T.cols b = y at ON CE HB ⊢
  obtain ⟨bt, bl, bb, br⟩ := y
  obtain ⟨xt, xl, xb, xr⟩ := b
  simp only at ON CE HB ⊢
  clear h k hS hT
  obtain ⟨m, hm⟩ : ∃ m : Nat, m = (bb - bt).toNat := ⟨_, rfl⟩
  have hfin : pasteS S T ⟨bt, bl, bb, br⟩ r c = pasteJ S T ⟨bt, bl, bb, br⟩ r c m := by unfold pasteS; simp only [← hm]
  rw [hfin]
  have hcl : cellsS T ⟨bt, bl, bb, br⟩ = (List.range m).map fun i => cutR (T.rows.getD (bt.toNat + i) ([], 0)).1 bl br := by
    unfold cellsS
    simp only [← hm]
  rw [hcl] at CE
  clear hfin hcl
  replace hm := Lib.hid hm
  go_enter Tryz.func98, Tryz.ntmps98
  go_wp2_with (first
    | (go_at_call 92; ((with_reducible refine (ON.out _ (by (repeat' (first | (with_reducible exact Below.refl _ _) | (with_reducible refine Below.alloc ?_ ?_ _) | (with_reducible refine below_ext ?_ ?_ _) | (with_reducible refine Below.drew ?_) | (with_reducible refine below_drewN ?_ _) | (with_reducible refine Below.setCell ?_ ?_ _) | go_size | (simp only [go_sem]; omega) | (simp [go_sem]; done) | (simp [go_sem]; omega))))).mono ?_); rintro _ _ hgets; obtain ⟨rfl, x1, rfl⟩ := hgets.get; clear hgets))
    | (go_at_call 44
       (with_reducible refine (CE.out _ (by (repeat' (first | (with_reducible exact Below.refl _ _) | (with_reducible refine Below.alloc ?_ ?_ _) | (with_reducible refine below_ext ?_ ?_ _) | (with_reducible refine Below.drew ?_) | (with_reducible refine below_drewN ?_ _) | (with_reducible refine Below.setCell ?_ ?_ _) | go_size | (simp only [go_sem]; omega) | (simp [go_sem]; done) | (simp [go_sem]; omega))))).mono ?_)
       rintro _ _ ⟨V, rws, x2, rfl, rfl, hC, hV⟩
       obtain ⟨A0, c0, rfl, hc1, hc2⟩ := hC.own.form
       replace hC := Lib.hid hC
       replace hV := Lib.hid hV))
  obtain ⟨W1, hW⟩ : ∃ W1, W1 = ext (ext ((w.alloc (.cells #[.int .i64 bt, .int .i64 bl, .int .i64 bb, .int .i64 br] 31)).alloc (.cells #[.int .i64 r, .int .i64 c] 52)) x1) x2 := ⟨_, rfl⟩
  have hbW : Below w.heap.size w W1 := by rw [hW]; (repeat' (first | (with_reducible exact Below.refl _ _) | (with_reducible refine Below.alloc ?_ ?_ _) | (with_reducible refine below_ext ?_ ?_ _) | (with_reducible refine Below.drew ?_) | (with_reducible refine below_drewN ?_ _) | (with_reducible refine Below.setCell ?_ ?_ _) | go_size | (simp only [go_sem]; omega) | (simp [go_sem]; done) | (simp [go_sem]; omega)))
  have t0 : W1.cell? ⟨w.heap.size + 1, 0, none⟩ = some (.int .i64 r) := by rw [hW]; simp [go_sem]
  have t1 : W1.cell? ⟨w.heap.size + 1, 1, none⟩ = some (.int .i64 c) := by rw [hW]; simp [go_sem]
  have hs1 : w.heap.size + 1 < W1.heap.size := by rw [hW]; simp; omega
  have hC2 : CellsAt w.heap.size W1 (.slice A0 rws.length c0) rws := by rw [hW]; exact hC.out.mono (by simp; omega)
  have hPW := hP.out.grow hbW
  have hFl := hP.out.lt
  rw [← hW]
  have hml : rws.length = m := by have := congrArg List.length hV.out; simpa using this
  rw [hml]
  rw [hml] at hC2
  have hT0 := Lib.hid t0
  have hT1 := Lib.hid t1
  replace hC := Lib.hid hC2
  replace hbW := Lib.hid hbW
  replace hFl := Lib.hid hFl
  clear hW ON CE hC2 hml x1 x2 t0 t1 hc1 hc2
  have hend := Lib.hid (fun wz (hD : Did F p (pasteJ S T ⟨bt, bl, bb, br⟩ r c m) W1 wz) => Did.back hD hbW.out hFl.out)
  have h0 : Did F p (pasteJ S T ⟨bt, bl, bb, br⟩ r c 0) W1 W1 := by rw [pasteJ_zero]; exact Did.refl hPW
  replace h0 := Lib.hid h0
  replace hPW := Lib.hid hPW
  go_loopw [19] (fun iv wr => ∃ (j : Nat), j ≤ m ∧ iv = .int .i64 j ∧ Hid (Did F p (pasteJ S T ⟨bt, bl, bb, br⟩ r c j) W1 wr)) (fun iv _ => (m - (intOf iv).toNat))
  case atStart => exact ⟨0, by omega, rfl, h0⟩
  case round =>
    obtain ⟨j, hj, rfl, hD⟩ := hrel
    by_cases hlt : j < m
    · have hk := hD.out.1
      have hCj := hC.out.keep hk hFl.out
      have hjr : j < rws.length := by have := congrArg List.length hV.out; simp at this; omega
      obtain ⟨gb, off, rfl, hbl, hce⟩ := (hCj.own.rd encQ_len).cell1 hjr rfl
      obtain ⟨hn1, hrd⟩ := hCj.rd _ (List.getElem_mem hjr)
      have hcap := (hCj.sep.live _ (List.mem_map.2 ⟨_, List.getElem_mem hjr, rfl⟩)).le
      have hxs : rws[j].2 = cutR (T.rows.getD (bt.toNat + j) ([], 0)).1 bl br := by
        have h5 : (rws.map Prod.snd)[j]'(by simpa using hjr) = ((List.range m).map fun i => cutR (T.rows.getD (bt.toNat + i) ([], 0)).1 bl br)[j]'(by simpa using hlt) := by
          simp only [hV.out]
        simpa using h5
      obtain ⟨A, n, c1, rows, H⟩ := hD.out.2.op
      have Hn := H.n
      rw [pasteJ_len] at Hn
      have p0 := H.c0
      have p1 := H.c1
      have plr := H.plt
      have ht0 : wr.cell? ⟨w.heap.size + 1, 0, none⟩ = some (.int .i64 r) := (cell_of_heap (hk.block _ hs1 (fun f => by have := hFl.out _ f; omega))).trans hT0.out
      have ht1 : wr.cell? ⟨w.heap.size + 1, 1, none⟩ = some (.int .i64 c) := (cell_of_heap (hk.block _ hs1 (fun f => by have := hFl.out _ f; omega))).trans hT1.out
      have hsr := Nat.lt_of_lt_of_le hs1 hk.size
      replace p1 : wr.cell? ⟨p, 1, none⟩ = some (.int .i64 S.cols) := p1
      have hskip := Lib.hid (fun wz (hb : Below wr.heap.size wr wz) (e : pasteJ S T ⟨bt, bl, bb, br⟩ r c (j + 1) = pasteJ S T ⟨bt, bl, bb, br⟩ r c j) => (by rw [e]; exact hD.out.grow hb : Did F p (pasteJ S T ⟨bt, bl, bb, br⟩ r c (j + 1)) W1 wz))
      have TH := Lib.hid (fun (i : Int) w' (hb : Below wr.heap.size wr w') => there_p (hD.out.2.grow hb) i)
      rw [pasteJ_len] at TH
      have hS := hS2.out
      have hT := hT2.out
      have hm' := hm.out
      have hin : bt.toNat + j < T.rows.length := by omega
      have hcl : cutR (T.rows.getD (bt.toNat + j) ([], 0)).1 bl br = rws[j].2 := hxs.symm
      have hlen : (rws[j].2.length : Int) = br - bl := by
        rw [hxs, cutR_len]
        simp only [hin, List.getD_eq_getElem?_getD, List.getElem?_eq_getElem, Option.getD_some, hT.len hin]
        unfold spanN
        omega
      have hstep := Lib.hid (fun (i0 : Nat) (hi : r + j = i0) (hi0 : i0 < S.rows.length) (hcc : c ≤ S.cols) (f : Int) (hf : f = max 0 c) (d : Nat) (hd : d = (-c).toNat) => pasteJ_step (b := ⟨bt, bl, bb, br⟩) hS hT (show (0 : Int) ≤ bl by omega) (show bl < br by omega) (show br ≤ T.cols by omega) (show (0 : Int) ≤ bt by omega) hin i0 hi hi0 hcc _ hxs f hf d hd)
      generalize rws[j] = rx at hce hn1 hrd hxs hcl hlen hstep hcap
      obtain ⟨rw1, cs⟩ := rx
      replace hce : wr.cell? ⟨gb, off + j, none⟩ = some (.slice rw1.adr cs.length rw1.c) := by rw [hce, ← hn1]; rfl
      replace hrd := Lib.hid hrd
      have hno := Lib.hid (fun (h : r + j < 0 ∨ (S.rows.length : Int) ≤ r + j) => pasteJ_no (S := S) (T := T) (b := ⟨bt, bl, bb, br⟩) (r := r) (c := c) (j := j) h)
      have hri := Lib.hid (fun (h : (S.cols : Int) < c) => pasteJ_right (S := S) (T := T) (b := ⟨bt, bl, bb, br⟩) (r := r) (c := c) (j := j) hS h)
      have hle := Lib.hid (fun (h : c ≤ -(br - bl)) => pasteJ_left (S := S) (T := T) (b := ⟨bt, bl, bb, br⟩) (r := r) (c := c) (j := j) h)
      have hr2 := hS.r2
      have hT3 := hT.r2
      have hc5 := hS.c2
      replace H := Lib.hid H
      have hb2 : bl < br := by omega
      have hcs5 : cs.length ≤ 500 := by have := hT.c2; simp only at hlen; omega
      have hm5 : m ≤ 500 := by omega
      simp only at hn1 hlen hcap
      rw [hn1] at hcap
      have hc15 := hS.c1
      have hSl := Lib.hid (fun i hi => hS.len (i := i) hi)
      clear hk hCj hS hT hxs hcl hm' hin
      replace hb2 := Lib.hid hb2
      subst Hn
      by_cases cA : (S.rows.length : Int) < r
      · have bA : decide ((S.rows.length : Int) < r) = true := decide_eq_true cA
        go_wp2
        (refine wp_region_free (by kernel_rfl) (by kernel_rfl) ?_)
        repeat (go_big_quiet_step (fail))
        refine wpQuiet_nil ?_; rintro _ ⟨x5, rfl⟩
        go_wp2
        (refine wp_region_free (by kernel_rfl) (by kernel_rfl) ?_)
        repeat (go_big_quiet_step (fail))
        refine wpQuiet_nil ?_; rintro _ ⟨x6, rfl⟩
        go_wp2
        refine ⟨⟨j + 1, by omega, by go_num, Lib.hid (hskip.out _ ?_ (hno.out (by omega)))⟩, by simp [intOf]; omega⟩
        (repeat' (first | (with_reducible exact Below.refl _ _) | (with_reducible refine Below.alloc ?_ ?_ _) | (with_reducible refine below_ext ?_ ?_ _) | (with_reducible refine Below.drew ?_) | (with_reducible refine below_drewN ?_ _) | (with_reducible refine Below.setCell ?_ ?_ _) | go_size | (simp only [go_sem]; omega) | (simp [go_sem]; done) | (simp [go_sem]; omega)))
      have bA : decide ((S.rows.length : Int) < r) = false := decide_eq_false cA
      have hw1 : IntKind.i64.wrap (r + j) = r + j := wrap_i64 (by omega) (by omega)
      by_cases cB : (S.cols : Int) < c
      · have bB : decide ((S.cols : Int) < c) = true := decide_eq_true cB
        go_wp2
        (refine wp_region_free (by kernel_rfl) (by kernel_rfl) ?_)
        repeat (go_big_quiet_step (fail))
        refine wpQuiet_nil ?_; rintro _ ⟨x5, rfl⟩
        go_wp2
        (refine wp_region_free (by kernel_rfl) (by kernel_rfl) ?_)
        repeat (go_big_quiet_step (fail))
        refine wpQuiet_nil ?_; rintro _ ⟨x6, rfl⟩
        go_wp2
        refine ⟨⟨j + 1, by omega, by go_num, Lib.hid (hskip.out _ ?_ (hri.out cB))⟩, by simp [intOf]; omega⟩
        (repeat' (first | (with_reducible exact Below.refl _ _) | (with_reducible refine Below.alloc ?_ ?_ _) | (with_reducible refine below_ext ?_ ?_ _) | (with_reducible refine Below.drew ?_) | (with_reducible refine below_drewN ?_ _) | (with_reducible refine Below.setCell ?_ ?_ _) | go_size | (simp only [go_sem]; omega) | (simp [go_sem]; done) | (simp [go_sem]; omega)))
      have bB : decide ((S.cols : Int) < c) = false := decide_eq_false cB
      cases bC : thereI S.rows.length (r + j)
      · have cC : r + j < 0 ∨ (S.rows.length : Int) ≤ r + j := by
          unfold thereI at bC
          simp at bC
          omega
        have TI := Lib.hid (TH.out (r + j))
        rw [bC] at TI
        clear bC
        go_wp2
        (refine wp_region_free (by kernel_rfl) (by kernel_rfl) ?_)
        repeat (go_big_quiet_step (fail))
        refine wpQuiet_nil ?_; rintro _ ⟨x5, rfl⟩
        go_wp2
        (refine wp_region_free (by kernel_rfl) (by kernel_rfl) ?_)
        repeat (go_big_quiet_step ((go_at_call 61; with_reducible exact Calls.free (TI.out _ (by (repeat' (first | (with_reducible exact Below.refl _ _) | (with_reducible refine Below.alloc ?_ ?_ _) | (with_reducible refine below_ext ?_ ?_ _) | (with_reducible refine Below.drew ?_) | (with_reducible refine below_drewN ?_ _) | (with_reducible refine Below.setCell ?_ ?_ _) | go_size | (simp only [go_sem]; omega) | (simp [go_sem]; done) | (simp [go_sem]; omega))))))))
        refine wpQuiet_nil ?_; rintro _ ⟨x6, rfl⟩
        go_wp2
        refine ⟨⟨j + 1, by omega, by go_num, Lib.hid (hskip.out _ ?_ (hno.out cC))⟩, by simp [intOf]; omega⟩
        (repeat' (first | (with_reducible exact Below.refl _ _) | (with_reducible refine Below.alloc ?_ ?_ _) | (with_reducible refine below_ext ?_ ?_ _) | (with_reducible refine Below.drew ?_) | (with_reducible refine below_drewN ?_ _) | (with_reducible refine Below.setCell ?_ ?_ _) | go_size | (simp only [go_sem]; omega) | (simp [go_sem]; done) | (simp [go_sem]; omega)))
      have cC : 0 ≤ r + j ∧ r + j < S.rows.length := by
        unfold thereI at bC
        simp at bC
        omega
      have TI := Lib.hid (TH.out (r + j))
      rw [bC] at TI
      clear bC
      by_cases cD : c < 0 ∧ c ≤ -(cs.length : Int)
      · have bD : decide (c < 0) = true := decide_eq_true cD.1
        go_wp2
        (refine wp_region_free (by kernel_rfl) (by kernel_rfl) ?_)
        repeat (go_big_quiet_step (fail))
        refine wpQuiet_nil ?_; rintro _ ⟨x5, rfl⟩
        go_wp2
        (refine wp_region_free (by kernel_rfl) (by kernel_rfl) ?_)
        repeat (go_big_quiet_step ((go_at_call 61; with_reducible exact Calls.free (TI.out _ (by (repeat' (first | (with_reducible exact Below.refl _ _) | (with_reducible refine Below.alloc ?_ ?_ _) | (with_reducible refine below_ext ?_ ?_ _) | (with_reducible refine Below.drew ?_) | (with_reducible refine below_drewN ?_ _) | (with_reducible refine Below.setCell ?_ ?_ _) | go_size | (simp only [go_sem]; omega) | (simp [go_sem]; done) | (simp [go_sem]; omega))))))))
        refine wpQuiet_nil ?_; rintro _ ⟨x6, rfl⟩
        go_wp2
        refine ⟨⟨j + 1, by omega, by go_num, Lib.hid (hskip.out _ ?_ (hle.out (by omega)))⟩, by simp [intOf]; omega⟩
        (repeat' (first | (with_reducible exact Below.refl _ _) | (with_reducible refine Below.alloc ?_ ?_ _) | (with_reducible refine below_ext ?_ ?_ _) | (with_reducible refine Below.drew ?_) | (with_reducible refine below_drewN ?_ _) | (with_reducible refine Below.setCell ?_ ?_ _) | go_size | (simp only [go_sem]; omega) | (simp [go_sem]; done) | (simp [go_sem]; omega)))
      obtain ⟨i0, hi0⟩ := Int.eq_ofNat_of_zero_le cC.1
      have hi1 : i0 < S.rows.length := by omega
      obtain ⟨L, rfl⟩ := H.out.some (by rw [pasteJ_len]; omega)
      obtain ⟨g, kk, xs, z, e1, e2, hA, h1, h2, d0, d1, hfz, d3⟩ := H.out.at2 (i := i0) (by rw [pasteJ_len]; omega)
      rw [pasteJ_at hi0 hi1] at e1
      have hxl := hSl.out i0 hi1
      rw [e1] at hxl
      simp only at hxl
      have z0 := hfz (i0 * 2)
      have z1 := hfz (i0 * 2 + 1)
      have hpL : ¬ p = L := fun e => H.out.off L (.inl rfl) e.symm
      have hpL2 : ¬ L = p := fun e => hpL e.symm
      have hWL : L < wr.heap.size := d3
      obtain ⟨d, hd⟩ : ∃ d : Nat, d = (-c).toNat := ⟨_, rfl⟩
      obtain ⟨f, hf⟩ : ∃ f : Int, f = max 0 c := ⟨_, rfl⟩
      have hst := hstep.out i0 hi0 hi1 (by omega) f hf d hd
      rw [e1] at hst
      simp only at hst
      have hyl : (layR xs f S.cols (cs.drop d)).length = S.cols := by rw [layR_len, hxl]
      have X := Lib.hid hA.rd
      have Y := rd_cut hrd.out hcap d
      have LA := Lib.hid (fun a2 n2 k2 w' (e : n2 = cs.length - d) (h : Rd encC 3 w' (some ⟨g, 0, none⟩) xs) (h2 : Rd encC 3 w' a2 (cs.drop d)) => (by
        rw [e, ← List.length_drop]
        exact lay_l (some ⟨g, 0, none⟩) kk z xs f S.cols a2 k2 (cs.drop d) w' h (fun e => by cases e) (by omega) (by omega) h2 : Calls Tryz.prog 119 #[lineV (some ⟨g, 0, none⟩) xs.length kk z, .int .i64 f, .int .i64 S.cols, .slice a2 n2 k2] w' (NewL w' (layR xs f S.cols (cs.drop d)) z)))
      have hD2 : ∀ x g' k', RowM.At (ext wr x) ⟨g', k', layR xs f S.cols (cs.drop d), z⟩ → wr.heap.size ≤ g' → Did F p (pasteJ S T ⟨bt, bl, bb, br⟩ r c (j + 1)) W1 (((ext wr x).setCell ⟨L, i0 * 2, none⟩ (.slice (some ⟨g', 0, none⟩) (layR xs f S.cols (cs.drop d)).length k')).setCell ⟨L, i0 * 2 + 1, none⟩ (.int .i64 z)) := fun x g' k' hR hg => by
        rw [hst]
        exact hD.out.trans (Did.row (x := x) H.out (by rw [pasteJ_len]; exact hi1) hR hg) (fun b hb => by have := hFl.out b hb; have := hbW.out.size; omega)
      replace hD2 := Lib.hid hD2
      generalize layR xs f S.cols (cs.drop d) = ys at hD2 LA hyl
      have hpos := Lib.hid (show 0 < ys.length by omega)
      have hdl := Lib.hid (List.length_drop (i := d) (l := cs))
      replace hxl := Lib.hid hxl
      replace hyl := Lib.hid hyl
      have hcE : ∀ u v : Int, u = v → (Value.int .i64 u) = .int .i64 v := fun u v e => by rw [e]
      clear hst hstep hfz hskip hno hri hle e1 e2 hA
      rw [hi0] at hw1 TI
      have hq1 : (i0 : Int) < 500 := by omega
      by_cases cE : c < 0
      · have bE : decide (c < 0) = true := decide_eq_true cE
        obtain rfl : c = -(d : Int) := by omega
        obtain rfl : f = 0 := by omega
        unfold cutA at Y
        rw [if_neg (by omega)] at Y
        replace Y := Lib.hid Y
        clear hd hf
        go_wp2
        (refine wp_region_free (by kernel_rfl) (by kernel_rfl) ?_)
        repeat (go_big_quiet_step (fail))
        refine wpQuiet_nil ?_; rintro _ ⟨x5, rfl⟩
        go_wp2
        (refine wp_region_free (by kernel_rfl) (by kernel_rfl) ?_)
        repeat (go_big_quiet_step ((go_at_call 61; with_reducible exact Calls.free (TI.out _ (by (repeat' (first | (with_reducible exact Below.refl _ _) | (with_reducible refine Below.alloc ?_ ?_ _) | (with_reducible refine below_ext ?_ ?_ _) | (with_reducible refine Below.drew ?_) | (with_reducible refine below_drewN ?_ _) | (with_reducible refine Below.setCell ?_ ?_ _) | go_size | (simp only [go_sem]; omega) | (simp [go_sem]; done) | (simp [go_sem]; omega))))))))
        refine wpQuiet_nil ?_; rintro _ ⟨x6, rfl⟩
        go_wp2
        (refine wp_region_F (S := (fun w' => w'.cell? ⟨p, 0, none⟩ = some (.slice (some ⟨L, 0, none⟩) S.rows.length c1) ∧ w'.cell? ⟨p, 1, none⟩ = some (.int .i64 S.cols) ∧ w'.cell? ⟨L, i0 * 2, none⟩ = some (.slice (some ⟨g, 0, none⟩) xs.length kk) ∧ w'.cell? ⟨L, i0 * 2 + 1, none⟩ = some (.int .i64 z))) 20 [false, false, false, false, false, false, false, false, false, false, false, false, false, false, false, false, false, false, false, false, false] rfl rfl (by kernel_rfl) ?_ (fun hHeld => ?_); (focus ((try dsimp only); (refine ⟨?_, ?_, ?_, ?_⟩ <;> simp [go_sem, p0, p1, plr, d0, d1, hpL, hpL2, hWL]); done)))
        ((refine AtF.take (oi := ?_) (v := ?_) 0 ?_ ?_ ?_ ?_ (Or.inl ⟨?_, ?_⟩) (by assumption) ?_; rotate_left 2; rfl; kernel_rfl; kernel_rfl; exact (fun _ _ _ h => h); rfl; (focus (intro w hSw; (try dsimp only at hSw); go_simp; (try with_reducible rfl); done)); (try simp only [Act.put, List.setIfInBounds_toArray, List.set_cons_zero, List.set_cons_succ])); (refine AtF.take (oi := ?_) (v := ?_) 1 ?_ ?_ ?_ ?_ (Or.inl ⟨?_, ?_⟩) (by assumption) ?_; rotate_left 2; rfl; kernel_rfl; kernel_rfl; exact (fun _ _ _ h => h); rfl; (focus (intro w hSw; (try dsimp only at hSw); go_simp; (try with_reducible rfl); done)); (try simp only [Act.put, List.setIfInBounds_toArray, List.set_cons_zero, List.set_cons_succ])); (refine AtF.take (oi := ?_) (v := ?_) 2 ?_ ?_ ?_ ?_ (Or.inl ⟨?_, ?_⟩) (by assumption) ?_; rotate_left 2; rfl; kernel_rfl; kernel_rfl; exact (fun _ _ _ h => h); rfl; (focus (intro w hSw; (try dsimp only at hSw); go_simp; (try with_reducible rfl); done)); (try simp only [Act.put, List.setIfInBounds_toArray, List.set_cons_zero, List.set_cons_succ])); (refine AtF.take (oi := ?_) (v := ?_) 3 ?_ ?_ ?_ ?_ (Or.inl ⟨?_, ?_⟩) (by assumption) ?_; rotate_left 2; rfl; kernel_rfl; kernel_rfl; exact (fun _ _ _ h => h); rfl; (focus (intro w hSw; (try dsimp only at hSw); go_simp; (try with_reducible rfl); done)); (try simp only [Act.put, List.setIfInBounds_toArray, List.set_cons_zero, List.set_cons_succ])); (refine AtF.take (oi := ?_) (v := ?_) 4 ?_ ?_ ?_ ?_ (Or.inl ⟨?_, ?_⟩) (by assumption) ?_; rotate_left 2; rfl; kernel_rfl; kernel_rfl; exact (fun _ _ _ h => h); rfl; (focus (intro w hSw; (try dsimp only at hSw); go_simp; (try with_reducible rfl); done)); (try simp only [Act.put, List.setIfInBounds_toArray, List.set_cons_zero, List.set_cons_succ])); (refine AtF.take (oi := ?_) (v := ?_) 5 ?_ ?_ ?_ ?_ (Or.inl ⟨?_, ?_⟩) (by assumption) ?_; rotate_left 2; rfl; kernel_rfl; kernel_rfl; exact (fun _ _ _ h => h); rfl; (focus (intro w hSw; (try dsimp only at hSw); go_simp; (try with_reducible rfl); done)); (try simp only [Act.put, List.setIfInBounds_toArray, List.set_cons_zero, List.set_cons_succ])); (refine AtF.take (oi := ?_) (v := ?_) 6 ?_ ?_ ?_ ?_ (Or.inl ⟨?_, ?_⟩) (by assumption) ?_; rotate_left 2; rfl; kernel_rfl; kernel_rfl; exact (fun _ _ _ h => h); rfl; (focus (intro w hSw; (try dsimp only at hSw); go_simp; (try with_reducible rfl); done)); (try simp only [Act.put, List.setIfInBounds_toArray, List.set_cons_zero, List.set_cons_succ])); (refine AtF.take (oi := ?_) (v := ?_) 7 ?_ ?_ ?_ ?_ (Or.inl ⟨?_, ?_⟩) (by assumption) ?_; rotate_left 2; rfl; kernel_rfl; kernel_rfl; exact (fun _ _ _ h => h); rfl; (focus (intro w hSw; (try dsimp only at hSw); go_simp; (try with_reducible rfl); done)); (try simp only [Act.put, List.setIfInBounds_toArray, List.set_cons_zero, List.set_cons_succ])); (refine AtF.take (oi := ?_) (v := ?_) 8 ?_ ?_ ?_ ?_ (Or.inl ⟨?_, ?_⟩) (by assumption) ?_; rotate_left 2; rfl; kernel_rfl; kernel_rfl; exact (fun _ _ _ h => h); rfl; (focus (intro w hSw; (try dsimp only at hSw); go_simp; (try with_reducible rfl); done)); (try simp only [Act.put, List.setIfInBounds_toArray, List.set_cons_zero, List.set_cons_succ])); (refine AtF.take (oi := ?_) (v := ?_) 9 ?_ ?_ ?_ ?_ (Or.inl ⟨?_, ?_⟩) (by assumption) ?_; rotate_left 2; rfl; kernel_rfl; kernel_rfl; exact (fun _ _ _ h => h); rfl; (focus (intro w hSw; (try dsimp only at hSw); go_simp; (try with_reducible rfl); done)); (try simp only [Act.put, List.setIfInBounds_toArray, List.set_cons_zero, List.set_cons_succ])); (refine AtF.take (oi := ?_) (v := ?_) 10 ?_ ?_ ?_ ?_ (Or.inl ⟨?_, ?_⟩) (by assumption) ?_; rotate_left 2; rfl; kernel_rfl; kernel_rfl; exact (fun _ _ _ h => h); rfl; (focus (intro w hSw; (try dsimp only at hSw); go_simp; (try with_reducible rfl); done)); (try simp only [Act.put, List.setIfInBounds_toArray, List.set_cons_zero, List.set_cons_succ])); (refine AtF.take (oi := ?_) (v := ?_) 11 ?_ ?_ ?_ ?_ (Or.inl ⟨?_, ?_⟩) (by assumption) ?_; rotate_left 2; rfl; kernel_rfl; kernel_rfl; exact (fun _ _ _ h => h); rfl; (focus (intro w hSw; (try dsimp only at hSw); go_simp; (try with_reducible rfl); done)); (try simp only [Act.put, List.setIfInBounds_toArray, List.set_cons_zero, List.set_cons_succ])); (refine AtF.take (oi := ?_) (v := ?_) 12 ?_ ?_ ?_ ?_ (Or.inl ⟨?_, ?_⟩) (by assumption) ?_; rotate_left 2; rfl; kernel_rfl; kernel_rfl; exact (fun _ _ _ h => h); rfl; (focus (intro w hSw; (try dsimp only at hSw); go_simp; (try with_reducible rfl); done)); (try simp only [Act.put, List.setIfInBounds_toArray, List.set_cons_zero, List.set_cons_succ])); (refine AtF.take (oi := ?_) (v := ?_) 13 ?_ ?_ ?_ ?_ (Or.inl ⟨?_, ?_⟩) (by assumption) ?_; rotate_left 2; rfl; kernel_rfl; kernel_rfl; exact (fun _ _ _ h => h); rfl; (focus (intro w hSw; (try dsimp only at hSw); go_simp; (try with_reducible rfl); done)); (try simp only [Act.put, List.setIfInBounds_toArray, List.set_cons_zero, List.set_cons_succ])); (refine AtF.take (oi := ?_) (v := ?_) 14 ?_ ?_ ?_ ?_ (Or.inl ⟨?_, ?_⟩) (by assumption) ?_; rotate_left 2; rfl; kernel_rfl; kernel_rfl; exact (fun _ _ _ h => h); rfl; (focus (intro w hSw; (try dsimp only at hSw); go_simp; (try with_reducible rfl); done)); (try simp only [Act.put, List.setIfInBounds_toArray, List.set_cons_zero, List.set_cons_succ])); (refine AtF.take (oi := ?_) (v := ?_) 15 ?_ ?_ ?_ ?_ (Or.inl ⟨?_, ?_⟩) (by assumption) ?_; rotate_left 2; rfl; kernel_rfl; kernel_rfl; exact (fun _ _ _ h => h); rfl; (focus (intro w hSw; (try dsimp only at hSw); go_simp; (try with_reducible rfl); done)); (try simp only [Act.put, List.setIfInBounds_toArray, List.set_cons_zero, List.set_cons_succ])); (refine AtF.take (oi := ?_) (v := ?_) 16 ?_ ?_ ?_ ?_ (Or.inl ⟨?_, ?_⟩) (by assumption) ?_; rotate_left 2; rfl; kernel_rfl; kernel_rfl; exact (fun _ _ _ h => h); rfl; (focus (intro w hSw; (try dsimp only at hSw); go_simp; (try with_reducible rfl); done)); (try simp only [Act.put, List.setIfInBounds_toArray, List.set_cons_zero, List.set_cons_succ])); (refine AtF.take (oi := ?_) (v := ?_) 17 ?_ ?_ ?_ ?_ (Or.inl ⟨?_, ?_⟩) (by assumption) ?_; rotate_left 2; rfl; kernel_rfl; kernel_rfl; exact (fun _ _ _ h => h); rfl; (focus (intro w hSw; (try dsimp only at hSw); go_simp; (try with_reducible rfl); done)); (try simp only [Act.put, List.setIfInBounds_toArray, List.set_cons_zero, List.set_cons_succ])))
        (refine AtF.only (oi := ?_) 18 ?_ ?_ (fun K hK => ?_); rotate_left 1; rfl; kernel_rfl; (try go_simp); (go_at_call 119); (with_reducible refine (LA.out _ _ _ _ (by simp) (by repeat (first | exact X.out | exact X | refine Rd.ext ?_ _ | refine Rd.alloc ?_ _ | refine Rd.drew ?_)) (by repeat (first | exact Y.out | exact Y | refine Rd.ext ?_ _ | refine Rd.alloc ?_ _ | refine Rd.drew ?_))).mono ?_); intro _ _ hp; obtain ⟨g', k', x7, rfl, rfl, hR1, hg1⟩ := newL_row hp hpos.out; (try simp only [ext_drew] at hR1); replace hR1 := Lib.hid hR1; replace hg1 := Lib.hid hg1; clear hp; (refine hK.out _ _ ?_ (fun hHeld => ?_)); (focus ((try dsimp only); (refine ⟨?_, ?_, ?_, ?_⟩ <;> simp [go_sem, p0, p1, plr, d0, d1, hpL, hpL2, hWL]); done)); clear hK K; (try simp only [Act.put, List.setIfInBounds_toArray, List.set_cons_zero, List.set_cons_succ]))
        ((refine AtF.take (oi := ?_) (v := ?_) 19 ?_ ?_ ?_ ?_ (Or.inl ⟨?_, ?_⟩) (by assumption) ?_; rotate_left 2; rfl; kernel_rfl; kernel_rfl; exact (fun _ _ _ h => h); rfl; (focus (intro w hSw; (try dsimp only at hSw); go_simp; (try with_reducible rfl); done)); (try simp only [Act.put, List.setIfInBounds_toArray, List.set_cons_zero, List.set_cons_succ])))
        (refine AtF.last (oi := ?_) ?_ ?_ (fun K hK => ?_); rotate_left 1; rfl; kernel_rfl; go_simp; skip; refine hK.out _ _ ?_; clear hK K; (try simp only [Act.put, List.setIfInBounds_toArray, List.set_cons_zero, List.set_cons_succ]))
        obtain ⟨x8, e8⟩ := ext_of (show Below wr.heap.size wr (ext (ext (ext wr x5) x6) x7) by (repeat' (first | (with_reducible exact Below.refl _ _) | (with_reducible refine Below.alloc ?_ ?_ _) | (with_reducible refine below_ext ?_ ?_ _) | (with_reducible refine Below.drew ?_) | (with_reducible refine below_drewN ?_ _) | (with_reducible refine Below.setCell ?_ ?_ _) | go_size | (simp only [go_sem]; omega) | (simp [go_sem]; done) | (simp [go_sem]; omega))))
        have h7 := hD2.out x8 g' k' (by rw [← e8]; exact hR1.out) (Nat.le_trans (by simp [go_sem]) hg1.out)
        rw [← e8] at h7
        simp [go_sem, hWL] at h7
        replace h7 := Lib.hid h7
        clear hR1 hg1
        go_wp2
        exact ⟨⟨j + 1, by omega, by go_num, h7⟩, by simp [intOf]; omega⟩
      · have bE : decide (c < 0) = false := decide_eq_false cE
        obtain rfl : d = 0 := by omega
        obtain rfl : f = c := by omega
        replace Y := hrd
        simp only [List.drop_zero] at LA
        clear hd hf
        go_wp2
        (refine wp_region_free (by kernel_rfl) (by kernel_rfl) ?_)
        repeat (go_big_quiet_step (fail))
        refine wpQuiet_nil ?_; rintro _ ⟨x5, rfl⟩
        go_wp2
        (refine wp_region_free (by kernel_rfl) (by kernel_rfl) ?_)
        repeat (go_big_quiet_step ((go_at_call 61; with_reducible exact Calls.free (TI.out _ (by (repeat' (first | (with_reducible exact Below.refl _ _) | (with_reducible refine Below.alloc ?_ ?_ _) | (with_reducible refine below_ext ?_ ?_ _) | (with_reducible refine Below.drew ?_) | (with_reducible refine below_drewN ?_ _) | (with_reducible refine Below.setCell ?_ ?_ _) | go_size | (simp only [go_sem]; omega) | (simp [go_sem]; done) | (simp [go_sem]; omega))))))))
        refine wpQuiet_nil ?_; rintro _ ⟨x6, rfl⟩
        go_wp2
        (refine wp_region_F (S := (fun w' => w'.cell? ⟨p, 0, none⟩ = some (.slice (some ⟨L, 0, none⟩) S.rows.length c1) ∧ w'.cell? ⟨p, 1, none⟩ = some (.int .i64 S.cols) ∧ w'.cell? ⟨L, i0 * 2, none⟩ = some (.slice (some ⟨g, 0, none⟩) xs.length kk) ∧ w'.cell? ⟨L, i0 * 2 + 1, none⟩ = some (.int .i64 z))) 20 [false, false, false, false, false, false, false, false, false, false, false, false, false, false, false, false, false, false, false, false, false] rfl rfl (by kernel_rfl) ?_ (fun hHeld => ?_); (focus ((try dsimp only); (refine ⟨?_, ?_, ?_, ?_⟩ <;> simp [go_sem, p0, p1, plr, d0, d1, hpL, hpL2, hWL]); done)))
        ((refine AtF.take (oi := ?_) (v := ?_) 0 ?_ ?_ ?_ ?_ (Or.inl ⟨?_, ?_⟩) (by assumption) ?_; rotate_left 2; rfl; kernel_rfl; kernel_rfl; exact (fun _ _ _ h => h); rfl; (focus (intro w hSw; (try dsimp only at hSw); go_simp; (try with_reducible rfl); done)); (try simp only [Act.put, List.setIfInBounds_toArray, List.set_cons_zero, List.set_cons_succ])); (refine AtF.take (oi := ?_) (v := ?_) 1 ?_ ?_ ?_ ?_ (Or.inl ⟨?_, ?_⟩) (by assumption) ?_; rotate_left 2; rfl; kernel_rfl; kernel_rfl; exact (fun _ _ _ h => h); rfl; (focus (intro w hSw; (try dsimp only at hSw); go_simp; (try with_reducible rfl); done)); (try simp only [Act.put, List.setIfInBounds_toArray, List.set_cons_zero, List.set_cons_succ])); (refine AtF.take (oi := ?_) (v := ?_) 2 ?_ ?_ ?_ ?_ (Or.inl ⟨?_, ?_⟩) (by assumption) ?_; rotate_left 2; rfl; kernel_rfl; kernel_rfl; exact (fun _ _ _ h => h); rfl; (focus (intro w hSw; (try dsimp only at hSw); go_simp; (try with_reducible rfl); done)); (try simp only [Act.put, List.setIfInBounds_toArray, List.set_cons_zero, List.set_cons_succ])); (refine AtF.take (oi := ?_) (v := ?_) 3 ?_ ?_ ?_ ?_ (Or.inl ⟨?_, ?_⟩) (by assumption) ?_; rotate_left 2; rfl; kernel_rfl; kernel_rfl; exact (fun _ _ _ h => h); rfl; (focus (intro w hSw; (try dsimp only at hSw); go_simp; (try with_reducible rfl); done)); (try simp only [Act.put, List.setIfInBounds_toArray, List.set_cons_zero, List.set_cons_succ])); (refine AtF.take (oi := ?_) (v := ?_) 4 ?_ ?_ ?_ ?_ (Or.inl ⟨?_, ?_⟩) (by assumption) ?_; rotate_left 2; rfl; kernel_rfl; kernel_rfl; exact (fun _ _ _ h => h); rfl; (focus (intro w hSw; (try dsimp only at hSw); go_simp; (try with_reducible rfl); done)); (try simp only [Act.put, List.setIfInBounds_toArray, List.set_cons_zero, List.set_cons_succ])); (refine AtF.take (oi := ?_) (v := ?_) 5 ?_ ?_ ?_ ?_ (Or.inl ⟨?_, ?_⟩) (by assumption) ?_; rotate_left 2; rfl; kernel_rfl; kernel_rfl; exact (fun _ _ _ h => h); rfl; (focus (intro w hSw; (try dsimp only at hSw); go_simp; (try with_reducible rfl); done)); (try simp only [Act.put, List.setIfInBounds_toArray, List.set_cons_zero, List.set_cons_succ])); (refine AtF.take (oi := ?_) (v := ?_) 6 ?_ ?_ ?_ ?_ (Or.inl ⟨?_, ?_⟩) (by assumption) ?_; rotate_left 2; rfl; kernel_rfl; kernel_rfl; exact (fun _ _ _ h => h); rfl; (focus (intro w hSw; (try dsimp only at hSw); go_simp; (try with_reducible rfl); done)); (try simp only [Act.put, List.setIfInBounds_toArray, List.set_cons_zero, List.set_cons_succ])); (refine AtF.take (oi := ?_) (v := ?_) 7 ?_ ?_ ?_ ?_ (Or.inl ⟨?_, ?_⟩) (by assumption) ?_; rotate_left 2; rfl; kernel_rfl; kernel_rfl; exact (fun _ _ _ h => h); rfl; (focus (intro w hSw; (try dsimp only at hSw); go_simp; (try with_reducible rfl); done)); (try simp only [Act.put, List.setIfInBounds_toArray, List.set_cons_zero, List.set_cons_succ])); (refine AtF.take (oi := ?_) (v := ?_) 8 ?_ ?_ ?_ ?_ (Or.inl ⟨?_, ?_⟩) (by assumption) ?_; rotate_left 2; rfl; kernel_rfl; kernel_rfl; exact (fun _ _ _ h => h); rfl; (focus (intro w hSw; (try dsimp only at hSw); go_simp; (try with_reducible rfl); done)); (try simp only [Act.put, List.setIfInBounds_toArray, List.set_cons_zero, List.set_cons_succ])); (refine AtF.take (oi := ?_) (v := ?_) 9 ?_ ?_ ?_ ?_ (Or.inl ⟨?_, ?_⟩) (by assumption) ?_; rotate_left 2; rfl; kernel_rfl; kernel_rfl; exact (fun _ _ _ h => h); rfl; (focus (intro w hSw; (try dsimp only at hSw); go_simp; (try with_reducible rfl); done)); (try simp only [Act.put, List.setIfInBounds_toArray, List.set_cons_zero, List.set_cons_succ])); (refine AtF.take (oi := ?_) (v := ?_) 10 ?_ ?_ ?_ ?_ (Or.inl ⟨?_, ?_⟩) (by assumption) ?_; rotate_left 2; rfl; kernel_rfl; kernel_rfl; exact (fun _ _ _ h => h); rfl; (focus (intro w hSw; (try dsimp only at hSw); go_simp; (try with_reducible rfl); done)); (try simp only [Act.put, List.setIfInBounds_toArray, List.set_cons_zero, List.set_cons_succ])); (refine AtF.take (oi := ?_) (v := ?_) 11 ?_ ?_ ?_ ?_ (Or.inl ⟨?_, ?_⟩) (by assumption) ?_; rotate_left 2; rfl; kernel_rfl; kernel_rfl; exact (fun _ _ _ h => h); rfl; (focus (intro w hSw; (try dsimp only at hSw); go_simp; (try with_reducible rfl); done)); (try simp only [Act.put, List.setIfInBounds_toArray, List.set_cons_zero, List.set_cons_succ])); (refine AtF.take (oi := ?_) (v := ?_) 12 ?_ ?_ ?_ ?_ (Or.inl ⟨?_, ?_⟩) (by assumption) ?_; rotate_left 2; rfl; kernel_rfl; kernel_rfl; exact (fun _ _ _ h => h); rfl; (focus (intro w hSw; (try dsimp only at hSw); go_simp; (try with_reducible rfl); done)); (try simp only [Act.put, List.setIfInBounds_toArray, List.set_cons_zero, List.set_cons_succ])); (refine AtF.take (oi := ?_) (v := ?_) 13 ?_ ?_ ?_ ?_ (Or.inl ⟨?_, ?_⟩) (by assumption) ?_; rotate_left 2; rfl; kernel_rfl; kernel_rfl; exact (fun _ _ _ h => h); rfl; (focus (intro w hSw; (try dsimp only at hSw); go_simp; (try with_reducible rfl); done)); (try simp only [Act.put, List.setIfInBounds_toArray, List.set_cons_zero, List.set_cons_succ])); (refine AtF.take (oi := ?_) (v := ?_) 14 ?_ ?_ ?_ ?_ (Or.inl ⟨?_, ?_⟩) (by assumption) ?_; rotate_left 2; rfl; kernel_rfl; kernel_rfl; exact (fun _ _ _ h => h); rfl; (focus (intro w hSw; (try dsimp only at hSw); go_simp; (try with_reducible rfl); done)); (try simp only [Act.put, List.setIfInBounds_toArray, List.set_cons_zero, List.set_cons_succ])); (refine AtF.take (oi := ?_) (v := ?_) 15 ?_ ?_ ?_ ?_ (Or.inl ⟨?_, ?_⟩) (by assumption) ?_; rotate_left 2; rfl; kernel_rfl; kernel_rfl; exact (fun _ _ _ h => h); rfl; (focus (intro w hSw; (try dsimp only at hSw); go_simp; (try with_reducible rfl); done)); (try simp only [Act.put, List.setIfInBounds_toArray, List.set_cons_zero, List.set_cons_succ])); (refine AtF.take (oi := ?_) (v := ?_) 16 ?_ ?_ ?_ ?_ (Or.inl ⟨?_, ?_⟩) (by assumption) ?_; rotate_left 2; rfl; kernel_rfl; kernel_rfl; exact (fun _ _ _ h => h); rfl; (focus (intro w hSw; (try dsimp only at hSw); go_simp; (try with_reducible rfl); done)); (try simp only [Act.put, List.setIfInBounds_toArray, List.set_cons_zero, List.set_cons_succ])); (refine AtF.take (oi := ?_) (v := ?_) 17 ?_ ?_ ?_ ?_ (Or.inl ⟨?_, ?_⟩) (by assumption) ?_; rotate_left 2; rfl; kernel_rfl; kernel_rfl; exact (fun _ _ _ h => h); rfl; (focus (intro w hSw; (try dsimp only at hSw); go_simp; (try with_reducible rfl); done)); (try simp only [Act.put, List.setIfInBounds_toArray, List.set_cons_zero, List.set_cons_succ])))
        (refine AtF.only (oi := ?_) 18 ?_ ?_ (fun K hK => ?_); rotate_left 1; rfl; kernel_rfl; (try go_simp); (go_at_call 119); (with_reducible refine (LA.out _ _ _ _ (by simp) (by repeat (first | exact X.out | exact X | refine Rd.ext ?_ _ | refine Rd.alloc ?_ _ | refine Rd.drew ?_)) (by repeat (first | exact Y.out | exact Y | refine Rd.ext ?_ _ | refine Rd.alloc ?_ _ | refine Rd.drew ?_))).mono ?_); intro _ _ hp; obtain ⟨g', k', x7, rfl, rfl, hR1, hg1⟩ := newL_row hp hpos.out; (try simp only [ext_drew] at hR1); replace hR1 := Lib.hid hR1; replace hg1 := Lib.hid hg1; clear hp; (refine hK.out _ _ ?_ (fun hHeld => ?_)); (focus ((try dsimp only); (refine ⟨?_, ?_, ?_, ?_⟩ <;> simp [go_sem, p0, p1, plr, d0, d1, hpL, hpL2, hWL]); done)); clear hK K; (try simp only [Act.put, List.setIfInBounds_toArray, List.set_cons_zero, List.set_cons_succ]))
        ((refine AtF.take (oi := ?_) (v := ?_) 19 ?_ ?_ ?_ ?_ (Or.inl ⟨?_, ?_⟩) (by assumption) ?_; rotate_left 2; rfl; kernel_rfl; kernel_rfl; exact (fun _ _ _ h => h); rfl; (focus (intro w hSw; (try dsimp only at hSw); go_simp; (try with_reducible rfl); done)); (try simp only [Act.put, List.setIfInBounds_toArray, List.set_cons_zero, List.set_cons_succ])))
        (refine AtF.last (oi := ?_) ?_ ?_ (fun K hK => ?_); rotate_left 1; rfl; kernel_rfl; go_simp; skip; refine hK.out _ _ ?_; clear hK K; (try simp only [Act.put, List.setIfInBounds_toArray, List.set_cons_zero, List.set_cons_succ]))
        obtain ⟨x8, e8⟩ := ext_of (show Below wr.heap.size wr (ext (ext (ext wr x5) x6) x7) by (repeat' (first | (with_reducible exact Below.refl _ _) | (with_reducible refine Below.alloc ?_ ?_ _) | (with_reducible refine below_ext ?_ ?_ _) | (with_reducible refine Below.drew ?_) | (with_reducible refine below_drewN ?_ _) | (with_reducible refine Below.setCell ?_ ?_ _) | go_size | (simp only [go_sem]; omega) | (simp [go_sem]; done) | (simp [go_sem]; omega))))
        have h7 := hD2.out x8 g' k' (by rw [← e8]; exact hR1.out) (Nat.le_trans (by simp [go_sem]) hg1.out)
        rw [← e8] at h7
        simp [go_sem, hWL] at h7
        replace h7 := Lib.hid h7
        clear hR1 hg1
        go_wp2
        exact ⟨⟨j + 1, by omega, by go_num, h7⟩, by simp [intOf]; omega⟩
    · obtain rfl : j = m := by omega
      replace hend := Lib.hid (hend.out _ hD.out)
      go_wp2
      go_returns
      exact ⟨rfl, hend.out⟩
end
end Go.Proofs.YtignkkejkknddaaGreat
/- The reference's pages: a page that is a variable, its lines new; what stores and appends make of it.  -/
namespace Go.Proofs.YtignkkejkknddaaGreat
open Go.RowKit
set_option linter.unusedVariables false
set_option linter.unusedSimpArgs false

/-- the variable at block H holds the page S; both came since W, and nothing of W was changed -/
structure QT (t : TypeId) (W wr : World) (H : Nat) (S : PgS) (A : Option Addr) (n c : Nat) (rows : List RowM) : Prop where
  keep : Below W.heap.size W wr
  ge : W.heap.size ≤ H
  blk : wr.heap[H]? = some (.cells #[.slice A n c, .int .i64 S.cols] t (0, 0))
  l : Lns wr (.slice A n c) rows
  val : rows.map RowM.val = S.rows
  ft : ∀ b, foot (.slice A n c) rows b → W.heap.size ≤ b
  ty : t ≠ 67 ∧ t ≠ 60
abbrev QAt := QT 39
/-- a call that returns a page of its own -/
def NewRef (S : PgS) (w : World) (e : Ending) (w' : World) : Prop := ∃ V rows x, e = .returned (.agg #[V, .int .i64 S.cols]) ∧ w' = ext w x ∧ Lns (ext w x) V rows ∧ rows.map RowM.val = S.rows ∧ ∀ b, foot V rows b → w.heap.size ≤ b
section
variable {t : TypeId} {W wr wz w : World} {H n c : Nat} {S : PgS} {A : Option Addr} {rows : List RowM}
theorem QT.lt (h : QT t W wr H S A n c rows) : H < wr.heap.size := heap_in h.blk
theorem QT.c0 (h : QT t W wr H S A n c rows) : wr.cell? ⟨H, 0, none⟩ = some (.slice A n c) := by rw [cell_in h.blk]; rfl
theorem QT.c1 (h : QT t W wr H S A n c rows) : wr.cell? ⟨H, 1, none⟩ = some (.int .i64 S.cols) := by rw [cell_in h.blk]; rfl
theorem QT.fz (h : QT t W wr H S A n c rows) (q : Nat) : wr.frozen? ⟨H, q, none⟩ = false := frozen_in h.blk
theorem QT.off (h : QT t W wr H S A n c rows) : ∀ b, foot (.slice A n c) rows b → b ≠ H := h.l.off h.blk h.ty.1 h.ty.2
theorem QT.len (h : QT t W wr H S A n c rows) : n = rows.length ∧ n ≤ c ∧ c ≤ maxLen := by
  obtain ⟨A', c', e, h1, h2⟩ := h.l.form
  injection e with e1 e2 e3
  subst e2 e3
  exact ⟨rfl, h1, h2⟩
theorem QT.num (h : QT t W wr H S A n c rows) : n = S.rows.length := by rw [h.len.1, ← h.val]; simp
theorem QT.grow (h : QT t W wr H S A n c rows) (hb : Below wr.heap.size wr wz) : QT t W wz H S A n c rows :=
  ⟨h.keep.trans (hb.mono h.keep.size), h.ge, (hb.block H h.lt).trans h.blk, h.l.grow hb, h.val, h.ft, h.ty⟩
/-- an old cell -/
theorem QT.old (h : QT t W wr H S A n c rows) {b i : Nat} {v : Value} (hb : b < W.heap.size) (hc : W.cell? ⟨b, i, none⟩ = some v) : wr.cell? ⟨b, i, none⟩ = some v := (cell_of_heap (h.keep.block b hb)).trans hc
theorem QT.oldf (h : QT t W wr H S A n c rows) {b i : Nat} (hb : b < W.heap.size) (hc : W.frozen? ⟨b, i, none⟩ = false) : wr.frozen? ⟨b, i, none⟩ = false := (frozen_of_heap (h.keep.block b hb)).trans hc
/-- a line, as it stands in the variable's list -/
theorem QT.at {L : Nat} (h : QT t W wr H S (some ⟨L, 0, none⟩) n c rows) {i : Nat} (hi : i < S.rows.length) : ∃ g k xs z, S.rows[i] = (xs, z) ∧ rows[i]? = some ⟨g, k, xs, z⟩ ∧ RowM.At wr ⟨g, k, xs, z⟩ ∧ xs.length ≤ k ∧ k ≤ maxLen ∧
    wr.cell? ⟨L, i * 2, none⟩ = some (.slice (some ⟨g, 0, none⟩) xs.length k) ∧ wr.cell? ⟨L, i * 2 + 1, none⟩ = some (.int .i64 z) ∧ (∀ q, wr.frozen? ⟨L, q, none⟩ = false) ∧ L < wr.heap.size := by
  have hi' : i < rows.length := by rw [← h.len.1, h.num]; exact hi
  have h1 : rows[i]? = some rows[i] := List.getElem?_eq_getElem hi'
  have h2 : rows[i].val = S.rows[i] := by
    have := h.val
    simp only [← this, List.getElem_map]
  generalize rows[i] = r at h1 h2
  obtain ⟨g, k, xs, z⟩ := r
  obtain ⟨d0, d1, d2, d3⟩ := h.l.slot h1
  have hA := h.l.row _ (List.mem_of_getElem? h1)
  exact ⟨g, k, xs, z, h2.symm, h1, hA, hA.cap.1, hA.cap.2, d0, d1, d2, d3⟩
theorem QT.some (h : QT t W wr H S A n c rows) (h0 : 0 < S.rows.length) : ∃ L, A = Option.some ⟨L, 0, none⟩ := by
  obtain ⟨L, c, e, _⟩ := h.l.form1 (by rw [← h.len.1, h.num]; exact h0)
  injection e with e
  exact ⟨L, e⟩
/-- a new list is stored into it -/
theorem QT.list {A' : Option Addr} {n' c' : Nat} {rows' : List RowM} {R : PgS} (hk : Below W.heap.size W wz) (hge : W.heap.size ≤ H) (hH : wz.heap[H]? = Option.some (.cells #[.slice A n c, .int .i64 R.cols] t (0, 0))) (hl : Lns wz (.slice A' n' c') rows') (hv : rows'.map RowM.val = R.rows) (hf : ∀ b, foot (.slice A' n' c') rows' b → W.heap.size ≤ b) (hty : t ≠ 67 ∧ t ≠ 60) :
    QT t W (wz.setCell ⟨H, 0, none⟩ (.slice A' n' c')) H R A' n' c' rows' := by
  refine ⟨below_set hk _ _ hge, hge, ?_, hl.same fun b hb => Below.heap_setCell _ _ _ _ ?_, hv, hf, hty⟩
  · simp only [World.setCell, Array.getElem?_modify, if_pos, hH]
    simp
  · exact hl.off hH hty.1 hty.2 b hb
/-- a cell of a line is another one -/
theorem QT.put {L i k : Nat} {r : RowM} (h : QT t W wr H S (Option.some ⟨L, 0, none⟩) n c rows) (hi : rows[i]? = Option.some r) (hk : k < r.xs.length) (y : Cl) :
    ∃ rows', QT t W (((wr.setCell ⟨r.g, k * 3, none⟩ (.int .i32 y.g)).setCell ⟨r.g, k * 3 + 1, none⟩ (.int .u8 y.r)).setCell ⟨r.g, k * 3 + 2, none⟩ (.bool y.k)) H (setRowS S i (r.xs.set k y, r.z)) (Option.some ⟨L, 0, none⟩) n c rows' := by
  have hrm := List.mem_of_getElem? hi
  have hW : W.heap.size ≤ r.g := h.ft r.g (.inr ⟨r, hrm, rfl⟩)
  have hne := h.off r.g (.inr ⟨r, hrm, rfl⟩)
  refine ⟨_, ⟨below_set (below_set (below_set h.keep _ _ hW) _ _ hW) _ _ hW, h.ge, ?_, h.l.put hi hk y, ?_, fun b hb => ?_, h.ty⟩⟩
  · rw [Below.heap_setCell _ _ _ _ (fun e => hne e.symm), Below.heap_setCell _ _ _ _ (fun e => hne e.symm), Below.heap_setCell _ _ _ _ (fun e => hne e.symm)]
    exact h.blk
  · rw [map_set_val, h.val]; rfl
  · rcases hb with hb | ⟨s, hs, rfl⟩
    · exact h.ft b (.inl hb)
    · rcases List.mem_or_eq_of_mem_set hs with hs | rfl
      · exact h.ft _ (.inr ⟨s, hs, rfl⟩)
      · exact hW
/-- a new line is stored into a slot -/
theorem QT.row {L i g k : Nat} {xs : List Cl} {z : Int} (h : QT t W wr H S (Option.some ⟨L, 0, none⟩) n c rows) (hi : i < S.rows.length) (hR : RowM.At wr ⟨g, k, xs, z⟩) (hg : W.heap.size ≤ g) (hf : ∀ s ∈ rows, s.g ≠ g) :
    ∃ rows', QT t W ((wr.setCell ⟨L, i * 2, none⟩ (.slice (Option.some ⟨g, 0, none⟩) xs.length k)).setCell ⟨L, i * 2 + 1, none⟩ (.int .i64 z)) H (setRowS S i (xs, z)) (Option.some ⟨L, 0, none⟩) n c rows' := by
  have hL : W.heap.size ≤ L := h.ft L (.inl rfl)
  have hne := h.off L (.inl rfl)
  have hir : i < rows.length := by rw [← h.len.1, h.num]; exact hi
  refine ⟨_, ⟨below_set (below_set h.keep _ _ hL) _ _ hL, h.ge, ?_, h.l.set hir hR hf, ?_, fun b hb => ?_, h.ty⟩⟩
  · rw [Below.heap_setCell _ _ _ _ (fun e => hne e.symm), Below.heap_setCell _ _ _ _ (fun e => hne e.symm)]
    exact h.blk
  · rw [map_set_val, h.val]; rfl
  · rcases hb with hb | ⟨s, hs, rfl⟩
    · exact h.ft b (.inl hb)
    · rcases List.mem_or_eq_of_mem_set hs with hs | rfl
      · exact h.ft _ (.inr ⟨s, hs, rfl⟩)
      · exact hg
/-- it is returned: stored into the result's block -/
theorem QT.fin {R : Nat} (h : QT t W wr H S A n c rows) (hb : Below w.heap.size w W) (hR : w.heap.size ≤ R) (hRW : R < W.heap.size) :
    NewRef S w (.returned (.agg #[.slice A n c, .int .i64 S.cols])) ((wr.setCell ⟨R, 0, none⟩ (.slice A n c)).setCell ⟨R, 1, none⟩ (.int .i64 S.cols)) := by
  have hs := hb.size
  have hbz : Below w.heap.size w ((wr.setCell ⟨R, 0, none⟩ (.slice A n c)).setCell ⟨R, 1, none⟩ (.int .i64 S.cols)) := by
    have h1 : Below w.heap.size w wr := hb.trans (h.keep.mono hs)
    exact below_set (below_set h1 _ _ hR) _ _ hR
  obtain ⟨x, hx⟩ := ext_of hbz
  refine ⟨_, rows, x, rfl, hx, ?_, h.val, fun b hb => by have := h.ft b hb; omega⟩
  rw [← hx]
  refine h.l.same fun b hb => ?_
  have := h.ft b hb
  rw [Below.heap_setCell _ _ _ _ (by simp only; omega), Below.heap_setCell _ _ _ _ (by simp only; omega)]
theorem QT.fin3 {R : Nat} {v0 v1 : Value} (h : QT t W wr H S A n c rows) (hb : Below w.heap.size w W) (hR : w.heap.size ≤ R) (hRW : R < W.heap.size) (r0 : W.cell? ⟨R, 0, none⟩ = Option.some v0) (r1 : W.cell? ⟨R, 1, none⟩ = Option.some v1) :
    ∃ W3, (wr.setCell ⟨R, 0, none⟩ (.slice A n c)).setCell ⟨R, 1, none⟩ (.int .i64 S.cols) = W3 ∧ W3.cell? ⟨R, 0, none⟩ = Option.some (.slice A n c) ∧ W3.cell? ⟨R, 1, none⟩ = Option.some (.int .i64 S.cols) ∧ NewRef S w (.returned (.agg #[.slice A n c, .int .i64 S.cols])) W3 := by
  have s0 := h.old hRW r0
  have s1 := h.old hRW r1
  refine ⟨_, rfl, ?_, ?_, h.fin hb hR hRW⟩
  · exact (World.cell?_setCell_other _ _ _ _ (by simp)).trans (World.cell?_setCell_same _ _ _ s0)
  · exact World.cell?_setCell_same _ _ _ ((World.cell?_setCell_other _ _ _ _ (by simp)).trans s1)
/-- a page that a call returned becomes a variable -/
theorem QT.new (hty : t ≠ 67 ∧ t ≠ 60) {V : Value} {x : More} (hl : Lns (ext W x) V rows) (hv : rows.map RowM.val = S.rows) (hf : ∀ b, foot V rows b → W.heap.size ≤ b) {wr : World} (hw : wr = (ext W x).alloc (.cells #[V, .int .i64 S.cols] t)) (hH : H = (ext W x).heap.size) :
    ∃ A n c, V = .slice A n c ∧ QT t W wr H S A n c rows := by
  obtain ⟨A, c, rfl, h1, h2⟩ := hl.form
  subst hw hH
  have hb : Below (ext W x).heap.size (ext W x) ((ext W x).alloc (.cells #[.slice A rows.length c, .int .i64 S.cols] t)) := (Below.refl _ _).alloc (Nat.le_refl _) _
  refine ⟨A, _, c, rfl, ⟨(below_of_ext W x).trans (hb.mono (by simp)), by simp, heap_alloc_new _ _, hl.grow hb, hv, hf, hty⟩⟩
end
/-- the step of an append of a new line, inside a region that draws its order -/
theorem q_append {t : TypeId} {W wr w : World} {o : Oper} {a : Act} {K : Act → World → Prop} {Q : Exit → Act → World → Prop} {H n c : Nat} {S : PgS} {A : Option Addr} {rows : List RowM} (s xo : Operand)
    (ho : o.op = .call { callee := .builtin .append, args := #[s, xo], argTypes := #[37, 37] }) (g k : Nat) (xs : List Cl) (z : Int) (M : Nat) (hs : a.eval s = .slice A n c) (hx : a.eval xo = .slice (some ⟨M, 0, none⟩) 1 1)
    (hq : QT t W wr H S A n c rows) (hb : Below wr.heap.size wr w) (hR : RowM.At w ⟨g, k, xs, z⟩) (hg : wr.heap.size ≤ g)
    (h0 : w.cell? ⟨M, 0, none⟩ = some (.slice (some ⟨g, 0, none⟩) xs.length k)) (h1 : w.cell? ⟨M, 1, none⟩ = some (.int .i64 z)) (hn : rows.length ≤ 1000) (R : PgS) (hr : S.rows ++ [(xs, z)] = R.rows) (hc : S.cols = R.cols)
    (h : ∀ A' n' c' x' rows', Hid (QT t W ((ext W x').setCell ⟨H, 0, none⟩ (.slice A' n' c')) H R A' n' c' rows') → (ext W x').cell? ⟨H, 0, none⟩ = some (.slice A n c) → (ext W x').cell? ⟨H, 1, none⟩ = some (.int .i64 R.cols) → (ext W x').frozen? ⟨H, 0, none⟩ = false → H < (ext W x').heap.size → (∀ b, b < w.heap.size → (Value.slice A n c).ownBlock ≠ some b → (ext W x').heap[b]? = w.heap[b]?) → K (a.put o.dst (.slice A' n' c')) (ext W x')) : Oper.wp Tryz.prog o a w K Q := by
  have hW := hq.keep
  have hWw : Below W.heap.size W w := hW.trans (hb.mono hW.size)
  have hl := hq.l.grow hb
  have hrd : Rd encM 2 w (some ⟨M, 0, none⟩) [⟨g, k, xs, z⟩] := fun _ => by
    refine ⟨M, 0, rfl, World.block_lt_of_cell? _ _ h0, fun i hi j v hv => ?_⟩
    obtain rfl : i = 0 := by simpa using hi
    match j, hv with
    | 0, hv => simp [encM, RowM.sl] at hv; subst hv; simpa using h0
    | 1, hv => simp [encM] at hv; subst hv; simpa using h1
  obtain ⟨A', c', x', hrun, hO, hF, hG⟩ := run_append_far2 (P := Tryz.prog) W w 37 o.type 67 _ 32 Tryz.underlying37 line_info rfl (by omega) encM_len encM_one rows [(⟨g, k, xs, z⟩ : RowM)] _ (some ⟨M, 0, none⟩) 1 hWw (hl.own.lift fun k hk => hq.ft k (.inl hk)) hrd (by simp [maxLen]; omega) (by simp; omega)
  unfold Oper.wp execOp
  simp only [List.length_singleton] at hrun
  simp only [ho, resolve, invoke, builtin, Sem.run_bind, Sem.run_pure, Result.andThen_ok, List.map_toArray, List.map_cons, List.map_nil, hs, hx, hrun]
  have hfr : ∀ s ∈ rows, s.g ≠ g := fun s hs e => by
    have := (hq.l.row s hs).lt
    omega
  have hl2 := hl.snoc hR hfr (hO.mono (Nat.zero_le _)) hG
  have hHw : w.heap[H]? = some (.cells #[.slice A n c, .int .i64 S.cols] t (0, 0)) := (hb.block H hq.lt).trans hq.blk
  have hoff := hl.off hHw hq.ty.1 hq.ty.2
  have hHx : (ext W x').heap[H]? = some (.cells #[.slice A n c, .int .i64 S.cols] t (0, 0)) := (hG H (heap_in hHw) (fun e => hoff H (.inl e) rfl)).trans hHw
  rw [hc] at hHx
  have hval : (rows ++ [(⟨g, k, xs, z⟩ : RowM)]).map RowM.val = R.rows := by rw [← hr, ← hq.val, List.map_append]; rfl
  refine h A' _ c' x' _ (Lib.hid (QT.list (below_of_ext W x') hq.ge hHx hl2 hval (fun b hb' => ?_) hq.ty)) (by rw [cell_in hHx]; rfl) (by rw [cell_in hHx]; rfl) (frozen_in hHx) (heap_in hHx) hG
  rcases hb' with hb' | ⟨s, hs, rfl⟩
  · exact (hO.lt b hb').1
  · rcases List.mem_append.1 hs with hs | hs
    · exact hq.ft _ (.inr ⟨s, hs, rfl⟩)
    · rw [List.mem_singleton.1 hs]; exact Nat.le_trans hW.size hg
end Go.Proofs.YtignkkejkknddaaGreat
/- The reference's pages: Box, Copy.  -/
namespace Go.Proofs.YtignkkejkknddaaGreat
open Go.RowKit
set_option linter.unusedVariables false
set_option linter.unusedSimpArgs false

/-- a page of the reference, as a value -/
def RefV (w : World) (U : Value) (S : PgS) : Prop := ∃ V rows, U = .agg #[V, .int .i64 S.cols] ∧ Lns w V rows ∧ rows.map RowM.val = S.rows
section
variable {w w' : World} {U : Value} {S : PgS} {F : Nat → Prop}
theorem RefAt.v (h : RefAt w F U S) : RefV w U S := by
  obtain ⟨V, rows, h1, h2, h3, _⟩ := h
  exact ⟨V, rows, h1, h2, h3⟩
theorem RefV.grow (h : RefV w U S) (hb : Below w.heap.size w w') : RefV w' U S := by
  obtain ⟨V, rows, h1, h2, h3⟩ := h
  exact ⟨V, rows, h1, h2.grow hb, h3⟩
/-- opened -/
theorem RefV.op (h : RefV w U S) : ∃ A c rows, U = .agg #[.slice A S.rows.length c, .int .i64 S.cols] ∧ Lns w (.slice A S.rows.length c) rows ∧ rows.map RowM.val = S.rows ∧ rows.length = S.rows.length := by
  obtain ⟨V, rows, rfl, h2, h3⟩ := h
  obtain ⟨A, c, rfl, _, _⟩ := h2.form
  have e : rows.length = S.rows.length := by rw [← h3]; simp
  rw [e] at h2 ⊢
  exact ⟨A, c, rows, rfl, h2, h3, e⟩
/-- a line of it -/
theorem Lns.at {A : Option Addr} {n c : Nat} {rows : List RowM} {vals : List (List Cl × Int)} (h : Lns w (.slice A n c) rows) (hv : rows.map RowM.val = vals) {i : Nat} (hi : i < vals.length) : ∃ L g k xs z, A = some ⟨L, 0, none⟩ ∧ vals[i] = (xs, z) ∧ RowM.At w ⟨g, k, xs, z⟩ ∧ xs.length ≤ k ∧ k ≤ maxLen ∧
    w.cell? ⟨L, i * 2, none⟩ = some (.slice (some ⟨g, 0, none⟩) xs.length k) ∧ w.cell? ⟨L, i * 2 + 1, none⟩ = some (.int .i64 z) ∧ L < w.heap.size := by
  have hi' : i < rows.length := by rw [← hv] at hi; simpa using hi
  have h1 : rows[i]? = some rows[i] := List.getElem?_eq_getElem hi'
  have h2 : rows[i].val = vals[i] := by simp only [← hv, List.getElem_map]
  obtain ⟨L, c', e, _⟩ := h.form1 (by omega)
  injection e with e
  subst e
  generalize rows[i] = r at h1 h2
  obtain ⟨g, k, xs, z⟩ := r
  obtain ⟨d0, d1, d2, d3⟩ := h.slot h1
  have hA := h.row _ (List.mem_of_getElem? h1)
  exact ⟨L, g, k, xs, z, rfl, h2.symm, hA, hA.cap.1, hA.cap.2, d0, d1, d3⟩
end
set_option maxRecDepth 100000 in
theorem refbox_c (U : Value) (S : PgS) (w : World) (h : RefV w U S) : Calls Tryz.prog 9 #[U] w (Gives w (boxV 0 0 S.rows.length S.cols)) := by
  obtain ⟨A, c, rows, rfl, hl, hv, hn⟩ := h.op
  clear hl hv h
  go_enter Tryz.func9, Tryz.ntmps9
  go_wp2
  go_returns
  exact ⟨rfl, by (repeat' (first | (with_reducible exact Below.refl _ _) | (with_reducible refine Below.alloc ?_ ?_ _) | (with_reducible refine below_ext ?_ ?_ _) | (with_reducible refine Below.drew ?_) | (with_reducible refine below_drewN ?_ _) | (with_reducible refine Below.setCell ?_ ?_ _) | go_size | (simp only [go_sem]; omega) | (simp [go_sem]; done) | (simp [go_sem]; omega)))⟩
set_option maxRecDepth 100000 in
theorem one0_c (y c : Cl) (P : Value) (w : World) : Calls Tryz.prog 102 #[.int .i64 0, cellV y, cellV c, P] w (Gives w (cellV y)) := by
  obtain ⟨yg, yr, yk⟩ := y
  obtain ⟨cg, cr, ck⟩ := c
  go_enter Tryz.func102, Tryz.ntmps102
  go_wp2
  go_returns
  exact ⟨rfl, by (repeat' (first | (with_reducible exact Below.refl _ _) | (with_reducible refine Below.alloc ?_ ?_ _) | (with_reducible refine below_ext ?_ ?_ _) | (with_reducible refine Below.drew ?_) | (with_reducible refine below_drewN ?_ _) | (with_reducible refine Below.setCell ?_ ?_ _) | go_size | (simp only [go_sem]; omega) | (simp [go_sem]; done) | (simp [go_sem]; omega)))⟩
theorem eachR_id (xs : List Cl) (f t : Int) : eachR xs f t id = xs := updR_id fun i hi _ _ => rfl
theorem same_each (A : Option Addr) (C : Nat) (sz : Int) (xs : List Cl) (w : World) (rd : Rd encC 3 w A xs) (hm : xs.length ≤ 1000000) :
    Calls Tryz.prog 113 #[.int .i64 0, lineV A xs.length C sz, .int .i64 0, .int .i64 0, .agg #[.int .i32 0, .int .u8 0, .bool false], .slice none 0 0] w (NewL w xs sz) := by
  have := each_r 0 A C sz xs 0 0 ⟨0, 0, false⟩ (.slice none 0 0) id w rd hm (fun y _ w' _ => one0_c y _ _ w')
  rw [eachR_id] at this
  exact this
set_option maxRecDepth 100000 in
set_option maxHeartbeats 4000000 in
theorem refcopy_c (U : Value) (S : PgS) (w : World) (h : RefV w U S) (hm : S.rows.length ≤ 500) (h0 : ∀ r ∈ S.rows, 0 < r.1.length ∧ r.1.length ≤ 1000000) : Calls Tryz.prog 84 #[U] w (NewRef S w) := by
  obtain ⟨A, c, rows, rfl, hl, hv, hn⟩ := h.op
  clear h
  have hrow := Lib.hid (fun i (hi : i < S.rows.length) => hl.at hv hi)
  replace h0 := Lib.hid (fun i (hi : i < S.rows.length) => h0 _ (List.getElem_mem hi))
  go_enter Tryz.func84, Tryz.ntmps84
  go_wp2
  obtain ⟨W, hW⟩ : ∃ W, W = (w.alloc (.cells #[.slice A S.rows.length c, .int .i64 S.cols] 39)).alloc (.cells #[.slice none 0 0, .int .i64 0] 39) := ⟨_, rfl⟩
  have hsz : W.heap.size = w.heap.size + 1 + 1 := by rw [hW]; simp
  have hbW : Below w.heap.size w W := by rw [hW]; (repeat' (first | (with_reducible exact Below.refl _ _) | (with_reducible refine Below.alloc ?_ ?_ _) | (with_reducible refine below_ext ?_ ?_ _) | (with_reducible refine Below.drew ?_) | (with_reducible refine below_drewN ?_ _) | (with_reducible refine Below.setCell ?_ ?_ _) | go_size | (simp only [go_sem]; omega) | (simp [go_sem]; done) | (simp [go_sem]; omega)))
  have P0 : W.cell? ⟨w.heap.size, 0, none⟩ = some (.slice A S.rows.length c) := by rw [hW]; simp [go_sem]
  have R0 : W.cell? ⟨w.heap.size + 1, 0, none⟩ = some (.slice none 0 0) := by rw [hW]; simp [go_sem]
  have R1 : W.cell? ⟨w.heap.size + 1, 1, none⟩ = some (.int .i64 0) := by rw [hW]; simp [go_sem]
  have Rf : ∀ i, W.frozen? ⟨w.heap.size + 1, i, none⟩ = false := by intro i; rw [hW]; simp [go_sem]
  rw [← hW]
  have hQ : QAt W (W.alloc (.cells #[.slice none 0 0, .int .i64 S.cols] 39)) W.heap.size ⟨S.rows.take 0, S.cols⟩ none 0 0 [] := ⟨(Below.refl _ _).alloc (Nat.le_refl _) _, Nat.le_refl _, heap_alloc_new _ _, Lns.nil _, rfl, fun b hb => (by rcases hb with h | ⟨r, h, _⟩ <;> cases h), by decide⟩
  generalize W.alloc (.cells #[.slice none 0 0, .int .i64 S.cols] 39) = W0 at hQ ⊢
  have hR1 : w.heap.size + 1 < W.heap.size := by omega
  rw [hsz] at hQ
  generalize w.heap.size + 1 + 1 = H at hsz hQ ⊢
  replace hQ := Lib.hid hQ
  have hP := Lib.hid (⟨P0, R0, R1, Rf⟩ : _ ∧ _ ∧ _ ∧ _)
  have hbW2 := Lib.hid hbW
  have hrW := Lib.hid (fun i (hi : i < S.rows.length) => (by
    obtain ⟨L, g, k, xs, z, h1, h2, h3, h4, h5, h6, h7, h8⟩ := hrow.out i hi
    exact ⟨L, g, k, xs, z, h1, h2, h3.grow hbW, Nat.lt_of_lt_of_le h8 hbW.size, (hbW.cell (p := ⟨L, _, none⟩) h8).trans h6, (hbW.cell (p := ⟨L, _, none⟩) h8).trans h7⟩ : ∃ L g k xs z, A = some ⟨L, 0, none⟩ ∧ S.rows[i] = (xs, z) ∧ RowM.At W ⟨g, k, xs, z⟩ ∧ L < W.heap.size ∧ W.cell? ⟨L, i * 2, none⟩ = some (.slice (some ⟨g, 0, none⟩) xs.length k) ∧ W.cell? ⟨L, i * 2 + 1, none⟩ = some (.int .i64 z)))
  replace hsz := Lib.hid hsz
  clear hW hbW P0 R0 R1 Rf hl hv hn hrow
  go_loopw [4] (fun iv wr => ∃ (j : Nat) (A' : Option Addr) (n' c' : Nat) (rows' : List RowM), j ≤ S.rows.length ∧ iv = .int .i64 j ∧ Hid (QAt W wr H ⟨S.rows.take j, S.cols⟩ A' n' c' rows')) (fun iv _ => S.rows.length - (intOf iv).toNat)
  case atStart => exact ⟨0, none, 0, 0, [], by omega, rfl, hQ⟩
  case round =>
    obtain ⟨j, A', n', c', rows', hj, rfl, hQ⟩ := hrel
    have pw : w.heap.size < wr.heap.size := by have := hQ.out.keep.size; omega
    have p0 := hQ.out.old (by omega) hP.out.1
    by_cases hlt : j < S.rows.length
    · obtain ⟨L, g, k, xs, z, rfl, e1, e2, e3, e4, e5⟩ := hrW.out j hlt
      have d0 := hQ.out.old e3 e4
      have d1 := hQ.out.old e3 e5
      have hLr : L < wr.heap.size := Nat.lt_of_lt_of_le e3 hQ.out.keep.size
      have hH := hQ.out.lt
      have q0 := hQ.out.c0
      have qf := hQ.out.fz 0
      have X := Lib.hid (e2.rd.below (hQ.out.keep))
      have hl0 := h0.out j hlt
      rw [e1] at hl0
      have EA := Lib.hid (fun w' (h : Rd encC 3 w' (some ⟨g, 0, none⟩) xs) => same_each (some ⟨g, 0, none⟩) k z xs w' h hl0.2)
      have hpos := Lib.hid hl0.1
      have hrl := Lib.hid (show rows'.length ≤ 1000 by have := congrArg List.length hQ.out.val; simp at this; omega)
      have hnx := Lib.hid (show S.rows.take j ++ [(xs, z)] = S.rows.take (j + 1) by rw [List.take_add_one, List.getElem?_eq_getElem hlt, e1]; rfl)
      have pW : w.heap.size < W.heap.size := by omega
      have P0 := hP.out.1
      have hsz' := hsz.out
      have ne1 : ¬ H = w.heap.size := by omega
      have ne2 : ¬ w.heap.size = H := by omega
      have ne3 : ¬ L = H := by omega
      have ne4 : ¬ H = L := by omega
      clear hsz'
      clear e1 e2 hl0
      go_upto_region 5 with fail
      (refine wp_region_F (S := (fun w' => w'.cell? ⟨w.heap.size, 0, none⟩ = some (.slice (some ⟨L, 0, none⟩) S.rows.length c) ∧ w'.cell? ⟨L, j * 2, none⟩ = some (.slice (some ⟨g, 0, none⟩) xs.length k) ∧ w'.cell? ⟨L, j * 2 + 1, none⟩ = some (.int .i64 z) ∧ w'.cell? ⟨H, 0, none⟩ = some (.slice A' n' c'))) 12 [false, false, false, false, false, false, false, false, false, false, false, false, false] rfl rfl (by kernel_rfl) ?_ (fun hHeld => ?_); (focus ((try dsimp only); (refine ⟨?_, ?_, ?_, ?_⟩ <;> simp [go_sem, p0, d0, d1, pw, hLr, pW, P0, e3, e4, e5, ne1, ne2, ne3, ne4, q0, hH]); done)))
      ((refine AtF.take (oi := ?_) (v := ?_) 0 ?_ ?_ ?_ ?_ (Or.inl ⟨?_, ?_⟩) (by assumption) ?_; rotate_left 2; rfl; kernel_rfl; kernel_rfl; exact (fun _ _ _ h => h); rfl; (focus (intro w hSw; (try dsimp only at hSw); go_simp; (try with_reducible rfl); done)); (try simp only [Act.put, List.setIfInBounds_toArray, List.set_cons_zero, List.set_cons_succ])); (refine AtF.take (oi := ?_) (v := ?_) 1 ?_ ?_ ?_ ?_ (Or.inl ⟨?_, ?_⟩) (by assumption) ?_; rotate_left 2; rfl; kernel_rfl; kernel_rfl; exact (fun _ _ _ h => h); rfl; (focus (intro w hSw; (try dsimp only at hSw); go_simp; (try with_reducible rfl); done)); (try simp only [Act.put, List.setIfInBounds_toArray, List.set_cons_zero, List.set_cons_succ])); (refine AtF.take (oi := ?_) (v := ?_) 2 ?_ ?_ ?_ ?_ (Or.inl ⟨?_, ?_⟩) (by assumption) ?_; rotate_left 2; rfl; kernel_rfl; kernel_rfl; exact (fun _ _ _ h => h); rfl; (focus (intro w hSw; (try dsimp only at hSw); go_simp; (try with_reducible rfl); done)); (try simp only [Act.put, List.setIfInBounds_toArray, List.set_cons_zero, List.set_cons_succ])); (refine AtF.take (oi := ?_) (v := ?_) 3 ?_ ?_ ?_ ?_ (Or.inl ⟨?_, ?_⟩) (by assumption) ?_; rotate_left 2; rfl; kernel_rfl; kernel_rfl; exact (fun _ _ _ h => h); rfl; (focus (intro w hSw; (try dsimp only at hSw); go_simp; (try with_reducible rfl); done)); (try simp only [Act.put, List.setIfInBounds_toArray, List.set_cons_zero, List.set_cons_succ])); (refine AtF.take (oi := ?_) (v := ?_) 4 ?_ ?_ ?_ ?_ (Or.inl ⟨?_, ?_⟩) (by assumption) ?_; rotate_left 2; rfl; kernel_rfl; kernel_rfl; exact (fun _ _ _ h => h); rfl; (focus (intro w hSw; (try dsimp only at hSw); go_simp; (try with_reducible rfl); done)); (try simp only [Act.put, List.setIfInBounds_toArray, List.set_cons_zero, List.set_cons_succ])); (refine AtF.take (oi := ?_) (v := ?_) 5 ?_ ?_ ?_ ?_ (Or.inl ⟨?_, ?_⟩) (by assumption) ?_; rotate_left 2; rfl; kernel_rfl; kernel_rfl; exact (fun _ _ _ h => h); rfl; (focus (intro w hSw; (try dsimp only at hSw); go_simp; (try with_reducible rfl); done)); (try simp only [Act.put, List.setIfInBounds_toArray, List.set_cons_zero, List.set_cons_succ])); (refine AtF.take (oi := ?_) (v := ?_) 6 ?_ ?_ ?_ ?_ (Or.inl ⟨?_, ?_⟩) (by assumption) ?_; rotate_left 2; rfl; kernel_rfl; kernel_rfl; exact (fun _ _ _ h => h); rfl; (focus (intro w hSw; (try dsimp only at hSw); go_simp; (try with_reducible rfl); done)); (try simp only [Act.put, List.setIfInBounds_toArray, List.set_cons_zero, List.set_cons_succ])); (refine AtF.take (oi := ?_) (v := ?_) 7 ?_ ?_ ?_ ?_ (Or.inl ⟨?_, ?_⟩) (by assumption) ?_; rotate_left 2; rfl; kernel_rfl; kernel_rfl; exact (fun _ _ _ h => h); rfl; (focus (intro w hSw; (try dsimp only at hSw); go_simp; (try with_reducible rfl); done)); (try simp only [Act.put, List.setIfInBounds_toArray, List.set_cons_zero, List.set_cons_succ])))
      (refine AtF.only (oi := ?_) 8 ?_ ?_ (fun K hK => ?_); rotate_left 1; rfl; kernel_rfl; (try go_simp); (go_at_call 113); (with_reducible refine (EA.out _ (by repeat (first | exact X.out | exact X | refine Rd.ext ?_ _ | refine Rd.alloc ?_ _ | refine Rd.drew ?_))).mono ?_); intro _ _ hp; obtain ⟨g', k', x1, rfl, rfl, hR, hg⟩ := newL_row hp hpos.out; (try simp only [ext_drew] at hR); replace hR := Lib.hid hR; replace hg := Lib.hid hg; clear hp; (refine hK.out _ _ ?_ (fun hHeld => ?_)); (focus ((try dsimp only); (refine ⟨?_, ?_, ?_, ?_⟩ <;> simp [go_sem, p0, d0, d1, pw, hLr, pW, P0, e3, e4, e5, ne1, ne2, ne3, ne4, q0, hH]); done)); clear hK K; (try simp only [Act.put, List.setIfInBounds_toArray, List.set_cons_zero, List.set_cons_succ]))
      (refine AtF.only (oi := ?_) 9 ?_ ?_ (fun K hK => ?_); rotate_left 1; rfl; kernel_rfl; (try go_simp); skip; (refine hK.out _ _ ?_ (fun hHeld => ?_)); (focus ((try dsimp only); (refine ⟨?_, ?_, ?_, ?_⟩ <;> simp [go_sem, p0, d0, d1, pw, hLr, pW, P0, e3, e4, e5, ne1, ne2, ne3, ne4, q0, hH]); done)); clear hK K; (try simp only [Act.put, List.setIfInBounds_toArray, List.set_cons_zero, List.set_cons_succ]))
      (refine AtF.only (oi := ?_) 10 ?_ ?_ (fun K hK => ?_); rotate_left 1; rfl; kernel_rfl; refine step_do rfl (q_append (.tmp 16) (.tmp 24) rfl g' k' xs z _ rfl rfl hQ.out (by (repeat' (first | (with_reducible exact Below.refl _ _) | (with_reducible refine Below.alloc ?_ ?_ _) | (with_reducible refine below_ext ?_ ?_ _) | (with_reducible refine Below.drew ?_) | (with_reducible refine below_drewN ?_ _) | (with_reducible refine Below.setCell ?_ ?_ _) | go_size | (simp only [go_sem]; omega) | (simp [go_sem]; done) | (simp [go_sem]; omega)))) (hR.out.grow (by (repeat' (first | (with_reducible exact Below.refl _ _) | (with_reducible refine Below.alloc ?_ ?_ _) | (with_reducible refine below_ext ?_ ?_ _) | (with_reducible refine Below.drew ?_) | (with_reducible refine below_drewN ?_ _) | (with_reducible refine Below.setCell ?_ ?_ _) | go_size | (simp only [go_sem]; omega) | (simp [go_sem]; done) | (simp [go_sem]; omega))))) (Nat.le_trans (by simp [go_sem]) hg.out) (by simp [go_sem]) (by simp [go_sem]) hrl.out ⟨S.rows.take (j + 1), S.cols⟩ hnx.out rfl ?_); intro A2 n2 c2 x2 rows2 hQ2 y0 y1 yf yl yg; clear yg; (refine hK.out _ _ ?_ (fun hHeld => ?_)); (focus ((try dsimp only); (refine ⟨?_, ?_, ?_, ?_⟩ <;> simp [go_sem, p0, d0, d1, pw, hLr, pW, P0, e3, e4, e5, ne1, ne2, ne3, ne4, y0]); done)); clear hK K; (try simp only [Act.put, List.setIfInBounds_toArray, List.set_cons_zero, List.set_cons_succ]))
      ((refine AtF.take (oi := ?_) (v := ?_) 11 ?_ ?_ ?_ ?_ (Or.inl ⟨?_, ?_⟩) (by assumption) ?_; rotate_left 2; rfl; kernel_rfl; kernel_rfl; exact (fun _ _ _ h => h); rfl; (focus (intro w hSw; (try dsimp only at hSw); go_simp; (try with_reducible rfl); done)); (try simp only [Act.put, List.setIfInBounds_toArray, List.set_cons_zero, List.set_cons_succ])))
      (refine AtF.last (oi := ?_) ?_ ?_ (fun K hK => ?_); rotate_left 1; rfl; kernel_rfl; go_simp; skip; refine hK.out _ _ ?_; clear hK K; (try simp only [Act.put, List.setIfInBounds_toArray, List.set_cons_zero, List.set_cons_succ]))
      go_wp2
      exact ⟨⟨j + 1, A2, n2, c2, rows2, by omega, by go_num, hQ2⟩, by simp [intOf]; omega⟩
    · obtain rfl : j = S.rows.length := by omega
      have r0 := hQ.out.old hR1 hP.out.2.1
      have r1 := hQ.out.old hR1 hP.out.2.2.1
      have rf := hQ.out.oldf hR1 (hP.out.2.2.2 0)
      have rf1 := hQ.out.oldf hR1 (hP.out.2.2.2 1)
      have rl : w.heap.size + 1 < wr.heap.size := by have := hQ.out.keep.size; omega
      have q0 := hQ.out.c0
      have q1 := hQ.out.c1
      simp only at q1
      have hH := hQ.out.lt
      obtain ⟨W3, e3, t0, t1, t4⟩ := hQ.out.fin3 hbW2.out (by omega) hR1 hP.out.2.1 hP.out.2.2.1
      rw [List.take_of_length_le (Nat.le_refl _)] at t4
      replace t4 := Lib.hid t4
      simp only at e3 t1
      go_wp2
      simp [bodyPost, go_sem, t0, t1]
      exact ⟨_, by simp [results, Tryz.f84, go_sem, t0, t1] <;> rfl, t4.out⟩
end Go.Proofs.YtignkkejkknddaaGreat
/- The reference's pages: At, Put.  -/
namespace Go.Proofs.YtignkkejkknddaaGreat
open Go.RowKit
set_option linter.unusedVariables false
set_option linter.unusedSimpArgs false

theorem PgS.Ok.small {S : PgS} (hS : S.Ok) : ∀ r ∈ S.rows, 0 < r.1.length ∧ r.1.length ≤ 1000000 := fun r hr => by
  have h1 := hS.wid r hr
  have h2 := hS.c1
  have h3 := hS.c2
  omega
/-- what Copy answered becomes a variable -/
theorem q_start {W : World} {x : More} {A : Option Addr} {n c K : Nat} {S : PgS} {rows : List RowM} (hl : Lns (ext W x) (.slice A n c) rows) (hv : rows.map RowM.val = S.rows) (hf : ∀ b, foot (.slice A n c) rows b → W.heap.size ≤ b) (hK : W.heap.size = K) :
    QAt W ((ext W x).alloc (.cells #[.slice A n c, .int .i64 S.cols] 39)) (K + x.sz) S A n c rows := by
  subst hK
  have hb : Below (ext W x).heap.size (ext W x) ((ext W x).alloc (.cells #[.slice A n c, .int .i64 S.cols] 39)) := (Below.refl _ _).alloc (Nat.le_refl _) _
  refine ⟨(below_of_ext W x).trans (hb.mono (by simp)), by simp, ?_, hl.grow hb, hv, hf, by decide⟩
  have := heap_alloc_new (ext W x) (.cells #[.slice A n c, .int .i64 S.cols] 39)
  simpa using this
@[simp] theorem setRowS_cols (S : PgS) (i : Nat) (v : List Cl × Int) : (setRowS S i v).cols = S.cols := rfl
@[simp] theorem setRowS_len (S : PgS) (i : Nat) (v : List Cl × Int) : (setRowS S i v).rows.length = S.rows.length := by simp [setRowS]
section
set_option maxRecDepth 100000 in
set_option maxHeartbeats 4000000 in
theorem refput_c (U : Value) (S : PgS) (i j : Int) (y : Cl) (w : World) (h : RefV w U S) (hS : S.Ok) : Calls Tryz.prog 37 #[U, .int .i64 i, .int .i64 j, cellV y] w (NewRef (putS S i j y) w) := by
  have CP := Lib.hid (fun w' (hb : Below w.heap.size w w') => refcopy_c U S w' (h.grow hb) hS.r2 hS.small)
  have BX := Lib.hid (fun w' (hb : Below w.heap.size w w') => refbox_c U S w' (h.grow hb))
  have IN := Lib.hid (fun w' => in_r 0 0 S.rows.length S.cols i j w')
  obtain ⟨A, c, rows, rfl, hl, hv, hn⟩ := h.op
  clear h hl hv hn
  obtain ⟨yg, yr, yk⟩ := y
  obtain ⟨T, hT⟩ : ∃ T, T = putS S i j ⟨yg, yr, yk⟩ := ⟨_, rfl⟩
  rw [← hT]
  replace hT := Lib.hid hT
  go_enter Tryz.func37, Tryz.ntmps37
  go_upto_region 2 with (first
    | (go_at_call 84
       (with_reducible refine (CP.out _ (by (repeat' (first | (with_reducible exact Below.refl _ _) | (with_reducible refine Below.alloc ?_ ?_ _) | (with_reducible refine below_ext ?_ ?_ _) | (with_reducible refine Below.drew ?_) | (with_reducible refine below_drewN ?_ _) | (with_reducible refine Below.setCell ?_ ?_ _) | go_size | (simp only [go_sem]; omega) | (simp [go_sem]; done) | (simp [go_sem]; omega))))).mono ?_)
       rintro _ _ ⟨V, rws, x1, rfl, rfl, hl1, hv1, hf1⟩
       obtain ⟨A1, c1, rfl, _, _⟩ := hl1.form))
  obtain ⟨W, hW⟩ : ∃ W, W = ((w.alloc (.cells #[.slice A S.rows.length c, .int .i64 S.cols] 39)).alloc (.cells #[.int .i32 yg, .int .u8 yr, .bool yk] 60)).alloc (.cells #[.slice none 0 0, .int .i64 0] 39) := ⟨_, rfl⟩
  have hsz : W.heap.size = w.heap.size + 1 + 1 + 1 := by rw [hW]; simp
  have hbW : Below w.heap.size w W := by rw [hW]; (repeat' (first | (with_reducible exact Below.refl _ _) | (with_reducible refine Below.alloc ?_ ?_ _) | (with_reducible refine below_ext ?_ ?_ _) | (with_reducible refine Below.drew ?_) | (with_reducible refine below_drewN ?_ _) | (with_reducible refine Below.setCell ?_ ?_ _) | go_size | (simp only [go_sem]; omega) | (simp [go_sem]; done) | (simp [go_sem]; omega)))
  have p0 : W.cell? ⟨w.heap.size, 0, none⟩ = some (.slice A S.rows.length c) := by rw [hW]; simp [go_sem]
  have p1 : W.cell? ⟨w.heap.size, 1, none⟩ = some (.int .i64 S.cols) := by rw [hW]; simp [go_sem]
  have k0 : W.cell? ⟨w.heap.size + 1, 0, none⟩ = some (.int .i32 yg) := by rw [hW]; simp [go_sem]
  have k1 : W.cell? ⟨w.heap.size + 1, 1, none⟩ = some (.int .u8 yr) := by rw [hW]; simp [go_sem]
  have k2 : W.cell? ⟨w.heap.size + 1, 2, none⟩ = some (.bool yk) := by rw [hW]; simp [go_sem]
  have R0 : W.cell? ⟨w.heap.size + 1 + 1, 0, none⟩ = some (.slice none 0 0) := by rw [hW]; simp [go_sem]
  have R1 : W.cell? ⟨w.heap.size + 1 + 1, 1, none⟩ = some (.int .i64 0) := by rw [hW]; simp [go_sem]
  have Rf : ∀ i, W.frozen? ⟨w.heap.size + 1 + 1, i, none⟩ = false := by intro i; rw [hW]; simp [go_sem]
  rw [← hW] at hl1 hf1 ⊢
  clear hW
  have hQ := q_start hl1 hv1 hf1 hsz
  clear hl1 hv1 hf1
  have hK := hQ.lt
  have hge := hQ.ge
  generalize (ext W x1).alloc (.cells #[.slice A1 rws.length c1, .int .i64 S.cols] 39) = wr at hQ hK ⊢
  generalize w.heap.size + 1 + 1 + 1 + x1.sz = H at hQ hK hge ⊢
  have nr : rws.length = S.rows.length := by have := hQ.num; exact this
  rw [nr] at hQ ⊢
  replace p0 := hQ.old (by omega) p0
  replace p1 := hQ.old (by omega) p1
  have r0 := hQ.old (by omega) R0
  have r1 := hQ.old (by omega) R1
  have rf := hQ.oldf (by omega) (Rf 0)
  have rf1 := hQ.oldf (by omega) (Rf 1)
  have hbw : Below w.heap.size w wr := hbW.trans (hQ.keep.mono hbW.size)
  have q0 := hQ.c0
  have q1 := hQ.c1
  have hs1 : w.heap.size + 1 + 1 < wr.heap.size := by have := hQ.keep.size; omega
  cases ht : inB 0 0 S.rows.length S.cols i j
  · rw [ht] at IN
    obtain rfl : T = S := hT.out.trans (putS_out ht _)
    replace hQ := Lib.hid hQ
    go_upto_region 4 with (first | (go_at_call 9; ((with_reducible refine (BX.out _ (by (repeat' (first | (with_reducible exact Below.refl _ _) | (with_reducible refine Below.alloc ?_ ?_ _) | (with_reducible refine below_ext ?_ ?_ _) | (with_reducible refine Below.drew ?_) | (with_reducible refine below_drewN ?_ _) | (with_reducible refine Below.setCell ?_ ?_ _) | go_size | (simp only [go_sem]; omega) | (simp [go_sem]; done) | (simp [go_sem]; omega))))).mono ?_); rintro _ _ hgets; obtain ⟨rfl, x2, rfl⟩ := hgets.get; clear hgets)) | (go_at_call 20; ((with_reducible refine (IN.out _).mono ?_); rintro _ _ hgets; obtain ⟨rfl, x3, rfl⟩ := hgets.get; clear hgets)))
    have hQ2 := (hQ.out.grow (show Below wr.heap.size wr (ext (ext wr x2) x3) by (repeat' (first | (with_reducible exact Below.refl _ _) | (with_reducible refine Below.alloc ?_ ?_ _) | (with_reducible refine below_ext ?_ ?_ _) | (with_reducible refine Below.drew ?_) | (with_reducible refine below_drewN ?_ _) | (with_reducible refine Below.setCell ?_ ?_ _) | go_size | (simp only [go_sem]; omega) | (simp [go_sem]; done) | (simp [go_sem]; omega)))))
    clear hQ r0 r1 rf rf1 q0 q1 hK hs1 p0 p1 hbw
    generalize ext (ext wr x2) x3 = wz at hQ2 ⊢
    have q0 := hQ2.c0
    have q1 := hQ2.c1
    have hK := hQ2.lt
    have r0 := hQ2.old (by omega) R0
    have r1 := hQ2.old (by omega) R1
    have rf := hQ2.oldf (by omega) (Rf 0)
    have rf1 := hQ2.oldf (by omega) (Rf 1)
    have hs1 : w.heap.size + 1 + 1 < wz.heap.size := by have := hQ2.keep.size; omega
    obtain ⟨W3, e3, t0, t1, t4⟩ := hQ2.fin3 hbW (by omega) (show w.heap.size + 1 + 1 < W.heap.size by omega) R0 R1
    replace t4 := Lib.hid t4
    try simp only [setRowS_cols] at e3 t1 q1
    clear hQ2
    go_wp2
    simp [bodyPost, go_sem, t0, t1]
    exact ⟨_, by simp [results, Tryz.f37, go_sem, t0, t1] <;> rfl, t4.out⟩
  · rw [ht] at IN
    obtain ⟨a, b, rfl, rfl, ha, hb⟩ := inB_nat ht
    have hT := hT.out.trans (putS_in ha hb _)
    obtain ⟨L, rfl⟩ := hQ.some (by omega)
    obtain ⟨g, k, xs, z, e1, e2, hA, h1, h2, d0, d1, hfz, d3⟩ := hQ.at ha
    have hbl : b < xs.length := by have := hS.wid _ (List.getElem_mem ha); rw [e1] at this; simp only at this; omega
    rw [e1] at hT
    replace hT := Lib.hid hT
    have hwl := hS.wid _ (List.getElem_mem ha)
    rw [e1] at hwl
    have hm2 := hS.r2
    have hc2 := hS.c2
    simp only at hwl
    obtain ⟨g', eg, _, hlt, f0, f1, f2, hz⟩ := own_at hA b hbl
    injection eg with eg
    injection eg with eg
    subst eg
    simp only at f0 f1 f2 hlt hz
    have z0 := hz (b * 3)
    have z1 := hz (b * 3 + 1)
    have z2 := hz (b * 3 + 2)
    generalize xs[b] = v at f0 f1 f2
    replace k0 : wr.cell? _ = _ := hQ.old (by omega) k0
    replace k1 : wr.cell? _ = _ := hQ.old (by omega) k1
    replace k2 : wr.cell? _ = _ := hQ.old (by omega) k2
    have hgH : ¬ g = H := fun e => hQ.off g (.inr ⟨_, List.mem_of_getElem? e2, rfl⟩) e
    have hs2 : w.heap.size + 1 < wr.heap.size := by omega
    clear hfz hA hz ht e1
    replace hQ := Lib.hid hQ
    go_upto_region 3 with (first | (go_at_call 9; ((with_reducible refine (BX.out _ (by (repeat' (first | (with_reducible exact Below.refl _ _) | (with_reducible refine Below.alloc ?_ ?_ _) | (with_reducible refine below_ext ?_ ?_ _) | (with_reducible refine Below.drew ?_) | (with_reducible refine below_drewN ?_ _) | (with_reducible refine Below.setCell ?_ ?_ _) | go_size | (simp only [go_sem]; omega) | (simp [go_sem]; done) | (simp [go_sem]; omega))))).mono ?_); rintro _ _ hgets; obtain ⟨rfl, x2, rfl⟩ := hgets.get; clear hgets)) | (go_at_call 20; ((with_reducible refine (IN.out _).mono ?_); rintro _ _ hgets; obtain ⟨rfl, x3, rfl⟩ := hgets.get; clear hgets)))
    (refine wp_region_tail 9 (by kernel_rfl) (by kernel_rfl) ?_; simp only [List.take_succ_cons, List.take_zero, List.drop_succ_cons, List.drop_zero])
    repeat (go_big_quiet_step (fail))
    refine wpQuiet_nil ?_; rintro _ ⟨x4, rfl⟩
    have hQ2 := (hQ.out.grow (show Below wr.heap.size wr (ext (ext (ext wr x2) x3) x4) by (repeat' (first | (with_reducible exact Below.refl _ _) | (with_reducible refine Below.alloc ?_ ?_ _) | (with_reducible refine below_ext ?_ ?_ _) | (with_reducible refine Below.drew ?_) | (with_reducible refine below_drewN ?_ _) | (with_reducible refine Below.setCell ?_ ?_ _) | go_size | (simp only [go_sem]; omega) | (simp [go_sem]; done) | (simp [go_sem]; omega)))))
    clear hQ r0 r1 rf rf1 q0 q1 hK hs1 p0 p1 hbw k0 k1 k2
    have hby : Below wr.heap.size wr (ext (ext (ext wr x2) x3) x4) := by (repeat' (first | (with_reducible exact Below.refl _ _) | (with_reducible refine Below.alloc ?_ ?_ _) | (with_reducible refine below_ext ?_ ?_ _) | (with_reducible refine Below.drew ?_) | (with_reducible refine below_drewN ?_ _) | (with_reducible refine Below.setCell ?_ ?_ _) | go_size | (simp only [go_sem]; omega) | (simp [go_sem]; done) | (simp [go_sem]; omega)))
    replace f0 := (hby.cell (p := ⟨g, _, none⟩) hlt).trans f0
    replace f1 := (hby.cell (p := ⟨g, _, none⟩) hlt).trans f1
    replace f2 := (hby.cell (p := ⟨g, _, none⟩) hlt).trans f2
    replace z0 := (hby.frozen (p := ⟨g, _, none⟩) hlt).trans z0
    replace z1 := (hby.frozen (p := ⟨g, _, none⟩) hlt).trans z1
    replace z2 := (hby.frozen (p := ⟨g, _, none⟩) hlt).trans z2
    replace hlt := Nat.lt_of_lt_of_le hlt hby.size
    clear hby d0 d1 d3 hs2
    generalize ext (ext (ext wr x2) x3) x4 = wy at hQ2 f0 f1 f2 z0 z1 z2 hlt ⊢
    go_upto_region 4 with fail
    obtain ⟨rows', hQ3⟩ := hQ2.put e2 hbl ⟨yg, yr, yk⟩
    simp only at hQ3
    rw [← hT.out] at hQ3
    clear hQ2
    generalize (((wy.setCell ⟨g, b * 3, none⟩ (.int .i32 yg)).setCell ⟨g, b * 3 + 1, none⟩ (.int .u8 yr)).setCell ⟨g, b * 3 + 2, none⟩ (.bool yk)) = wz at hQ3 ⊢
    have hQ2 := hQ3
    clear hQ3 f0 f1 f2 z0 z1 z2 hlt
    have hTc : T.cols = S.cols := by rw [hT.out]; rfl
    have q0 := hQ2.c0
    have q1 := hQ2.c1
    have hK := hQ2.lt
    have r0 := hQ2.old (by omega) R0
    have r1 := hQ2.old (by omega) R1
    have rf := hQ2.oldf (by omega) (Rf 0)
    have rf1 := hQ2.oldf (by omega) (Rf 1)
    have hs1 : w.heap.size + 1 + 1 < wz.heap.size := by have := hQ2.keep.size; omega
    obtain ⟨W3, e3, t0, t1, t4⟩ := hQ2.fin3 hbW (by omega) (show w.heap.size + 1 + 1 < W.heap.size by omega) R0 R1
    rw [hTc] at e3 t1 q1 t4
    replace t4 := Lib.hid t4
    clear hQ2
    go_wp2
    simp [bodyPost, go_sem, t0, t1]
    exact ⟨_, by simp [results, Tryz.f37, go_sem, t0, t1] <;> rfl, t4.out⟩
end
end Go.Proofs.YtignkkejkknddaaGreat
