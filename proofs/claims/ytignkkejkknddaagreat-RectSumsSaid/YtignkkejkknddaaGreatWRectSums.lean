/- RectSums: the walk.  -/
import Derived.Test.YtignkkejkknddaaGreatRecH
import Derived.Test.YtignkkejkknddaaGreatRecN
import Derived.Test.YtignkkejkknddaaGreatPgIs
import Derived.Deep.CutRange
namespace Go.Proofs.YtignkkejkknddaaGreat
open Go.RowKit
set_option linter.unusedVariables false
set_option linter.unusedSimpArgs false

theorem sm_bd (S : BkS) (x : BxI) (xs : List Int) : 0 ≤ smV S x xs ∧ smV S x xs ≤ 65535 := by
  unfold smV smI
  split <;> omega
theorem ar_fullK {S : BkS} (hS : S.Ok) {m n : Nat} (h : ∀ h : 0 < S.pages.length, (S.pages[0]'h).rows.length = m ∧ (S.pages[0]'h).cols = n) : arK S (fullA m n) = fullA m n := by
  obtain ⟨h1, h2⟩ := h hS.p1
  have := ar_full (hS.pg _ (List.getElem_mem hS.p1))
  rw [h1, h2, arB_0 hS] at this
  exact this
theorem at_take0 {xs : List Int} (h : at0 (xs.take 6) 0 < 0) : ∃ h : 0 < xs.length, xs[0] < 0 := by
  unfold at0 at h
  rw [if_neg (by omega), List.getD_eq_getElem?_getD] at h
  cases xs with
  | nil => simp at h
  | cons z zs => exact ⟨by simp, by simpa using h⟩
set_option maxRecDepth 100000 in
set_option maxHeartbeats 32000000 in
theorem RectSums_walk (w : World) (b : BgD) (hb : b.Ok w) (A : Option Addr) (C : Nat) (xs : List Int) (rd : Ints w A xs) (hl : xs.length ≤ C) (hm : C ≤ maxLen) (wf : ∀ n ∈ xs, (Lit.int .i64 n).wf = true) (re : C * 8 ≤ 140737488351232)
    (A2 : Option Addr) (C2 : Nat) (zs : List Int) (rd2 : Ints w A2 zs) (hl2 : zs.length ≤ C2) (hm2 : C2 ≤ maxLen) (wf2 : ∀ n ∈ zs, (Lit.int .i64 n).wf = true) (re2 : C2 * 8 ≤ 140737488351232) :
    Calls Tryz.prog 3 #[b.v, .slice A xs.length C, .slice A2 zs.length C2] w (Gives w (.bool true)) := by
  have hx : NumL w A C xs := ⟨rd, hl, by simp [maxLen] at hm; omega, fun n hn => (bounds_i64 (wf n hn)).2⟩
  have hx2 : NumL w A2 C2 zs := ⟨rd2, hl2, by simp [maxLen] at hm2; omega, fun n hn => (bounds_i64 (wf2 n hn)).2⟩
  obtain ⟨BA, hBA⟩ : ∃ BA, BA = b.cells.toArray := ⟨_, rfl⟩
  have BK := Lib.hid (fun w' (h : Below w.heap.size w w') => book_16 b 3 w' (hb.below h))
  have AW := Lib.hid awake_16
  have FW := Lib.hid (fun w' (h : Below w.heap.size w w') => (by exact few_c (hx.grow h) 6 (by omega) : Calls Tryz.prog 11 #[.slice A xs.length C, .int .i64 6] w' (FewR w' (xs.take 6))))
  have FW2 := Lib.hid (fun w' (h : Below w.heap.size w w') => (by exact few_c (hx2.grow h) 2 (by omega) : Calls Tryz.prog 11 #[.slice A2 zs.length C2, .int .i64 2] w' (FewR w' (zs.take 2))))
  have hym : ∀ z ∈ xs.take 6, z ≤ 9223372036854775807 := fun z hz => hx.hi z (List.mem_of_mem_take hz)
  have hzm : ∀ z ∈ zs.take 2, z ≤ 9223372036854775807 := fun z hz => hx2.hi z (List.mem_of_mem_take hz)
  have hyl : (xs.take 6).length ≤ 6 := by rw [List.length_take]; omega
  have hneg := Lib.hid (at_take0 (xs := xs))
  generalize xs.take 6 = ys at FW hym hyl hneg
  generalize zs.take 2 = ts at FW2 hzm
  have hB' := Lib.hid hb
  have bm := begM_in b
  have bn := begN_in b
  unfold BgD.v at BK ⊢
  rw [← hBA] at BK ⊢
  replace hBA := Lib.hid hBA
  have hxr := Lib.hid hx.rd
  have hxlen : xs.length ≤ 9223372036854775807 := by simp [maxLen] at hm; omega
  clear hb rd wf re hx rd2 wf2 re2 hx2
  go_enter Tryz.func3, Tryz.ntmps3
  go_upto_region 3 with (go_at_call 7; ((with_reducible refine (AW.out _).mono ?_); rintro _ _ hgets; obtain ⟨rfl, x1, rfl⟩ := hgets.get; clear hgets))
  obtain ⟨W0, hW0⟩ : ∃ W0, W0 = ext (w.alloc (.cells BA 33)) x1 := ⟨_, rfl⟩
  have hB0 : Below w.heap.size w W0 := by rw [hW0]; (repeat' (first | (with_reducible exact Below.refl _ _) | (with_reducible refine Below.alloc ?_ ?_ _) | (with_reducible refine below_ext ?_ ?_ _) | (with_reducible refine Below.drew ?_) | (with_reducible refine below_drewN ?_ _) | (with_reducible refine Below.setCell ?_ ?_ _) | go_size | (simp only [go_sem]; omega) | (simp [go_sem]; done) | (simp [go_sem]; omega)))
  have b0 : W0.heap[w.heap.size]? = some (.cells b.cells.toArray 33 (0, 0)) := by rw [hW0, ← hBA.out]; (repeat (first | ((with_reducible refine heap_at _ _ ?_); (focus (first | rfl | (simp [go_sem]; done) | (simp [go_sem]; omega)))) | ((with_reducible refine (heap_old _ _ ?_).trans ?_); (focus (first | (simp [go_sem]; done) | (simp [go_sem]; omega)))) | ((with_reducible refine (block_ext _ _ ?_).trans ?_); (focus (first | (simp [go_sem]; done) | (simp [go_sem]; omega)))) | ((with_reducible refine (heap_drew _ _).trans ?_))))
  rw [← hW0]
  clear hW0
  have rg0 := range_blk b0 0 b.cells (by simp [BgD.cells])
  have BK0 := Lib.hid (fun w' (h : Below W0.heap.size W0 w') => BK.out w' (hB0.trans (h.mono hB0.size)))
  rw [hBA.out] at BK0
  clear BK
  go_upto_region 4 with (first
    | (refine wpList_load_mid rfl 33 (.tmp 3) rfl w.heap.size 0 rfl b.cells _ rg0 Tryz.underlying33 rfl (by kernel_rfl) ?_)
    | ((go_at_call 8); (with_reducible refine (BK0.out _ (by (repeat' (first | (with_reducible exact Below.refl _ _) | (with_reducible refine Below.alloc ?_ ?_ _) | (with_reducible refine below_ext ?_ ?_ _) | (with_reducible refine Below.drew ?_) | (with_reducible refine below_drewN ?_ _) | (with_reducible refine Below.setCell ?_ ?_ _) | go_size | (simp only [go_sem]; omega) | (simp [go_sem]; done) | (simp [go_sem]; omega))))).mono ?_); (rintro _ W1 ⟨cB, F, U, rfl, hB1, hbk, hrb, hF⟩); (have hr2 := hrb); (obtain ⟨Au, cu, us, ⟨tA, tm, tc, tn⟩, rfl, -⟩ := hr2); (simp only [RPg.V] at hrb ⊢); (replace hbk := Lib.hid hbk); (replace hrb := Lib.hid hrb); (replace hB1 := Lib.hid hB1); (replace hF := Lib.hid hF)))
  have np3 : bkNp 3 = 3 := by decide
  have len3 : (bkS b 3).pages.length = 3 := by unfold bkS; rw [np3, bkJ_len]
  have pgi : ∀ (i : Nat) (h : i < (bkS b 3).pages.length), (bkS b 3).pages[i]'h = bkP b i := fun i h => by rw [len3] at h; simp [bkS, bkJ, np3, h]
  have okT : (bkS b 3).Ok := bkJ_ok hB'.out (by decide) (by decide)
  rw [len3] at hrb ⊢
  generalize bkS b 3 = T0 at hbk hrb len3 pgi okT ⊢
  clear np3
  have arF : arK T0 (fullA (begM b) (begN b)) = fullA (begM b) (begN b) := ar_fullK okT (fun h => by rw [pgi]; exact bkP_len 0)
  have hrb2 := hrb.out
  obtain ⟨A', c', us', s', e', ho⟩ := hrb2
  injection e' with e'
  injection e' with e'
  injection e' with e1 e2
  injection e1 with e1 e1b e1c
  clear e1b e1c
  subst e1
  obtain ⟨r, L, o, -, hA, hRp, hc0, hc1, hLl⟩ := ho.ps.get (i := 0) (by omega)
  subst hA
  have hLF : ¬ F L := fun f => ho.ps.off (by have := ho.ps.len; omega) L o rfl (.inl f)
  rw [pgi] at hRp
  obtain ⟨f1, f2⟩ := hRp.form
  rw [(bkP_len 0).1] at f1
  rw [(bkP_len 0).2] at f2
  obtain ⟨rA, rm, rc, rn⟩ := r
  simp only at f1 f2
  subst f1 f2
  simp only [RPg.V, RPg.v, Nat.zero_mul, Nat.add_zero] at hc0 hc1 hRp
  clear ho e2
  have BW1 : Below w.heap.size w W1 := hB0.trans (hB1.out.mono hB0.size)
  generalize hW2 : W1.alloc (.cells #[.slice (some ⟨L, o, none⟩) 3 cu, .slice tA tm tc, .int .i64 tn, .int .i64 T0.now, .bool T0.below] 41) = W2
  have hB12 : Below W1.heap.size W1 W2 := by subst hW2; (repeat' (first | (with_reducible exact Below.refl _ _) | (with_reducible refine Below.alloc ?_ ?_ _) | (with_reducible refine below_ext ?_ ?_ _) | (with_reducible refine Below.drew ?_) | (with_reducible refine below_drewN ?_ _) | (with_reducible refine Below.setCell ?_ ?_ _) | go_size | (simp only [go_sem]; omega) | (simp [go_sem]; done) | (simp [go_sem]; omega)))
  have b8 : W2.heap[W1.heap.size]? = some (.cells #[.slice (some ⟨L, o, none⟩) 3 cu, .slice tA tm tc, .int .i64 tn, .int .i64 T0.now, .bool T0.below] 41 (0, 0)) := by subst hW2; exact al_at _ _ rfl
  clear hW2
  obtain ⟨H8, hH8⟩ : ∃ H8, H8 = W1.heap.size := ⟨_, rfl⟩
  rw [← hH8] at b8 ⊢
  have hbk2 := hbk.out.grow hB12
  have hrb3 := hrb.out.grow hB12
  have hF1 := hbk.out.lt
  have hRp2 := hRp.grow hB12
  have d0 := (hB12.cell (p := ⟨L, o, none⟩) hLl).trans hc0
  have d1 := (hB12.cell (p := ⟨L, o + 1, none⟩) hLl).trans hc1
  have hLl2 : L < W2.heap.size := Nat.lt_of_lt_of_le hLl hB12.size
  have q8 : W2.cell? ⟨H8, 0, none⟩ = some (.slice (some ⟨L, o, none⟩) 3 cu) := by rw [cell_in b8]; rfl
  have hl8 := heap_in b8
  have BW2 : Below w.heap.size w W2 := BW1.trans (hB12.mono BW1.size)
  have hw2 : w.heap.size ≤ W2.heap.size := BW2.size
  have hFw : ∀ x, F x → x < H8 := fun x hx => by rw [hH8]; exact hF1 x hx
  have hFg : ∀ x, F x → w.heap.size ≤ x := fun x hx => Nat.le_trans hB0.size (hF.out x hx)
  replace hH8 := Lib.hid hH8
  clear hbk hrb hB1 hF BK0 rg0 b0 hB0 BW1 hB12 hc0 hc1 hRp hLl hF1 AW
  replace hbk2 := Lib.hid hbk2
  replace b8 := Lib.hid b8
  have RB := Lib.hid (fun w' (hb : Below W2.heap.size W2 w') => refbox_c _ _ w' (hRp2.v.grow hb))
  rw [(bkP_len 0).1, (bkP_len 0).2] at RB
  go_cut [9] from 30 to 34 (fun v9 wx => ∃ HB, v9 = .pointer (some ⟨HB, 0, none⟩) ∧ Below W2.heap.size W2 wx ∧ W2.heap.size ≤ HB ∧ wx.heap[HB]? = some (.cells #[.int .i64 0, .int .i64 0, .int .i64 (begM b), .int .i64 (begN b)] 31 (0, 0)))
  case first =>
    go_wp2_with (go_at_call 9; ((with_reducible refine (RB.out _ (by (repeat' (first | (with_reducible exact Below.refl _ _) | (with_reducible refine Below.alloc ?_ ?_ _) | (with_reducible refine below_ext ?_ ?_ _) | (with_reducible refine Below.drew ?_) | (with_reducible refine below_drewN ?_ _) | (with_reducible refine Below.setCell ?_ ?_ _) | go_size | (simp only [go_sem]; omega) | (simp [go_sem]; done) | (simp [go_sem]; omega))))).mono ?_); rintro _ _ hgets; obtain ⟨rfl, x10, rfl⟩ := hgets.get; clear hgets))
    go_meet
    refine ⟨_, rfl, by (repeat' (first | (with_reducible exact Below.refl _ _) | (with_reducible refine Below.alloc ?_ ?_ _) | (with_reducible refine below_ext ?_ ?_ _) | (with_reducible refine Below.drew ?_) | (with_reducible refine below_drewN ?_ _) | (with_reducible refine Below.setCell ?_ ?_ _) | go_size | (simp only [go_sem]; omega) | (simp [go_sem]; done) | (simp [go_sem]; omega))), by (try simp); (try omega), ?_⟩
    (repeat (first | ((with_reducible refine heap_at _ _ ?_); (focus (first | rfl | (simp [go_sem]; done) | (simp [go_sem]; omega)))) | ((with_reducible refine (heap_old _ _ ?_).trans ?_); (focus (first | (simp [go_sem]; done) | (simp [go_sem]; omega)))) | ((with_reducible refine (block_ext _ _ ?_).trans ?_); (focus (first | (simp [go_sem]; done) | (simp [go_sem]; omega)))) | ((with_reducible refine (heap_drew _ _).trans ?_))))
  obtain ⟨HB, rfl, hB3, hHB, bB⟩ := hcut
  obtain ⟨W3, eW3⟩ : ∃ W3, W3 = wc := ⟨_, rfl⟩
  rw [← eW3] at hB3 bB ⊢
  clear eW3 wc RB
  have BW3 := Lib.hid (fun w' (h : Below W3.heap.size W3 w') => (BW2.trans (hB3.mono BW2.size)).trans (h.mono (BW2.trans (hB3.mono BW2.size)).size))
  obtain ⟨V3, ps3, st3, hO3⟩ := hbk2.out.grow hB3
  have hrb4 := hrb3.grow hB3
  have hlB := heap_in bB
  have KB := Lib.hid (fun w' (h : Below W3.heap.size W3 w') => (by
    have hb2 := (h.block HB hlB).trans bB
    exact ⟨by rw [cell_in hb2]; rfl, by rw [cell_in hb2]; rfl, by rw [cell_in hb2]; rfl, by rw [cell_in hb2]; rfl⟩ : w'.cell? ⟨HB, 0, none⟩ = some (.int .i64 0) ∧ w'.cell? ⟨HB, 1, none⟩ = some (.int .i64 0) ∧ w'.cell? ⟨HB, 2, none⟩ = some (.int .i64 (begM b)) ∧ w'.cell? ⟨HB, 3, none⟩ = some (.int .i64 (begN b))))
  have b83 := (hB3.block H8 hl8).trans b8.out
  have hl83 := heap_in b83
  have K8 := Lib.hid (fun w' (h : Below W3.heap.size W3 w') => (by
    have hb2 := (h.block H8 hl83).trans b83
    exact ⟨by rw [cell_in hb2]; rfl, by rw [cell_in hb2]; rfl, by rw [cell_in hb2]; rfl, by rw [cell_in hb2]; rfl, by rw [cell_in hb2]; rfl⟩ : w'.cell? ⟨H8, 0, none⟩ = some (.slice (some ⟨L, o, none⟩) 3 cu) ∧ w'.cell? ⟨H8, 1, none⟩ = some (.slice tA tm tc) ∧ w'.cell? ⟨H8, 2, none⟩ = some (.int .i64 tn) ∧ w'.cell? ⟨H8, 3, none⟩ = some (.int .i64 T0.now) ∧ w'.cell? ⟨H8, 4, none⟩ = some (.bool T0.below)))
  have SM := Lib.hid (fun (ls : List Int) w' (hb : Below W3.heap.size W3 w') wn a c (hx : NumL wn a c ls) (hb2 : Below wn.heap.size wn w') => sum_rect (hO3.grow hb) okT (hx.grow hb2) (fullA (begM b) (begN b)))
  have SR := Lib.hid (fun w' (hb : Below W3.heap.size W3 w') wn a c (hx : NumL wn a c ys) (hb2 : Below wn.heap.size wn w') => sum16_c (hrb4.grow hb) okT (hx.grow hb2) (fullA (begM b) (begN b)))
  rw [arF] at SR
  rw [arF] at SM
  have vb := sm_bd T0 (fullA (begM b) (begN b)) ys
  have SM1 := Lib.hid (SM.out ys)
  have okE := Lib.hid (show smOk (fullA (begM b) (begN b)) ys = (reOk (fullA (begM b) (begN b)) ys 1 && decide (0 ≤ at0 ys 0)) from rfl)
  generalize smV T0 (fullA (begM b) (begN b)) ys = v1 at vb SM1 SR
  generalize smOk (fullA (begM b) (begN b)) ys = ok1 at SM1 SR okE
  simp only [fullA] at SM1 SR
  go_upto_region 5 with fail
  go_cut [10, 11] from 35 to 42 (fun v10 v11 wx => v10 = .int .i64 v1 ∧ v11 = .bool ok1 ∧ Below W3.heap.size W3 wx)
  case first =>
    (refine wp_region_F (S := (fun w' => w'.cell? ⟨HB, 0, none⟩ = some (.int .i64 0) ∧ w'.cell? ⟨HB, 1, none⟩ = some (.int .i64 0) ∧ w'.cell? ⟨HB, 2, none⟩ = some (.int .i64 (begM b)) ∧ w'.cell? ⟨HB, 3, none⟩ = some (.int .i64 (begN b)))) 9 [false, false, false, false, false, false, false, false, false, false] rfl rfl (by kernel_rfl) ?_ (fun hHeld => ?_); (focus ((try dsimp only); (exact KB.out _ (by (repeat' (first | (with_reducible exact Below.refl _ _) | (with_reducible refine Below.alloc ?_ ?_ _) | (with_reducible refine below_ext ?_ ?_ _) | (with_reducible refine Below.drew ?_) | (with_reducible refine below_drewN ?_ _) | (with_reducible refine Below.setCell ?_ ?_ _) | go_size | (simp only [go_sem]; omega) | (simp [go_sem]; done) | (simp [go_sem]; omega))))); done)))
    ((refine AtF.take (oi := ?_) (v := ?_) 0 ?_ ?_ ?_ ?_ (Or.inl ⟨?_, ?_⟩) (by assumption) ?_; rotate_left 2; rfl; kernel_rfl; kernel_rfl; exact (fun _ _ _ h => h); rfl; (focus (intro w hSw; (try dsimp only at hSw); go_simp; (try with_reducible rfl); done)); (try simp only [Act.put, List.setIfInBounds_toArray, List.set_cons_zero, List.set_cons_succ])); (refine AtF.take (oi := ?_) (v := ?_) 1 ?_ ?_ ?_ ?_ (Or.inl ⟨?_, ?_⟩) (by assumption) ?_; rotate_left 2; rfl; kernel_rfl; kernel_rfl; exact (fun _ _ _ h => h); rfl; (focus (intro w hSw; (try dsimp only at hSw); go_simp; (try with_reducible rfl); done)); (try simp only [Act.put, List.setIfInBounds_toArray, List.set_cons_zero, List.set_cons_succ])); (refine AtF.take (oi := ?_) (v := ?_) 2 ?_ ?_ ?_ ?_ (Or.inl ⟨?_, ?_⟩) (by assumption) ?_; rotate_left 2; rfl; kernel_rfl; kernel_rfl; exact (fun _ _ _ h => h); rfl; (focus (intro w hSw; (try dsimp only at hSw); go_simp; (try with_reducible rfl); done)); (try simp only [Act.put, List.setIfInBounds_toArray, List.set_cons_zero, List.set_cons_succ])))
    (refine AtF.only (oi := ?_) 3 ?_ ?_ (fun K hK => ?_); rotate_left 1; rfl; kernel_rfl; (try go_simp); ((go_at_call 11); (with_reducible refine (FW.out _ (BW3.out _ (by (repeat' (first | (with_reducible exact Below.refl _ _) | (with_reducible refine Below.alloc ?_ ?_ _) | (with_reducible refine below_ext ?_ ?_ _) | (with_reducible refine Below.drew ?_) | (with_reducible refine below_drewN ?_ _) | (with_reducible refine Below.setCell ?_ ?_ _) | go_size | (simp only [go_sem]; omega) | (simp [go_sem]; done) | (simp [go_sem]; omega)))))).mono ?_); (rintro _ _ ⟨A9, C9, x9, rfl, rfl, hO9⟩); (obtain ⟨-, hN9, -⟩ := own_num hO9 hym); (try simp only [ext_drew] at hN9); (replace hN9 := Lib.hid hN9); (clear hO9)); (refine hK.out _ _ ?_ (fun hHeld => ?_)); (focus ((try dsimp only); (exact KB.out _ (by (repeat' (first | (with_reducible exact Below.refl _ _) | (with_reducible refine Below.alloc ?_ ?_ _) | (with_reducible refine below_ext ?_ ?_ _) | (with_reducible refine Below.drew ?_) | (with_reducible refine below_drewN ?_ _) | (with_reducible refine Below.setCell ?_ ?_ _) | go_size | (simp only [go_sem]; omega) | (simp [go_sem]; done) | (simp [go_sem]; omega))))); done)); clear hK K; (try simp only [Act.put, List.setIfInBounds_toArray, List.set_cons_zero, List.set_cons_succ]))
    (refine AtF.only (oi := ?_) 4 ?_ ?_ (fun K hK => ?_); rotate_left 1; rfl; kernel_rfl; (try go_simp); ((go_at_call 10); (with_reducible refine (SM1.out _ ?_ _ _ _ hN9.out ?_).mono ?_); (focus (repeat' (first | (with_reducible exact Below.refl _ _) | (with_reducible refine Below.alloc ?_ ?_ _) | (with_reducible refine below_ext ?_ ?_ _) | (with_reducible refine Below.drew ?_) | (with_reducible refine below_drewN ?_ _) | (with_reducible refine Below.setCell ?_ ?_ _) | go_size | (simp only [go_sem]; omega) | (simp [go_sem]; done) | (simp [go_sem]; omega)))); (focus (repeat' (first | (with_reducible exact Below.refl _ _) | (with_reducible refine Below.alloc ?_ ?_ _) | (with_reducible refine below_ext ?_ ?_ _) | (with_reducible refine Below.drew ?_) | (with_reducible refine below_drewN ?_ _) | (with_reducible refine Below.setCell ?_ ?_ _) | go_size | (simp only [go_sem]; omega) | (simp [go_sem]; done) | (simp [go_sem]; omega)))); (rintro _ _ hgets); (obtain ⟨rfl, x3, rfl⟩ := hgets.get); clear hgets); (refine hK.out _ _ ?_ (fun hHeld => ?_)); (focus ((try dsimp only); (exact KB.out _ (by (repeat' (first | (with_reducible exact Below.refl _ _) | (with_reducible refine Below.alloc ?_ ?_ _) | (with_reducible refine below_ext ?_ ?_ _) | (with_reducible refine Below.drew ?_) | (with_reducible refine below_drewN ?_ _) | (with_reducible refine Below.setCell ?_ ?_ _) | go_size | (simp only [go_sem]; omega) | (simp [go_sem]; done) | (simp [go_sem]; omega))))); done)); clear hK K; (try simp only [Act.put, List.setIfInBounds_toArray, List.set_cons_zero, List.set_cons_succ]))
    ((refine AtF.take (oi := ?_) (v := ?_) 5 ?_ ?_ ?_ ?_ (Or.inl ⟨?_, ?_⟩) (by assumption) ?_; rotate_left 2; rfl; kernel_rfl; kernel_rfl; exact (fun _ _ _ h => h); rfl; (focus (intro w hSw; (try dsimp only at hSw); go_simp; (try with_reducible rfl); done)); (try simp only [Act.put, List.setIfInBounds_toArray, List.set_cons_zero, List.set_cons_succ])); (refine AtF.take (oi := ?_) (v := ?_) 6 ?_ ?_ ?_ ?_ (Or.inl ⟨?_, ?_⟩) (by assumption) ?_; rotate_left 2; rfl; kernel_rfl; kernel_rfl; exact (fun _ _ _ h => h); rfl; (focus (intro w hSw; (try dsimp only at hSw); go_simp; (try with_reducible rfl); done)); (try simp only [Act.put, List.setIfInBounds_toArray, List.set_cons_zero, List.set_cons_succ])); (refine AtF.take (oi := ?_) (v := ?_) 7 ?_ ?_ ?_ ?_ (Or.inl ⟨?_, ?_⟩) (by assumption) ?_; rotate_left 2; rfl; kernel_rfl; kernel_rfl; exact (fun _ _ _ h => h); rfl; (focus (intro w hSw; (try dsimp only at hSw); go_simp; (try with_reducible rfl); done)); (try simp only [Act.put, List.setIfInBounds_toArray, List.set_cons_zero, List.set_cons_succ])); (refine AtF.take (oi := ?_) (v := ?_) 8 ?_ ?_ ?_ ?_ (Or.inl ⟨?_, ?_⟩) (by assumption) ?_; rotate_left 2; rfl; kernel_rfl; kernel_rfl; exact (fun _ _ _ h => h); rfl; (focus (intro w hSw; (try dsimp only at hSw); go_simp; (try with_reducible rfl); done)); (try simp only [Act.put, List.setIfInBounds_toArray, List.set_cons_zero, List.set_cons_succ])))
    (refine AtF.last (oi := ?_) ?_ ?_ (fun K hK => ?_); rotate_left 1; rfl; kernel_rfl; go_simp; skip; refine hK.out _ _ ?_; clear hK K; (try simp only [Act.put, List.setIfInBounds_toArray, List.set_cons_zero, List.set_cons_succ]))
    clear hHeld
    go_wp2
    go_meet
    exact ⟨rfl, rfl, by (repeat' (first | (with_reducible exact Below.refl _ _) | (with_reducible refine Below.alloc ?_ ?_ _) | (with_reducible refine below_ext ?_ ?_ _) | (with_reducible refine Below.drew ?_) | (with_reducible refine below_drewN ?_ _) | (with_reducible refine Below.setCell ?_ ?_ _) | go_size | (simp only [go_sem]; omega) | (simp [go_sem]; done) | (simp [go_sem]; omega)))⟩
  obtain ⟨rfl, rfl, hB5⟩ := hcut
  obtain ⟨x5, rfl⟩ := ext_of hB5
  clear hB5
  go_upto_region 6 with fail
  go_cut [12, 13] from 43 to 50 (fun v12 v13 wx => v12 = .int .i64 v1 ∧ v13 = .bool ok1 ∧ Below W3.heap.size W3 wx)
  case first =>
    (refine wp_region_F (S := (fun w' => (w'.cell? ⟨HB, 0, none⟩ = some (.int .i64 0) ∧ w'.cell? ⟨HB, 1, none⟩ = some (.int .i64 0) ∧ w'.cell? ⟨HB, 2, none⟩ = some (.int .i64 (begM b)) ∧ w'.cell? ⟨HB, 3, none⟩ = some (.int .i64 (begN b))) ∧ w'.cell? ⟨H8, 0, none⟩ = some (.slice (some ⟨L, o, none⟩) 3 cu) ∧ w'.cell? ⟨H8, 1, none⟩ = some (.slice tA tm tc) ∧ w'.cell? ⟨H8, 2, none⟩ = some (.int .i64 tn) ∧ w'.cell? ⟨H8, 3, none⟩ = some (.int .i64 T0.now) ∧ w'.cell? ⟨H8, 4, none⟩ = some (.bool T0.below))) 9 [false, false, false, false, false, false, false, false, false, false] rfl rfl (by kernel_rfl) ?_ (fun hHeld => ?_); (focus ((try dsimp only); (exact ⟨KB.out _ (by (repeat' (first | (with_reducible exact Below.refl _ _) | (with_reducible refine Below.alloc ?_ ?_ _) | (with_reducible refine below_ext ?_ ?_ _) | (with_reducible refine Below.drew ?_) | (with_reducible refine below_drewN ?_ _) | (with_reducible refine Below.setCell ?_ ?_ _) | go_size | (simp only [go_sem]; omega) | (simp [go_sem]; done) | (simp [go_sem]; omega)))), K8.out _ (by (repeat' (first | (with_reducible exact Below.refl _ _) | (with_reducible refine Below.alloc ?_ ?_ _) | (with_reducible refine below_ext ?_ ?_ _) | (with_reducible refine Below.drew ?_) | (with_reducible refine below_drewN ?_ _) | (with_reducible refine Below.setCell ?_ ?_ _) | go_size | (simp only [go_sem]; omega) | (simp [go_sem]; done) | (simp [go_sem]; omega))))⟩); done)))
    ((refine AtF.take (oi := ?_) (v := ?_) 0 ?_ ?_ ?_ ?_ (Or.inl ⟨?_, ?_⟩) (by assumption) ?_; rotate_left 2; rfl; kernel_rfl; kernel_rfl; exact (fun _ _ _ h => h); rfl; (focus (intro w hSw; (try dsimp only at hSw); go_simp; (try with_reducible rfl); done)); (try simp only [Act.put, List.setIfInBounds_toArray, List.set_cons_zero, List.set_cons_succ])); (refine AtF.take (oi := ?_) (v := ?_) 1 ?_ ?_ ?_ ?_ (Or.inl ⟨?_, ?_⟩) (by assumption) ?_; rotate_left 2; rfl; kernel_rfl; kernel_rfl; exact (fun _ _ _ h => h); rfl; (focus (intro w hSw; (try dsimp only at hSw); go_simp; (try with_reducible rfl); done)); (try simp only [Act.put, List.setIfInBounds_toArray, List.set_cons_zero, List.set_cons_succ])); (refine AtF.take (oi := ?_) (v := ?_) 2 ?_ ?_ ?_ ?_ (Or.inl ⟨?_, ?_⟩) (by assumption) ?_; rotate_left 2; rfl; kernel_rfl; kernel_rfl; exact (fun _ _ _ h => h); rfl; (focus (intro w hSw; (try dsimp only at hSw); go_simp; (try with_reducible rfl); done)); (try simp only [Act.put, List.setIfInBounds_toArray, List.set_cons_zero, List.set_cons_succ])))
    (refine AtF.only (oi := ?_) 3 ?_ ?_ (fun K hK => ?_); rotate_left 1; rfl; kernel_rfl; (try go_simp); ((go_at_call 11); (with_reducible refine (FW.out _ (BW3.out _ (by (repeat' (first | (with_reducible exact Below.refl _ _) | (with_reducible refine Below.alloc ?_ ?_ _) | (with_reducible refine below_ext ?_ ?_ _) | (with_reducible refine Below.drew ?_) | (with_reducible refine below_drewN ?_ _) | (with_reducible refine Below.setCell ?_ ?_ _) | go_size | (simp only [go_sem]; omega) | (simp [go_sem]; done) | (simp [go_sem]; omega)))))).mono ?_); (rintro _ _ ⟨A9, C9, x9, rfl, rfl, hO9⟩); (obtain ⟨-, hN9, -⟩ := own_num hO9 hym); (try simp only [ext_drew] at hN9); (replace hN9 := Lib.hid hN9); (clear hO9)); (refine hK.out _ _ ?_ (fun hHeld => ?_)); (focus ((try dsimp only); (exact ⟨KB.out _ (by (repeat' (first | (with_reducible exact Below.refl _ _) | (with_reducible refine Below.alloc ?_ ?_ _) | (with_reducible refine below_ext ?_ ?_ _) | (with_reducible refine Below.drew ?_) | (with_reducible refine below_drewN ?_ _) | (with_reducible refine Below.setCell ?_ ?_ _) | go_size | (simp only [go_sem]; omega) | (simp [go_sem]; done) | (simp [go_sem]; omega)))), K8.out _ (by (repeat' (first | (with_reducible exact Below.refl _ _) | (with_reducible refine Below.alloc ?_ ?_ _) | (with_reducible refine below_ext ?_ ?_ _) | (with_reducible refine Below.drew ?_) | (with_reducible refine below_drewN ?_ _) | (with_reducible refine Below.setCell ?_ ?_ _) | go_size | (simp only [go_sem]; omega) | (simp [go_sem]; done) | (simp [go_sem]; omega))))⟩); done)); clear hK K; (try simp only [Act.put, List.setIfInBounds_toArray, List.set_cons_zero, List.set_cons_succ]))
    (refine AtF.only (oi := ?_) 4 ?_ ?_ (fun K hK => ?_); rotate_left 1; rfl; kernel_rfl; (try go_simp); ((go_at_call 12); (with_reducible refine (SR.out _ ?_ _ _ _ hN9.out ?_).mono ?_); (focus (repeat' (first | (with_reducible exact Below.refl _ _) | (with_reducible refine Below.alloc ?_ ?_ _) | (with_reducible refine below_ext ?_ ?_ _) | (with_reducible refine Below.drew ?_) | (with_reducible refine below_drewN ?_ _) | (with_reducible refine Below.setCell ?_ ?_ _) | go_size | (simp only [go_sem]; omega) | (simp [go_sem]; done) | (simp [go_sem]; omega)))); (focus (repeat' (first | (with_reducible exact Below.refl _ _) | (with_reducible refine Below.alloc ?_ ?_ _) | (with_reducible refine below_ext ?_ ?_ _) | (with_reducible refine Below.drew ?_) | (with_reducible refine below_drewN ?_ _) | (with_reducible refine Below.setCell ?_ ?_ _) | go_size | (simp only [go_sem]; omega) | (simp [go_sem]; done) | (simp [go_sem]; omega)))); (rintro _ _ hgets); (obtain ⟨rfl, x3, rfl⟩ := hgets.get); clear hgets); (refine hK.out _ _ ?_ (fun hHeld => ?_)); (focus ((try dsimp only); (exact ⟨KB.out _ (by (repeat' (first | (with_reducible exact Below.refl _ _) | (with_reducible refine Below.alloc ?_ ?_ _) | (with_reducible refine below_ext ?_ ?_ _) | (with_reducible refine Below.drew ?_) | (with_reducible refine below_drewN ?_ _) | (with_reducible refine Below.setCell ?_ ?_ _) | go_size | (simp only [go_sem]; omega) | (simp [go_sem]; done) | (simp [go_sem]; omega)))), K8.out _ (by (repeat' (first | (with_reducible exact Below.refl _ _) | (with_reducible refine Below.alloc ?_ ?_ _) | (with_reducible refine below_ext ?_ ?_ _) | (with_reducible refine Below.drew ?_) | (with_reducible refine below_drewN ?_ _) | (with_reducible refine Below.setCell ?_ ?_ _) | go_size | (simp only [go_sem]; omega) | (simp [go_sem]; done) | (simp [go_sem]; omega))))⟩); done)); clear hK K; (try simp only [Act.put, List.setIfInBounds_toArray, List.set_cons_zero, List.set_cons_succ]))
    ((refine AtF.take (oi := ?_) (v := ?_) 5 ?_ ?_ ?_ ?_ (Or.inl ⟨?_, ?_⟩) (by assumption) ?_; rotate_left 2; rfl; kernel_rfl; kernel_rfl; exact (fun _ _ _ h => h); rfl; (focus (intro w hSw; (try dsimp only at hSw); go_simp; (try with_reducible rfl); done)); (try simp only [Act.put, List.setIfInBounds_toArray, List.set_cons_zero, List.set_cons_succ])); (refine AtF.take (oi := ?_) (v := ?_) 6 ?_ ?_ ?_ ?_ (Or.inl ⟨?_, ?_⟩) (by assumption) ?_; rotate_left 2; rfl; kernel_rfl; kernel_rfl; exact (fun _ _ _ h => h); rfl; (focus (intro w hSw; (try dsimp only at hSw); go_simp; (try with_reducible rfl); done)); (try simp only [Act.put, List.setIfInBounds_toArray, List.set_cons_zero, List.set_cons_succ])); (refine AtF.take (oi := ?_) (v := ?_) 7 ?_ ?_ ?_ ?_ (Or.inl ⟨?_, ?_⟩) (by assumption) ?_; rotate_left 2; rfl; kernel_rfl; kernel_rfl; exact (fun _ _ _ h => h); rfl; (focus (intro w hSw; (try dsimp only at hSw); go_simp; (try with_reducible rfl); done)); (try simp only [Act.put, List.setIfInBounds_toArray, List.set_cons_zero, List.set_cons_succ])); (refine AtF.take (oi := ?_) (v := ?_) 8 ?_ ?_ ?_ ?_ (Or.inl ⟨?_, ?_⟩) (by assumption) ?_; rotate_left 2; rfl; kernel_rfl; kernel_rfl; exact (fun _ _ _ h => h); rfl; (focus (intro w hSw; (try dsimp only at hSw); go_simp; (try with_reducible rfl); done)); (try simp only [Act.put, List.setIfInBounds_toArray, List.set_cons_zero, List.set_cons_succ])))
    (refine AtF.last (oi := ?_) ?_ ?_ (fun K hK => ?_); rotate_left 1; rfl; kernel_rfl; go_simp; skip; refine hK.out _ _ ?_; clear hK K; (try simp only [Act.put, List.setIfInBounds_toArray, List.set_cons_zero, List.set_cons_succ]))
    clear hHeld
    go_wp2
    go_meet
    exact ⟨rfl, rfl, by (repeat' (first | (with_reducible exact Below.refl _ _) | (with_reducible refine Below.alloc ?_ ?_ _) | (with_reducible refine below_ext ?_ ?_ _) | (with_reducible refine Below.drew ?_) | (with_reducible refine below_drewN ?_ _) | (with_reducible refine Below.setCell ?_ ?_ _) | go_size | (simp only [go_sem]; omega) | (simp [go_sem]; done) | (simp [go_sem]; omega)))⟩
  obtain ⟨rfl, rfl, hB6⟩ := hcut
  obtain ⟨x6, rfl⟩ := ext_of hB6
  clear hB6 x5 SR K8 SM1
  have hne1 : (v1 != v1) = false := by simp
  have hne2 : (ok1 != ok1) = false := by simp
  have hne3 : decide (v1 < 0) = false := by simp; omega
  have hne4 : decide (v1 > 65535) = false := by simp; omega
  go_upto_region 9 with fail
  clear hne1 hne2 hne3 hne4 vb b83 hl83 hrb4 hrb3 hbk2 b8
  have RC : Hid (∀ w' wn a c, NumL wn a c ys → Below wn.heap.size wn w' → Calls Tryz.prog 13 #[boxV 0 0 (begM b) (begN b), .slice a ys.length c, .int .i64 1] w' (Gives w' (.tuple #[boxV (reB (fullA (begM b) (begN b)) ys 1).t (reB (fullA (begM b) (begN b)) ys 1).l (reB (fullA (begM b) (begN b)) ys 1).b (reB (fullA (begM b) (begN b)) ys 1).r, .bool (reOk (fullA (begM b) (begN b)) ys 1)]))) := Lib.hid (fun w' wn a c hx hb2 => rect_r 0 0 (begM b) (begN b) a c ys 1 w' (by omega) (by omega) (by omega) (by omega) (hx.grow hb2).rd (Nat.le_trans hx.lc hx.cm) hx.hi)
  have RD := Lib.hid (re_bd (fullA (begM b) (begN b)) ys 1)
  generalize reB (fullA (begM b) (begN b)) ys 1 = X at RC RD
  generalize reOk (fullA (begM b) (begN b)) ys 1 = k1 at RC RD okE
  obtain ⟨xt, xl, xb, xr⟩ := X
  simp only [fullA] at RC RD
  go_cut [14, 15] from 67 to 73 (fun v14 v15 wx => ∃ HX, v14 = .pointer (some ⟨HX, 0, none⟩) ∧ v15 = .bool k1 ∧ Below W3.heap.size W3 wx ∧ W3.heap.size ≤ HX ∧ wx.heap[HX]? = some (.cells #[.int .i64 xt, .int .i64 xl, .int .i64 xb, .int .i64 xr] 31 (0, 0)))
  case first =>
    go_region_held3 (fun w' => w'.cell? ⟨HB, 0, none⟩ = some (.int .i64 0) ∧ w'.cell? ⟨HB, 1, none⟩ = some (.int .i64 0) ∧ w'.cell? ⟨HB, 2, none⟩ = some (.int .i64 (begM b)) ∧ w'.cell? ⟨HB, 3, none⟩ = some (.int .i64 (begN b))) (exact KB.out _ (by (repeat' (first | (with_reducible exact Below.refl _ _) | (with_reducible refine Below.alloc ?_ ?_ _) | (with_reducible refine below_ext ?_ ?_ _) | (with_reducible refine Below.drew ?_) | (with_reducible refine below_drewN ?_ _) | (with_reducible refine Below.setCell ?_ ?_ _) | go_size | (simp only [go_sem]; omega) | (simp [go_sem]; done) | (simp [go_sem]; omega))))) ((first
      | ((go_at_call 11); (with_reducible refine (FW.out _ (BW3.out _ (by (repeat' (first | (with_reducible exact Below.refl _ _) | (with_reducible refine Below.alloc ?_ ?_ _) | (with_reducible refine below_ext ?_ ?_ _) | (with_reducible refine Below.drew ?_) | (with_reducible refine below_drewN ?_ _) | (with_reducible refine Below.setCell ?_ ?_ _) | go_size | (simp only [go_sem]; omega) | (simp [go_sem]; done) | (simp [go_sem]; omega)))))).mono ?_); (rintro _ _ ⟨A9, C9, x9, rfl, rfl, hO9⟩); (obtain ⟨-, hN9, -⟩ := own_num hO9 hym); (try simp only [ext_drew] at hN9); (replace hN9 := Lib.hid hN9); (clear hO9))
      | ((go_at_call 13); (with_reducible refine (RC.out _ _ _ _ hN9.out ?_).mono ?_); (focus (repeat' (first | (with_reducible exact Below.refl _ _) | (with_reducible refine Below.alloc ?_ ?_ _) | (with_reducible refine below_ext ?_ ?_ _) | (with_reducible refine Below.drew ?_) | (with_reducible refine below_drewN ?_ _) | (with_reducible refine Below.setCell ?_ ?_ _) | go_size | (simp only [go_sem]; omega) | (simp [go_sem]; done) | (simp [go_sem]; omega)))); (rintro _ _ hgets); (obtain ⟨rfl, x3, rfl⟩ := hgets.get); clear hgets)))
    all_goals clear KB RC FW hN9
    all_goals go_wp2
    all_goals go_meet
    all_goals refine ⟨_, rfl, rfl, by (repeat' (first | (with_reducible exact Below.refl _ _) | (with_reducible refine Below.alloc ?_ ?_ _) | (with_reducible refine below_ext ?_ ?_ _) | (with_reducible refine Below.drew ?_) | (with_reducible refine below_drewN ?_ _) | (with_reducible refine Below.setCell ?_ ?_ _) | go_size | (simp only [go_sem]; omega) | (simp [go_sem]; done) | (simp [go_sem]; omega))), by (try simp); (try omega), ?_⟩
    all_goals (repeat (first | ((with_reducible refine heap_at _ _ ?_); (focus (first | rfl | (simp [go_sem]; done) | (simp [go_sem]; omega)))) | ((with_reducible refine (heap_old _ _ ?_).trans ?_); (focus (first | (simp [go_sem]; done) | (simp [go_sem]; omega)))) | ((with_reducible refine (block_ext _ _ ?_).trans ?_); (focus (first | (simp [go_sem]; done) | (simp [go_sem]; omega)))) | ((with_reducible refine (heap_drew _ _).trans ?_))))
  obtain ⟨HX, rfl, rfl, hB7, hHX, bX⟩ := hcut
  obtain ⟨x7, e7⟩ := ext_of hB7
  subst e7
  clear hB7 x6 RC
  cases k1
  · obtain rfl : ok1 = false := okE.out
    go_wp2
    go_returns
    exact ⟨rfl, BW3.out _ (by (repeat' (first | (with_reducible exact Below.refl _ _) | (with_reducible refine Below.alloc ?_ ?_ _) | (with_reducible refine below_ext ?_ ?_ _) | (with_reducible refine Below.drew ?_) | (with_reducible refine below_drewN ?_ _) | (with_reducible refine Below.setCell ?_ ?_ _) | go_size | (simp only [go_sem]; omega) | (simp [go_sem]; done) | (simp [go_sem]; omega))))⟩
  · by_cases hn0 : at0 ys 0 < 0
    · have oe := okE.out
      rw [decide_eq_false (by omega : ¬ 0 ≤ at0 ys 0)] at oe
      obtain rfl : ok1 = false := oe
      obtain ⟨hx0, hxn⟩ := hneg.out hn0
      have hB7 := BW3.out (ext W3 x7) (by (repeat' (first | (with_reducible exact Below.refl _ _) | (with_reducible refine Below.alloc ?_ ?_ _) | (with_reducible refine below_ext ?_ ?_ _) | (with_reducible refine Below.drew ?_) | (with_reducible refine below_drewN ?_ _) | (with_reducible refine Below.setCell ?_ ?_ _) | go_size | (simp only [go_sem]; omega) | (simp [go_sem]; done) | (simp [go_sem]; omega))))
      obtain ⟨bx, ox, rfl, hbx, q0⟩ := (hxr.out.below hB7).cell1 hx0 rfl
      rw [Nat.add_zero] at q0
      generalize xs[0] = z0 at q0 hxn
      have hd0 : decide (z0 < 0) = true := by simp; omega
      have hd1 : decide ((xs.length : Int) > 0) = true := by simp; omega
      clear hB7 okE
      go_wp2
      go_returns
      exact ⟨rfl, BW3.out _ (by (repeat' (first | (with_reducible exact Below.refl _ _) | (with_reducible refine Below.alloc ?_ ?_ _) | (with_reducible refine below_ext ?_ ?_ _) | (with_reducible refine Below.drew ?_) | (with_reducible refine below_drewN ?_ _) | (with_reducible refine Below.setCell ?_ ?_ _) | go_size | (simp only [go_sem]; omega) | (simp [go_sem]; done) | (simp [go_sem]; omega))))⟩
    · have oe := okE.out
      rw [decide_eq_true (by omega : 0 ≤ at0 ys 0)] at oe
      obtain rfl : ok1 = true := oe
      clear okE hn0
      by_cases hz2 : zs.length < 2
      · have hd0 : decide ((zs.length : Int) < 2) = true := by simp; omega
        go_wp2
        go_returns
        exact ⟨rfl, BW3.out _ (by (repeat' (first | (with_reducible exact Below.refl _ _) | (with_reducible refine Below.alloc ?_ ?_ _) | (with_reducible refine below_ext ?_ ?_ _) | (with_reducible refine Below.drew ?_) | (with_reducible refine below_drewN ?_ _) | (with_reducible refine Below.setCell ?_ ?_ _) | go_size | (simp only [go_sem]; omega) | (simp [go_sem]; done) | (simp [go_sem]; omega))))⟩
      · have hd0 : decide ((zs.length : Int) < 2) = false := by simp; omega
        clear hneg hxr
        obtain ⟨X1, X2, X3, X4, X5, X6⟩ := RD.out rfl
        go_upto_region 12 with fail
        obtain ⟨W7, eW7⟩ : ∃ W7, W7 = ext W3 x7 := ⟨_, rfl⟩
        have hB7 : Below W3.heap.size W3 W7 := by rw [eW7]; (repeat' (first | (with_reducible exact Below.refl _ _) | (with_reducible refine Below.alloc ?_ ?_ _) | (with_reducible refine below_ext ?_ ?_ _) | (with_reducible refine Below.drew ?_) | (with_reducible refine below_drewN ?_ _) | (with_reducible refine Below.setCell ?_ ?_ _) | go_size | (simp only [go_sem]; omega) | (simp [go_sem]; done) | (simp [go_sem]; omega)))
        rw [← eW7] at bX ⊢
        clear eW7 x7 RD
        have hlX := heap_in bX
        have KX := Lib.hid (fun w' (h : Below W7.heap.size W7 w') => (by
          have hb2 := (h.block HX hlX).trans bX
          exact ⟨by rw [cell_in hb2]; rfl, by rw [cell_in hb2]; rfl, by rw [cell_in hb2]; rfl, by rw [cell_in hb2]; rfl⟩ : w'.cell? ⟨HX, 0, none⟩ = some (.int .i64 xt) ∧ w'.cell? ⟨HX, 1, none⟩ = some (.int .i64 xl) ∧ w'.cell? ⟨HX, 2, none⟩ = some (.int .i64 xb) ∧ w'.cell? ⟨HX, 3, none⟩ = some (.int .i64 xr)))
        have B37 := Lib.hid (fun w' (h : Below W7.heap.size W7 w') => hB7.trans (h.mono hB7.size))
        have hwr : IntKind.i64.wrap (xb - xt) = xb - xt := wrap_i64 (by omega) (by omega)
        have hwc : IntKind.i64.wrap (xr - xl) = xr - xl := wrap_i64 (by omega) (by omega)
        go_cut [16, 17] from 99 to 108 (fun v16 v17 wx => v16 = .int .i64 (xb - xt) ∧ v17 = .int .i64 (xr - xl) ∧ Below W7.heap.size W7 wx)
        case first =>
          clear FW2 SM KB
          go_region_held3 (fun w' => w'.cell? ⟨HX, 0, none⟩ = some (.int .i64 xt) ∧ w'.cell? ⟨HX, 1, none⟩ = some (.int .i64 xl) ∧ w'.cell? ⟨HX, 2, none⟩ = some (.int .i64 xb) ∧ w'.cell? ⟨HX, 3, none⟩ = some (.int .i64 xr)) (exact KX.out _ (by (repeat' (first | (with_reducible exact Below.refl _ _) | (with_reducible refine Below.alloc ?_ ?_ _) | (with_reducible refine below_ext ?_ ?_ _) | (with_reducible refine Below.drew ?_) | (with_reducible refine below_drewN ?_ _) | (with_reducible refine Below.setCell ?_ ?_ _) | go_size | (simp only [go_sem]; omega) | (simp [go_sem]; done) | (simp [go_sem]; omega))))) (fail)
          all_goals go_wp2
          all_goals go_meet
          all_goals exact ⟨rfl, rfl, by (repeat' (first | (with_reducible exact Below.refl _ _) | (with_reducible refine Below.alloc ?_ ?_ _) | (with_reducible refine below_ext ?_ ?_ _) | (with_reducible refine Below.drew ?_) | (with_reducible refine below_drewN ?_ _) | (with_reducible refine Below.setCell ?_ ?_ _) | go_size | (simp only [go_sem]; omega) | (simp [go_sem]; done) | (simp [go_sem]; omega)))⟩
        obtain ⟨rfl, rfl, hB8⟩ := hcut
        obtain ⟨x8, e8⟩ := ext_of hB8
        subst e8
        clear hB8
        have PL : Hid (∀ w' wn a c, NumL wn a c ts → Below wn.heap.size wn w' → Calls Tryz.prog 14 #[boxV 0 0 (begM b) (begN b), .slice a ts.length c, .int .i64 0] w' (Gives w' (.agg #[.int .i64 (cpR (fullA (begM b) (begN b)) ts 0), .int .i64 (cpC (fullA (begM b) (begN b)) ts 0)]))) := Lib.hid (fun w' wn a c hx hb2 => by
          rw [← place_v]
          exact place_r 0 0 (begM b) (begN b) a c ts 0 w' (by omega) (by omega) (by omega) (by omega) (hx.grow hb2).rd (Nat.le_trans hx.lc hx.cm))
        obtain ⟨⟨P1, P2⟩, P3, P4⟩ := cp_bd (m := begM b) (n := begN b) (by omega) (by omega) ts 0
        generalize cpR (fullA (begM b) (begN b)) ts 0 = pr at PL P1 P2
        generalize cpC (fullA (begM b) (begN b)) ts 0 = pc at PL P3 P4
        go_upto_region 13 with fail
        go_cut [18] from 109 to 112 (fun v18 wx => ∃ HP, v18 = .pointer (some ⟨HP, 0, none⟩) ∧ Below W7.heap.size W7 wx ∧ W7.heap.size ≤ HP ∧ wx.heap[HP]? = some (.cells #[.int .i64 pr, .int .i64 pc] 52 (0, 0)))
        case first =>
          clear SM KX
          go_region_held3 (fun w' => w'.cell? ⟨HB, 0, none⟩ = some (.int .i64 0) ∧ w'.cell? ⟨HB, 1, none⟩ = some (.int .i64 0) ∧ w'.cell? ⟨HB, 2, none⟩ = some (.int .i64 (begM b)) ∧ w'.cell? ⟨HB, 3, none⟩ = some (.int .i64 (begN b))) (exact KB.out _ (B37.out _ (by (repeat' (first | (with_reducible exact Below.refl _ _) | (with_reducible refine Below.alloc ?_ ?_ _) | (with_reducible refine below_ext ?_ ?_ _) | (with_reducible refine Below.drew ?_) | (with_reducible refine below_drewN ?_ _) | (with_reducible refine Below.setCell ?_ ?_ _) | go_size | (simp only [go_sem]; omega) | (simp [go_sem]; done) | (simp [go_sem]; omega)))))) ((first
            | ((go_at_call 11); (with_reducible refine (FW2.out _ (BW3.out _ (B37.out _ (by (repeat' (first | (with_reducible exact Below.refl _ _) | (with_reducible refine Below.alloc ?_ ?_ _) | (with_reducible refine below_ext ?_ ?_ _) | (with_reducible refine Below.drew ?_) | (with_reducible refine below_drewN ?_ _) | (with_reducible refine Below.setCell ?_ ?_ _) | go_size | (simp only [go_sem]; omega) | (simp [go_sem]; done) | (simp [go_sem]; omega))))))).mono ?_); (rintro _ _ ⟨A9, C9, x9, rfl, rfl, hO9⟩); (obtain ⟨-, hN9, -⟩ := own_num hO9 hzm); (try simp only [ext_drew] at hN9); (replace hN9 := Lib.hid hN9); (clear hO9))
            | ((go_at_call 14); (with_reducible refine (PL.out _ _ _ _ hN9.out ?_).mono ?_); (focus (repeat' (first | (with_reducible exact Below.refl _ _) | (with_reducible refine Below.alloc ?_ ?_ _) | (with_reducible refine below_ext ?_ ?_ _) | (with_reducible refine Below.drew ?_) | (with_reducible refine below_drewN ?_ _) | (with_reducible refine Below.setCell ?_ ?_ _) | go_size | (simp only [go_sem]; omega) | (simp [go_sem]; done) | (simp [go_sem]; omega)))); (rintro _ _ hgets); (obtain ⟨rfl, x3, rfl⟩ := hgets.get); clear hgets)))
          all_goals clear KB PL FW2 hN9
          all_goals go_wp2
          all_goals go_meet
          all_goals refine ⟨_, rfl, by (repeat' (first | (with_reducible exact Below.refl _ _) | (with_reducible refine Below.alloc ?_ ?_ _) | (with_reducible refine below_ext ?_ ?_ _) | (with_reducible refine Below.drew ?_) | (with_reducible refine below_drewN ?_ _) | (with_reducible refine Below.setCell ?_ ?_ _) | go_size | (simp only [go_sem]; omega) | (simp [go_sem]; done) | (simp [go_sem]; omega))), by (try simp); (try omega), ?_⟩
          all_goals (repeat (first | ((with_reducible refine heap_at _ _ ?_); (focus (first | rfl | (simp [go_sem]; done) | (simp [go_sem]; omega)))) | ((with_reducible refine (heap_old _ _ ?_).trans ?_); (focus (first | (simp [go_sem]; done) | (simp [go_sem]; omega)))) | ((with_reducible refine (block_ext _ _ ?_).trans ?_); (focus (first | (simp [go_sem]; done) | (simp [go_sem]; omega)))) | ((with_reducible refine (heap_drew _ _).trans ?_))))
        obtain ⟨HP, rfl, hB9, hHP, bP⟩ := hcut
        obtain ⟨W9, eW9⟩ : ∃ W9, W9 = wc := ⟨_, rfl⟩
        rw [← eW9] at hB9 bP ⊢
        clear eW9 wc x8 PL FW2
        have hlP := heap_in bP
        have B79 := Lib.hid (fun w' (h : Below W9.heap.size W9 w') => hB9.trans (h.mono hB9.size))
        have KP := Lib.hid (fun w' (h : Below W9.heap.size W9 w') => (by
          have hb2 := (h.block HP hlP).trans bP
          exact ⟨by rw [cell_in hb2]; rfl, by rw [cell_in hb2]; rfl⟩ : w'.cell? ⟨HP, 0, none⟩ = some (.int .i64 pr) ∧ w'.cell? ⟨HP, 1, none⟩ = some (.int .i64 pc)))
        have hs1 : IntKind.i64.wrap (pr + (xb - xt)) = pr + (xb - xt) := wrap_i64 (by omega) (by omega)
        have hs2 : IntKind.i64.wrap (pc + (xr - xl)) = pc + (xr - xl) := wrap_i64 (by omega) (by omega)
        go_upto_region 14 with fail
        obtain ⟨c1, c2, c3, c4⟩ := KB.out W9 (B37.out _ (B79.out _ (Below.refl _ _)))
        obtain ⟨c5, c6, c7, c8⟩ := KX.out W9 (B79.out _ (Below.refl _ _))
        obtain ⟨c9, c10⟩ := KP.out W9 (Below.refl _ _)
        by_cases y1 : (begM b : Int) < pr + (xb - xt)
        · have hd1 : decide (pr + (xb - xt) > (begM b : Int)) = true := by simp; omega
          go_wp2
          go_returns
          exact ⟨rfl, BW3.out _ (B37.out _ (B79.out _ (by (repeat' (first | (with_reducible exact Below.refl _ _) | (with_reducible refine Below.alloc ?_ ?_ _) | (with_reducible refine below_ext ?_ ?_ _) | (with_reducible refine Below.drew ?_) | (with_reducible refine below_drewN ?_ _) | (with_reducible refine Below.setCell ?_ ?_ _) | go_size | (simp only [go_sem]; omega) | (simp [go_sem]; done) | (simp [go_sem]; omega))))))⟩
        · have hd1 : decide (pr + (xb - xt) > (begM b : Int)) = false := by simp; omega
          by_cases y2 : (begN b : Int) < pc + (xr - xl)
          · have hd2 : decide (pc + (xr - xl) > (begN b : Int)) = true := by simp; omega
            go_wp2
            go_returns
            exact ⟨rfl, BW3.out _ (B37.out _ (B79.out _ (by (repeat' (first | (with_reducible exact Below.refl _ _) | (with_reducible refine Below.alloc ?_ ?_ _) | (with_reducible refine below_ext ?_ ?_ _) | (with_reducible refine Below.drew ?_) | (with_reducible refine below_drewN ?_ _) | (with_reducible refine Below.setCell ?_ ?_ _) | go_size | (simp only [go_sem]; omega) | (simp [go_sem]; done) | (simp [go_sem]; omega))))))⟩
          · have hd2 : decide (pc + (xr - xl) > (begN b : Int)) = false := by simp; omega
            go_upto_region 16 with fail
            have h39 := B37.out _ (B79.out _ (Below.refl _ _))
            have hO9 := hO3.grow h39
            have hd1p : ∀ (i : Nat) (h : i < T0.pages.length), (T0.pages[i]'h).rows.length = begM b ∧ (T0.pages[i]'h).cols = begN b := fun i h => by rw [pgi]; exact bkP_len i
            obtain ⟨k1, k2⟩ := copy_own len3 arF (hd1p 1 _) X1 X2 X3 X4 X5 X6 P1 (by omega) P3 (by omega)
            have CP := Lib.hid (fun w' q hb hq => copy_call hO9 okT (fullA (begM b) (begN b)) (xt + 1) (xl + 1) xb xr 2 (pr + 1) (pc + 1) 3 (by simp; omega) w' q hb hq)
            rw [arF, k1, k2] at CP
            have okQ : (pasteS (T0.pages[2]'(by omega)) (T0.pages[1]'(by omega)) ⟨xt, xl, xb, xr⟩ pr pc).Ok := pasteJ_ok (okT.pg _ (List.getElem_mem _)) (okT.pg _ (List.getElem_mem _))
            have hQd : (pasteS (T0.pages[2]'(by omega)) (T0.pages[1]'(by omega)) ⟨xt, xl, xb, xr⟩ pr pc).rows.length = begM b ∧ (pasteS (T0.pages[2]'(by omega)) (T0.pages[1]'(by omega)) ⟨xt, xl, xb, xr⟩ pr pc).cols = begN b := ⟨by unfold pasteS; rw [pasteJ_len]; exact (hd1p 2 _).1, (hd1p 2 (by omega)).2⟩
            have hQe : cellsS (pasteS (T0.pages[2]'(by omega)) (T0.pages[1]'(by omega)) ⟨xt, xl, xb, xr⟩ pr pc) ⟨pr, pc, pr + (xb - xt), pc + (xr - xl)⟩ = cellsS (T0.pages[1]'(by omega)) ⟨xt, xl, xb, xr⟩ := paste_cells (X := ⟨xt, xl, xb, xr⟩) (okT.pg _ (List.getElem_mem _)) (okT.pg _ (List.getElem_mem _)) X1 (by simp only; omega) (by rw [(hd1p 1 _).1]; exact X3) X4 (by simp only; omega) (by rw [(hd1p 1 _).2]; exact X6) P1 (by rw [(hd1p 2 _).1]; simp only; omega) P3 (by rw [(hd1p 2 _).2]; simp only; omega)
            generalize pasteS (T0.pages[2]'(by omega)) (T0.pages[1]'(by omega)) ⟨xt, xl, xb, xr⟩ pr pc = Q at CP okQ hQd hQe
            have ok1 : (T0.set 2 Q).Ok := okT.set 2 okQ
            have l1 : (T0.set 2 Q).pages.length = 3 := by rw [BkS.set_len]; exact len3
            have g0 : ∀ h, (T0.set 2 Q).pages[0]'h = T0.pages[0]'(by omega) := fun h => bkset_else (by omega) (by omega) Q h
            have g1 : ∀ h, (T0.set 2 Q).pages[1]'h = T0.pages[1]'(by omega) := fun h => bkset_else (by omega) (by omega) Q h
            have g2 : ∀ h, (T0.set 2 Q).pages[2]'h = Q := fun h => bkset_same (by omega) Q h
            have arF1 : arK (T0.set 2 Q) (fullA (begM b) (begN b)) = fullA (begM b) (begN b) := ar_fullK ok1 (fun h => by rw [g0]; exact hd1p 0 _)
            obtain ⟨s1, s2⟩ := sum_own l1 arF1 1 (by omega) 2 rfl (by rw [g1]; exact hd1p 1 _) X1 X2 X3 X4 X5 X6
            obtain ⟨s3, s4⟩ := sum_own l1 arF1 2 (by omega) 3 rfl (by rw [g2]; exact hQd) P1 (by omega : pr < pr + (xb - xt)) (by omega) P3 (by omega : pc < pc + (xr - xl)) (by omega)
            rw [g1] at s2
            rw [g2, hQe, ← s2] at s4
            have hP0 : ∀ h, (T0.set 2 Q).pages[0]'h = bkP b 0 := fun h => (g0 h).trans (pgi 0 _)
            generalize T0.set 2 Q = T1 at CP ok1 l1 arF1 s1 s2 s3 s4 hP0
            clear g0 g1 g2 hQe hQd okQ s2 k1 k2
            simp only [fullA] at CP
            have hw1 : IntKind.i64.wrap (xt + 1) = xt + 1 := wrap_i64 (by omega) (by omega)
            have hw2 : IntKind.i64.wrap (xl + 1) = xl + 1 := wrap_i64 (by omega) (by omega)
            have hw3 : IntKind.i64.wrap (pr + 1) = pr + 1 := wrap_i64 (by omega) (by omega)
            have hw4 : IntKind.i64.wrap (pc + 1) = pc + 1 := wrap_i64 (by omega) (by omega)
            go_upto_region 18 with ((go_at_call 15); (with_reducible refine (CP.out _ _ ?_ ?_).mono ?_); (focus (repeat' (first | (with_reducible exact Below.refl _ _) | (with_reducible refine Below.alloc ?_ ?_ _) | (with_reducible refine below_ext ?_ ?_ _) | (with_reducible refine Below.drew ?_) | (with_reducible refine below_drewN ?_ _) | (with_reducible refine Below.setCell ?_ ?_ _) | go_size | (simp only [go_sem]; omega) | (simp [go_sem]; done) | (simp [go_sem]; omega)))); (focus (simp [go_sem]; done)); (rintro _ WC ⟨rfl, hD⟩); (replace hD := Lib.hid hD))
            obtain ⟨hk, VC, psC, stC, hOC⟩ := hD.out
            have hbR := hRp2.grow (hB3.trans (h39.mono hB3.size))
            have hRC := (hbR.keep' hk (fun x hx f => hx (.inl f))).v
            have h29 := hB3.trans (h39.mono hB3.size)
            have sz1 := hB3.size
            have sz2 := hB7.size
            have sz3 := hB9.size
            have bXC := (hk.block HX (by omega) (fun f => by have := hFw _ f; omega)).trans ((hB9.block HX hlX).trans bX)
            have bPC := (hk.block HP hlP (fun f => by have := hFw _ f; omega)).trans bP
            have bBC := (hk.block HB (by omega) (fun f => by have := hFw _ f; omega)).trans ((h39.block HB hlB).trans bB)
            have q8C : WC.cell? ⟨H8, 0, none⟩ = some (.slice (some ⟨L, o, none⟩) 3 cu) := (cell_of_heap (i := 0) (hk.block H8 (by omega) (fun f => by have := hFw _ f; omega))).trans ((h29.cell (p := ⟨H8, 0, none⟩) hl8).trans q8)
            have d0C := (cell_of_heap (i := o) (hk.block L (by omega) hLF)).trans ((h29.cell (p := ⟨L, o, none⟩) hLl2).trans d0)
            have d1C := (cell_of_heap (i := o + 1) (hk.block L (by omega) hLF)).trans ((h29.cell (p := ⟨L, o + 1, none⟩) hLl2).trans d1)
            have szC := hk.size
            have BWC := Lib.hid (fun w' (h : Below WC.heap.size WC w') => (by
              have h1 := BW3.out _ h39
              have h2 := h1.trans (hk.below hFg h1.size)
              exact h2.trans (h.mono h2.size) : Below w.heap.size w w'))
            have S1 := Lib.hid (fun w' q hb hq => sum_call hOC ok1 (fullA (begM b) (begN b)) 2 (xt + 1) (xl + 1) xb xr (by simp; omega) w' q hb hq)
            have S2 := Lib.hid (fun w' q hb hq => sum_call hOC ok1 (fullA (begM b) (begN b)) 3 (pr + 1) (pc + 1) (pr + (xb - xt)) (pc + (xr - xl)) (by simp; omega) w' q hb hq)
            rw [arF1, s1] at S1
            rw [arF1, s3, s4] at S2
            generalize smV T1 (fullA (begM b) (begN b)) [2, xt + 1, xl + 1, xb, xr] = u at S1 S2
            simp only [fullA] at S1 S2
            obtain ⟨pp, MB⟩ := BkM.start hOC ok1
            obtain ⟨G, hG, -, -⟩ := MB.deed 0 (by omega)
            rw [hP0] at hG
            have IS := Lib.hid (fun w' (hb : Below WC.heap.size WC w') => is_c _ (hG.grow hb) (bkP_ok hB'.out (by omega)) (hRC.grow hb))
            have PG : Hid (∀ w', Below WC.heap.size WC w' → Calls Tryz.prog 17 #[ptrV cB, .int .i64 0] w' (Gives w' (ptrV (pp 0)))) := Lib.hid (fun w' hb => MB.page 0 (by omega) w' hb)
            have hlXC := heap_in bXC
            have hlPC := heap_in bPC
            have hlBC := heap_in bBC
            have hl8C : H8 < WC.heap.size := by omega
            have hlLC : L < WC.heap.size := by omega
            clear hD hk hOC hRC MB hG hbR CP hO9 hO3 bX bP bB KX KP KB c1 c2 c3 c4 c5 c6 c7 c8 c9 c10 q8 d0 d1 hRp2 SM B37 B79
            have KC := Lib.hid (fun w' (h : Below WC.heap.size WC w') => (by
              have e1 := (h.block HX hlXC).trans bXC
              have e2 := (h.block HP hlPC).trans bPC
              have e3 := (h.block HB hlBC).trans bBC
              exact ⟨⟨by rw [cell_in e1]; rfl, by rw [cell_in e1]; rfl, by rw [cell_in e1]; rfl, by rw [cell_in e1]; rfl⟩, ⟨by rw [cell_in e2]; rfl, by rw [cell_in e2]; rfl⟩, by rw [cell_in e3]; rfl, by rw [cell_in e3]; rfl, by rw [cell_in e3]; rfl, by rw [cell_in e3]; rfl⟩ : (w'.cell? ⟨HX, 0, none⟩ = some (.int .i64 xt) ∧ w'.cell? ⟨HX, 1, none⟩ = some (.int .i64 xl) ∧ w'.cell? ⟨HX, 2, none⟩ = some (.int .i64 xb) ∧ w'.cell? ⟨HX, 3, none⟩ = some (.int .i64 xr)) ∧ (w'.cell? ⟨HP, 0, none⟩ = some (.int .i64 pr) ∧ w'.cell? ⟨HP, 1, none⟩ = some (.int .i64 pc)) ∧ w'.cell? ⟨HB, 0, none⟩ = some (.int .i64 0) ∧ w'.cell? ⟨HB, 1, none⟩ = some (.int .i64 0) ∧ w'.cell? ⟨HB, 2, none⟩ = some (.int .i64 (begM b)) ∧ w'.cell? ⟨HB, 3, none⟩ = some (.int .i64 (begN b))))
            obtain ⟨⟨c1, c2, c3, c4⟩, ⟨c5, c6⟩, c7, c8, c9, c10⟩ := KC.out WC (Below.refl _ _)
            go_upto_region 20 with (first
              | ((go_at_call 10); (with_reducible refine (S1.out _ _ ?_ ?_).mono ?_); (focus (repeat' (first | (with_reducible exact Below.refl _ _) | (with_reducible refine Below.alloc ?_ ?_ _) | (with_reducible refine below_ext ?_ ?_ _) | (with_reducible refine Below.drew ?_) | (with_reducible refine below_drewN ?_ _) | (with_reducible refine Below.setCell ?_ ?_ _) | go_size | (simp only [go_sem]; omega) | (simp [go_sem]; done) | (simp [go_sem]; omega)))); (focus (simp [go_sem]; done)); (rintro _ _ hgets); (obtain ⟨rfl, x20, rfl⟩ := hgets.get); clear hgets)
              | ((go_at_call 10); (with_reducible refine (S2.out _ _ ?_ ?_).mono ?_); (focus (repeat' (first | (with_reducible exact Below.refl _ _) | (with_reducible refine Below.alloc ?_ ?_ _) | (with_reducible refine below_ext ?_ ?_ _) | (with_reducible refine Below.drew ?_) | (with_reducible refine below_drewN ?_ _) | (with_reducible refine Below.setCell ?_ ?_ _) | go_size | (simp only [go_sem]; omega) | (simp [go_sem]; done) | (simp [go_sem]; omega)))); (focus (simp [go_sem]; done)); (rintro _ _ hgets); (obtain ⟨rfl, x21, rfl⟩ := hgets.get); clear hgets))
            have huu : (u == u) = true := by simp
            have K2 := Lib.hid (fun w' (h : Below WC.heap.size WC w') => (⟨(h.cell (p := ⟨H8, 0, none⟩) hl8C).trans q8C, (h.cell (p := ⟨L, o, none⟩) hlLC).trans d0C, (h.cell (p := ⟨L, o + 1, none⟩) hlLC).trans d1C⟩ : w'.cell? ⟨H8, 0, none⟩ = some (.slice (some ⟨L, o, none⟩) 3 cu) ∧ w'.cell? ⟨L, o, none⟩ = some (.slice rA (begM b) rc) ∧ w'.cell? ⟨L, o + 1, none⟩ = some (.int .i64 (begN b))))
            clear c1 c2 c3 c4 c5 c6 c7 c8 c9 c10 KC S1 S2 q8C d0C d1C
            (refine wp_region_F (S := (fun w' => w'.cell? ⟨H8, 0, none⟩ = some (.slice (some ⟨L, o, none⟩) 3 cu) ∧ w'.cell? ⟨L, o, none⟩ = some (.slice rA (begM b) rc) ∧ w'.cell? ⟨L, o + 1, none⟩ = some (.int .i64 (begN b)))) 15 [false, false, false, false, false, false, false, false, false, false, false, false, false, false, false, false] rfl rfl (by kernel_rfl) ?_ (fun hHeld => ?_); (focus ((try dsimp only); (exact K2.out _ (by (repeat' (first | (with_reducible exact Below.refl _ _) | (with_reducible refine Below.alloc ?_ ?_ _) | (with_reducible refine below_ext ?_ ?_ _) | (with_reducible refine Below.drew ?_) | (with_reducible refine below_drewN ?_ _) | (with_reducible refine Below.setCell ?_ ?_ _) | go_size | (simp only [go_sem]; omega) | (simp [go_sem]; done) | (simp [go_sem]; omega))))); done)))
            ((first | (refine AtF.take (oi := ?_) (v := ?_) 0 ?_ ?_ ?_ ?_ (Or.inl ⟨?_, ?_⟩) (by assumption) ?_; rotate_left 2; rfl; kernel_rfl; kernel_rfl; exact (fun _ _ _ h => h); rfl; (focus (intro w hSw; (try dsimp only at hSw); go_simp; (try with_reducible rfl); done))) | (refine AtF.take (oi := ?_) (v := ?_) 0 ?_ ?_ ?_ ?_ (Or.inr ⟨?_, ?_⟩) (by assumption) ?_; rotate_left 2; rfl; kernel_rfl; kernel_rfl; exact (fun _ _ _ h => h); rfl; rfl)); (try simp only [Act.put, List.setIfInBounds_toArray, List.set_cons_zero, List.set_cons_succ]); (first | (refine AtF.take (oi := ?_) (v := ?_) 1 ?_ ?_ ?_ ?_ (Or.inl ⟨?_, ?_⟩) (by assumption) ?_; rotate_left 2; rfl; kernel_rfl; kernel_rfl; exact (fun _ _ _ h => h); rfl; (focus (intro w hSw; (try dsimp only at hSw); go_simp; (try with_reducible rfl); done))) | (refine AtF.take (oi := ?_) (v := ?_) 1 ?_ ?_ ?_ ?_ (Or.inr ⟨?_, ?_⟩) (by assumption) ?_; rotate_left 2; rfl; kernel_rfl; kernel_rfl; exact (fun _ _ _ h => h); rfl; rfl)); (try simp only [Act.put, List.setIfInBounds_toArray, List.set_cons_zero, List.set_cons_succ]); (first | (refine AtF.take (oi := ?_) (v := ?_) 2 ?_ ?_ ?_ ?_ (Or.inl ⟨?_, ?_⟩) (by assumption) ?_; rotate_left 2; rfl; kernel_rfl; kernel_rfl; exact (fun _ _ _ h => h); rfl; (focus (intro w hSw; (try dsimp only at hSw); go_simp; (try with_reducible rfl); done))) | (refine AtF.take (oi := ?_) (v := ?_) 2 ?_ ?_ ?_ ?_ (Or.inr ⟨?_, ?_⟩) (by assumption) ?_; rotate_left 2; rfl; kernel_rfl; kernel_rfl; exact (fun _ _ _ h => h); rfl; rfl)); (try simp only [Act.put, List.setIfInBounds_toArray, List.set_cons_zero, List.set_cons_succ]); (first | (refine AtF.take (oi := ?_) (v := ?_) 3 ?_ ?_ ?_ ?_ (Or.inl ⟨?_, ?_⟩) (by assumption) ?_; rotate_left 2; rfl; kernel_rfl; kernel_rfl; exact (fun _ _ _ h => h); rfl; (focus (intro w hSw; (try dsimp only at hSw); go_simp; (try with_reducible rfl); done))) | (refine AtF.take (oi := ?_) (v := ?_) 3 ?_ ?_ ?_ ?_ (Or.inr ⟨?_, ?_⟩) (by assumption) ?_; rotate_left 2; rfl; kernel_rfl; kernel_rfl; exact (fun _ _ _ h => h); rfl; rfl)); (try simp only [Act.put, List.setIfInBounds_toArray, List.set_cons_zero, List.set_cons_succ]); (first | (refine AtF.take (oi := ?_) (v := ?_) 4 ?_ ?_ ?_ ?_ (Or.inl ⟨?_, ?_⟩) (by assumption) ?_; rotate_left 2; rfl; kernel_rfl; kernel_rfl; exact (fun _ _ _ h => h); rfl; (focus (intro w hSw; (try dsimp only at hSw); go_simp; (try with_reducible rfl); done))) | (refine AtF.take (oi := ?_) (v := ?_) 4 ?_ ?_ ?_ ?_ (Or.inr ⟨?_, ?_⟩) (by assumption) ?_; rotate_left 2; rfl; kernel_rfl; kernel_rfl; exact (fun _ _ _ h => h); rfl; rfl)); (try simp only [Act.put, List.setIfInBounds_toArray, List.set_cons_zero, List.set_cons_succ]); (first | (refine AtF.take (oi := ?_) (v := ?_) 5 ?_ ?_ ?_ ?_ (Or.inl ⟨?_, ?_⟩) (by assumption) ?_; rotate_left 2; rfl; kernel_rfl; kernel_rfl; exact (fun _ _ _ h => h); rfl; (focus (intro w hSw; (try dsimp only at hSw); go_simp; (try with_reducible rfl); done))) | (refine AtF.take (oi := ?_) (v := ?_) 5 ?_ ?_ ?_ ?_ (Or.inr ⟨?_, ?_⟩) (by assumption) ?_; rotate_left 2; rfl; kernel_rfl; kernel_rfl; exact (fun _ _ _ h => h); rfl; rfl)); (try simp only [Act.put, List.setIfInBounds_toArray, List.set_cons_zero, List.set_cons_succ]); (first | (refine AtF.take (oi := ?_) (v := ?_) 6 ?_ ?_ ?_ ?_ (Or.inl ⟨?_, ?_⟩) (by assumption) ?_; rotate_left 2; rfl; kernel_rfl; kernel_rfl; exact (fun _ _ _ h => h); rfl; (focus (intro w hSw; (try dsimp only at hSw); go_simp; (try with_reducible rfl); done))) | (refine AtF.take (oi := ?_) (v := ?_) 6 ?_ ?_ ?_ ?_ (Or.inr ⟨?_, ?_⟩) (by assumption) ?_; rotate_left 2; rfl; kernel_rfl; kernel_rfl; exact (fun _ _ _ h => h); rfl; rfl)); (try simp only [Act.put, List.setIfInBounds_toArray, List.set_cons_zero, List.set_cons_succ]); (first | (refine AtF.take (oi := ?_) (v := ?_) 7 ?_ ?_ ?_ ?_ (Or.inl ⟨?_, ?_⟩) (by assumption) ?_; rotate_left 2; rfl; kernel_rfl; kernel_rfl; exact (fun _ _ _ h => h); rfl; (focus (intro w hSw; (try dsimp only at hSw); go_simp; (try with_reducible rfl); done))) | (refine AtF.take (oi := ?_) (v := ?_) 7 ?_ ?_ ?_ ?_ (Or.inr ⟨?_, ?_⟩) (by assumption) ?_; rotate_left 2; rfl; kernel_rfl; kernel_rfl; exact (fun _ _ _ h => h); rfl; rfl)); (try simp only [Act.put, List.setIfInBounds_toArray, List.set_cons_zero, List.set_cons_succ]); (first | (refine AtF.take (oi := ?_) (v := ?_) 9 ?_ ?_ ?_ ?_ (Or.inl ⟨?_, ?_⟩) (by assumption) ?_; rotate_left 2; rfl; kernel_rfl; kernel_rfl; exact (fun _ _ _ h => h); rfl; (focus (intro w hSw; (try dsimp only at hSw); go_simp; (try with_reducible rfl); done))) | (refine AtF.take (oi := ?_) (v := ?_) 9 ?_ ?_ ?_ ?_ (Or.inr ⟨?_, ?_⟩) (by assumption) ?_; rotate_left 2; rfl; kernel_rfl; kernel_rfl; exact (fun _ _ _ h => h); rfl; rfl)); (try simp only [Act.put, List.setIfInBounds_toArray, List.set_cons_zero, List.set_cons_succ]); (first | (refine AtF.take (oi := ?_) (v := ?_) 10 ?_ ?_ ?_ ?_ (Or.inl ⟨?_, ?_⟩) (by assumption) ?_; rotate_left 2; rfl; kernel_rfl; kernel_rfl; exact (fun _ _ _ h => h); rfl; (focus (intro w hSw; (try dsimp only at hSw); go_simp; (try with_reducible rfl); done))) | (refine AtF.take (oi := ?_) (v := ?_) 10 ?_ ?_ ?_ ?_ (Or.inr ⟨?_, ?_⟩) (by assumption) ?_; rotate_left 2; rfl; kernel_rfl; kernel_rfl; exact (fun _ _ _ h => h); rfl; rfl)); (try simp only [Act.put, List.setIfInBounds_toArray, List.set_cons_zero, List.set_cons_succ]); (first | (refine AtF.take (oi := ?_) (v := ?_) 11 ?_ ?_ ?_ ?_ (Or.inl ⟨?_, ?_⟩) (by assumption) ?_; rotate_left 2; rfl; kernel_rfl; kernel_rfl; exact (fun _ _ _ h => h); rfl; (focus (intro w hSw; (try dsimp only at hSw); go_simp; (try with_reducible rfl); done))) | (refine AtF.take (oi := ?_) (v := ?_) 11 ?_ ?_ ?_ ?_ (Or.inr ⟨?_, ?_⟩) (by assumption) ?_; rotate_left 2; rfl; kernel_rfl; kernel_rfl; exact (fun _ _ _ h => h); rfl; rfl)); (try simp only [Act.put, List.setIfInBounds_toArray, List.set_cons_zero, List.set_cons_succ]); (first | (refine AtF.take (oi := ?_) (v := ?_) 12 ?_ ?_ ?_ ?_ (Or.inl ⟨?_, ?_⟩) (by assumption) ?_; rotate_left 2; rfl; kernel_rfl; kernel_rfl; exact (fun _ _ _ h => h); rfl; (focus (intro w hSw; (try dsimp only at hSw); go_simp; (try with_reducible rfl); done))) | (refine AtF.take (oi := ?_) (v := ?_) 12 ?_ ?_ ?_ ?_ (Or.inr ⟨?_, ?_⟩) (by assumption) ?_; rotate_left 2; rfl; kernel_rfl; kernel_rfl; exact (fun _ _ _ h => h); rfl; rfl)); (try simp only [Act.put, List.setIfInBounds_toArray, List.set_cons_zero, List.set_cons_succ]))
            (refine AtF.only (oi := ?_) 8 ?_ ?_ (fun K hK => ?_); rotate_left 1; rfl; kernel_rfl; (try go_simp); (go_at_call 17; ((with_reducible refine (PG.out _ (by (repeat' (first | (with_reducible exact Below.refl _ _) | (with_reducible refine Below.alloc ?_ ?_ _) | (with_reducible refine below_ext ?_ ?_ _) | (with_reducible refine Below.drew ?_) | (with_reducible refine below_drewN ?_ _) | (with_reducible refine Below.setCell ?_ ?_ _) | go_size | (simp only [go_sem]; omega) | (simp [go_sem]; done) | (simp [go_sem]; omega))))).mono ?_); rintro _ _ hgets; obtain ⟨rfl, x22, rfl⟩ := hgets.get; clear hgets)); (refine hK.out _ _ ?_ (fun hHeld => ?_)); (focus ((try dsimp only); (exact K2.out _ (by (repeat' (first | (with_reducible exact Below.refl _ _) | (with_reducible refine Below.alloc ?_ ?_ _) | (with_reducible refine below_ext ?_ ?_ _) | (with_reducible refine Below.drew ?_) | (with_reducible refine below_drewN ?_ _) | (with_reducible refine Below.setCell ?_ ?_ _) | go_size | (simp only [go_sem]; omega) | (simp [go_sem]; done) | (simp [go_sem]; omega))))); done)); clear hK K; (try simp only [Act.put, List.setIfInBounds_toArray, List.set_cons_zero, List.set_cons_succ]))
            (refine AtF.only (oi := ?_) 13 ?_ ?_ (fun K hK => ?_); rotate_left 1; rfl; kernel_rfl; (try go_simp); (go_at_call 16; ((with_reducible refine (IS.out _ (by (repeat' (first | (with_reducible exact Below.refl _ _) | (with_reducible refine Below.alloc ?_ ?_ _) | (with_reducible refine below_ext ?_ ?_ _) | (with_reducible refine Below.drew ?_) | (with_reducible refine below_drewN ?_ _) | (with_reducible refine Below.setCell ?_ ?_ _) | go_size | (simp only [go_sem]; omega) | (simp [go_sem]; done) | (simp [go_sem]; omega))))).mono ?_); rintro _ _ hgets; obtain ⟨rfl, x23, rfl⟩ := hgets.get; clear hgets)); (refine hK.out _ _ ?_ (fun hHeld => ?_)); (focus ((try dsimp only); (exact K2.out _ (by (repeat' (first | (with_reducible exact Below.refl _ _) | (with_reducible refine Below.alloc ?_ ?_ _) | (with_reducible refine below_ext ?_ ?_ _) | (with_reducible refine Below.drew ?_) | (with_reducible refine below_drewN ?_ _) | (with_reducible refine Below.setCell ?_ ?_ _) | go_size | (simp only [go_sem]; omega) | (simp [go_sem]; done) | (simp [go_sem]; omega))))); done)); clear hK K; (try simp only [Act.put, List.setIfInBounds_toArray, List.set_cons_zero, List.set_cons_succ]))
            ((first | (refine AtF.take (oi := ?_) (v := ?_) 14 ?_ ?_ ?_ ?_ (Or.inl ⟨?_, ?_⟩) (by assumption) ?_; rotate_left 2; rfl; kernel_rfl; kernel_rfl; exact (fun _ _ _ h => h); rfl; (focus (intro w hSw; (try dsimp only at hSw); go_simp; (try with_reducible rfl); done))) | (refine AtF.take (oi := ?_) (v := ?_) 14 ?_ ?_ ?_ ?_ (Or.inr ⟨?_, ?_⟩) (by assumption) ?_; rotate_left 2; rfl; kernel_rfl; kernel_rfl; exact (fun _ _ _ h => h); rfl; rfl)); (try simp only [Act.put, List.setIfInBounds_toArray, List.set_cons_zero, List.set_cons_succ]))
            (refine AtF.last (oi := ?_) ?_ ?_ (fun K hK => ?_); rotate_left 1; rfl; kernel_rfl; go_simp; skip; refine hK.out _ _ ?_; clear hK K; (try simp only [Act.put, List.setIfInBounds_toArray, List.set_cons_zero, List.set_cons_succ]))
            clear hHeld
            go_wp2
            go_returns
            exact ⟨rfl, BWC.out _ (by (repeat' (first | (with_reducible exact Below.refl _ _) | (with_reducible refine Below.alloc ?_ ?_ _) | (with_reducible refine below_ext ?_ ?_ _) | (with_reducible refine Below.drew ?_) | (with_reducible refine below_drewN ?_ _) | (with_reducible refine Below.setCell ?_ ?_ _) | go_size | (simp only [go_sem]; omega) | (simp [go_sem]; done) | (simp [go_sem]; omega))))⟩
end Go.Proofs.YtignkkejkknddaaGreat
