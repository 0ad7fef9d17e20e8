/- RectStreams: the walk.  -/
import Derived.Test.YtignkkejkknddaaRecH
import Derived.Test.YtignkkejkknddaaRecI
namespace Go.Proofs.Ytignkkejkknddaa
open Go.RowKit
set_option linter.unusedVariables false
set_option linter.unusedSimpArgs false

theorem flat_set16 (y : Int) : ∀ (xs : List Int) (i : Nat), i < xs.length → (xs.flatMap (encI .i64)).set i (.int .i64 y) = (xs.set i y).flatMap (encI .i64)
  | [], i, h => by simp at h
  | x :: xs, 0, h => by simp [encI]
  | x :: xs, i + 1, h => by
    have ih := flat_set16 y xs i (by simpa using h)
    simp only [List.flatMap_cons, List.set_cons_succ]
    rw [← ih]
    simp [encI]
theorem own_set16 {e : TypeId} {B g n cap : Nat} {w : World} {xs : List Int} (h : Own (encI .i64) 1 e B w (.slice (some ⟨g, 0, none⟩) n cap) xs) (i : Nat) (hi : i < xs.length) (y : Int) :
    Own (encI .i64) 1 e B (w.setCell ⟨g, i, none⟩ (.int .i64 y)) (.slice (some ⟨g, 0, none⟩) n cap) (xs.set i y) := by
  have hn : n = xs.length := by
    obtain ⟨A, c, e, _, _⟩ := h.form
    injection e
  subst hn
  have h' : w.ownsRow B e 1 (.slice (some ⟨g, 0, none⟩) xs.length cap) xs.length (xs.flatMap (encI .i64)) := h
  have h3 := (h'.stored i (.int .i64 y)).1
  rw [flat_set16 y xs i hi] at h3
  unfold Own
  rw [List.length_set]
  exact h3
theorem own_cell16 {e : TypeId} {B g n cap : Nat} {w : World} {xs : List Int} (h : Own (encI .i64) 1 e B w (.slice (some ⟨g, 0, none⟩) n cap) xs) {i : Nat} (hi : i < xs.length) : w.cell? ⟨g, i, none⟩ = some (.int .i64 xs[i]) ∧ w.frozen? ⟨g, i, none⟩ = false ∧ g < w.heap.size := by
  obtain ⟨cur, hc⟩ := h.blk rfl
  have hd := h.cells (g := g) rfl (i * 1 + 0) (.int .i64 xs[i]) (by rw [flat_get (encI_len _) xs i hi 0 (by omega)]; rfl)
  rw [addr_add] at hd
  exact ⟨by simpa using hd, frozen_in hc, heap_in hc⟩
theorem bk_get_same {S : BkS} {i : Nat} (hi : i < S.pages.length) (P : PgS) (h' : i < (S.set i P).pages.length) : (S.set i P).pages[i] = P := by
  unfold BkS.set
  simp [hi]
theorem bk_get_else {S : BkS} {i j : Nat} (hj : j < S.pages.length) (hne : i ≠ j) (P : PgS) (h' : j < (S.set i P).pages.length) : (S.set i P).pages[j] = S.pages[j] := by
  unfold BkS.set
  split
  · simp [hne]
  · rfl
theorem bk_set_comm (S : BkS) (P Q : PgS) {i j : Nat} (hi : i < S.pages.length) (hj : j < S.pages.length) (h : i ≠ j) : (S.set i P).set j Q = (S.set j Q).set i P := by
  unfold BkS.set
  simp [hi, hj, List.set_comm _ _ h]
theorem at_set_self {xs : List Int} {k : Nat} (h : k < xs.length) (v : Int) : at0 (xs.set k v) k = v := by
  unfold at0
  rw [if_neg (by omega), List.getD_eq_getElem?_getD, Int.toNat_natCast, List.getElem?_set_self h]
  rfl
theorem at_set_else {xs : List Int} {k j : Nat} (h : k ≠ j) (v : Int) : at0 (xs.set k v) j = at0 xs j := by
  unfold at0
  rw [if_neg (by omega), if_neg (by omega), List.getD_eq_getElem?_getD, List.getD_eq_getElem?_getD, Int.toNat_natCast, List.getElem?_set_ne h]
/-- the two pages, changed twice, are alike behind the first two cells -/
theorem str_plain {b : BgD} {w : World} (hb : b.Ok w) {l m : List Int} (h1 : at0 l 1 = 1) (h3 : at0 l 3 = 0) (h2 : at0 m 2 = at0 m 0) (h0 : at0 m 0 ≠ 0) {f1 f2 : Cl → Cl} (hf1 : ∀ c, c.ok → (f1 c).ok) (hf2 : ∀ c, c.ok → (f2 c).ok) {i k : Nat} (hi : i < begM b) (hk : k < begN b) (h : 1 < i + k) :
    atS (chS (chS (bkP b 0) (chB (fullA (begM b) (begN b)) l true) f1) (chB (fullA (begM b) (begN b)) m true) f2) i k = atS (chS (chS (bkP b 1) (chB (fullA (begM b) (begN b)) l false) f1) (chB (fullA (begM b) (begN b)) m false) f2) i k := by
  have hm := begM_in b
  have hn := begN_in b
  have ok0 := bkP_ok hb (i := 0) (by omega)
  have ok1 := bkP_ok hb (i := 1) (by omega)
  rw [chS_form (chS_ok ok0 hf1 _) _ _ _ hf2, chS_form (chS_ok ok1 hf1 _) _ _ _ hf2, chS_form ok0 _ _ _ hf1, chS_form ok1 _ _ _ hf1, mapS_mapS, mapS_mapS]
  rw [at_map ok0 (by rw [(bkP_len 0).1]; exact hi) (by rw [(bkP_len 0).2]; exact hk), at_map ok1 (by rw [(bkP_len 1).1]; exact hi) (by rw [(bkP_len 1).2]; exact hk), bkP_at (begS_ok hb) hi hk h, (ch_all h1 h3).2, (ch_row h2 h0).2]
theorem ext_alloc16 (w : World) (x : More) (o : Obj) : ∃ y, (ext w x).alloc o = ext w y := ext_of ((below_of_ext w x).alloc (by simp) o)
attribute [local go_sem ↓] cell16_f1
theorem BkM.page0 {w0 wr : World} {F : Nat → Prop} {b : Nat} {pp : Nat → Nat} {T : BkS} (h : BkM w0 F b pp T wr) (hi : 0 < T.pages.length) (w' : World) (hb : Below wr.heap.size wr w') : Calls Try.prog 9 #[ptrV b, .int .i64 0] w' (Gives w' (ptrV (pp 0))) := h.page 0 hi w' hb
theorem BkM.page1 {w0 wr : World} {F : Nat → Prop} {b : Nat} {pp : Nat → Nat} {T : BkS} (h : BkM w0 F b pp T wr) (hi : 1 < T.pages.length) (w' : World) (hb : Below wr.heap.size wr w') : Calls Try.prog 9 #[ptrV b, .int .i64 1] w' (Gives w' (ptrV (pp 1))) := h.page 1 hi w' hb
set_option maxRecDepth 100000 in
set_option maxHeartbeats 32000000 in
theorem RectStreams_walk (w : World) (b : BgD) (hb : b.Ok w) (A : Option Addr) (C : Nat) (xs : List Int) (rd : Ints w A xs) (hl : xs.length ≤ C) (hm : C ≤ maxLen) (wf : ∀ n ∈ xs, (Lit.int .i64 n).wf = true) (re : C * 8 ≤ 140737488351232) (flip : Bool) :
    Calls Try.prog 3 #[b.v, .slice A xs.length C, .bool flip] w (Gives w (.bool true)) := by
  have hx : NumL w A C xs := ⟨rd, hl, by simp [maxLen] at hm; omega, fun n hn => (bounds_i64 (wf n hn)).2⟩
  obtain ⟨BA, hBA⟩ : ∃ BA, BA = b.cells.toArray := ⟨_, rfl⟩
  have BK := Lib.hid (fun w' (h : Below w.heap.size w w') => book_16 b 2 w' (hb.below h))
  have AW := Lib.hid awake_16
  have FW := Lib.hid (fun w' (h : Below w.heap.size w w') => (by exact few_c (hx.grow h) 12 (by omega) : Calls Try.prog 6 #[.slice A xs.length C, .int .i64 12] w' (FewR w' (xs.take 12))))
  have hym : ∀ z ∈ xs.take 12, z ≤ 9223372036854775807 := fun z hz => hx.hi z (List.mem_of_mem_take hz)
  have hyl : (xs.take 12).length ≤ 12 := by rw [List.length_take]; omega
  generalize xs.take 12 = ys at FW hym hyl
  have hB' := Lib.hid hb
  have bm := begM_in b
  have bn := begN_in b
  unfold BgD.v at BK ⊢
  rw [← hBA] at BK ⊢
  replace hBA := Lib.hid hBA
  clear hb rd wf re hx
  go_enter Try.func3, Try.ntmps3
  go_upto_region 3 with (go_at_call 4; ((with_reducible refine (AW.out _).mono ?_); rintro _ _ hgets; obtain ⟨rfl, x1, rfl⟩ := hgets.get; clear hgets))
  obtain ⟨W0, hW0⟩ : ∃ W0, W0 = ext (w.alloc (.cells BA 33)) x1 := ⟨_, rfl⟩
  have hB0 : Below w.heap.size w W0 := by rw [hW0]; (repeat' (first | (with_reducible exact Below.refl _ _) | (with_reducible refine Below.alloc ?_ ?_ _) | (with_reducible refine below_ext ?_ ?_ _) | (with_reducible refine Below.drew ?_) | (with_reducible refine below_drewN ?_ _) | (with_reducible refine Below.setCell ?_ ?_ _) | go_size | (simp only [go_sem]; omega) | (simp [go_sem]; done) | (simp [go_sem]; omega)))
  have b0 : W0.heap[w.heap.size]? = some (.cells b.cells.toArray 33 (0, 0)) := by rw [hW0, ← hBA.out]; (repeat (first | ((with_reducible refine heap_at _ _ ?_); (focus (first | rfl | (simp [go_sem]; done) | (simp [go_sem]; omega)))) | ((with_reducible refine (heap_old _ _ ?_).trans ?_); (focus (first | (simp [go_sem]; done) | (simp [go_sem]; omega)))) | ((with_reducible refine (block_ext _ _ ?_).trans ?_); (focus (first | (simp [go_sem]; done) | (simp [go_sem]; omega)))) | ((with_reducible refine (heap_drew _ _).trans ?_))))
  rw [← hW0]
  clear hW0
  have rg0 := range_blk b0 0 b.cells (by simp [BgD.cells])
  have BK0 := Lib.hid (fun w' (h : Below W0.heap.size W0 w') => BK.out w' (hB0.trans (h.mono hB0.size)))
  rw [hBA.out] at BK0
  clear BK
  go_upto_region 4 with (first
    | (refine wpList_load_mid rfl 33 (.tmp 3) rfl w.heap.size 0 rfl b.cells _ rg0 Try.underlying33 rfl (by kernel_rfl) ?_)
    | ((go_at_call 5); (with_reducible refine (BK0.out _ (by (repeat' (first | (with_reducible exact Below.refl _ _) | (with_reducible refine Below.alloc ?_ ?_ _) | (with_reducible refine below_ext ?_ ?_ _) | (with_reducible refine Below.drew ?_) | (with_reducible refine below_drewN ?_ _) | (with_reducible refine Below.setCell ?_ ?_ _) | go_size | (simp only [go_sem]; omega) | (simp [go_sem]; done) | (simp [go_sem]; omega))))).mono ?_); (rintro _ W1 ⟨cB, F, U, rfl, hB1, hbk, hrb, hF⟩); (have hr2 := hrb); (obtain ⟨Au, cu, us, ⟨tA, tm, tc, tn⟩, rfl, -⟩ := hr2); (simp only [RPg.V] at hrb ⊢); (replace hbk := Lib.hid hbk); (replace hrb := Lib.hid hrb); (replace hB1 := Lib.hid hB1); (replace hF := Lib.hid hF)))
  have np2 : bkNp 2 = 2 := by decide
  have len2 : (bkS b 2).pages.length = 2 := by unfold bkS; rw [np2, bkJ_len]
  have pg0 : ∀ h : 0 < (bkS b 2).pages.length, (bkS b 2).pages[0]'h = bkP b 0 := fun h => by simp [bkS, bkJ, np2]
  have pg1 : ∀ h : 1 < (bkS b 2).pages.length, (bkS b 2).pages[1]'h = bkP b 1 := fun h => by simp [bkS, bkJ, np2]
  have okT : (bkS b 2).Ok := bkJ_ok hB'.out (by decide) (by decide)
  rw [len2] at hrb ⊢
  generalize bkS b 2 = T0 at hbk hrb len2 pg0 pg1 okT ⊢
  clear np2
  have hrb2 := hrb.out
  obtain ⟨A', c', us', s', e', ho⟩ := hrb2
  injection e' with e'
  injection e' with e'
  injection e' with e1 e2
  injection e1 with e1 e1b e1c
  clear e1b e1c
  subst e1
  obtain ⟨r, L, o, -, hA, hRp, hc0, hc1, hLl⟩ := ho.ps.get (i := 0) (by omega)
  have hLF : ¬ F L := fun f => ho.ps.off (by have := ho.ps.len; omega) L o hA (.inl f)
  subst hA
  rw [pg0] at hRp
  obtain ⟨f1, f2⟩ := hRp.form
  rw [(bkP_len 0).1] at f1
  rw [(bkP_len 0).2] at f2
  obtain ⟨rA, rm, rc, rn⟩ := r
  simp only at f1 f2
  subst f1 f2
  simp only [RPg.V, RPg.v, Nat.zero_mul, Nat.add_zero] at hc0 hc1 hRp
  clear ho e2
  have BW1 : Below w.heap.size w W1 := hB0.trans (hB1.out.mono hB0.size)
  generalize hW2 : W1.alloc (.cells #[.slice (some ⟨L, o, none⟩) 2 cu, .slice tA tm tc, .int .i64 tn, .int .i64 T0.now, .bool T0.below] 41) = W2
  have hB12 : Below W1.heap.size W1 W2 := by subst hW2; (repeat' (first | (with_reducible exact Below.refl _ _) | (with_reducible refine Below.alloc ?_ ?_ _) | (with_reducible refine below_ext ?_ ?_ _) | (with_reducible refine Below.drew ?_) | (with_reducible refine below_drewN ?_ _) | (with_reducible refine Below.setCell ?_ ?_ _) | go_size | (simp only [go_sem]; omega) | (simp [go_sem]; done) | (simp [go_sem]; omega)))
  have b8 : W2.heap[W1.heap.size]? = some (.cells #[.slice (some ⟨L, o, none⟩) 2 cu, .slice tA tm tc, .int .i64 tn, .int .i64 T0.now, .bool T0.below] 41 (0, 0)) := by subst hW2; exact al_at _ _ rfl
  clear hW2
  obtain ⟨H8, hH8⟩ : ∃ H8, H8 = W1.heap.size := ⟨_, rfl⟩
  rw [← hH8] at b8 ⊢
  have hbk2 := hbk.out.grow hB12
  have hF1 := hbk.out.lt
  have hRp2 := hRp.grow hB12
  have d0 := (hB12.cell (p := ⟨L, o, none⟩) hLl).trans hc0
  have d1 := (hB12.cell (p := ⟨L, o + 1, none⟩) hLl).trans hc1
  have hLl2 : L < W2.heap.size := Nat.lt_of_lt_of_le hLl hB12.size
  have q8 : W2.cell? ⟨H8, 0, none⟩ = some (.slice (some ⟨L, o, none⟩) 2 cu) := by rw [cell_in b8]; rfl
  have hl8 := heap_in b8
  have BW2 := Lib.hid (fun w' (h : Below w.heap.size W2 w') => (BW1.trans (hB12.mono BW1.size)).trans h)
  have hw2 : w.heap.size ≤ W2.heap.size := Nat.le_trans BW1.size hB12.size
  have hFw : ∀ x, F x → x < H8 := fun x hx => by rw [hH8]; exact hF1 x hx
  have hFg : ∀ x, F x → w.heap.size ≤ x := fun x hx => Nat.le_trans hB0.size (hF.out x hx)
  replace hH8 := Lib.hid hH8
  clear hbk hrb hB1 hF BK0 rg0 b0 hB0 BW1 hB12 hc0 hc1 hRp hLl hF1 AW
  replace hbk2 := Lib.hid hbk2
  replace b8 := Lib.hid b8
  go_upto_region 5 with ((go_at_call 6); (with_reducible refine (FW.out _ (BW2.out _ (by (repeat' (first | (with_reducible exact Below.refl _ _) | (with_reducible refine Below.alloc ?_ ?_ _) | (with_reducible refine below_ext ?_ ?_ _) | (with_reducible refine Below.drew ?_) | (with_reducible refine below_drewN ?_ _) | (with_reducible refine Below.setCell ?_ ?_ _) | go_size | (simp only [go_sem]; omega) | (simp [go_sem]; done) | (simp [go_sem]; omega)))))).mono ?_); (rintro _ _ ⟨A9, C9, x9, rfl, rfl, hO9⟩); (dsimp only))
  by_cases h5 : ys.length < 5
  · have hd : decide ((ys.length : Int) < 5) = true := by simp; omega
    clear hO9
    go_wp2
    go_returns
    exact ⟨rfl, BW2.out _ (by (repeat' (first | (with_reducible exact Below.refl _ _) | (with_reducible refine Below.alloc ?_ ?_ _) | (with_reducible refine below_ext ?_ ?_ _) | (with_reducible refine Below.drew ?_) | (with_reducible refine below_drewN ?_ _) | (with_reducible refine Below.setCell ?_ ?_ _) | go_size | (simp only [go_sem]; omega) | (simp [go_sem]; done) | (simp [go_sem]; omega))))⟩
  · have hd : decide ((ys.length : Int) < 5) = false := by simp; omega
    obtain ⟨g9, c9, e9, -, -⟩ := hO9.some_of (by omega)
    injection e9 with e9 _ e9'
    subst e9 e9'
    have hg9 := (hO9.lt g9 rfl).1
    have RB := Lib.hid (fun w' (hb : Below W2.heap.size W2 w') => refbox_c _ _ w' (hRp2.v.grow hb))
    rw [(bkP_len 0).1, (bkP_len 0).2] at RB
    replace hO9 := Lib.hid hO9
    go_upto_region 7 with fail
    go_cut [10] (fun v10 wx => ∃ HB, v10 = .pointer (some ⟨HB, 0, none⟩) ∧ Below (ext W2 x9).heap.size (ext W2 x9) wx ∧ (ext W2 x9).heap.size ≤ HB ∧ wx.heap[HB]? = some (.cells #[.int .i64 0, .int .i64 0, .int .i64 (begM b), .int .i64 (begN b)] 31 (0, 0)))
    case first =>
      go_wp2_with (go_at_call 7; ((with_reducible refine (RB.out _ (by (repeat' (first | (with_reducible exact Below.refl _ _) | (with_reducible refine Below.alloc ?_ ?_ _) | (with_reducible refine below_ext ?_ ?_ _) | (with_reducible refine Below.drew ?_) | (with_reducible refine below_drewN ?_ _) | (with_reducible refine Below.setCell ?_ ?_ _) | go_size | (simp only [go_sem]; omega) | (simp [go_sem]; done) | (simp [go_sem]; omega))))).mono ?_); rintro _ _ hgets; obtain ⟨rfl, x10, rfl⟩ := hgets.get; clear hgets))
      go_meet
      refine ⟨_, rfl, by (repeat' (first | (with_reducible exact Below.refl _ _) | (with_reducible refine Below.alloc ?_ ?_ _) | (with_reducible refine below_ext ?_ ?_ _) | (with_reducible refine Below.drew ?_) | (with_reducible refine below_drewN ?_ _) | (with_reducible refine Below.setCell ?_ ?_ _) | go_size | (simp only [go_sem]; omega) | (simp [go_sem]; done) | (simp [go_sem]; omega))), by (try simp); (try omega), ?_⟩
      (repeat (first | ((with_reducible refine heap_at _ _ ?_); (focus (first | rfl | (simp [go_sem]; done) | (simp [go_sem]; omega)))) | ((with_reducible refine (heap_old _ _ ?_).trans ?_); (focus (first | (simp [go_sem]; done) | (simp [go_sem]; omega)))) | ((with_reducible refine (block_ext _ _ ?_).trans ?_); (focus (first | (simp [go_sem]; done) | (simp [go_sem]; omega)))) | ((with_reducible refine (heap_drew _ _).trans ?_))))
    obtain ⟨HB, rfl, hB3, hHB, bB⟩ := hcut
    obtain ⟨W3, eW3⟩ : ∃ W3, W3 = wc := ⟨_, rfl⟩
    rw [← eW3] at hB3 bB ⊢
    clear eW3 wc
    have hO3 := hO9.out.below hB3
    have hg9l := (hO9.out.lt g9 rfl).2
    have hl1 : 1 < ys.length := by omega
    have hl3 : 3 < ys.length := by omega
    obtain ⟨k1, z1, hgl⟩ := own_cell16 hO3 hl1
    obtain ⟨k3, z3, -⟩ := own_cell16 hO3 hl3
    have hO4 := own_set16 (own_set16 hO3 1 hl1 1) 3 (by rw [List.length_set]; exact hl3) 0
    have hll : ((ys.set 1 1).set 3 0).length = ys.length := by simp
    have a1 : at0 ((ys.set 1 1).set 3 0) 1 = 1 := (at_set_else (k := 3) (j := 1) (by omega) 0).trans (at_set_self hl1 1)
    have a3 : at0 ((ys.set 1 1).set 3 0) 3 = 0 := at_set_self (k := 3) (by rw [List.length_set]; exact hl3) 0
    have hlm : ∀ z ∈ (ys.set 1 1).set 3 0, z ≤ 9223372036854775807 := fun z hz => by
      rcases List.mem_or_eq_of_mem_set hz with hz | rfl
      · rcases List.mem_or_eq_of_mem_set hz with hz | rfl
        · exact hym z hz
        · omega
      · omega
    generalize hW4 : (W3.setCell ⟨g9, 1, none⟩ (.int .i64 1)).setCell ⟨g9, 3, none⟩ (.int .i64 0) = W4 at hO4
    have hk4 : Keep (· = g9) W3 W4 := by rw [← hW4]; exact (keep_set W3 g9 1 _).set (F := (· = g9)) (p := ⟨g9, 3, none⟩) (.inl rfl) _
    generalize (ys.set 1 1).set 3 0 = l at hO4 hll a1 a3 hlm
    obtain ⟨-, hN4, -⟩ := own_num hO4 hlm
    have hB23 : Below W2.heap.size W2 W3 := (below_of_ext W2 x9).trans (hB3.mono (by simp))
    have hbk4 := (hbk2.out.grow hB23).keep hk4 (fun x hx e => by have := hFw x hx; omega)
    have hHB9 : HB ≠ g9 := by omega
    have bB4 := (hk4.block HB (heap_in bB) hHB9).trans bB
    have hs4 : W2.heap.size ≤ W4.heap.size := Nat.le_trans hB23.size hk4.size
    have hRpG := hRp2.mono (G := fun x => F x ∨ W2.heap.size ≤ x) (fun x hx g => g.elim .inl (fun e => by omega))
    have hRp4 := (hRpG.grow hB23).keep' hk4 (fun x hx e => hx (.inr (by omega)))
    have b84 := (hk4.block H8 (by omega) (by omega)).trans ((hB23.block H8 hl8).trans b8.out)
    have d04 := (cell_of_heap (i := o) (hk4.block L (by omega) (by omega))).trans ((hB23.cell (p := ⟨L, o, none⟩) hLl2).trans d0)
    have d14 := (cell_of_heap (i := o + 1) (hk4.block L (by omega) (by omega))).trans ((hB23.cell (p := ⟨L, o + 1, none⟩) hLl2).trans d1)
    have BW4 : Below w.heap.size w W4 := (BW2.out _ (hB23.mono hw2)).trans (hk4.below (fun x e => by omega) (Nat.le_trans hw2 hB23.size))
    obtain ⟨V4, ps4, st4, hO5⟩ := hbk4
    obtain ⟨pp, MB⟩ := BkM.start hO5 okT
    have okP0 := bkP_ok hB'.out (i := 0) (by omega)
    have okP1 := bkP_ok hB'.out (i := 1) (by omega)
    have full0 : arB (bkP b 0) (fullA (begM b) (begN b)) = fullA (begM b) (begN b) := by have := ar_full okP0; rwa [(bkP_len 0).1, (bkP_len 0).2] at this
    have full1 : arB (bkP b 1) (fullA (begM b) (begN b)) = fullA (begM b) (begN b) := by have := ar_full okP1; rwa [(bkP_len 1).1, (bkP_len 1).2] at this
    have hnF9 : 0 < l.length → ∀ q o', (some ⟨g9, 0, none⟩ : Option Addr) = some ⟨q, o', none⟩ → ¬ F q := fun _ q o' e f => by
      injection e with e
      injection e with e _
      have := hFw q f
      omega
    have cok := (ch_all (y := fullA (begM b) (begN b)) a1 a3).1
    obtain ⟨X0, hX0⟩ : ∃ X0, X0 = chS (bkP b 0) (chB (fullA (begM b) (begN b)) l true) (chF flip (l.drop 4)) := ⟨_, rfl⟩
    obtain ⟨X1, hX1⟩ : ∃ X1, X1 = chS (bkP b 1) (chB (fullA (begM b) (begN b)) l false) (chF flip (l.drop 4)) := ⟨_, rfl⟩
    have CHg : ∀ (T : BkS) (i : Nat) (st : Bool) (hi : i < T.pages.length) (X : PgS) (ok : Bool), arB T.pages[i] (fullA (begM b) (begN b)) = fullA (begM b) (begN b) → chOk (fullA (begM b) (begN b)) l st = ok → chS T.pages[i] (chB (fullA (begM b) (begN b)) l st) (chF flip (l.drop 4)) = X → ∀ wr, BkM W4 F cB pp T wr → ∀ w', Below wr.heap.size wr w' →
        Calls Try.prog 8 #[ptrV (pp i), boxV 0 0 (begM b) (begN b), .slice (some ⟨g9, 0, none⟩) ys.length C9, .bool st, .bool flip] w' (fun e w2 => e = .returned (.bool ok) ∧ BkM W4 F cB pp (T.set i X) w2) := fun T i st hi X ok h1 h2 h3 wr hM w' hb' => by
      have := hM.change i hi hN4 hnF9 (fullA (begM b) (begN b)) st flip w' hb'
      rw [h1, h2, h3, hll] at this
      exact this
    have CH0 := Lib.hid (CHg T0 0 true (by omega) X0 (chOk (fullA (begM b) (begN b)) l false) (by rw [pg0]; exact full0) cok (by rw [pg0]; exact hX0.symm))
    have CH1 := Lib.hid (CHg T0 1 false (by omega) X1 (chOk (fullA (begM b) (begN b)) l false) (by rw [pg1]; exact full1) rfl (by rw [pg1]; exact hX1.symm))
    have lenS : ∀ (T : BkS) i P, (T.set i P).pages.length = T.pages.length := fun T i P => BkS.set_len T i P
    have CH10 := Lib.hid (CHg (T0.set 0 X0) 1 false (by rw [lenS]; omega) X1 (chOk (fullA (begM b) (begN b)) l false) (by rw [bk_get_else (by omega) (by omega), pg1]; exact full1) rfl (by rw [bk_get_else (by omega) (by omega), pg1]; exact hX1.symm))
    have CH01 := Lib.hid (CHg (T0.set 1 X1) 0 true (by rw [lenS]; omega) X0 (chOk (fullA (begM b) (begN b)) l false) (by rw [bk_get_else (by omega) (by omega), pg0]; exact full0) cok (by rw [bk_get_else (by omega) (by omega), pg0]; exact hX0.symm))
    have lp := Lib.hid (fun i (h : i < 2) => (by omega : i < T0.pages.length))
    have lp0 := Lib.hid (fun i (h : i < 2) => (by rw [lenS]; omega : i < (T0.set 0 X0).pages.length))
    have lp1 := Lib.hid (fun i (h : i < 2) => (by rw [lenS]; omega : i < (T0.set 1 X1).pages.length))
    have FIN01 := Lib.hid (fun wr (h : BkM W4 F cB pp ((T0.set 0 X0).set 1 X1) wr) => h)
    have FIN10 := Lib.hid (fun wr (h : BkM W4 F cB pp ((T0.set 1 X1).set 0 X0) wr) => (by rw [bk_set_comm _ _ _ (by omega) (by omega) (by omega)]; exact h : BkM W4 F cB pp ((T0.set 0 X0).set 1 X1) wr))
    have KS := Lib.hid (fun T wr (hM : BkM W4 F cB pp T wr) w' (h : Below wr.heap.size wr w') => (by
      have hb1 := hM.keep.block HB (heap_in bB4) (fun f => by have := hFw _ f; omega)
      have hb2 := (h.block HB (Nat.lt_of_lt_of_le (heap_in bB4) hM.keep.size)).trans (hb1.trans bB4)
      exact ⟨by rw [cell_in hb2]; rfl, by rw [cell_in hb2]; rfl, by rw [cell_in hb2]; rfl, by rw [cell_in hb2]; rfl⟩ : w'.cell? ⟨HB, 0, none⟩ = some (.int .i64 0) ∧ w'.cell? ⟨HB, 1, none⟩ = some (.int .i64 0) ∧ w'.cell? ⟨HB, 2, none⟩ = some (.int .i64 (begM b)) ∧ w'.cell? ⟨HB, 3, none⟩ = some (.int .i64 (begN b))))
    generalize chOk (fullA (begM b) (begN b)) l false = okv at CH0 CH1 CH10 CH01
    go_upto_region 9 with fail
    (try rw [hW4])
    clear hW4
    replace MB := Lib.hid MB
    have dX0 : X0.rows.length = begM b ∧ X0.cols = begN b ∧ X0.Ok := by
      rw [hX0]
      exact ⟨by rw [chS_form okP0 _ _ _ (chF_ok _ _), mapS_len, (bkP_len 0).1], by rw [chS_form okP0 _ _ _ (chF_ok _ _), mapS_cols, (bkP_len 0).2], chS_ok okP0 (chF_ok _ _) _⟩
    have dX1 : X1.rows.length = begM b ∧ X1.cols = begN b ∧ X1.Ok := by
      rw [hX1]
      exact ⟨by rw [chS_form okP1 _ _ _ (chF_ok _ _), mapS_len, (bkP_len 1).1], by rw [chS_form okP1 _ _ _ (chF_ok _ _), mapS_cols, (bkP_len 1).2], chS_ok okP1 (chF_ok _ _) _⟩
    replace hX0 := Lib.hid hX0
    replace hX1 := Lib.hid hX1
    clear cok CHg hO5 hO4 hO3 k1 k3 z1 z3 hB3 hB23 hk4 hbk2 hO9 hRp2 hRpG d0 d1 q8 b8 hN4 hnF9 full0 full1 RB
    go_cut [50] (fun v50 wx => v50 = .bool false ∧ BkM W4 F cB pp ((T0.set 0 X0).set 1 X1) wx)
    case first =>
      (refine wp_region_F (S := (fun w' => w'.cell? ⟨HB, 0, none⟩ = some (.int .i64 0) ∧ w'.cell? ⟨HB, 1, none⟩ = some (.int .i64 0) ∧ w'.cell? ⟨HB, 2, none⟩ = some (.int .i64 (begM b)) ∧ w'.cell? ⟨HB, 3, none⟩ = some (.int .i64 (begN b)))) 12 [false, false, false, false, false, false, false, false, false, false, false, false, false] rfl rfl (by kernel_rfl) ?_ (fun hHeld => ?_); (focus ((try dsimp only); (exact KS.out _ _ MB.out _ (by (repeat' (first | (with_reducible exact Below.refl _ _) | (with_reducible refine Below.alloc ?_ ?_ _) | (with_reducible refine below_ext ?_ ?_ _) | (with_reducible refine Below.drew ?_) | (with_reducible refine below_drewN ?_ _) | (with_reducible refine Below.setCell ?_ ?_ _) | go_size | (simp only [go_sem]; omega) | (simp [go_sem]; done) | (simp [go_sem]; omega))))); done)))
      ((refine AtF.take (oi := ?_) (v := ?_) 0 ?_ ?_ ?_ ?_ (Or.inl ⟨?_, ?_⟩) (by assumption) ?_; rotate_left 2; rfl; kernel_rfl; kernel_rfl; exact (fun _ _ _ h => h); rfl; (focus (intro w hSw; (try dsimp only at hSw); go_simp; (try with_reducible rfl); done)); (try simp only [Act.put, List.setIfInBounds_toArray, List.set_cons_zero, List.set_cons_succ])); (refine AtF.take (oi := ?_) (v := ?_) 2 ?_ ?_ ?_ ?_ (Or.inl ⟨?_, ?_⟩) (by assumption) ?_; rotate_left 2; rfl; kernel_rfl; kernel_rfl; exact (fun _ _ _ h => h); rfl; (focus (intro w hSw; (try dsimp only at hSw); go_simp; (try with_reducible rfl); done)); (try simp only [Act.put, List.setIfInBounds_toArray, List.set_cons_zero, List.set_cons_succ])); (refine AtF.take (oi := ?_) (v := ?_) 3 ?_ ?_ ?_ ?_ (Or.inl ⟨?_, ?_⟩) (by assumption) ?_; rotate_left 2; rfl; kernel_rfl; kernel_rfl; exact (fun _ _ _ h => h); rfl; (focus (intro w hSw; (try dsimp only at hSw); go_simp; (try with_reducible rfl); done)); (try simp only [Act.put, List.setIfInBounds_toArray, List.set_cons_zero, List.set_cons_succ])); (refine AtF.take (oi := ?_) (v := ?_) 4 ?_ ?_ ?_ ?_ (Or.inl ⟨?_, ?_⟩) (by assumption) ?_; rotate_left 2; rfl; kernel_rfl; kernel_rfl; exact (fun _ _ _ h => h); rfl; (focus (intro w hSw; (try dsimp only at hSw); go_simp; (try with_reducible rfl); done)); (try simp only [Act.put, List.setIfInBounds_toArray, List.set_cons_zero, List.set_cons_succ])); (refine AtF.take (oi := ?_) (v := ?_) 6 ?_ ?_ ?_ ?_ (Or.inl ⟨?_, ?_⟩) (by assumption) ?_; rotate_left 2; rfl; kernel_rfl; kernel_rfl; exact (fun _ _ _ h => h); rfl; (focus (intro w hSw; (try dsimp only at hSw); go_simp; (try with_reducible rfl); done)); (try simp only [Act.put, List.setIfInBounds_toArray, List.set_cons_zero, List.set_cons_succ])); (refine AtF.take (oi := ?_) (v := ?_) 8 ?_ ?_ ?_ ?_ (Or.inl ⟨?_, ?_⟩) (by assumption) ?_; rotate_left 2; rfl; kernel_rfl; kernel_rfl; exact (fun _ _ _ h => h); rfl; (focus (intro w hSw; (try dsimp only at hSw); go_simp; (try with_reducible rfl); done)); (try simp only [Act.put, List.setIfInBounds_toArray, List.set_cons_zero, List.set_cons_succ])); (refine AtF.take (oi := ?_) (v := ?_) 9 ?_ ?_ ?_ ?_ (Or.inl ⟨?_, ?_⟩) (by assumption) ?_; rotate_left 2; rfl; kernel_rfl; kernel_rfl; exact (fun _ _ _ h => h); rfl; (focus (intro w hSw; (try dsimp only at hSw); go_simp; (try with_reducible rfl); done)); (try simp only [Act.put, List.setIfInBounds_toArray, List.set_cons_zero, List.set_cons_succ])); (refine AtF.take (oi := ?_) (v := ?_) 10 ?_ ?_ ?_ ?_ (Or.inl ⟨?_, ?_⟩) (by assumption) ?_; rotate_left 2; rfl; kernel_rfl; kernel_rfl; exact (fun _ _ _ h => h); rfl; (focus (intro w hSw; (try dsimp only at hSw); go_simp; (try with_reducible rfl); done)); (try simp only [Act.put, List.setIfInBounds_toArray, List.set_cons_zero, List.set_cons_succ])))
      (refine AtF.only (oi := ?_) 1 ?_ ?_ (fun K hK => ?_); rotate_left 1; rfl; kernel_rfl; (try go_simp); (go_at_call 9; ((with_reducible refine (MB.out.page0 (lp.out 0 (by omega)) _ (by (repeat' (first | (with_reducible exact Below.refl _ _) | (with_reducible refine Below.alloc ?_ ?_ _) | (with_reducible refine below_ext ?_ ?_ _) | (with_reducible refine Below.drew ?_) | (with_reducible refine below_drewN ?_ _) | (with_reducible refine Below.setCell ?_ ?_ _) | go_size | (simp only [go_sem]; omega) | (simp [go_sem]; done) | (simp [go_sem]; omega))))).mono ?_); rintro _ _ hgets; obtain ⟨rfl, y1, rfl⟩ := hgets.get; clear hgets)); (refine hK.out _ _ ?_ (fun hHeld => ?_)); (focus ((try dsimp only); (exact KS.out _ _ MB.out _ (by (repeat' (first | (with_reducible exact Below.refl _ _) | (with_reducible refine Below.alloc ?_ ?_ _) | (with_reducible refine below_ext ?_ ?_ _) | (with_reducible refine Below.drew ?_) | (with_reducible refine below_drewN ?_ _) | (with_reducible refine Below.setCell ?_ ?_ _) | go_size | (simp only [go_sem]; omega) | (simp [go_sem]; done) | (simp [go_sem]; omega))))); done)); clear hK K; (try simp only [Act.put, List.setIfInBounds_toArray, List.set_cons_zero, List.set_cons_succ]))
      (refine AtF.only (oi := ?_) 5 ?_ ?_ (fun K hK => ?_); rotate_left 1; rfl; kernel_rfl; (try go_simp); ((go_at_call 8); (with_reducible refine (CH0.out _ MB.out _ (by (repeat' (first | (with_reducible exact Below.refl _ _) | (with_reducible refine Below.alloc ?_ ?_ _) | (with_reducible refine below_ext ?_ ?_ _) | (with_reducible refine Below.drew ?_) | (with_reducible refine below_drewN ?_ _) | (with_reducible refine Below.setCell ?_ ?_ _) | go_size | (simp only [go_sem]; omega) | (simp [go_sem]; done) | (simp [go_sem]; omega))))).mono ?_); (rintro _ WM2 ⟨rfl, M2⟩); (replace M2 := Lib.hid M2)); (refine hK.out _ _ ?_ (fun hHeld => ?_)); (focus ((try dsimp only); (exact KS.out _ _ M2.out _ (by (repeat' (first | (with_reducible exact Below.refl _ _) | (with_reducible refine Below.alloc ?_ ?_ _) | (with_reducible refine below_ext ?_ ?_ _) | (with_reducible refine Below.drew ?_) | (with_reducible refine below_drewN ?_ _) | (with_reducible refine Below.setCell ?_ ?_ _) | go_size | (simp only [go_sem]; omega) | (simp [go_sem]; done) | (simp [go_sem]; omega))))); done)); clear hK K; (try simp only [Act.put, List.setIfInBounds_toArray, List.set_cons_zero, List.set_cons_succ]))
      (refine AtF.only (oi := ?_) 7 ?_ ?_ (fun K hK => ?_); rotate_left 1; rfl; kernel_rfl; (try go_simp); (go_at_call 9; ((with_reducible refine (M2.out.page1 (lp0.out 1 (by omega)) _ (by (repeat' (first | (with_reducible exact Below.refl _ _) | (with_reducible refine Below.alloc ?_ ?_ _) | (with_reducible refine below_ext ?_ ?_ _) | (with_reducible refine Below.drew ?_) | (with_reducible refine below_drewN ?_ _) | (with_reducible refine Below.setCell ?_ ?_ _) | go_size | (simp only [go_sem]; omega) | (simp [go_sem]; done) | (simp [go_sem]; omega))))).mono ?_); rintro _ _ hgets; obtain ⟨rfl, y3, rfl⟩ := hgets.get; clear hgets)); (refine hK.out _ _ ?_ (fun hHeld => ?_)); (focus ((try dsimp only); (exact KS.out _ _ M2.out _ (by (repeat' (first | (with_reducible exact Below.refl _ _) | (with_reducible refine Below.alloc ?_ ?_ _) | (with_reducible refine below_ext ?_ ?_ _) | (with_reducible refine Below.drew ?_) | (with_reducible refine below_drewN ?_ _) | (with_reducible refine Below.setCell ?_ ?_ _) | go_size | (simp only [go_sem]; omega) | (simp [go_sem]; done) | (simp [go_sem]; omega))))); done)); clear hK K; (try simp only [Act.put, List.setIfInBounds_toArray, List.set_cons_zero, List.set_cons_succ]))
      (refine AtF.only (oi := ?_) 11 ?_ ?_ (fun K hK => ?_); rotate_left 1; rfl; kernel_rfl; (try go_simp); ((go_at_call 8); (with_reducible refine (CH10.out _ M2.out _ (by (repeat' (first | (with_reducible exact Below.refl _ _) | (with_reducible refine Below.alloc ?_ ?_ _) | (with_reducible refine below_ext ?_ ?_ _) | (with_reducible refine Below.drew ?_) | (with_reducible refine below_drewN ?_ _) | (with_reducible refine Below.setCell ?_ ?_ _) | go_size | (simp only [go_sem]; omega) | (simp [go_sem]; done) | (simp [go_sem]; omega))))).mono ?_); (rintro _ WM4 ⟨rfl, M4⟩); (replace M4 := Lib.hid M4)); (refine hK.out _ _ ?_ (fun hHeld => ?_)); (focus ((try dsimp only); (exact KS.out _ _ M4.out _ (by (repeat' (first | (with_reducible exact Below.refl _ _) | (with_reducible refine Below.alloc ?_ ?_ _) | (with_reducible refine below_ext ?_ ?_ _) | (with_reducible refine Below.drew ?_) | (with_reducible refine below_drewN ?_ _) | (with_reducible refine Below.setCell ?_ ?_ _) | go_size | (simp only [go_sem]; omega) | (simp [go_sem]; done) | (simp [go_sem]; omega))))); done)); clear hK K; (try simp only [Act.put, List.setIfInBounds_toArray, List.set_cons_zero, List.set_cons_succ]))
      (refine AtF.last (oi := ?_) ?_ ?_ (fun K hK => ?_); rotate_left 1; rfl; kernel_rfl; go_simp; skip; refine hK.out _ _ ?_; clear hK K; (try simp only [Act.put, List.setIfInBounds_toArray, List.set_cons_zero, List.set_cons_succ]))
      clear hHeld
      go_wp2
      go_meet
      exact ⟨rfl, FIN01.out _ M4.out⟩
    obtain ⟨rfl, hM2⟩ := hcut
    obtain ⟨W5, eW5⟩ : ∃ W5, W5 = wc := ⟨_, rfl⟩
    rw [← eW5] at hM2 ⊢
    clear eW5 wc MB KS CH0 CH1 CH01 CH10 lp lp0 lp1 FIN01 FIN10
    have k45 := hM2.keep
    have BW5 : Below w.heap.size w W5 := BW4.trans (k45.below hFg BW4.size)
    have hs5 := k45.size
    have bB5 := (k45.block HB (heap_in bB4) (fun f => by have := hFw _ f; omega)).trans bB4
    have b85 := (k45.block H8 (heap_in b84) (fun f => by have := hFw _ f; omega)).trans b84
    have hRp5 := hRp4.keep' k45 (fun x hx f => hx (.inl f))
    have d05 := (cell_of_heap (i := o) (k45.block L (by omega) hLF)).trans d04
    have d15 := (cell_of_heap (i := o + 1) (k45.block L (by omega) hLF)).trans d14
    have hHBl := heap_in bB4
    have hH8l := heap_in b84
    obtain ⟨-, ok2, V5, ps5, st5, F5, hO5, hN5, hpp⟩ := hM2
    replace hN5 := Lib.hid hN5
    have hF5 := hO5.lt
    have hBW5 := Lib.hid (fun w' (h : Below w.heap.size W5 w') => BW5.trans h)
    replace hO5 := Lib.hid hO5
    replace hpp := Lib.hid hpp
    replace hF5 := Lib.hid hF5
    clear bB4 b84 hRp4 d04 d14 BW4 k45
    go_upto_region 12 with ((go_at_call 6); (with_reducible refine (FW.out _ (hBW5.out _ (by (repeat' (first | (with_reducible exact Below.refl _ _) | (with_reducible refine Below.alloc ?_ ?_ _) | (with_reducible refine below_ext ?_ ?_ _) | (with_reducible refine Below.drew ?_) | (with_reducible refine below_drewN ?_ _) | (with_reducible refine Below.setCell ?_ ?_ _) | go_size | (simp only [go_sem]; omega) | (simp [go_sem]; done) | (simp [go_sem]; omega)))))).mono ?_); (rintro _ _ ⟨A11, C11, x11, rfl, rfl, hO11⟩); (dsimp only))
    obtain ⟨g2, c2, e2, -, -⟩ := hO11.some_of (by omega)
    injection e2 with e2 e2b e2c
    clear e2b
    subst e2 e2c
    have hg2 := (hO11.lt g2 rfl).1
    have hg2l := (hO11.lt g2 rfl).2
    have h0l : 0 < ys.length := by omega
    have h2l : 2 < ys.length := by omega
    obtain ⟨k0, z0, -⟩ := own_cell16 hO11 h0l
    obtain ⟨k2, z2, -⟩ := own_cell16 hO11 h2l
    have hO7 := own_set16 hO11 2 h2l ys[0]
    have hm7 : at0 (ys.set 2 ys[0]) 2 = ys[0] ∧ at0 (ys.set 2 ys[0]) 0 = ys[0] := ⟨at_set_self h2l _, (at_set_else (k := 2) (j := 0) (by omega) _).trans (by unfold at0; rw [if_neg (by omega), List.getD_eq_getElem?_getD]; simp [h0l])⟩
    have hlen7 : (ys.set 2 ys[0]).length = ys.length := by simp
    have hy0 : ys[0] ≤ 9223372036854775807 := hym _ (List.getElem_mem h0l)
    have hb7 : ∀ z ∈ ys.set 2 ys[0], z ≤ 9223372036854775807 := fun z hz => by
      rcases List.mem_or_eq_of_mem_set hz with hz | rfl
      · exact hym z hz
      · exact hy0
    generalize ys[0] = y0 at hO7 hm7 hlen7 hb7 k0
    generalize ys.set 2 y0 = m7 at hO7 hm7 hlen7 hb7
    go_upto_region 13 with fail
    generalize hW7 : (ext W5 x11).setCell ⟨g2, 2, none⟩ (.int .i64 y0) = W7 at hO7
    have hk7 : Keep (· = g2) (ext W5 x11) W7 := by rw [← hW7]; exact keep_set _ g2 2 _
    (try rw [hW7])
    clear hW7 k0 z0 k2 z2 hO11
    obtain ⟨q0, v0, hgl7⟩ := own_cell16 hO7 (i := 0) (by omega)
    obtain ⟨q2, v2, -⟩ := own_cell16 hO7 (i := 2) (by omega)
    have e70 : m7[0]'(by omega) = y0 := by
      have := hm7.2
      unfold at0 at this
      rw [if_neg (by omega), List.getD_eq_getElem?_getD] at this
      rw [← this]
      simp [show 0 < m7.length by omega]
    rw [e70] at q0
    go_upto_if 61 with fail
    go_cut [] (fun wx => ∃ mm : List Int, Hid (mm.length = ys.length ∧ Own (encI .i64) 1 3 W5.heap.size wx (.slice (some ⟨g2, 0, none⟩) ys.length C11) mm ∧ at0 mm 2 = at0 mm 0 ∧ at0 mm 0 ≠ 0 ∧ (∀ z ∈ mm, z ≤ 9223372036854775807) ∧ Keep (· = g2) W7 wx))
    case first =>
      by_cases hz : y0 = 0
      · subst hz
        have hOa := own_set16 (own_set16 hO7 0 (by omega) 1) 2 (by rw [List.length_set]; omega) 1
        have FN : Hid _ := Lib.hid (show ((m7.set 0 1).set 2 1).length = ys.length ∧ Own (encI .i64) 1 3 W5.heap.size ((W7.setCell ⟨g2, 0, none⟩ (.int .i64 1)).setCell ⟨g2, 2, none⟩ (.int .i64 1)) (.slice (some ⟨g2, 0, none⟩) ys.length C11) ((m7.set 0 1).set 2 1) ∧ at0 ((m7.set 0 1).set 2 1) 2 = at0 ((m7.set 0 1).set 2 1) 0 ∧ at0 ((m7.set 0 1).set 2 1) 0 ≠ 0 ∧ (∀ z ∈ (m7.set 0 1).set 2 1, z ≤ 9223372036854775807) ∧ Keep (· = g2) W7 ((W7.setCell ⟨g2, 0, none⟩ (.int .i64 1)).setCell ⟨g2, 2, none⟩ (.int .i64 1)) from by
          have h1 : at0 ((m7.set 0 1).set 2 1) 2 = 1 := at_set_self (k := 2) (by rw [List.length_set]; omega) 1
          have h2 : at0 ((m7.set 0 1).set 2 1) 0 = 1 := (at_set_else (k := 2) (j := 0) (by omega) 1).trans (at_set_self (k := 0) (by omega) 1)
          refine ⟨by simp; omega, hOa, by rw [h1, h2], by rw [h2]; omega, fun z hz => ?_, (keep_set W7 g2 0 _).set (F := (· = g2)) (p := ⟨g2, 2, none⟩) (.inl rfl) _⟩
          rcases List.mem_or_eq_of_mem_set hz with hz | rfl
          · rcases List.mem_or_eq_of_mem_set hz with hz | rfl
            · exact hb7 z hz
            · omega
          · omega)
        clear hOa hO7
        go_wp2
        go_meet
        exact ⟨_, FN⟩
      · have hne : (y0 == 0) = false := by simp [hz]
        have FN := Lib.hid (show m7.length = ys.length ∧ Own (encI .i64) 1 3 W5.heap.size W7 (.slice (some ⟨g2, 0, none⟩) ys.length C11) m7 ∧ at0 m7 2 = at0 m7 0 ∧ at0 m7 0 ≠ 0 ∧ (∀ z ∈ m7, z ≤ 9223372036854775807) ∧ Keep (· = g2) W7 W7 from ⟨hlen7, hO7, by rw [hm7.1, hm7.2], by rw [hm7.2]; exact hz, hb7, Keep.refl _ _⟩)
        clear hO7
        go_wp2
        go_meet
        exact ⟨_, FN⟩
    obtain ⟨mm, hmm⟩ := hcut
    obtain ⟨hml, hO8, hm20, hmn, hmb, hk8⟩ := hmm.out
    clear hmm
    obtain ⟨W8, eW8⟩ : ∃ W8, W8 = wc := ⟨_, rfl⟩
    rw [← eW8] at hO8 hk8 ⊢
    clear eW8 wc
    have hb56 := below_of_ext W5 x11
    have hk68 : Keep (· = g2) (ext W5 x11) W8 := hk7.trans hk8 (fun x hx => .inl hx)
    have hs8 : W5.heap.size ≤ W8.heap.size := Nat.le_trans hb56.size hk68.size
    have up : ∀ {B : Nat} {o : Obj}, W5.heap[B]? = some o → W8.heap[B]? = some o := fun {B o} h => (hk68.block B (Nat.lt_of_lt_of_le (heap_in h) hb56.size) (fun e => by have := heap_in h; omega)).trans ((hb56.block B (heap_in h)).trans h)
    have bB8 := up bB5
    have b88 := up b85
    have hLg : L < W5.heap.size := by omega
    have eL : W8.heap[L]? = W5.heap[L]? := (hk68.block L (Nat.lt_of_lt_of_le hLg hb56.size) (by omega)).trans (hb56.block L hLg)
    have d08 := (cell_of_heap (i := o) eL).trans d05
    have d18 := (cell_of_heap (i := o + 1) eL).trans d15
    have hRp8 := (hRp5.grow hb56).keep' hk68 (fun x hx e => hx (.inr (by omega)))
    have BW8 : Below w.heap.size w W8 := hBW5.out _ ((hb56.mono (by omega)).trans (hk68.below (fun x e => by omega) (by simp; omega)))
    have hO8b := (hO5.out.grow hb56).keep hk68 (fun x hx e => by have := hF5.out x hx; omega)
    have MB : BkM W8 F5 cB pp ((T0.set 0 X0).set 1 X1) W8 := ⟨Keep.refl _ _, ok2, V5, ps5, st5, F5, hO8b, fun x hx => .inl hx, hpp.out⟩
    obtain ⟨-, hN8, -⟩ := own_num hO8 hmb
    have hnF8 : 0 < mm.length → ∀ q o', (some ⟨g2, 0, none⟩ : Option Addr) = some ⟨q, o', none⟩ → ¬ F5 q := fun _ q o' e f => by
      injection e with e
      injection e with e _
      have := hF5.out q f
      omega
    have cok := (ch_row (y := fullA (begM b) (begN b)) hm20 hmn).1
    have full0 : arB X0 (fullA (begM b) (begN b)) = fullA (begM b) (begN b) := by have := ar_full dX0.2.2; rwa [dX0.1, dX0.2.1] at this
    have full1 : arB X1 (fullA (begM b) (begN b)) = fullA (begM b) (begN b) := by have := ar_full dX1.2.2; rwa [dX1.1, dX1.2.1] at this
    obtain ⟨Y0, hY0⟩ : ∃ Y0, Y0 = chS X0 (chB (fullA (begM b) (begN b)) mm true) (chF flip (mm.drop 4)) := ⟨_, rfl⟩
    obtain ⟨Y1, hY1⟩ : ∃ Y1, Y1 = chS X1 (chB (fullA (begM b) (begN b)) mm false) (chF flip (mm.drop 4)) := ⟨_, rfl⟩
    have lenS : ∀ (T : BkS) i P, (T.set i P).pages.length = T.pages.length := fun T i P => BkS.set_len T i P
    have l2 : ((T0.set 0 X0).set 1 X1).pages.length = 2 := by rw [lenS, lenS, len2]
    have p20 : ∀ h, ((T0.set 0 X0).set 1 X1).pages[0]'h = X0 := fun h => by rw [bk_get_else (by rw [lenS]; omega) (by omega), bk_get_same (by omega)]
    have p21 : ∀ h, ((T0.set 0 X0).set 1 X1).pages[1]'h = X1 := fun h => by rw [bk_get_same (by rw [lenS]; omega)]
    generalize (T0.set 0 X0).set 1 X1 = T2 at MB l2 p20 p21
    have l3 : (T2.set 0 Y0).pages.length = 2 := by rw [lenS, l2]
    have l4 : ((T2.set 0 Y0).set 1 Y1).pages.length = 2 := by rw [lenS, lenS, l2]
    have CHg : ∀ (T : BkS) (i : Nat) (st : Bool) (hi : i < T.pages.length) (X Y : PgS) (ok : Bool), T.pages[i] = X → arB X (fullA (begM b) (begN b)) = fullA (begM b) (begN b) → chOk (fullA (begM b) (begN b)) mm st = ok → chS X (chB (fullA (begM b) (begN b)) mm st) (chF flip (mm.drop 4)) = Y → ∀ wr, BkM W8 F5 cB pp T wr → ∀ w', Below wr.heap.size wr w' →
        Calls Try.prog 8 #[ptrV (pp i), boxV 0 0 (begM b) (begN b), .slice (some ⟨g2, 0, none⟩) ys.length C11, .bool st, .bool flip] w' (fun e w2 => e = .returned (.bool ok) ∧ BkM W8 F5 cB pp (T.set i Y) w2) := fun T i st hi X Y ok h0 h1 h2 h3 wr hM w' hb' => by
      have := hM.change i hi hN8 hnF8 (fullA (begM b) (begN b)) st flip w' hb'
      rw [h0, h1, h2, h3, hml] at this
      exact this
    have CH0 := Lib.hid (CHg T2 0 true (by omega) X0 Y0 (chOk (fullA (begM b) (begN b)) mm false) (p20 _) full0 cok hY0.symm)
    have CH1 := Lib.hid (CHg (T2.set 0 Y0) 1 false (by omega) X1 Y1 (chOk (fullA (begM b) (begN b)) mm false) (by rw [bk_get_else (by omega) (by omega)]; exact p21 _) full1 rfl hY1.symm)
    have KS := Lib.hid (fun T wr (hM : BkM W8 F5 cB pp T wr) w' (h : Below wr.heap.size wr w') => (by
      have hb1 := hM.keep.block HB (heap_in bB8) (fun f => (hN5.out _ f).elim (fun g => by have := hFw _ g; omega) (fun e => by omega))
      have hb2 := (h.block HB (Nat.lt_of_lt_of_le (heap_in bB8) hM.keep.size)).trans (hb1.trans bB8)
      exact ⟨by rw [cell_in hb2]; rfl, by rw [cell_in hb2]; rfl, by rw [cell_in hb2]; rfl, by rw [cell_in hb2]; rfl⟩ : w'.cell? ⟨HB, 0, none⟩ = some (.int .i64 0) ∧ w'.cell? ⟨HB, 1, none⟩ = some (.int .i64 0) ∧ w'.cell? ⟨HB, 2, none⟩ = some (.int .i64 (begM b)) ∧ w'.cell? ⟨HB, 3, none⟩ = some (.int .i64 (begN b))))
    generalize chOk (fullA (begM b) (begN b)) mm false = okv at CH0 CH1
    have hp0 := MB.page0 (by omega)
    replace MB := Lib.hid MB
    replace hY0 := Lib.hid hY0
    replace hY1 := Lib.hid hY1
    clear cok CHg hN8 hnF8 full0 full1 hO8b hO8 hk8 hk7 hO7 q0 q2 v0 v2 up hp0 hRp5 bB5 b85 d05 d15 hO5
    go_upto_region 15 with fail
    go_cut [12] (fun v12 wx => v12 = .bool okv ∧ BkM W8 F5 cB pp (T2.set 0 Y0) wx)
    case first =>
      (refine wp_region_F (S := (fun w' => w'.cell? ⟨HB, 0, none⟩ = some (.int .i64 0) ∧ w'.cell? ⟨HB, 1, none⟩ = some (.int .i64 0) ∧ w'.cell? ⟨HB, 2, none⟩ = some (.int .i64 (begM b)) ∧ w'.cell? ⟨HB, 3, none⟩ = some (.int .i64 (begN b)))) 6 [false, false, false, false, false, false, false] rfl rfl (by kernel_rfl) ?_ (fun hHeld => ?_); (focus ((try dsimp only); (exact KS.out _ _ MB.out _ (by (repeat' (first | (with_reducible exact Below.refl _ _) | (with_reducible refine Below.alloc ?_ ?_ _) | (with_reducible refine below_ext ?_ ?_ _) | (with_reducible refine Below.drew ?_) | (with_reducible refine below_drewN ?_ _) | (with_reducible refine Below.setCell ?_ ?_ _) | go_size | (simp only [go_sem]; omega) | (simp [go_sem]; done) | (simp [go_sem]; omega))))); done)))
      ((refine AtF.take (oi := ?_) (v := ?_) 0 ?_ ?_ ?_ ?_ (Or.inl ⟨?_, ?_⟩) (by assumption) ?_; rotate_left 2; rfl; kernel_rfl; kernel_rfl; exact (fun _ _ _ h => h); rfl; (focus (intro w hSw; (try dsimp only at hSw); go_simp; (try with_reducible rfl); done)); (try simp only [Act.put, List.setIfInBounds_toArray, List.set_cons_zero, List.set_cons_succ])); (refine AtF.take (oi := ?_) (v := ?_) 2 ?_ ?_ ?_ ?_ (Or.inl ⟨?_, ?_⟩) (by assumption) ?_; rotate_left 2; rfl; kernel_rfl; kernel_rfl; exact (fun _ _ _ h => h); rfl; (focus (intro w hSw; (try dsimp only at hSw); go_simp; (try with_reducible rfl); done)); (try simp only [Act.put, List.setIfInBounds_toArray, List.set_cons_zero, List.set_cons_succ])); (refine AtF.take (oi := ?_) (v := ?_) 3 ?_ ?_ ?_ ?_ (Or.inl ⟨?_, ?_⟩) (by assumption) ?_; rotate_left 2; rfl; kernel_rfl; kernel_rfl; exact (fun _ _ _ h => h); rfl; (focus (intro w hSw; (try dsimp only at hSw); go_simp; (try with_reducible rfl); done)); (try simp only [Act.put, List.setIfInBounds_toArray, List.set_cons_zero, List.set_cons_succ])); (refine AtF.take (oi := ?_) (v := ?_) 4 ?_ ?_ ?_ ?_ (Or.inl ⟨?_, ?_⟩) (by assumption) ?_; rotate_left 2; rfl; kernel_rfl; kernel_rfl; exact (fun _ _ _ h => h); rfl; (focus (intro w hSw; (try dsimp only at hSw); go_simp; (try with_reducible rfl); done)); (try simp only [Act.put, List.setIfInBounds_toArray, List.set_cons_zero, List.set_cons_succ])))
      (refine AtF.only (oi := ?_) 1 ?_ ?_ (fun K hK => ?_); rotate_left 1; rfl; kernel_rfl; (try go_simp); (go_at_call 9; ((with_reducible refine (MB.out.page0 (by omega) _ (by (repeat' (first | (with_reducible exact Below.refl _ _) | (with_reducible refine Below.alloc ?_ ?_ _) | (with_reducible refine below_ext ?_ ?_ _) | (with_reducible refine Below.drew ?_) | (with_reducible refine below_drewN ?_ _) | (with_reducible refine Below.setCell ?_ ?_ _) | go_size | (simp only [go_sem]; omega) | (simp [go_sem]; done) | (simp [go_sem]; omega))))).mono ?_); rintro _ _ hgets; obtain ⟨rfl, y1, rfl⟩ := hgets.get; clear hgets)); (refine hK.out _ _ ?_ (fun hHeld => ?_)); (focus ((try dsimp only); (exact KS.out _ _ MB.out _ (by (repeat' (first | (with_reducible exact Below.refl _ _) | (with_reducible refine Below.alloc ?_ ?_ _) | (with_reducible refine below_ext ?_ ?_ _) | (with_reducible refine Below.drew ?_) | (with_reducible refine below_drewN ?_ _) | (with_reducible refine Below.setCell ?_ ?_ _) | go_size | (simp only [go_sem]; omega) | (simp [go_sem]; done) | (simp [go_sem]; omega))))); done)); clear hK K; (try simp only [Act.put, List.setIfInBounds_toArray, List.set_cons_zero, List.set_cons_succ]))
      (refine AtF.only (oi := ?_) 5 ?_ ?_ (fun K hK => ?_); rotate_left 1; rfl; kernel_rfl; (try go_simp); ((go_at_call 8); (with_reducible refine (CH0.out _ MB.out _ (by (repeat' (first | (with_reducible exact Below.refl _ _) | (with_reducible refine Below.alloc ?_ ?_ _) | (with_reducible refine below_ext ?_ ?_ _) | (with_reducible refine Below.drew ?_) | (with_reducible refine below_drewN ?_ _) | (with_reducible refine Below.setCell ?_ ?_ _) | go_size | (simp only [go_sem]; omega) | (simp [go_sem]; done) | (simp [go_sem]; omega))))).mono ?_); (rintro _ WM2 ⟨rfl, M2⟩); (replace M2 := Lib.hid M2)); (refine hK.out _ _ ?_ (fun hHeld => ?_)); (focus ((try dsimp only); (exact KS.out _ _ M2.out _ (by (repeat' (first | (with_reducible exact Below.refl _ _) | (with_reducible refine Below.alloc ?_ ?_ _) | (with_reducible refine below_ext ?_ ?_ _) | (with_reducible refine Below.drew ?_) | (with_reducible refine below_drewN ?_ _) | (with_reducible refine Below.setCell ?_ ?_ _) | go_size | (simp only [go_sem]; omega) | (simp [go_sem]; done) | (simp [go_sem]; omega))))); done)); clear hK K; (try simp only [Act.put, List.setIfInBounds_toArray, List.set_cons_zero, List.set_cons_succ]))
      (refine AtF.last (oi := ?_) ?_ ?_ (fun K hK => ?_); rotate_left 1; rfl; kernel_rfl; go_simp; skip; refine hK.out _ _ ?_; clear hK K; (try simp only [Act.put, List.setIfInBounds_toArray, List.set_cons_zero, List.set_cons_succ]))
      clear hHeld
      go_wp2
      go_meet
      exact ⟨rfl, M2.out⟩
    obtain ⟨rfl, hM3⟩ := hcut
    obtain ⟨W9, eW9⟩ : ∃ W9, W9 = wc := ⟨_, rfl⟩
    rw [← eW9] at hM3 ⊢
    clear eW9 wc
    have M3 := Lib.hid hM3
    clear hM3
    go_upto_region 16 with fail
    go_cut [79] (fun v79 wx => v79 = .bool false ∧ BkM W8 F5 cB pp ((T2.set 0 Y0).set 1 Y1) wx)
    case first =>
      (refine wp_region_F (S := (fun w' => w'.cell? ⟨HB, 0, none⟩ = some (.int .i64 0) ∧ w'.cell? ⟨HB, 1, none⟩ = some (.int .i64 0) ∧ w'.cell? ⟨HB, 2, none⟩ = some (.int .i64 (begM b)) ∧ w'.cell? ⟨HB, 3, none⟩ = some (.int .i64 (begN b)))) 7 [false, false, false, false, false, false, false, false] rfl rfl (by kernel_rfl) ?_ (fun hHeld => ?_); (focus ((try dsimp only); (exact KS.out _ _ M3.out _ (by (repeat' (first | (with_reducible exact Below.refl _ _) | (with_reducible refine Below.alloc ?_ ?_ _) | (with_reducible refine below_ext ?_ ?_ _) | (with_reducible refine Below.drew ?_) | (with_reducible refine below_drewN ?_ _) | (with_reducible refine Below.setCell ?_ ?_ _) | go_size | (simp only [go_sem]; omega) | (simp [go_sem]; done) | (simp [go_sem]; omega))))); done)))
      ((refine AtF.take (oi := ?_) (v := ?_) 0 ?_ ?_ ?_ ?_ (Or.inl ⟨?_, ?_⟩) (by assumption) ?_; rotate_left 2; rfl; kernel_rfl; kernel_rfl; exact (fun _ _ _ h => h); rfl; (focus (intro w hSw; (try dsimp only at hSw); go_simp; (try with_reducible rfl); done)); (try simp only [Act.put, List.setIfInBounds_toArray, List.set_cons_zero, List.set_cons_succ])); (refine AtF.take (oi := ?_) (v := ?_) 1 ?_ ?_ ?_ ?_ (Or.inl ⟨?_, ?_⟩) (by assumption) ?_; rotate_left 2; rfl; kernel_rfl; kernel_rfl; exact (fun _ _ _ h => h); rfl; (focus (intro w hSw; (try dsimp only at hSw); go_simp; (try with_reducible rfl); done)); (try simp only [Act.put, List.setIfInBounds_toArray, List.set_cons_zero, List.set_cons_succ])); (refine AtF.take (oi := ?_) (v := ?_) 3 ?_ ?_ ?_ ?_ (Or.inl ⟨?_, ?_⟩) (by assumption) ?_; rotate_left 2; rfl; kernel_rfl; kernel_rfl; exact (fun _ _ _ h => h); rfl; (focus (intro w hSw; (try dsimp only at hSw); go_simp; (try with_reducible rfl); done)); (try simp only [Act.put, List.setIfInBounds_toArray, List.set_cons_zero, List.set_cons_succ])); (refine AtF.take (oi := ?_) (v := ?_) 4 ?_ ?_ ?_ ?_ (Or.inl ⟨?_, ?_⟩) (by assumption) ?_; rotate_left 2; rfl; kernel_rfl; kernel_rfl; exact (fun _ _ _ h => h); rfl; (focus (intro w hSw; (try dsimp only at hSw); go_simp; (try with_reducible rfl); done)); (try simp only [Act.put, List.setIfInBounds_toArray, List.set_cons_zero, List.set_cons_succ])); (refine AtF.take (oi := ?_) (v := ?_) 5 ?_ ?_ ?_ ?_ (Or.inl ⟨?_, ?_⟩) (by assumption) ?_; rotate_left 2; rfl; kernel_rfl; kernel_rfl; exact (fun _ _ _ h => h); rfl; (focus (intro w hSw; (try dsimp only at hSw); go_simp; (try with_reducible rfl); done)); (try simp only [Act.put, List.setIfInBounds_toArray, List.set_cons_zero, List.set_cons_succ])))
      (refine AtF.only (oi := ?_) 2 ?_ ?_ (fun K hK => ?_); rotate_left 1; rfl; kernel_rfl; (try go_simp); (go_at_call 9; ((with_reducible refine (M3.out.page1 (by omega) _ (by (repeat' (first | (with_reducible exact Below.refl _ _) | (with_reducible refine Below.alloc ?_ ?_ _) | (with_reducible refine below_ext ?_ ?_ _) | (with_reducible refine Below.drew ?_) | (with_reducible refine below_drewN ?_ _) | (with_reducible refine Below.setCell ?_ ?_ _) | go_size | (simp only [go_sem]; omega) | (simp [go_sem]; done) | (simp [go_sem]; omega))))).mono ?_); rintro _ _ hgets; obtain ⟨rfl, y1, rfl⟩ := hgets.get; clear hgets)); (refine hK.out _ _ ?_ (fun hHeld => ?_)); (focus ((try dsimp only); (exact KS.out _ _ M3.out _ (by (repeat' (first | (with_reducible exact Below.refl _ _) | (with_reducible refine Below.alloc ?_ ?_ _) | (with_reducible refine below_ext ?_ ?_ _) | (with_reducible refine Below.drew ?_) | (with_reducible refine below_drewN ?_ _) | (with_reducible refine Below.setCell ?_ ?_ _) | go_size | (simp only [go_sem]; omega) | (simp [go_sem]; done) | (simp [go_sem]; omega))))); done)); clear hK K; (try simp only [Act.put, List.setIfInBounds_toArray, List.set_cons_zero, List.set_cons_succ]))
      (refine AtF.only (oi := ?_) 6 ?_ ?_ (fun K hK => ?_); rotate_left 1; rfl; kernel_rfl; (try go_simp); ((go_at_call 8); (with_reducible refine (CH1.out _ M3.out _ (by (repeat' (first | (with_reducible exact Below.refl _ _) | (with_reducible refine Below.alloc ?_ ?_ _) | (with_reducible refine below_ext ?_ ?_ _) | (with_reducible refine Below.drew ?_) | (with_reducible refine below_drewN ?_ _) | (with_reducible refine Below.setCell ?_ ?_ _) | go_size | (simp only [go_sem]; omega) | (simp [go_sem]; done) | (simp [go_sem]; omega))))).mono ?_); (rintro _ WM2 ⟨rfl, M4⟩); (replace M4 := Lib.hid M4)); (refine hK.out _ _ ?_ (fun hHeld => ?_)); (focus ((try dsimp only); (exact KS.out _ _ M4.out _ (by (repeat' (first | (with_reducible exact Below.refl _ _) | (with_reducible refine Below.alloc ?_ ?_ _) | (with_reducible refine below_ext ?_ ?_ _) | (with_reducible refine Below.drew ?_) | (with_reducible refine below_drewN ?_ _) | (with_reducible refine Below.setCell ?_ ?_ _) | go_size | (simp only [go_sem]; omega) | (simp [go_sem]; done) | (simp [go_sem]; omega))))); done)); clear hK K; (try simp only [Act.put, List.setIfInBounds_toArray, List.set_cons_zero, List.set_cons_succ]))
      (refine AtF.last (oi := ?_) ?_ ?_ (fun K hK => ?_); rotate_left 1; rfl; kernel_rfl; go_simp; skip; refine hK.out _ _ ?_; clear hK K; (try simp only [Act.put, List.setIfInBounds_toArray, List.set_cons_zero, List.set_cons_succ]))
      clear hHeld
      go_wp2
      go_meet
      exact ⟨rfl, M4.out⟩
    obtain ⟨rfl, hM4⟩ := hcut
    obtain ⟨W10, eW10⟩ : ∃ W10, W10 = wc := ⟨_, rfl⟩
    rw [← eW10] at hM4 ⊢
    clear eW10 wc M3 MB KS CH0 CH1
    have k810 := hM4.keep
    have BW10 := Lib.hid (fun w' (h : Below w.heap.size W10 w') => (BW8.trans (k810.below (fun x hx => (hN5.out _ hx).elim (fun g => hFg x g) (fun e => by omega)) BW8.size)).trans h)
    have b8t := (k810.block H8 (heap_in b88) (fun f => (hN5.out _ f).elim (fun g => by have := hFw _ g; omega) (fun e => by omega))).trans b88
    have eL10 := k810.block L (by omega) (fun f => (hN5.out _ f).elim hLF (fun e => by omega))
    have dt := (cell_of_heap (i := o) eL10).trans d08
    have hs10 := k810.size
    have hw10 : w.heap.size ≤ W10.heap.size := by omega
    have hRt := hRp8.keep' k810 (fun x hx f => hx ((hN5.out _ f).imp id (fun e => by omega)))
    have qt : W10.cell? ⟨H8, 0, none⟩ = some (.slice (some ⟨L, o, none⟩) 2 cu) := by rw [cell_in b8t]; rfl
    have hl8t := heap_in b8t
    have hLt : L < W10.heap.size := by omega
    obtain ⟨Vr, rows, eV, hlr, hvr, -⟩ := hRt
    injection eV with eV
    injection eV with eV
    injection eV with eV eVb
    clear eVb
    subst eV
    have hrl : (bkP b 0).rows.length = begM b := (bkP_len 0).1
    have t0 : ∀ h, ((T2.set 0 Y0).set 1 Y1).pages[0]'h = Y0 := fun h => by rw [bk_get_else (by omega) (by omega), bk_get_same (by omega)]
    have t1 : ∀ h, ((T2.set 0 Y0).set 1 Y1).pages[1]'h = Y1 := fun h => by rw [bk_get_same (by omega)]
    have SAME := Lib.hid (fun (i k : Nat) (hi : i < begM b) (hk : k < begN b) (h : 1 < i + k) => (by
      rw [hY0.out, hY1.out, hX0.out, hX1.out]
      exact str_plain hB'.out a1 a3 hm20 hmn (chF_ok _ _) (chF_ok _ _) hi hk h : atS Y0 i k = atS Y1 i k))
    have AT0 := Lib.hid (fun (i k : Nat) w' (h : Below W10.heap.size W10 w') => (by have := hM4.at 0 (by omega) i k w' h; rw [t0] at this; exact this : Calls Try.prog 10 #[ptrV (pp 0), .agg #[.int .i64 i, .int .i64 k]] w' (Gives w' (cellV (atS Y0 i k)))))
    have AT1 := Lib.hid (fun (i k : Nat) w' (h : Below W10.heap.size W10 w') => (by have := hM4.at 1 (by omega) i k w' h; rw [t1] at this; exact this : Calls Try.prog 10 #[ptrV (pp 1), .agg #[.int .i64 i, .int .i64 k]] w' (Gives w' (cellV (atS Y1 i k)))))
    have PG0 := Lib.hid (hM4.page0 (by omega))
    have PG1 := Lib.hid (hM4.page1 (by omega))
    clear hM4 k810 b8t eL10 d08 hRp8 b88 bB8 hN5 hY0 hY1 hX0 hX1 t0 t1 BW8 hb56 hk68 hpp
    go_upto_region 19 with fail
    go_loopw [86] (fun i wr => ∃ (ii : Nat) (x : More), ii ≤ begM b ∧ i = .int .i64 ii ∧ wr = ext W10 x) (fun i _ => begM b - (intOf i).toNat)
    case atStart => exact ⟨0, ⟨#[], W10.drawn⟩, by omega, rfl, by simp [ext]⟩
    case round =>
      obtain ⟨ii, x, hii, rfl, rfl⟩ := hrel
      by_cases hlt : ii < begM b
      · have hd1 : decide ((ii : Int) < (begM b : Int)) = true := by simp; omega
        obtain ⟨LL, g, kk, zs, z, rfl, hrow, hrm, hxk, hkm, r0, r1, hLL⟩ := hlr.at hvr (i := ii) (by omega)
        have hzl : zs.length = begN b := by
          have := (bkP_ok hB'.out (i := 0) (by omega)).len (i := ii) (by omega)
          rw [hrow, (bkP_len 0).2] at this
          exact this
        rw [hzl] at r0
        clear hrow hrm hxk
        go_upto_region 22 with fail
        clear hlr hvr r0 r1
        go_loopw [94] (fun v wr => ∃ (jj : Nat) (x : More), jj ≤ begN b ∧ v = .int .i64 jj ∧ wr = ext W10 x) (fun v _ => begN b - (intOf v).toNat)
        case atStart =>
          obtain ⟨y, hy⟩ := ext_alloc16 W10 x (.cells #[.slice (some ⟨g, 0, none⟩) (begN b) kk, .int .i64 z] 51)
          exact ⟨0, y, by omega, rfl, hy⟩
        case round =>
          obtain ⟨jj, x4, hjj, rfl, rfl⟩ := hrel
          by_cases hlt2 : jj < begN b
          · have hd2 : decide ((jj : Int) < (begN b : Int)) = true := by simp; omega
            have hw1 : IntKind.i64.wrap ((ii : Int) + jj) = (ii : Int) + jj := wrap_i64 (by omega) (by omega)
            by_cases hbig : 1 < ii + jj
            · have hd3 : decide ((ii : Int) + jj > 1) = true := by simp; omega
              have A0 := Lib.hid (AT0.out ii jj)
              have A1 := Lib.hid (AT1.out ii jj)
              have hsame := SAME.out ii jj hlt hlt2 hbig
              rw [← hsame] at A1
              generalize atS Y0 ii jj = y at A0 A1
              obtain ⟨yg, yr, yk⟩ := y
              simp only [cellV] at A0 A1
              clear hsame AT0 AT1 SAME
              go_upto_region 25 with fail
              (refine wp_region_free (by kernel_rfl) (by kernel_rfl) ?_)
              repeat (go_big_quiet_step (first | ((go_at_call 9; with_reducible exact Calls.free (PG0.out _ (by (repeat' (first | (with_reducible exact Below.refl _ _) | (with_reducible refine Below.alloc ?_ ?_ _) | (with_reducible refine below_ext ?_ ?_ _) | (with_reducible refine Below.drew ?_) | (with_reducible refine below_drewN ?_ _) | (with_reducible refine Below.setCell ?_ ?_ _) | go_size | (simp only [go_sem]; omega) | (simp [go_sem]; done) | (simp [go_sem]; omega))))))) | ((go_at_call 9; with_reducible exact Calls.free (PG1.out _ (by (repeat' (first | (with_reducible exact Below.refl _ _) | (with_reducible refine Below.alloc ?_ ?_ _) | (with_reducible refine below_ext ?_ ?_ _) | (with_reducible refine Below.drew ?_) | (with_reducible refine below_drewN ?_ _) | (with_reducible refine Below.setCell ?_ ?_ _) | go_size | (simp only [go_sem]; omega) | (simp [go_sem]; done) | (simp [go_sem]; omega))))))) | ((go_at_call 10; with_reducible exact Calls.free (A0.out _ (by (repeat' (first | (with_reducible exact Below.refl _ _) | (with_reducible refine Below.alloc ?_ ?_ _) | (with_reducible refine below_ext ?_ ?_ _) | (with_reducible refine Below.drew ?_) | (with_reducible refine below_drewN ?_ _) | (with_reducible refine Below.setCell ?_ ?_ _) | go_size | (simp only [go_sem]; omega) | (simp [go_sem]; done) | (simp [go_sem]; omega))))))) | ((go_at_call 10; with_reducible exact Calls.free (A1.out _ (by (repeat' (first | (with_reducible exact Below.refl _ _) | (with_reducible refine Below.alloc ?_ ?_ _) | (with_reducible refine below_ext ?_ ?_ _) | (with_reducible refine Below.drew ?_) | (with_reducible refine below_drewN ?_ _) | (with_reducible refine Below.setCell ?_ ?_ _) | go_size | (simp only [go_sem]; omega) | (simp [go_sem]; done) | (simp [go_sem]; omega)))))))))
              refine wpQuiet_nil ?_; rintro _ ⟨x5, rfl⟩
              go_wp2
              obtain ⟨yy, hyy⟩ := ext_of (show Below W10.heap.size W10 (ext ((ext W10 x4).alloc (.cells #[.int .i64 ii, .int .i64 jj] 53)) x5) by (repeat' (first | (with_reducible exact Below.refl _ _) | (with_reducible refine Below.alloc ?_ ?_ _) | (with_reducible refine below_ext ?_ ?_ _) | (with_reducible refine Below.drew ?_) | (with_reducible refine below_drewN ?_ _) | (with_reducible refine Below.setCell ?_ ?_ _) | go_size | (simp only [go_sem]; omega) | (simp [go_sem]; done) | (simp [go_sem]; omega))))
              exact ⟨⟨jj + 1, yy, by omega, by go_num, hyy⟩, by simp [intOf]; omega⟩
            · have hd3 : decide ((ii : Int) + jj > 1) = false := by simp; omega
              clear AT0 AT1 SAME
              go_upto_region 25 with fail
              (refine wp_region_free (by kernel_rfl) (by kernel_rfl) ?_)
              repeat (go_big_quiet_step (first | ((go_at_call 9; with_reducible exact Calls.free (PG0.out _ (by (repeat' (first | (with_reducible exact Below.refl _ _) | (with_reducible refine Below.alloc ?_ ?_ _) | (with_reducible refine below_ext ?_ ?_ _) | (with_reducible refine Below.drew ?_) | (with_reducible refine below_drewN ?_ _) | (with_reducible refine Below.setCell ?_ ?_ _) | go_size | (simp only [go_sem]; omega) | (simp [go_sem]; done) | (simp [go_sem]; omega))))))) | ((go_at_call 9; with_reducible exact Calls.free (PG1.out _ (by (repeat' (first | (with_reducible exact Below.refl _ _) | (with_reducible refine Below.alloc ?_ ?_ _) | (with_reducible refine below_ext ?_ ?_ _) | (with_reducible refine Below.drew ?_) | (with_reducible refine below_drewN ?_ _) | (with_reducible refine Below.setCell ?_ ?_ _) | go_size | (simp only [go_sem]; omega) | (simp [go_sem]; done) | (simp [go_sem]; omega)))))))))
              refine wpQuiet_nil ?_; rintro _ ⟨x5, rfl⟩
              go_wp2
              obtain ⟨yy, hyy⟩ := ext_of (show Below W10.heap.size W10 (ext ((ext W10 x4).alloc (.cells #[.int .i64 ii, .int .i64 jj] 53)) x5) by (repeat' (first | (with_reducible exact Below.refl _ _) | (with_reducible refine Below.alloc ?_ ?_ _) | (with_reducible refine below_ext ?_ ?_ _) | (with_reducible refine Below.drew ?_) | (with_reducible refine below_drewN ?_ _) | (with_reducible refine Below.setCell ?_ ?_ _) | go_size | (simp only [go_sem]; omega) | (simp [go_sem]; done) | (simp [go_sem]; omega))))
              exact ⟨⟨jj + 1, yy, by omega, by go_num, hyy⟩, by simp [intOf]; omega⟩
          · obtain rfl : jj = begN b := by omega
            have hd2 : decide ((begN b : Int) < (begN b : Int)) = false := by simp
            clear AT0 AT1 PG0 PG1 SAME
            go_wp2
            exact ⟨⟨ii + 1, _, by omega, by go_num, rfl⟩, by simp [intOf]; omega⟩
      · obtain rfl : ii = begM b := by omega
        have hd1 : decide ((begM b : Int) < (begM b : Int)) = false := by simp
        clear hlr hvr AT0 AT1 PG0 PG1 SAME
        go_wp2
        go_returns
        exact ⟨rfl, BW10.out _ (by (repeat' (first | (with_reducible exact Below.refl _ _) | (with_reducible refine Below.alloc ?_ ?_ _) | (with_reducible refine below_ext ?_ ?_ _) | (with_reducible refine Below.drew ?_) | (with_reducible refine below_drewN ?_ _) | (with_reducible refine Below.setCell ?_ ?_ _) | go_size | (simp only [go_sem]; omega) | (simp [go_sem]; done) | (simp [go_sem]; omega))))⟩
end Go.Proofs.Ytignkkejkknddaa
