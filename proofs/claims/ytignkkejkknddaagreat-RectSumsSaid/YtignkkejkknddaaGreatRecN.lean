/- phosphorref16: Area, page, Sum.  -/
import Derived.Test.YtignkkejkknddaaGreatRecF
import Derived.Test.YtignkkejkknddaaGreatRecI
import Derived.Test.YtignkkejkknddaaGreatPgIs
import Derived.Test.YtignkkejkknddaaGreatBox4
import Derived.Test.YtignkkejkknddaaGreatRbkB
namespace Go.Proofs.YtignkkejkknddaaGreat
open Go.RowKit
set_option linter.unusedVariables false
set_option linter.unusedSimpArgs false

section
variable {w : World} {P : PgS} {U : Value}
set_option maxRecDepth 100000 in
theorem area16_c (h : RefV w U P) (x : BxI) : Calls Tryz.prog 46 #[U, boxV x.t x.l x.b x.r] w (Gives w (boxV (arB P x).t (arB P x).l (arB P x).b (arB P x).r)) := by
  have BX := Lib.hid (fun w' (hb : Below w.heap.size w w') => refbox_c U P w' (h.grow hb))
  have M := Lib.hid (fun w' => meet_r x.t x.l x.b x.r 0 0 P.rows.length P.cols w')
  rw [onB_v, show onB P.rows.length P.cols x = arB P x from rfl] at M
  obtain ⟨A, c, rows, rfl, hl, hv, hn⟩ := h.op
  clear h hl hv hn
  generalize arB P x = y at M ⊢
  obtain ⟨t, l, b, r⟩ := x
  obtain ⟨t', l', b', r'⟩ := y
  simp only at M ⊢
  go_enter Tryz.func46, Tryz.ntmps46
  go_wp2
  (refine wp_region_tail 4 (by kernel_rfl) (by kernel_rfl) ?_; simp only [List.take_succ_cons, List.take_zero, List.drop_succ_cons, List.drop_zero])
  repeat (go_big_quiet_step (first | ((go_at_call 9; with_reducible exact Calls.free (BX.out _ (by (repeat' (first | (with_reducible exact Below.refl _ _) | (with_reducible refine Below.alloc ?_ ?_ _) | (with_reducible refine below_ext ?_ ?_ _) | (with_reducible refine Below.drew ?_) | (with_reducible refine below_drewN ?_ _) | (with_reducible refine Below.setCell ?_ ?_ _) | go_size | (simp only [go_sem]; omega) | (simp [go_sem]; done) | (simp [go_sem]; omega))))))) | ((go_at_call 95; with_reducible exact Calls.free (M.out _)))))
  refine wpQuiet_nil ?_; rintro _ ⟨x1, rfl⟩
  go_wp2
  go_returns
  exact ⟨rfl, by (repeat' (first | (with_reducible exact Below.refl _ _) | (with_reducible refine Below.alloc ?_ ?_ _) | (with_reducible refine below_ext ?_ ?_ _) | (with_reducible refine Below.drew ?_) | (with_reducible refine below_drewN ?_ _) | (with_reducible refine Below.setCell ?_ ?_ _) | go_size | (simp only [go_sem]; omega) | (simp [go_sem]; done) | (simp [go_sem]; omega)))⟩
end
def pgI (n : Nat) (k : Int) : Int := if k < 0 then -1 else if k = 0 then 0 else if (n : Int) < k then n - 1 else k - 1
theorem pgI_nb (S : BkS) {k : Int} (hp : 1 ≤ S.pages.length) (h : 0 ≤ k) : pgI S.pages.length k = nbI S k := by
  unfold pgI nbI
  rw [if_neg (by omega)]
  split
  · omega
  · split <;> omega
theorem page16_c (A : Option Addr) (n c : Nat) (sA : Option Addr) (sm sc : Nat) (sn nw : Int) (bl : Bool) (k : Int) (w : World) (hn : n ≤ 1000) (hk : k ≤ 9223372036854775807) : Calls Tryz.prog 48 #[.agg (rbA A n c sA sm sc sn nw bl), .int .i64 k] w (Gives w (.int .i64 (pgI n k))) := by
  have hw1 : IntKind.i64.wrap ((n : Int) - 1) = n - 1 := wrap_i64 (by omega) (by omega)
  by_cases h1 : k < 0
  · have hv : pgI n k = -1 := by unfold pgI; rw [if_pos h1]
    rw [hv]
    clear hv
    go_enter Tryz.func48, Tryz.ntmps48
    go_wp2
    go_returns
    exact ⟨rfl, by (repeat' (first | (with_reducible exact Below.refl _ _) | (with_reducible refine Below.alloc ?_ ?_ _) | (with_reducible refine below_ext ?_ ?_ _) | (with_reducible refine Below.drew ?_) | (with_reducible refine below_drewN ?_ _) | (with_reducible refine Below.setCell ?_ ?_ _) | go_size | (simp only [go_sem]; omega) | (simp [go_sem]; done) | (simp [go_sem]; omega)))⟩
  · have hw2 : IntKind.i64.wrap (k - 1) = k - 1 := wrap_i64 (by omega) (by omega)
    by_cases h2 : k = 0
    · subst h2
      have hv : pgI n 0 = 0 := by unfold pgI; rw [if_neg (by omega), if_pos rfl]
      rw [hv]
      clear hv
      go_enter Tryz.func48, Tryz.ntmps48
      go_wp2
      go_returns
      exact ⟨rfl, by (repeat' (first | (with_reducible exact Below.refl _ _) | (with_reducible refine Below.alloc ?_ ?_ _) | (with_reducible refine below_ext ?_ ?_ _) | (with_reducible refine Below.drew ?_) | (with_reducible refine below_drewN ?_ _) | (with_reducible refine Below.setCell ?_ ?_ _) | go_size | (simp only [go_sem]; omega) | (simp [go_sem]; done) | (simp [go_sem]; omega)))⟩
    · have hd : (k == 0) = false := by simp [h2]
      have hd1 : decide (k < 0) = false := by simp; omega
      by_cases h3 : (n : Int) < k
      · have hv : pgI n k = n - 1 := by unfold pgI; rw [if_neg h1, if_neg h2, if_pos h3]
        have hd3 : decide (k > (n : Int)) = true := by simp; omega
        rw [hv]
        clear hv
        go_enter Tryz.func48, Tryz.ntmps48
        go_wp2
        go_returns
        exact ⟨rfl, by (repeat' (first | (with_reducible exact Below.refl _ _) | (with_reducible refine Below.alloc ?_ ?_ _) | (with_reducible refine below_ext ?_ ?_ _) | (with_reducible refine Below.drew ?_) | (with_reducible refine below_drewN ?_ _) | (with_reducible refine Below.setCell ?_ ?_ _) | go_size | (simp only [go_sem]; omega) | (simp [go_sem]; done) | (simp [go_sem]; omega)))⟩
      · have hv : pgI n k = k - 1 := by unfold pgI; rw [if_neg h1, if_neg h2, if_neg h3]
        have hd3 : decide (k > (n : Int)) = false := by simp; omega
        rw [hv]
        clear hv
        go_enter Tryz.func48, Tryz.ntmps48
        go_wp2
        go_returns
        exact ⟨rfl, by (repeat' (first | (with_reducible exact Below.refl _ _) | (with_reducible refine Below.alloc ?_ ?_ _) | (with_reducible refine below_ext ?_ ?_ _) | (with_reducible refine Below.drew ?_) | (with_reducible refine below_drewN ?_ _) | (with_reducible refine Below.setCell ?_ ?_ _) | go_size | (simp only [go_sem]; omega) | (simp [go_sem]; done) | (simp [go_sem]; omega)))⟩
/-- the pages summed so far -/
def visK (S : BkS) (n : Int) (k : Nat) : List PgS := if n = 0 then S.pages.take k else if nbI S n < k then [S.pgAt (nbI S n)] else []
theorem visK_zero {S : BkS} (hS : S.Ok) (n : Int) : visK S n 0 = [] := by
  have := nbI_in hS n
  unfold visK
  split
  · simp
  · rw [if_neg (by omega)]
theorem visK_end {S : BkS} (hS : S.Ok) (n : Int) : visK S n S.pages.length = smP S n := by
  have := nbI_in hS n
  unfold visK smP
  split
  · simp
  · rw [if_pos (by omega)]
theorem visK_yes {S : BkS} (hS : S.Ok) {n : Int} {k : Nat} (hk : k < S.pages.length) (h : n = 0 ∨ (k : Int) = nbI S n) : visK S n (k + 1) = visK S n k ++ [S.pages[k]] := by
  unfold visK
  by_cases h0 : n = 0
  · rw [if_pos h0, if_pos h0, List.take_succ_eq_append_getElem hk]
  · have e : (k : Int) = nbI S n := h.resolve_left h0
    rw [if_neg h0, if_neg h0, if_pos (by omega), if_neg (by omega), ← e]
    simp [BkS.pgAt, hk]
theorem visK_no {S : BkS} {n : Int} {k : Nat} (h0 : n ≠ 0) (h : (k : Int) ≠ nbI S n) : visK S n (k + 1) = visK S n k := by
  unfold visK
  rw [if_neg h0, if_neg h0]
  by_cases h1 : nbI S n < k
  · rw [if_pos h1, if_pos (by omega)]
  · rw [if_neg h1, if_neg (by omega)]
/-- what rows of cells add up to -/
def smT (cs : List (List Cl)) : Int := (cs.map sumW).sum
theorem smT_snoc (cs ds : List (List Cl)) : smT (cs ++ ds) = smT cs + smT ds := by simp [smT]
theorem smT_take (cs : List (List Cl)) (j : Nat) (h : j < cs.length) : smT (cs.take (j + 1)) = smT (cs.take j) + sumW cs[j] := by
  unfold smT
  rw [List.take_succ_eq_append_getElem h, List.map_append, List.sum_append]
  simp
theorem smI_T (cs : List (List Cl)) : smI cs = (65536 - smT cs % 65536) % 65536 := rfl
theorem sumW_nn (cs : List Cl) : 0 ≤ sumW cs := by
  unfold sumW
  induction cs with
  | nil => simp
  | cons c cs ih => have := (wsum_cl c).1; simp only [List.map_cons, List.sum_cons]; omega
theorem arB_0 {S : BkS} (hS : S.Ok) (x : BxI) : arB (S.pages[0]'hS.p1) x = arK S x := by
  have := hS.p1
  have e : S.pages.getD 0 S.status = S.pages[0]'hS.p1 := by rw [List.getD_eq_getElem?_getD, List.getElem?_eq_getElem (by omega)]; rfl
  unfold arB arK BkS.rows BkS.cols
  rw [e]
section
variable {w : World} {F : Nat → Prop} {S : BkS} {U : Value} {a : Option Addr} {c : Nat} {xs : List Int}
set_option maxRecDepth 100000 in
set_option maxHeartbeats 16000000 in
theorem sum16_c (h : RBk w F U S) (hS : S.Ok) (hx : NumL w a c xs) (x : BxI) :
    Calls Tryz.prog 12 #[U, boxV x.t x.l x.b x.r, .slice a xs.length c] w (Gives w (.tuple #[.int .i64 (smV S x xs), .bool (smOk (arK S x) xs)])) := by
  have hbd : (0 ≤ (arK S x).t ∧ (arK S x).t ≤ 500) ∧ (0 ≤ (arK S x).l ∧ (arK S x).l ≤ 500) ∧ (0 ≤ (arK S x).b ∧ (arK S x).b ≤ 500) ∧ (0 ≤ (arK S x).r ∧ (arK S x).r ≤ 500) := by
    have := onB_in S.rows S.cols x
    have := BkS.rows_le hS
    unfold arK
    omega
  obtain ⟨⟨ht0, ht1⟩, ⟨hl0, hl1⟩, ⟨hb0, hb1⟩, ⟨hr0, hr1⟩⟩ := hbd
  have hp1 := hS.p1
  have hp0 : 0 < S.pages.length := hp1
  have hp2 := hS.p2
  obtain ⟨A, c0, us, ⟨sA, sm, sc, sn⟩, rfl, ho⟩ := h
  obtain ⟨⟨rA, rm, rc, rn⟩, L, o, -, rfl, hP0, d0, d1, hL⟩ := ho.ps.get hp1
  simp only [RPg.V, RPg.v, Nat.zero_mul, Nat.add_zero] at d0 d1 hP0 ⊢
  have AR := Lib.hid (fun w' (hb : Below w.heap.size w w') => area16_c (hP0.grow hb).v x)
  rw [arB_0 hS x] at AR
  have RC : Hid (∀ w', Below w.heap.size w w' → Calls Tryz.prog 13 #[boxV (arK S x).t (arK S x).l (arK S x).b (arK S x).r, .slice a xs.length c, .int .i64 1] w' (Gives w' (.tuple #[boxV (reB (arK S x) xs 1).t (reB (arK S x) xs 1).l (reB (arK S x) xs 1).b (reB (arK S x) xs 1).r, .bool (reOk (arK S x) xs 1)]))) := Lib.hid (fun w' hb => rect_r _ _ _ _ a c xs 1 w' (by omega) (by omega) (by omega) (by omega) (hx.grow hb).rd (Nat.le_trans hx.lc hx.cm) hx.hi)
  have NB0 := Lib.hid (fun w' (h : Below w.heap.size w w') => number_r a c xs 0 0 w' (hx.grow h).rd (Nat.le_trans hx.lc hx.cm) (by omega))
  rw [num_at _ _ (by omega)] at NB0
  have GT := Lib.hid (fun (i : Nat) (hi : i < S.pages.length) => ho.ps.get hi)
  have okp := Lib.hid hS.pg
  have VE : smV S x xs = if smOk (arK S x) xs = true then smI (smCells (smP S (at0 xs 0)) (reB (arK S x) xs 1)) else 0 := rfl
  have OE : smOk (arK S x) xs = (reOk (arK S x) xs 1 && decide (0 ≤ at0 xs 0)) := rfl
  have VZ := Lib.hid (visK_zero hS (at0 xs 0))
  have VEN := Lib.hid (visK_end hS (at0 xs 0))
  have VY := Lib.hid (fun (k : Nat) (hk : k < S.pages.length) (h : at0 xs 0 = 0 ∨ (k : Int) = nbI S (at0 xs 0)) => visK_yes hS hk h)
  have VN := Lib.hid (fun (k : Nat) (h0 : at0 xs 0 ≠ 0) (h : (k : Int) ≠ nbI S (at0 xs 0)) => visK_no (S := S) h0 h)
  have PG := Lib.hid (fun (h0 : 0 ≤ at0 xs 0) w' => pgI_nb S hp1 h0 ▸ page16_c (some ⟨L, o, none⟩) S.pages.length c0 sA sm sc sn S.now S.below (at0 xs 0) w' (by omega) (by have := num0_le hx.hi 0 0; rw [num_at _ _ (by omega)] at this; exact this))
  have hnb := nbI_in hS (at0 xs 0)
  generalize smV S x xs = sv at VE ⊢
  generalize smOk (arK S x) xs = ok at VE OE ⊢
  generalize smP S (at0 xs 0) = Ps at *
  generalize nbI S (at0 xs 0) = nb at *
  generalize hq : reB (arK S x) xs 1 = q at *
  clear hq
  generalize reOk (arK S x) xs 1 = k1 at *
  generalize arK S x = z at *
  generalize visK S (at0 xs 0) = vis at *
  generalize at0 xs 0 = n0 at *
  obtain ⟨xt, xl, xb, xr⟩ := x
  obtain ⟨zt, zl, zb, zr⟩ := z
  simp only at AR RC
  replace VE := Lib.hid VE
  replace OE := Lib.hid OE
  clear ho hx hS hP0
  go_enter Tryz.func12, Tryz.ntmps12
  go_upto_region 1 with fail
  obtain ⟨qt, ql, qb, qr⟩ := q
  generalize hW : ((w.alloc (.cells #[.slice (some ⟨L, o, none⟩) S.pages.length c0, .slice sA sm sc, .int .i64 sn, .int .i64 S.now, .bool S.below] 41)).alloc (.cells #[.int .i64 xt, .int .i64 xl, .int .i64 xb, .int .i64 xr] 31)) = W
  have hlt : w.heap.size + 1 < W.heap.size := by subst hW; simp [go_sem]
  have hB : Below w.heap.size w W := by subst hW; (repeat' (first | (with_reducible exact Below.refl _ _) | (with_reducible refine Below.alloc ?_ ?_ _) | (with_reducible refine below_ext ?_ ?_ _) | (with_reducible refine Below.drew ?_) | (with_reducible refine below_drewN ?_ _) | (with_reducible refine Below.setCell ?_ ?_ _) | go_size | (simp only [go_sem]; omega) | (simp [go_sem]; done) | (simp [go_sem]; omega)))
  have b0 : W.heap[w.heap.size]? = some (.cells #[.slice (some ⟨L, o, none⟩) S.pages.length c0, .slice sA sm sc, .int .i64 sn, .int .i64 S.now, .bool S.below] 41 (0, 0)) := by subst hW; exact al0 _ _ _
  have b1 : W.heap[w.heap.size + 1]? = some (.cells #[.int .i64 xt, .int .i64 xl, .int .i64 xb, .int .i64 xr] 31 (0, 0)) := by subst hW; exact al1 _ _ _
  clear hW
  have KS : ∀ w', Below W.heap.size W w' → w'.cell? ⟨w.heap.size, 0, none⟩ = some (.slice (some ⟨L, o, none⟩) S.pages.length c0) ∧ w'.cell? ⟨w.heap.size + 1, 0, none⟩ = some (.int .i64 xt) ∧ w'.cell? ⟨w.heap.size + 1, 1, none⟩ = some (.int .i64 xl) ∧ w'.cell? ⟨w.heap.size + 1, 2, none⟩ = some (.int .i64 xb) ∧ w'.cell? ⟨w.heap.size + 1, 3, none⟩ = some (.int .i64 xr) ∧ w'.cell? ⟨L, o, none⟩ = some (.slice rA rm rc) ∧ w'.cell? ⟨L, o + 1, none⟩ = some (.int .i64 rn) := fun w' h => by
    have h0 := (h.block _ (by omega : w.heap.size < W.heap.size)).trans b0
    have h1 := (h.block _ hlt).trans b1
    have h2 := hB.trans (h.mono hB.size)
    refine ⟨by rw [cell_in h0]; rfl, by rw [cell_in h1]; rfl, by rw [cell_in h1]; rfl, by rw [cell_in h1]; rfl, by rw [cell_in h1]; rfl, (h2.cell (p := ⟨L, _, none⟩) hL).trans d0, (h2.cell (p := ⟨L, _, none⟩) hL).trans d1⟩
  have hBW := Lib.hid (fun w' (h : Below W.heap.size W w') => hB.trans (h.mono hB.size))
  go_cut [8, 9] (fun v8 v9 wx => ∃ g, v8 = .pointer (some ⟨g, 0, none⟩) ∧ v9 = .bool k1 ∧ Below W.heap.size W wx ∧ w.heap.size + 1 < g ∧ wx.heap[g]? = some (.cells #[.int .i64 qt, .int .i64 ql, .int .i64 qb, .int .i64 qr] 31 (0, 0)))
  case first =>
    go_region_held3 (fun w' => w'.cell? ⟨w.heap.size, 0, none⟩ = some (.slice (some ⟨L, o, none⟩) S.pages.length c0) ∧ w'.cell? ⟨w.heap.size + 1, 0, none⟩ = some (.int .i64 xt) ∧ w'.cell? ⟨w.heap.size + 1, 1, none⟩ = some (.int .i64 xl) ∧ w'.cell? ⟨w.heap.size + 1, 2, none⟩ = some (.int .i64 xb) ∧ w'.cell? ⟨w.heap.size + 1, 3, none⟩ = some (.int .i64 xr) ∧ w'.cell? ⟨L, o, none⟩ = some (.slice rA rm rc) ∧ w'.cell? ⟨L, o + 1, none⟩ = some (.int .i64 rn)) (exact KS _ (by (repeat' (first | (with_reducible exact Below.refl _ _) | (with_reducible refine Below.alloc ?_ ?_ _) | (with_reducible refine below_ext ?_ ?_ _) | (with_reducible refine Below.drew ?_) | (with_reducible refine below_drewN ?_ _) | (with_reducible refine Below.setCell ?_ ?_ _) | go_size | (simp only [go_sem]; omega) | (simp [go_sem]; done) | (simp [go_sem]; omega))))) ((first
      | (go_at_call 46; ((with_reducible refine (AR.out _ (hBW.out _ (by (repeat' (first | (with_reducible exact Below.refl _ _) | (with_reducible refine Below.alloc ?_ ?_ _) | (with_reducible refine below_ext ?_ ?_ _) | (with_reducible refine Below.drew ?_) | (with_reducible refine below_drewN ?_ _) | (with_reducible refine Below.setCell ?_ ?_ _) | go_size | (simp only [go_sem]; omega) | (simp [go_sem]; done) | (simp [go_sem]; omega)))))).mono ?_); rintro _ _ hgets; obtain ⟨rfl, x1, rfl⟩ := hgets.get; clear hgets))
      | (go_at_call 13; ((with_reducible refine (RC.out _ (hBW.out _ (by (repeat' (first | (with_reducible exact Below.refl _ _) | (with_reducible refine Below.alloc ?_ ?_ _) | (with_reducible refine below_ext ?_ ?_ _) | (with_reducible refine Below.drew ?_) | (with_reducible refine below_drewN ?_ _) | (with_reducible refine Below.setCell ?_ ?_ _) | go_size | (simp only [go_sem]; omega) | (simp [go_sem]; done) | (simp [go_sem]; omega)))))).mono ?_); rintro _ _ hgets; obtain ⟨rfl, x3, rfl⟩ := hgets.get; clear hgets))))
    all_goals clear KS b0 b1 hBW AR RC
    all_goals go_wp2
    all_goals go_meet
    all_goals refine ⟨_, rfl, rfl, by (repeat' (first | (with_reducible exact Below.refl _ _) | (with_reducible refine Below.alloc ?_ ?_ _) | (with_reducible refine below_ext ?_ ?_ _) | (with_reducible refine Below.drew ?_) | (with_reducible refine below_drewN ?_ _) | (with_reducible refine Below.setCell ?_ ?_ _) | go_size | (simp only [go_sem]; omega) | (simp [go_sem]; done) | (simp [go_sem]; omega))), by (try simp); omega, ?_⟩
    all_goals (repeat (first | ((with_reducible refine heap_at _ _ ?_); (focus (first | rfl | (simp [go_sem]; done) | (simp [go_sem]; omega)))) | ((with_reducible refine (heap_old _ _ ?_).trans ?_); (focus (first | (simp [go_sem]; done) | (simp [go_sem]; omega)))) | ((with_reducible refine (block_ext _ _ ?_).trans ?_); (focus (first | (simp [go_sem]; done) | (simp [go_sem]; omega)))) | ((with_reducible refine (heap_drew _ _).trans ?_))))
  obtain ⟨g8, rfl, rfl, hB1, hg8, b8⟩ := hcut
  obtain ⟨W1, eW1⟩ : ∃ W1, W1 = wc := ⟨_, rfl⟩
  rw [← eW1] at hB1 b8 ⊢
  have b01 := (hB1.block _ (by omega : w.heap.size < W.heap.size)).trans b0
  have BW := hB.trans (hB1.mono hB.size)
  have hl8 := heap_in b8
  have hlg := heap_in b01
  have hBW1 := Lib.hid (fun w' (h : Below W1.heap.size W1 w') => BW.trans (h.mono BW.size))
  clear eW1 wc KS hBW hB hlt b0 b1 hB1 ht0 ht1 hl0 hl1 hb0 hb1 hr0 hr1 AR RC BW
  go_upto_region 3 with (go_at_call 47; ((with_reducible refine (NB0.out _ (hBW1.out _ (by (repeat' (first | (with_reducible exact Below.refl _ _) | (with_reducible refine Below.alloc ?_ ?_ _) | (with_reducible refine below_ext ?_ ?_ _) | (with_reducible refine Below.drew ?_) | (with_reducible refine below_drewN ?_ _) | (with_reducible refine Below.setCell ?_ ?_ _) | go_size | (simp only [go_sem]; omega) | (simp [go_sem]; done) | (simp [go_sem]; omega)))))).mono ?_); rintro _ _ ⟨rfl, rfl⟩))
  clear NB0
  have NO : ∀ W', Below w.heap.size w W' → ok = false → Gives w (.tuple #[.int .i64 sv, .bool ok]) (.returned (.tuple #[.int .i64 0, .bool false])) W' := fun W' hb e => by
    have h1 := VE.out
    rw [e] at h1
    rw [e, show sv = 0 from h1]
    exact ⟨rfl, hb⟩
  replace NO := Lib.hid NO
  cases k1
  · go_wp2
    go_returns
    exact NO.out _ (hBW1.out _ (by (repeat' (first | (with_reducible exact Below.refl _ _) | (with_reducible refine Below.alloc ?_ ?_ _) | (with_reducible refine below_ext ?_ ?_ _) | (with_reducible refine Below.drew ?_) | (with_reducible refine below_drewN ?_ _) | (with_reducible refine Below.setCell ?_ ?_ _) | go_size | (simp only [go_sem]; omega) | (simp [go_sem]; done) | (simp [go_sem]; omega))))) OE.out
  · by_cases hn0 : n0 < 0
    · have oe := OE.out
      rw [decide_eq_false (by omega : ¬ 0 ≤ n0)] at oe
      clear OE
      go_wp2
      go_returns
      exact NO.out _ (hBW1.out _ (by (repeat' (first | (with_reducible exact Below.refl _ _) | (with_reducible refine Below.alloc ?_ ?_ _) | (with_reducible refine below_ext ?_ ?_ _) | (with_reducible refine Below.drew ?_) | (with_reducible refine below_drewN ?_ _) | (with_reducible refine Below.setCell ?_ ?_ _) | go_size | (simp only [go_sem]; omega) | (simp [go_sem]; done) | (simp [go_sem]; omega))))) oe
    · have oe := OE.out
      rw [decide_eq_true (by omega : 0 ≤ n0)] at oe
      obtain rfl : ok = true := oe
      have hsv := Lib.hid (show sv = smI (smCells Ps ⟨qt, ql, qb, qr⟩) from VE.out)
      clear NO VE OE
      have hn1 : 0 ≤ n0 := by omega
      replace PG := Lib.hid (PG.out hn1)
      have hng : decide (n0 < 0) = false := by simp; omega
      clear hn0
      go_upto_region 7 with fail
      have d01 : ∀ w', Below W1.heap.size W1 w' → (w'.cell? ⟨w.heap.size, 0, none⟩ = some (.slice (some ⟨L, o, none⟩) S.pages.length c0) ∧ w'.cell? ⟨w.heap.size, 1, none⟩ = some (.slice sA sm sc) ∧ w'.cell? ⟨w.heap.size, 2, none⟩ = some (.int .i64 sn) ∧ w'.cell? ⟨w.heap.size, 3, none⟩ = some (.int .i64 S.now) ∧ w'.cell? ⟨w.heap.size, 4, none⟩ = some (.bool S.below)) ∧ w'.cell? ⟨g8, 0, none⟩ = some (.int .i64 qt) ∧ w'.cell? ⟨g8, 1, none⟩ = some (.int .i64 ql) ∧ w'.cell? ⟨g8, 2, none⟩ = some (.int .i64 qb) ∧ w'.cell? ⟨g8, 3, none⟩ = some (.int .i64 qr) := fun w' h => by
        have h0 := (h.block _ hlg).trans b01
        have h1 := (h.block _ hl8).trans b8
        exact ⟨⟨by rw [cell_in h0]; rfl, by rw [cell_in h0]; rfl, by rw [cell_in h0]; rfl, by rw [cell_in h0]; rfl, by rw [cell_in h0]; rfl⟩, by rw [cell_in h1]; rfl, by rw [cell_in h1]; rfl, by rw [cell_in h1]; rfl, by rw [cell_in h1]; rfl⟩
      have KS := Lib.hid d01
      clear d01 b01 b8
      go_loopw [11, 12] (fun v i wr => ∃ k : Nat, k ≤ S.pages.length ∧ i = .int .i64 k ∧ v = .int .i64 (smT (smCells (vis k) ⟨qt, ql, qb, qr⟩) % 65536) ∧ Below W1.heap.size W1 wr) (fun _ i _ => S.pages.length - (intOf i).toNat)
      case atStart => exact ⟨0, by omega, rfl, by rw [VZ.out]; rfl, Below.refl _ _⟩
      case round =>
        obtain ⟨k, hk, rfl, rfl, hB⟩ := hrel
        obtain ⟨x, rfl⟩ := ext_of hB
        obtain ⟨⟨c1, c2, c3, c4, c5⟩, c6, c7, c8, c9⟩ := KS.out _ hB
        clear hB
        by_cases hlt : k < S.pages.length
        · have hBx := Lib.hid (fun w' (h : Below (ext W1 x).heap.size (ext W1 x) w') => (by have h2 := hBW1.out _ (by (repeat' (first | (with_reducible exact Below.refl _ _) | (with_reducible refine Below.alloc ?_ ?_ _) | (with_reducible refine below_ext ?_ ?_ _) | (with_reducible refine Below.drew ?_) | (with_reducible refine below_drewN ?_ _) | (with_reducible refine Below.setCell ?_ ?_ _) | go_size | (simp only [go_sem]; omega) | (simp [go_sem]; done) | (simp [go_sem]; omega))) : Below W1.heap.size W1 (ext W1 x)); exact h2.trans (h.mono h2.size) : Below w.heap.size w w'))
          by_cases hv : n0 = 0 ∨ (k : Int) = nb
          · have hY := Lib.hid (VY.out k hlt hv)
            replace hv := Lib.hid hv
            obtain ⟨⟨pA, pm, pc, pn⟩, L', o', -, eL, hP, e0, e1, -⟩ := GT.out k hlt
            injection eL with eL
            injection eL with eL eo
            subst eL eo
            have okP := okp.out _ (List.getElem_mem hlt)
            generalize S.pages[k] = P at hP hY okP
            have CE := Lib.hid (fun w' (hb : Below w.heap.size w w') => refcells_c _ ⟨qt, ql, qb, qr⟩ (hP.grow hb).v okP)
            have hcl := cellsS_len okP ⟨qt, ql, qb, qr⟩
            have hco := cellsS_ok okP (onB P.rows.length P.cols ⟨qt, ql, qb, qr⟩)
            have hYT := Lib.hid (show smT (smCells (vis (k + 1)) ⟨qt, ql, qb, qr⟩) = smT (smCells (vis k) ⟨qt, ql, qb, qr⟩) + smT (cellsS P (onB P.rows.length P.cols ⟨qt, ql, qb, qr⟩)) by rw [hY.out, smCells_snoc, smT_snoc])
            generalize cellsS P (onB P.rows.length P.cols ⟨qt, ql, qb, qr⟩) = cs at CE hcl hco hYT
            generalize smT (smCells (vis k) ⟨qt, ql, qb, qr⟩) = T at hYT
            have t0 : 0 ≤ T % 65536 := by omega
            have t1 : T % 65536 < 65536 := by omega
            simp only [RPg.v, RPg.V] at CE e0 e1
            replace e0 := ((hBW1.out _ (Below.refl _ _)).cell (p := ⟨L, _, none⟩) hL).trans e0
            replace e1 := ((hBW1.out _ (Below.refl _ _)).cell (p := ⟨L, _, none⟩) hL).trans e1
            have hL1 : L < W1.heap.size := Nat.lt_of_lt_of_le hL (hBW1.out _ (Below.refl _ _)).size
            clear hP okP hY
            go_upto_region 9 with fail
            go_cut [49] (fun v49 wx => v49 = .bool false ∧ Below W1.heap.size W1 wx)
            case first =>
              by_cases h0 : n0 = 0
              · have hne : (n0 != 0) = false := by simp [h0]
                clear h0
                go_wp2
                go_meet
                exact ⟨rfl, by (repeat' (first | (with_reducible exact Below.refl _ _) | (with_reducible refine Below.alloc ?_ ?_ _) | (with_reducible refine below_ext ?_ ?_ _) | (with_reducible refine Below.drew ?_) | (with_reducible refine below_drewN ?_ _) | (with_reducible refine Below.setCell ?_ ?_ _) | go_size | (simp only [go_sem]; omega) | (simp [go_sem]; done) | (simp [go_sem]; omega)))⟩
              · have hne : (n0 != 0) = true := by simp [h0]
                have hnk : ((k : Int) != nb) = false := by simpa using hv.out.resolve_left h0
                clear h0
                go_wp2_with (go_at_call 48; ((with_reducible refine (PG.out _).mono ?_); rintro _ _ hgets; obtain ⟨rfl, x5, rfl⟩ := hgets.get; clear hgets))
                go_meet
                exact ⟨rfl, by (repeat' (first | (with_reducible exact Below.refl _ _) | (with_reducible refine Below.alloc ?_ ?_ _) | (with_reducible refine below_ext ?_ ?_ _) | (with_reducible refine Below.drew ?_) | (with_reducible refine below_drewN ?_ _) | (with_reducible refine Below.setCell ?_ ?_ _) | go_size | (simp only [go_sem]; omega) | (simp [go_sem]; done) | (simp [go_sem]; omega)))⟩
            obtain ⟨rfl, hcut⟩ := hcut
            have KS2 := Lib.hid (fun w' (h : Below W1.heap.size W1 w') => (⟨(KS.out _ h).1.1, (h.cell (p := ⟨L, _, none⟩) hL1).trans e0, (h.cell (p := ⟨L, _, none⟩) hL1).trans e1, (KS.out _ h).2⟩ : w'.cell? ⟨w.heap.size, 0, none⟩ = some (.slice (some ⟨L, o, none⟩) S.pages.length c0) ∧ w'.cell? ⟨L, o + k * 2, none⟩ = some (.slice pA pm pc) ∧ w'.cell? ⟨L, o + k * 2 + 1, none⟩ = some (.int .i64 pn) ∧ w'.cell? ⟨g8, 0, none⟩ = some (.int .i64 qt) ∧ w'.cell? ⟨g8, 1, none⟩ = some (.int .i64 ql) ∧ w'.cell? ⟨g8, 2, none⟩ = some (.int .i64 qb) ∧ w'.cell? ⟨g8, 3, none⟩ = some (.int .i64 qr)))
            clear c1 c2 c3 c4 c5 c6 c7 c8 c9 e0 e1 KS hBx PG
            obtain ⟨x4, rfl⟩ := ext_of hcut
            clear hcut x
            go_upto_region 10 with fail
            (refine wp_region_F (S := (fun w' => w'.cell? ⟨w.heap.size, 0, none⟩ = some (.slice (some ⟨L, o, none⟩) S.pages.length c0) ∧ w'.cell? ⟨L, o + k * 2, none⟩ = some (.slice pA pm pc) ∧ w'.cell? ⟨L, o + k * 2 + 1, none⟩ = some (.int .i64 pn) ∧ w'.cell? ⟨g8, 0, none⟩ = some (.int .i64 qt) ∧ w'.cell? ⟨g8, 1, none⟩ = some (.int .i64 ql) ∧ w'.cell? ⟨g8, 2, none⟩ = some (.int .i64 qb) ∧ w'.cell? ⟨g8, 3, none⟩ = some (.int .i64 qr))) 7 [false, false, false, false, false, false, false, false] rfl rfl (by kernel_rfl) ?_ (fun hHeld => ?_); (focus ((try dsimp only); (exact KS2.out _ (by (repeat' (first | (with_reducible exact Below.refl _ _) | (with_reducible refine Below.alloc ?_ ?_ _) | (with_reducible refine below_ext ?_ ?_ _) | (with_reducible refine Below.drew ?_) | (with_reducible refine below_drewN ?_ _) | (with_reducible refine Below.setCell ?_ ?_ _) | go_size | (simp only [go_sem]; omega) | (simp [go_sem]; done) | (simp [go_sem]; omega))))); done)))
            ((refine AtF.take (oi := ?_) (v := ?_) 0 ?_ ?_ ?_ ?_ (Or.inl ⟨?_, ?_⟩) (by assumption) ?_; rotate_left 2; rfl; kernel_rfl; kernel_rfl; exact (fun _ _ _ h => h); rfl; (focus (intro w hSw; (try dsimp only at hSw); go_simp; (try with_reducible rfl); done)); (try simp only [Act.put, List.setIfInBounds_toArray, List.set_cons_zero, List.set_cons_succ])); (refine AtF.take (oi := ?_) (v := ?_) 1 ?_ ?_ ?_ ?_ (Or.inl ⟨?_, ?_⟩) (by assumption) ?_; rotate_left 2; rfl; kernel_rfl; kernel_rfl; exact (fun _ _ _ h => h); rfl; (focus (intro w hSw; (try dsimp only at hSw); go_simp; (try with_reducible rfl); done)); (try simp only [Act.put, List.setIfInBounds_toArray, List.set_cons_zero, List.set_cons_succ])); (refine AtF.take (oi := ?_) (v := ?_) 2 ?_ ?_ ?_ ?_ (Or.inl ⟨?_, ?_⟩) (by assumption) ?_; rotate_left 2; rfl; kernel_rfl; kernel_rfl; exact (fun _ _ _ h => h); rfl; (focus (intro w hSw; (try dsimp only at hSw); go_simp; (try with_reducible rfl); done)); (try simp only [Act.put, List.setIfInBounds_toArray, List.set_cons_zero, List.set_cons_succ])); (refine AtF.take (oi := ?_) (v := ?_) 3 ?_ ?_ ?_ ?_ (Or.inl ⟨?_, ?_⟩) (by assumption) ?_; rotate_left 2; rfl; kernel_rfl; kernel_rfl; exact (fun _ _ _ h => h); rfl; (focus (intro w hSw; (try dsimp only at hSw); go_simp; (try with_reducible rfl); done)); (try simp only [Act.put, List.setIfInBounds_toArray, List.set_cons_zero, List.set_cons_succ])); (refine AtF.take (oi := ?_) (v := ?_) 4 ?_ ?_ ?_ ?_ (Or.inl ⟨?_, ?_⟩) (by assumption) ?_; rotate_left 2; rfl; kernel_rfl; kernel_rfl; exact (fun _ _ _ h => h); rfl; (focus (intro w hSw; (try dsimp only at hSw); go_simp; (try with_reducible rfl); done)); (try simp only [Act.put, List.setIfInBounds_toArray, List.set_cons_zero, List.set_cons_succ])); (refine AtF.take (oi := ?_) (v := ?_) 5 ?_ ?_ ?_ ?_ (Or.inl ⟨?_, ?_⟩) (by assumption) ?_; rotate_left 2; rfl; kernel_rfl; kernel_rfl; exact (fun _ _ _ h => h); rfl; (focus (intro w hSw; (try dsimp only at hSw); go_simp; (try with_reducible rfl); done)); (try simp only [Act.put, List.setIfInBounds_toArray, List.set_cons_zero, List.set_cons_succ])))
            (refine AtF.only (oi := ?_) 6 ?_ ?_ (fun K hK => ?_); rotate_left 1; rfl; kernel_rfl; (try go_simp); ((go_at_call 49); (with_reducible refine (CE.out _ (hBW1.out _ (by (repeat' (first | (with_reducible exact Below.refl _ _) | (with_reducible refine Below.alloc ?_ ?_ _) | (with_reducible refine below_ext ?_ ?_ _) | (with_reducible refine Below.drew ?_) | (with_reducible refine below_drewN ?_ _) | (with_reducible refine Below.setCell ?_ ?_ _) | go_size | (simp only [go_sem]; omega) | (simp [go_sem]; done) | (simp [go_sem]; omega)))))).mono ?_); (rintro _ _ ⟨V2, ys, x6, rfl, rfl, hY2, hYv⟩); (obtain ⟨A2, c2, rfl⟩ := hY2.form); (try simp only [ext_drew] at hY2); (replace hY2 := Lib.hid hY2); (replace hYv := Lib.hid hYv)); (refine hK.out _ _ ?_ (fun hHeld => ?_)); (focus ((try dsimp only); (exact KS2.out _ (by (repeat' (first | (with_reducible exact Below.refl _ _) | (with_reducible refine Below.alloc ?_ ?_ _) | (with_reducible refine below_ext ?_ ?_ _) | (with_reducible refine Below.drew ?_) | (with_reducible refine below_drewN ?_ _) | (with_reducible refine Below.setCell ?_ ?_ _) | go_size | (simp only [go_sem]; omega) | (simp [go_sem]; done) | (simp [go_sem]; omega))))); done)); clear hK K; (try simp only [Act.put, List.setIfInBounds_toArray, List.set_cons_zero, List.set_cons_succ]))
            (refine AtF.last (oi := ?_) ?_ ?_ (fun K hK => ?_); rotate_left 1; rfl; kernel_rfl; go_simp; skip; refine hK.out _ _ ?_; clear hK K; (try simp only [Act.put, List.setIfInBounds_toArray, List.set_cons_zero, List.set_cons_succ]))
            clear hHeld KS2
            obtain rfl : ys.map Prod.snd = cs := hYv.out
            have hBz := hBW1.out (ext (ext W1 x4) x6) (by (repeat' (first | (with_reducible exact Below.refl _ _) | (with_reducible refine Below.alloc ?_ ?_ _) | (with_reducible refine below_ext ?_ ?_ _) | (with_reducible refine Below.drew ?_) | (with_reducible refine below_drewN ?_ _) | (with_reducible refine Below.setCell ?_ ?_ _) | go_size | (simp only [go_sem]; omega) | (simp [go_sem]; done) | (simp [go_sem]; omega))))
            obtain ⟨W3, eW3⟩ : ∃ W3, W3 = ext (ext W1 x4) x6 := ⟨_, rfl⟩
            have hB3 : Below W1.heap.size W1 W3 := by rw [eW3]; (repeat' (first | (with_reducible exact Below.refl _ _) | (with_reducible refine Below.alloc ?_ ?_ _) | (with_reducible refine below_ext ?_ ?_ _) | (with_reducible refine Below.drew ?_) | (with_reducible refine below_drewN ?_ _) | (with_reducible refine Below.setCell ?_ ?_ _) | go_size | (simp only [go_sem]; omega) | (simp [go_sem]; done) | (simp [go_sem]; omega)))
            have hYr := Lib.hid (hY2.out.own.rd encQ_len)
            have hYc := Lib.hid (fun (j : Nat) (hj : j < ys.length) => hY2.out.rd ys[j] (List.getElem_mem hj))
            have hYo := Lib.hid (fun (j : Nat) (hj : j < ys.length) => hco ys[j].2 (List.mem_map.2 ⟨ys[j], List.getElem_mem hj, rfl⟩))
            rw [← eW3] at hYr hYc hBz ⊢
            clear eW3 hY2 hYv hco CE
            rw [List.length_map] at hcl
            go_wp2
            go_loopw [11, 14] (fun v i wr => ∃ j : Nat, j ≤ ys.length ∧ i = .int .i64 j ∧ v = .int .i64 ((T + smT ((ys.map Prod.snd).take j)) % 65536) ∧ Below W3.heap.size W3 wr) (fun _ i _ => ys.length - (intOf i).toNat)
            case atStart => exact ⟨0, by omega, rfl, by simp [smT], Below.refl _ _⟩
            case round =>
              obtain ⟨j, hj, rfl, rfl, hB⟩ := hrel
              obtain ⟨x', rfl⟩ := ext_of hB
              by_cases hlt2 : j < ys.length
              · obtain ⟨b2, o2, rfl, hb2, q0⟩ := (hYr.out.below hB).cell1 hlt2 rfl
                obtain ⟨z1, z2⟩ := hYc.out j hlt2
                replace z2 := z2.below hB
                have z3 := hYo.out j hlt2
                have TK := Lib.hid (smT_take (ys.map Prod.snd) j (by rw [List.length_map]; exact hlt2))
                rw [List.getElem_map] at TK
                have q1 : (ext W3 x').cell? ⟨b2, o2 + j, none⟩ = some (.slice ys[j].1.adr ys[j].2.length ys[j].1.c) := by rw [← z1]; exact q0
                clear q0
                generalize ys[j].1.adr = Ay at z2 q1
                generalize ys[j].1.c = Cy at q1
                generalize ys[j].2 = yj at z2 q1 z3 TK
                clear hB z1
                have SR := Lib.hid (fun w' (h : Rd encC 3 w' Ay yj) => sum_r Ay Cy yj w' h (by omega) z3.2)
                have X := Lib.hid z2
                generalize hT2 : smT ((ys.map Prod.snd).take j) = T2 at TK ⊢
                generalize hw2 : sumW yj % 65536 = v2 at SR
                have v0 : 0 ≤ v2 := by omega
                have v1 : v2 < 65536 := by omega
                have u0 : 0 ≤ (T + T2) % 65536 := by omega
                have u1 : (T + T2) % 65536 < 65536 := by omega
                generalize hu : (T + T2) % 65536 = u2 at u0 u1 ⊢
                replace hu := Lib.hid hu
                replace hw2 := Lib.hid hw2
                go_wp2_with (go_at_call 50; ((with_reducible refine (SR.out _ (by repeat (first | exact X.out | exact X | refine Rd.ext ?_ _ | refine Rd.alloc ?_ _ | refine Rd.drew ?_))).mono ?_); rintro _ _ hgets; obtain ⟨rfl, x7, rfl⟩ := hgets.get; clear hgets))
                go_roundw
                case rel =>
                  refine ⟨j + 1, by omega, by go_num, ?_, by (repeat' (first | (with_reducible exact Below.refl _ _) | (with_reducible refine Below.alloc ?_ ?_ _) | (with_reducible refine below_ext ?_ ?_ _) | (with_reducible refine Below.drew ?_) | (with_reducible refine below_drewN ?_ _) | (with_reducible refine Below.setCell ?_ ?_ _) | go_size | (simp only [go_sem]; omega) | (simp [go_sem]; done) | (simp [go_sem]; omega)))⟩
                  rw [TK.out]
                  congr 1
                  have := hu.out
                  have := hw2.out
                  omega
                case measure => simp [intOf]; omega
              · have HT := Lib.hid (show (ys.map Prod.snd).take j = ys.map Prod.snd from List.take_of_length_le (by rw [List.length_map]; omega))
                rw [HT.out, ← hYT.out]
                clear hYr hYc hYo
                have hB1 := hB3.trans (hB.mono hB3.size)
                clear hB
                go_wp2
                go_roundw
                case rel => exact ⟨k + 1, by omega, by go_num, rfl, hB1⟩
                case measure => simp [intOf]; omega
          · have h0 : n0 ≠ 0 := fun h => hv (.inl h)
            have hnk : (k : Int) ≠ nb := fun h => hv (.inr h)
            have hY := VN.out k h0 hnk
            have hne : (n0 != 0) = true := by simp [h0]
            have hnk1 : ((k : Int) != nb) = true := by simp [hnk]
            rw [← hY]
            clear h0
            replace hnk := Lib.hid hnk
            replace hY := Lib.hid hY
            replace hv := Lib.hid hv
            go_wp2_with (go_at_call 48; ((with_reducible refine (PG.out _).mono ?_); rintro _ _ hgets; obtain ⟨rfl, x5, rfl⟩ := hgets.get; clear hgets))
            go_roundw
            case rel => exact ⟨k + 1, by omega, by go_num, rfl, by (repeat' (first | (with_reducible exact Below.refl _ _) | (with_reducible refine Below.alloc ?_ ?_ _) | (with_reducible refine below_ext ?_ ?_ _) | (with_reducible refine Below.drew ?_) | (with_reducible refine below_drewN ?_ _) | (with_reducible refine Below.setCell ?_ ?_ _) | go_size | (simp only [go_sem]; omega) | (simp [go_sem]; done) | (simp [go_sem]; omega)))⟩
            case measure => simp [intOf]; omega
        · have e := VEN.out
          obtain rfl : k = S.pages.length := by omega
          rw [e]
          have hfin : (65536 - smT (smCells Ps ⟨qt, ql, qb, qr⟩) % 65536) % 65536 = sv := by rw [hsv.out, smI_T]
          generalize smT (smCells Ps ⟨qt, ql, qb, qr⟩) = T at hfin ⊢
          have hw : IntKind.i64.wrap (65536 - T % 65536) = 65536 - T % 65536 := wrap_i64 (by omega) (by omega)
          go_wp2
          go_returns
          refine ⟨?_, hBW1.out _ (by (repeat' (first | (with_reducible exact Below.refl _ _) | (with_reducible refine Below.alloc ?_ ?_ _) | (with_reducible refine below_ext ?_ ?_ _) | (with_reducible refine Below.drew ?_) | (with_reducible refine below_drewN ?_ _) | (with_reducible refine Below.setCell ?_ ?_ _) | go_size | (simp only [go_sem]; omega) | (simp [go_sem]; done) | (simp [go_sem]; omega))))⟩
          rw [← hfin]
          first | rfl | (congr 4; rfl) | (congr 4; omega)
end
end Go.Proofs.YtignkkejkknddaaGreat
/- Rectangles told by their own numbers; what is pasted has the same cells. Plain laws.  -/
namespace Go.Proofs.YtignkkejkknddaaGreat
open Go.RowKit
set_option linter.unusedVariables false
set_option linter.unusedSimpArgs false

theorem cutR_in {xs : List Cl} {f t : Int} (h0 : 0 ≤ f) (h1 : f ≤ t) (h2 : t ≤ xs.length) : cutR xs f t = (xs.drop f.toNat).take (t - f).toNat := by
  have hs : spanN xs.length f t = t - f := by unfold spanN; omega
  unfold cutR offN
  rw [hs]
  split
  · rename_i h; rw [h]; simp
  · rw [show spanA f = f by unfold spanA; omega]
theorem paste_cells {S T : PgS} (hS : S.Ok) (hT : T.Ok) {X : BxI} {pr pc : Int} (h1 : 0 ≤ X.t) (h2 : X.t ≤ X.b) (h3 : X.b ≤ T.rows.length) (h4 : 0 ≤ X.l) (h5 : X.l ≤ X.r) (h6 : X.r ≤ T.cols) (h7 : 0 ≤ pr) (h8 : pr + (X.b - X.t) ≤ S.rows.length) (h9 : 0 ≤ pc) (h10 : pc + (X.r - X.l) ≤ S.cols) :
    cellsS (pasteS S T X pr pc) ⟨pr, pc, pr + (X.b - X.t), pc + (X.r - X.l)⟩ = cellsS T X := by
  unfold cellsS
  simp only
  rw [show pr + (X.b - X.t) - pr = X.b - X.t by omega]
  apply List.map_congr_left
  intro i hi
  rw [List.mem_range] at hi
  have hq : pr.toNat + i < S.rows.length := by omega
  have hp : X.t.toNat + i < T.rows.length := by omega
  have hqw := hS.len hq
  have hpw := hT.len hp
  have hql : pr.toNat + i < (pasteS S T X pr pc).rows.length := by unfold pasteS; rw [pasteJ_len]; exact hq
  have eQ : ((pasteS S T X pr pc).rows.getD (pr.toNat + i) ([], 0)).1 = S.rows[pr.toNat + i].1.mapIdx (pasteG T X pr pc (X.b - X.t).toNat (pr.toNat + i)) := by
    rw [List.getD_eq_getElem?_getD, List.getElem?_eq_getElem hql]
    simp [pasteS, pasteJ, mapS]
  have eT : (T.rows.getD (X.t.toNat + i) ([], 0)).1 = T.rows[X.t.toNat + i].1 := by
    rw [List.getD_eq_getElem?_getD, List.getElem?_eq_getElem hp]
    rfl
  rw [eQ, eT, cutR_in h9 (by omega) (by rw [List.length_mapIdx]; omega), cutR_in h4 h5 (by omega)]
  rw [show pc + (X.r - X.l) - pc = X.r - X.l by omega]
  apply List.ext_getElem
  · simp; omega
  · intro j hj1 hj2
    simp only [List.length_take, List.length_drop, List.length_mapIdx] at hj1 hj2
    simp only [List.getElem_take, List.getElem_drop, List.getElem_mapIdx]
    unfold pasteG
    rw [if_pos (by omega)]
    rw [show (X.t + (((pr.toNat + i : Nat) : Int) - pr)).toNat = X.t.toNat + i by omega, show (X.l + (((pc.toNat + j : Nat) : Int) - pc)).toNat = X.l.toNat + j by omega, cellAt_in hp (by omega)]
/-- a rectangle told by its own numbers -/
theorem re_own {m n : Nat} {xs : List Int} {i t l b r : Int} (e0 : num0 xs i 0 = t + 1) (e1 : num0 xs i 1 = l + 1) (e2 : num0 xs i 2 = b) (e3 : num0 xs i 3 = r) (h1 : 0 ≤ t) (h2 : t < b) (h3 : b ≤ m) (h4 : 0 ≤ l) (h5 : l < r) (h6 : r ≤ n) :
    reOk (fullA m n) xs i = true ∧ reB (fullA m n) xs i = ⟨t, l, b, r⟩ := by
  have ok : rectOk 0 0 m n xs i = true := by
    unfold rectOk sideOk lastA
    rw [e0, e1, e2, e3]
    simp only [Bool.and_eq_true, decide_eq_true_eq]
    refine ⟨⟨⟨by omega, by omega⟩, by omega, by omega, ?_⟩, by omega, by omega, ?_⟩ <;> (rw [if_neg (by omega)]; omega)
  refine ⟨ok, ?_⟩
  unfold reB fullA rectT rectL rectB rectR
  simp only [if_pos ok]
  unfold sideF sideL lastA
  rw [e0, e1, e2, e3]
  simp only [BxI.mk.injEq]
  refine ⟨?_, ?_, ?_, ?_⟩ <;> (rw [if_neg (by omega)]; (try rw [if_neg (by omega)]); omega)
theorem onB_self {m n : Nat} {X : BxI} (h1 : 0 ≤ X.t) (h2 : X.t < X.b) (h3 : X.b ≤ m) (h4 : 0 ≤ X.l) (h5 : X.l < X.r) (h6 : X.r ≤ n) : onB m n X = X := by
  obtain ⟨t, l, b, r⟩ := X
  simp only at *
  unfold onB meetI
  simp only [BxI.mk.injEq]
  refine ⟨?_, ?_, ?_, ?_⟩ <;> (rw [if_neg (by omega)]; omega)
/-- a rectangle copied from the second page to the third one, with room there -/
theorem copy_own {T : BkS} (h3 : T.pages.length = 3) {m n : Nat} (ha : arK T (fullA m n) = fullA m n) (hd : (T.pages[1]'(by omega)).rows.length = m ∧ (T.pages[1]'(by omega)).cols = n) {t l b r pr pc : Int}
    (h1 : 0 ≤ t) (h2 : t < b) (h4 : b ≤ m) (h5 : 0 ≤ l) (h6 : l < r) (h7 : r ≤ n) (h8 : 0 ≤ pr) (h9 : pr + (b - t) ≤ m) (h10 : 0 ≤ pc) (h11 : pc + (r - l) ≤ n) :
    cpOk (fullA m n) [t + 1, l + 1, b, r, 2, pr + 1, pc + 1, 3] = true ∧ copyRS T (fullA m n) [t + 1, l + 1, b, r, 2, pr + 1, pc + 1, 3] = T.set 2 (pasteS (T.pages[2]'(by omega)) (T.pages[1]'(by omega)) ⟨t, l, b, r⟩ pr pc) := by
  obtain ⟨r1, r2⟩ := re_own (xs := [t + 1, l + 1, b, r, 2, pr + 1, pc + 1, 3]) (i := 0) (m := m) (n := n) (t := t) (l := l) (b := b) (r := r) rfl rfl rfl rfl h1 h2 h4 h5 h6 h7
  have ok : cpOk (fullA m n) [t + 1, l + 1, b, r, 2, pr + 1, pc + 1, 3] = true := by
    unfold cpOk
    rw [r1]
    rfl
  have e1 : cpR (fullA m n) [t + 1, l + 1, b, r, 2, pr + 1, pc + 1, 3] 5 = pr := by
    unfold cpR placeI
    rw [show num0 [t + 1, l + 1, b, r, 2, pr + 1, pc + 1, 3] 5 0 = pr + 1 from rfl]
    rw [if_neg (by simp only [fullA]; omega)]
    simp only [fullA]
    omega
  have e2 : cpC (fullA m n) [t + 1, l + 1, b, r, 2, pr + 1, pc + 1, 3] 5 = pc := by
    unfold cpC placeI
    rw [show num0 [t + 1, l + 1, b, r, 2, pr + 1, pc + 1, 3] 5 1 = pc + 1 from rfl]
    rw [if_neg (by simp only [fullA]; omega)]
    simp only [fullA]
    omega
  have e3 : cpB (fullA m n) [t + 1, l + 1, b, r, 2, pr + 1, pc + 1, 3] pr pc = ⟨t, l, b, r⟩ := by
    clear e1 e2
    unfold cpB
    rw [r2]
    simp only [fullA, BxI.mk.injEq]
    refine ⟨trivial, trivial, ?_, ?_⟩ <;> omega
  have n1 : nbI T 2 = 1 := by unfold nbI; rw [h3]; rfl
  have n2 : nbI T 3 = 2 := by unfold nbI; rw [h3]; rfl
  refine ⟨ok, ?_⟩
  unfold copyRS
  rw [ha, if_pos ok, e1, e2, e3, show at0 [t + 1, l + 1, b, r, 2, pr + 1, pc + 1, 3] 4 = 2 from rfl, show at0 [t + 1, l + 1, b, r, 2, pr + 1, pc + 1, 3] 7 = 3 from rfl, n1, n2]
  have p1 : T.pgAt 1 = T.pages[1]'(by omega) := by simp [BkS.pgAt, h3]
  have p2 : T.pgAt 2 = T.pages[2]'(by omega) := by simp [BkS.pgAt, h3]
  unfold BkS.copy BkS.copied
  rw [p1, p2, if_pos (by simp [BkS.inP, h3]), hd.1, hd.2, onB_self h1 h2 h4 h5 h6 h7]
  rfl
theorem sum_own {T : BkS} (h3 : T.pages.length = 3) {m n : Nat} (ha : arK T (fullA m n) = fullA m n) (k : Nat) (hk : k < 3) (z : Int) (hz : z = k + 1) (hd : (T.pages[k]'(by omega)).rows.length = m ∧ (T.pages[k]'(by omega)).cols = n) {t l b r : Int}
    (h1 : 0 ≤ t) (h2 : t < b) (h4 : b ≤ m) (h5 : 0 ≤ l) (h6 : l < r) (h7 : r ≤ n) :
    smOk (fullA m n) [z, t + 1, l + 1, b, r] = true ∧ smV T (fullA m n) [z, t + 1, l + 1, b, r] = smI (cellsS (T.pages[k]'(by omega)) ⟨t, l, b, r⟩) := by
  obtain ⟨r1, r2⟩ := re_own (xs := [z, t + 1, l + 1, b, r]) (i := 1) (m := m) (n := n) (t := t) (l := l) (b := b) (r := r) rfl rfl rfl rfl h1 h2 h4 h5 h6 h7
  have ok : smOk (fullA m n) [z, t + 1, l + 1, b, r] = true := by
    unfold smOk
    rw [r1, show at0 [z, t + 1, l + 1, b, r] 0 = z from rfl, decide_eq_true (by omega)]
    rfl
  refine ⟨ok, ?_⟩
  unfold smV
  rw [ha, if_pos ok, r2, show at0 [z, t + 1, l + 1, b, r] 0 = z from rfl]
  have n1 : nbI T z = k := by unfold nbI; rw [h3]; omega
  have p1 : T.pgAt k = T.pages[k]'(by omega) := by simp [BkS.pgAt, h3, hk]
  unfold smP
  rw [if_neg (by omega), n1, p1]
  unfold smCells
  rw [List.flatMap_singleton, hd.1, hd.2, onB_self h1 h2 h4 h5 h6 h7]
theorem cp_bd {m n : Nat} (hm : 1 ≤ m) (hn : 1 ≤ n) (xs : List Int) (i : Int) : (0 ≤ cpR (fullA m n) xs i ∧ cpR (fullA m n) xs i < m) ∧ (0 ≤ cpC (fullA m n) xs i ∧ cpC (fullA m n) xs i < n) := by
  have h : ¬ ((fullA m n).b ≤ (fullA m n).t ∨ (fullA m n).r ≤ (fullA m n).l) := by simp only [fullA]; omega
  unfold cpR cpC placeI
  rw [if_neg h, if_neg h]
  simp only [fullA]
  omega
theorem bkset_same {S : BkS} {i : Nat} (hi : i < S.pages.length) (P : PgS) (h' : i < (S.set i P).pages.length) : (S.set i P).pages[i] = P := by
  unfold BkS.set
  simp [hi]
theorem bkset_else {S : BkS} {i j : Nat} (hj : j < S.pages.length) (hne : i ≠ j) (P : PgS) (h' : j < (S.set i P).pages.length) : (S.set i P).pages[j] = S.pages[j] := by
  unfold BkS.set
  split
  · simp [hne]
  · rfl
section
variable {w : World} {F : Nat → Prop} {b : Nat} {S : BkS} {V : Value} {ps : List PgR} {st : PgR}
theorem copy_call (h : BkO w F b S V ps st) (hS : S.Ok) (x : BxI) (n0 n1 n2 n3 n4 n5 n6 n7 : Int) (hm : ∀ z ∈ [n0, n1, n2, n3, n4, n5, n6, n7], z ≤ 9223372036854775807) (w' : World) (q : Nat) (hb : Below w.heap.size w w') (hq : q = w'.heap.size) :
    Calls Tryz.prog 15 #[ptrV b, boxV x.t x.l x.b x.r, .slice (some ⟨q, 0, none⟩) 8 8] (w'.alloc (.cells #[.int .i64 n0, .int .i64 n1, .int .i64 n2, .int .i64 n3, .int .i64 n4, .int .i64 n5, .int .i64 n6, .int .i64 n7] 3))
      (fun e w2 => e = .returned (.bool (cpOk (arK S x) [n0, n1, n2, n3, n4, n5, n6, n7])) ∧ BDid F b (copyRS S x [n0, n1, n2, n3, n4, n5, n6, n7]) w w2) := by
  subst hq
  have hO : Own (encI .i64) 1 3 w'.heap.size (w'.alloc (.cells #[.int .i64 n0, .int .i64 n1, .int .i64 n2, .int .i64 n3, .int .i64 n4, .int .i64 n5, .int .i64 n6, .int .i64 n7] 3)) (.slice (some ⟨w'.heap.size, 0, none⟩) 8 8) [n0, n1, n2, n3, n4, n5, n6, n7] := Own.new (encI_len .i64) rfl (rfl : (8 : Nat) = _) _ rfl (Nat.le_refl _) (by simp [maxLen])
  obtain ⟨-, hN, hB⟩ := own_num hO hm
  have hb2 : Below w.heap.size w (w'.alloc (.cells #[.int .i64 n0, .int .i64 n1, .int .i64 n2, .int .i64 n3, .int .i64 n4, .int .i64 n5, .int .i64 n6, .int .i64 n7] 3)) := hb.alloc hb.size _
  refine (copy_rect (h.grow hb2) hS hN x).mono ?_
  rintro e w2 ⟨rfl, hD⟩
  exact ⟨rfl, hD.back hb2 h.lt⟩
theorem sum_call (h : BkO w F b S V ps st) (hS : S.Ok) (x : BxI) (n0 n1 n2 n3 n4 : Int) (hm : ∀ z ∈ [n0, n1, n2, n3, n4], z ≤ 9223372036854775807) (w' : World) (q : Nat) (hb : Below w.heap.size w w') (hq : q = w'.heap.size) :
    Calls Tryz.prog 10 #[ptrV b, boxV x.t x.l x.b x.r, .slice (some ⟨q, 0, none⟩) 5 5] (w'.alloc (.cells #[.int .i64 n0, .int .i64 n1, .int .i64 n2, .int .i64 n3, .int .i64 n4] 3))
      (Gives (w'.alloc (.cells #[.int .i64 n0, .int .i64 n1, .int .i64 n2, .int .i64 n3, .int .i64 n4] 3)) (.tuple #[.int .i64 (smV S x [n0, n1, n2, n3, n4]), .bool (smOk (arK S x) [n0, n1, n2, n3, n4])])) := by
  subst hq
  have hO : Own (encI .i64) 1 3 w'.heap.size (w'.alloc (.cells #[.int .i64 n0, .int .i64 n1, .int .i64 n2, .int .i64 n3, .int .i64 n4] 3)) (.slice (some ⟨w'.heap.size, 0, none⟩) 5 5) [n0, n1, n2, n3, n4] := Own.new (encI_len .i64) rfl (rfl : (5 : Nat) = _) _ rfl (Nat.le_refl _) (by simp [maxLen])
  obtain ⟨-, hN, hB⟩ := own_num hO hm
  exact sum_rect (h.grow (hb.alloc hb.size _)) hS hN x
end
end Go.Proofs.YtignkkejkknddaaGreat
