/- rect: the box of a book's pages, the page of a number, Copy.  -/
import Derived.Test.YtignkkejkknddaaGreatRecD
import Derived.Test.YtignkkejkknddaaGreatBkB
import Derived.Test.YtignkkejkknddaaGreatBox4
namespace Go.Proofs.YtignkkejkknddaaGreat
open Go.RowKit
set_option linter.unusedVariables false
set_option linter.unusedSimpArgs false

/-- all pages of a book are of one size -/
def BkS.Even (S : BkS) : Prop := ∀ P ∈ S.pages, P.rows.length = S.rows ∧ P.cols = S.cols
theorem BkS.rows_le {S : BkS} (hS : S.Ok) : 1 ≤ S.rows ∧ S.rows ≤ 500 ∧ 1 ≤ S.cols ∧ S.cols ≤ 500 := by
  have h0 : 0 < S.pages.length := by have := hS.p1; omega
  have e : S.pages.getD 0 S.status = S.pages[0] := by simp [List.getD_eq_getElem?_getD, h0]
  have := hS.pg _ (List.getElem_mem h0)
  unfold BkS.rows BkS.cols
  rw [e]
  exact ⟨this.r1, this.r2, this.c1, this.c2⟩
/-- the page of a number, counted from 0 on -/
def nbI (S : BkS) (n : Int) : Int := max 1 (min n S.pages.length) - 1
theorem nbI_in {S : BkS} (hS : S.Ok) (n : Int) : 0 ≤ nbI S n ∧ nbI S n < S.pages.length := by
  have := hS.p1
  unfold nbI
  omega
theorem nbI_inP {S : BkS} (hS : S.Ok) (n : Int) : S.inP (nbI S n) = true := by
  obtain ⟨h1, h2⟩ := nbI_in hS n
  unfold BkS.inP
  simp
  omega
section
variable {w : World} {F : Nat → Prop} {b : Nat} {S : BkS} {V : Value} {ps : List PgR} {st : PgR}
theorem whole_b (h : BkO w F b S V ps st) (hS : S.Ok) : Calls Tryz.prog 41 #[ptrV b] w (Gives w (boxV 0 0 S.rows S.cols)) := by
  have SZ := Lib.hid (fun w' (hb : Below w.heap.size w w') => size_b (h.grow hb) hS)
  have W := Lib.hid (fun w' => whole_c S.rows S.cols w')
  rw [show max 0 (S.rows : Int) = S.rows by omega, show max 0 (S.cols : Int) = S.cols by omega] at W
  clear h
  go_enter Tryz.func41, Tryz.ntmps41
  go_wp2_with (first
    | (go_at_call 68; ((with_reducible refine (SZ.out _ (by (repeat' (first | (with_reducible exact Below.refl _ _) | (with_reducible refine Below.alloc ?_ ?_ _) | (with_reducible refine below_ext ?_ ?_ _) | (with_reducible refine Below.drew ?_) | (with_reducible refine below_drewN ?_ _) | (with_reducible refine Below.setCell ?_ ?_ _) | go_size | (simp only [go_sem]; omega) | (simp [go_sem]; done) | (simp [go_sem]; omega))))).mono ?_); rintro _ _ hgets; obtain ⟨rfl, x1, rfl⟩ := hgets.get; clear hgets))
    | (go_at_call 71; ((with_reducible refine (W.out _).mono ?_); rintro _ _ hgets; obtain ⟨rfl, x2, rfl⟩ := hgets.get; clear hgets)))
  go_returns
  exact ⟨rfl, by (repeat' (first | (with_reducible exact Below.refl _ _) | (with_reducible refine Below.alloc ?_ ?_ _) | (with_reducible refine below_ext ?_ ?_ _) | (with_reducible refine Below.drew ?_) | (with_reducible refine below_drewN ?_ _) | (with_reducible refine Below.setCell ?_ ?_ _) | go_size | (simp only [go_sem]; omega) | (simp [go_sem]; done) | (simp [go_sem]; omega)))⟩
theorem number_b (h : BkO w F b S V ps st) (hS : S.Ok) (n : Int) : Calls Tryz.prog 43 #[ptrV b, .int .i64 n] w (Gives w (.tuple #[.int .i64 (nbI S n), .bool (decide (0 ≤ n))])) := by
  have CT := Lib.hid (fun w' (hb : Below w.heap.size w w') => count_b (h.grow hb))
  have CL := Lib.hid (fun w' => pclip_c n 1 S.pages.length w')
  have h1 := hS.p1
  have h2 := hS.p2
  have hw : IntKind.i64.wrap (max 1 (min n (S.pages.length : Int)) - 1) = nbI S n := wrap_i64 (by omega) (by omega)
  have hg : (n ≥ 0) = (0 ≤ n) := rfl
  clear h hS
  go_enter Tryz.func43, Tryz.ntmps43
  go_wp2_with (first
    | (go_at_call 23; ((with_reducible refine (CT.out _ (by (repeat' (first | (with_reducible exact Below.refl _ _) | (with_reducible refine Below.alloc ?_ ?_ _) | (with_reducible refine below_ext ?_ ?_ _) | (with_reducible refine Below.drew ?_) | (with_reducible refine below_drewN ?_ _) | (with_reducible refine Below.setCell ?_ ?_ _) | go_size | (simp only [go_sem]; omega) | (simp [go_sem]; done) | (simp [go_sem]; omega))))).mono ?_); rintro _ _ hgets; obtain ⟨rfl, x1, rfl⟩ := hgets.get; clear hgets))
    | (go_at_call 91; ((with_reducible refine (CL.out _).mono ?_); rintro _ _ ⟨rfl, rfl⟩)))
  go_returns
  exact ⟨rfl, by (repeat' (first | (with_reducible exact Below.refl _ _) | (with_reducible refine Below.alloc ?_ ?_ _) | (with_reducible refine below_ext ?_ ?_ _) | (with_reducible refine Below.drew ?_) | (with_reducible refine below_drewN ?_ _) | (with_reducible refine Below.setCell ?_ ?_ _) | go_size | (simp only [go_sem]; omega) | (simp [go_sem]; done) | (simp [go_sem]; omega)))⟩
end
/-- what is copied: the rectangle, cut at the area's end -/
def cpB (y : BxI) (xs : List Int) (pr pc : Int) : BxI := ⟨(reB y xs 0).t, (reB y xs 0).l, min (reB y xs 0).b ((reB y xs 0).t + y.b - pr), min (reB y xs 0).r ((reB y xs 0).l + y.r - pc)⟩
def cpR (y : BxI) (xs : List Int) (i : Int) : Int := if y.b ≤ y.t ∨ y.r ≤ y.l then y.t else placeI y.t y.b (num0 xs i 0)
def cpC (y : BxI) (xs : List Int) (i : Int) : Int := if y.b ≤ y.t ∨ y.r ≤ y.l then y.l else placeI y.l y.r (num0 xs i 1)
theorem place_v (y : BxI) (xs : List Int) (i : Int) : placeV y.t y.l y.b y.r xs i = .agg #[.int .i64 (cpR y xs i), .int .i64 (cpC y xs i)] := by
  unfold placeV cpR cpC
  split <;> rfl
theorem re_bd (y : BxI) (xs : List Int) (i : Int) (h : reOk y xs i = true) : y.t ≤ (reB y xs i).t ∧ (reB y xs i).t < (reB y xs i).b ∧ (reB y xs i).b ≤ y.b ∧ y.l ≤ (reB y xs i).l ∧ (reB y xs i).l < (reB y xs i).r ∧ (reB y xs i).r ≤ y.r := by
  have h0 : rectOk y.t y.l y.b y.r xs i = true := h
  have h1 := h0
  unfold rectOk at h1
  simp only [Bool.and_eq_true, decide_eq_true_eq] at h1
  obtain ⟨⟨q1, q2⟩, q3⟩ := h1
  have a1 := side_bd q2
  have a2 := side_bd q3
  unfold reB rectT rectL rectB rectR
  simp only [if_pos h0]
  omega
def cpOk (y : BxI) (xs : List Int) : Bool := reOk y xs 0 && (decide (0 ≤ at0 xs 4) && decide (0 ≤ at0 xs 7))
def arK (S : BkS) (x : BxI) : BxI := onB S.rows S.cols x
def copyRS (S : BkS) (x : BxI) (xs : List Int) : BkS := if cpOk (arK S x) xs = true then S.copy (nbI S (at0 xs 4)) (cpB (arK S x) xs (cpR (arK S x) xs 5) (cpC (arK S x) xs 5)) (nbI S (at0 xs 7)) (cpR (arK S x) xs 5) (cpC (arK S x) xs 5) else S
section
variable {w : World} {F : Nat → Prop} {b : Nat} {S : BkS} {V : Value} {ps : List PgR} {st : PgR} {a : Option Addr} {c : Nat} {xs : List Int}
set_option maxRecDepth 100000 in
set_option maxHeartbeats 16000000 in
theorem copy_rect (h : BkO w F b S V ps st) (hS : S.Ok) (hx : NumL w a c xs) (x : BxI) :
    Calls Tryz.prog 15 #[ptrV b, boxV x.t x.l x.b x.r, .slice a xs.length c] w (fun e w' => e = .returned (.bool (cpOk (arK S x) xs)) ∧ BDid F b (copyRS S x xs) w w') := by
  have hbd : (0 ≤ (arK S x).t ∧ (arK S x).t ≤ 500) ∧ (0 ≤ (arK S x).l ∧ (arK S x).l ≤ 500) ∧ (0 ≤ (arK S x).b ∧ (arK S x).b ≤ 500) ∧ (0 ≤ (arK S x).r ∧ (arK S x).r ≤ 500) := by
    have := onB_in S.rows S.cols x
    have := BkS.rows_le hS
    unfold arK
    omega
  obtain ⟨⟨ht0, ht1⟩, ⟨hl0, hl1⟩, ⟨hb0, hb1⟩, ⟨hr0, hr1⟩⟩ := hbd
  have WH := Lib.hid (fun w' (hb : Below w.heap.size w w') => whole_b (h.grow hb) hS)
  have MT : Hid (∀ w', Calls Tryz.prog 40 #[boxV x.t x.l x.b x.r, boxV 0 0 S.rows S.cols] w' (Gives w' (boxV (arK S x).t (arK S x).l (arK S x).b (arK S x).r))) := Lib.hid (fun w' => meet_c x.t x.l x.b x.r 0 0 S.rows S.cols w')
  have RC : Hid (∀ w', Below w.heap.size w w' → Calls Tryz.prog 39 #[boxV (arK S x).t (arK S x).l (arK S x).b (arK S x).r, .slice a xs.length c, .int .i64 0] w' (Gives w' (.tuple #[boxV (reB (arK S x) xs 0).t (reB (arK S x) xs 0).l (reB (arK S x) xs 0).b (reB (arK S x) xs 0).r, .bool (reOk (arK S x) xs 0)]))) := Lib.hid (fun w' hb => rect_c _ _ _ _ a c xs 0 w' (by omega) (by omega) (by omega) (by omega) (hx.grow hb).rd (Nat.le_trans hx.lc hx.cm) hx.lc hx.cm hx.hi)
  have PL : Hid (∀ w', Below w.heap.size w w' → Calls Tryz.prog 53 #[boxV (arK S x).t (arK S x).l (arK S x).b (arK S x).r, .slice a xs.length c, .int .i64 5] w' (Gives w' (.agg #[.int .i64 (cpR (arK S x) xs 5), .int .i64 (cpC (arK S x) xs 5)]))) := Lib.hid (fun w' hb => by
    rw [← place_v]
    exact place_c _ _ _ _ a c xs 5 w' (by omega) (by omega) (by omega) (by omega) (hx.grow hb).rd (Nat.le_trans hx.lc hx.cm) hx.lc hx.cm)
  have RW4 := Lib.hid (fun w' (h : Below w.heap.size w w') => raw_c a c xs 4 w' (hx.grow h).rd (Nat.le_trans hx.lc hx.cm))
  have RW7 := Lib.hid (fun w' (h : Below w.heap.size w w') => raw_c a c xs 7 w' (hx.grow h).rd (Nat.le_trans hx.lc hx.cm))
  have NB4 := Lib.hid (fun w' (hb : Below w.heap.size w w') => number_b (h.grow hb) hS (at0 xs 4))
  have NB7 := Lib.hid (fun w' (hb : Below w.heap.size w w') => number_b (h.grow hb) hS (at0 xs 7))
  have hcr : 0 ≤ cpR (arK S x) xs 5 ∧ cpR (arK S x) xs 5 ≤ 1000 := by unfold cpR placeI; split <;> omega
  have hcc : 0 ≤ cpC (arK S x) xs 5 ∧ cpC (arK S x) xs 5 ≤ 1000 := by unfold cpC placeI; split <;> omega
  have CP := Lib.hid (fun w' (hb : Below w.heap.size w w') => copy_b (h.grow hb) hS (nbI S (at0 xs 4)) (cpB (arK S x) xs (cpR (arK S x) xs 5) (cpC (arK S x) xs 5)) (nbI S (at0 xs 7)) (cpR (arK S x) xs 5) (cpC (arK S x) xs 5) (by omega) (by omega))
  rw [nbI_inP hS, nbI_inP hS, Bool.true_and] at CP
  have BR := Lib.hid (fun w' (hb : Below w.heap.size w w') => (BDid.refl ⟨_, _, _, h⟩ : BDid F b S w w).grow hb)
  have hFl := Lib.hid h.lt
  have rbd := re_bd (arK S x) xs 0
  have CB : cpB (arK S x) xs (cpR (arK S x) xs 5) (cpC (arK S x) xs 5) = ⟨(reB (arK S x) xs 0).t, (reB (arK S x) xs 0).l, min (reB (arK S x) xs 0).b ((reB (arK S x) xs 0).t + (arK S x).b - (cpR (arK S x) xs 5)), min (reB (arK S x) xs 0).r ((reB (arK S x) xs 0).l + (arK S x).r - (cpC (arK S x) xs 5))⟩ := rfl
  have CO : cpOk (arK S x) xs = (reOk (arK S x) xs 0 && (decide (0 ≤ at0 xs 4) && decide (0 ≤ at0 xs 7))) := rfl
  have TE : copyRS S x xs = if cpOk (arK S x) xs = true then S.copy (nbI S (at0 xs 4)) (cpB (arK S x) xs (cpR (arK S x) xs 5) (cpC (arK S x) xs 5)) (nbI S (at0 xs 7)) (cpR (arK S x) xs 5) (cpC (arK S x) xs 5) else S := rfl
  generalize copyRS S x xs = T at TE ⊢
  generalize cpOk (arK S x) xs = ok at CO TE ⊢
  generalize cpB (arK S x) xs (cpR (arK S x) xs 5) (cpC (arK S x) xs 5) = cb at CB CP TE
  generalize cpR (arK S x) xs 5 = pr at *
  generalize cpC (arK S x) xs 5 = pc at *
  generalize nbI S (at0 xs 4) = n4 at *
  generalize nbI S (at0 xs 7) = n7 at *
  generalize reB (arK S x) xs 0 = q at *
  generalize reOk (arK S x) xs 0 = k1 at *
  generalize arK S x = z at *
  obtain ⟨xt, xl, xb, xr⟩ := x
  obtain ⟨zt, zl, zb, zr⟩ := z
  obtain ⟨qt, ql, qb, qr⟩ := q
  subst CB
  simp only at *
  clear h hx hS
  go_enter Tryz.func15, Tryz.ntmps15
  go_upto_region 1 with fail
  generalize hW : w.alloc (.cells #[.int .i64 xt, .int .i64 xl, .int .i64 xb, .int .i64 xr] 31) = W
  have hlt : w.heap.size < W.heap.size := by subst hW; simp [go_sem]
  have hB : Below w.heap.size w W := by subst hW; (repeat' (first | (with_reducible exact Below.refl _ _) | (with_reducible refine Below.alloc ?_ ?_ _) | (with_reducible refine below_ext ?_ ?_ _) | (with_reducible refine Below.drew ?_) | (with_reducible refine below_drewN ?_ _) | (with_reducible refine Below.setCell ?_ ?_ _) | go_size | (simp only [go_sem]; omega) | (simp [go_sem]; done) | (simp [go_sem]; omega)))
  have b0 : W.heap[w.heap.size]? = some (.cells #[.int .i64 xt, .int .i64 xl, .int .i64 xb, .int .i64 xr] 31 (0, 0)) := by subst hW; exact al_at _ _ rfl
  clear hW
  have KB : ∀ w', Below W.heap.size W w' → w'.heap[w.heap.size]? = some (.cells #[.int .i64 xt, .int .i64 xl, .int .i64 xb, .int .i64 xr] 31 (0, 0)) := fun w' h => (h.block _ hlt).trans b0
  have KS : ∀ w', Below W.heap.size W w' → w'.cell? ⟨w.heap.size, 0, none⟩ = some (.int .i64 xt) ∧ w'.cell? ⟨w.heap.size, 1, none⟩ = some (.int .i64 xl) ∧ w'.cell? ⟨w.heap.size, 2, none⟩ = some (.int .i64 xb) ∧ w'.cell? ⟨w.heap.size, 3, none⟩ = some (.int .i64 xr) := fun w' h => ⟨by rw [cell_in (KB _ h)]; rfl, by rw [cell_in (KB _ h)]; rfl, by rw [cell_in (KB _ h)]; rfl, by rw [cell_in (KB _ h)]; rfl⟩
  have hBW := Lib.hid (fun w' (h : Below W.heap.size W w') => hB.trans (h.mono hB.size))
  go_cut [4] (fun v4 wx => v4 = .pointer (some ⟨w.heap.size, 0, none⟩) ∧ Below w.heap.size w wx ∧ wx.heap[w.heap.size]? = some (.cells #[.int .i64 zt, .int .i64 zl, .int .i64 zb, .int .i64 zr] 31 (0, 0)))
  case first =>
    (refine wp_region_F (S := (fun w' => w'.cell? ⟨w.heap.size, 0, none⟩ = some (.int .i64 xt) ∧ w'.cell? ⟨w.heap.size, 1, none⟩ = some (.int .i64 xl) ∧ w'.cell? ⟨w.heap.size, 2, none⟩ = some (.int .i64 xb) ∧ w'.cell? ⟨w.heap.size, 3, none⟩ = some (.int .i64 xr))) 4 [false, false, false, false, false] rfl rfl (by kernel_rfl) ?_ (fun hHeld => ?_); (focus ((try dsimp only); (exact KS _ (by (repeat' (first | (with_reducible exact Below.refl _ _) | (with_reducible refine Below.alloc ?_ ?_ _) | (with_reducible refine below_ext ?_ ?_ _) | (with_reducible refine Below.drew ?_) | (with_reducible refine below_drewN ?_ _) | (with_reducible refine Below.setCell ?_ ?_ _) | go_size | (simp only [go_sem]; omega) | (simp [go_sem]; done) | (simp [go_sem]; omega))))); done)))
    ((refine AtF.take (oi := ?_) (v := ?_) 0 ?_ ?_ ?_ ?_ (Or.inl ⟨?_, ?_⟩) (by assumption) ?_; rotate_left 2; rfl; kernel_rfl; kernel_rfl; exact (fun _ _ _ h => h); rfl; (focus (intro w hSw; (try dsimp only at hSw); go_simp; (try with_reducible rfl); done)); (try simp only [Act.put, List.setIfInBounds_toArray, List.set_cons_zero, List.set_cons_succ])); (refine AtF.take (oi := ?_) (v := ?_) 1 ?_ ?_ ?_ ?_ (Or.inl ⟨?_, ?_⟩) (by assumption) ?_; rotate_left 2; rfl; kernel_rfl; kernel_rfl; exact (fun _ _ _ h => h); rfl; (focus (intro w hSw; (try dsimp only at hSw); go_simp; (try with_reducible rfl); done)); (try simp only [Act.put, List.setIfInBounds_toArray, List.set_cons_zero, List.set_cons_succ])))
    (refine AtF.only (oi := ?_) 2 ?_ ?_ (fun K hK => ?_); rotate_left 1; rfl; kernel_rfl; (try go_simp); (go_at_call 41; ((with_reducible refine (WH.out _ (hBW.out _ (by (repeat' (first | (with_reducible exact Below.refl _ _) | (with_reducible refine Below.alloc ?_ ?_ _) | (with_reducible refine below_ext ?_ ?_ _) | (with_reducible refine Below.drew ?_) | (with_reducible refine below_drewN ?_ _) | (with_reducible refine Below.setCell ?_ ?_ _) | go_size | (simp only [go_sem]; omega) | (simp [go_sem]; done) | (simp [go_sem]; omega)))))).mono ?_); rintro _ _ hgets; obtain ⟨rfl, x1, rfl⟩ := hgets.get; clear hgets)); (refine hK.out _ _ ?_ (fun hHeld => ?_)); (focus ((try dsimp only); (exact KS _ (by (repeat' (first | (with_reducible exact Below.refl _ _) | (with_reducible refine Below.alloc ?_ ?_ _) | (with_reducible refine below_ext ?_ ?_ _) | (with_reducible refine Below.drew ?_) | (with_reducible refine below_drewN ?_ _) | (with_reducible refine Below.setCell ?_ ?_ _) | go_size | (simp only [go_sem]; omega) | (simp [go_sem]; done) | (simp [go_sem]; omega))))); done)); clear hK K; (try simp only [Act.put, List.setIfInBounds_toArray, List.set_cons_zero, List.set_cons_succ]))
    (refine AtF.only (oi := ?_) 3 ?_ ?_ (fun K hK => ?_); rotate_left 1; rfl; kernel_rfl; (try go_simp); (go_at_call 40; ((with_reducible refine (MT.out _).mono ?_); rintro _ _ hgets; obtain ⟨rfl, x2, rfl⟩ := hgets.get; clear hgets)); (refine hK.out _ _ ?_ (fun hHeld => ?_)); (focus ((try dsimp only); (exact KS _ (by (repeat' (first | (with_reducible exact Below.refl _ _) | (with_reducible refine Below.alloc ?_ ?_ _) | (with_reducible refine below_ext ?_ ?_ _) | (with_reducible refine Below.drew ?_) | (with_reducible refine below_drewN ?_ _) | (with_reducible refine Below.setCell ?_ ?_ _) | go_size | (simp only [go_sem]; omega) | (simp [go_sem]; done) | (simp [go_sem]; omega))))); done)); clear hK K; (try simp only [Act.put, List.setIfInBounds_toArray, List.set_cons_zero, List.set_cons_succ]))
    obtain ⟨W2, hW2⟩ : ∃ W2, W2 = ext (ext W x1) x2 := ⟨_, rfl⟩
    have hB2 : Below W.heap.size W W2 := by rw [hW2]; (repeat' (first | (with_reducible exact Below.refl _ _) | (with_reducible refine Below.alloc ?_ ?_ _) | (with_reducible refine below_ext ?_ ?_ _) | (with_reducible refine Below.drew ?_) | (with_reducible refine below_drewN ?_ _) | (with_reducible refine Below.setCell ?_ ?_ _) | go_size | (simp only [go_sem]; omega) | (simp [go_sem]; done) | (simp [go_sem]; omega)))
    rw [← hW2]
    clear hW2 hHeld
    have b2 := KB _ hB2
    have f2 := fun i => frozen_in (q := i) b2
    have c0 := (KS _ hB2).1
    have c1 := (KS _ hB2).2.1
    have c2 := (KS _ hB2).2.2.1
    have c3 := (KS _ hB2).2.2.2
    have hlt2 := Nat.lt_of_lt_of_le hlt hB2.size
    have FN := Lib.hid (four_put b2 (hB.trans (hB2.mono hB.size)) (Nat.le_refl _) (.int .i64 zt) (.int .i64 zl) (.int .i64 zb) (.int .i64 zr))
    (refine AtF.last (oi := ?_) ?_ ?_ (fun K hK => ?_); rotate_left 1; rfl; kernel_rfl; go_simp; skip; refine hK.out _ _ ?_; clear hK K; (try simp only [Act.put, List.setIfInBounds_toArray, List.set_cons_zero, List.set_cons_succ]))
    go_wp2
    go_meet
    exact ⟨rfl, FN.out⟩
  obtain ⟨rfl, BW, b0⟩ := hcut
  obtain ⟨W1, eW1⟩ : ∃ W1, W1 = wc := ⟨_, rfl⟩
  rw [← eW1] at BW b0 ⊢
  clear eW1 wc KB KS hBW hB hlt
  have hg0 := heap_in b0
  have q0 : W1.cell? ⟨w.heap.size, 0, none⟩ = some (.int .i64 zt) := by rw [cell_in b0]; rfl
  have q1 : W1.cell? ⟨w.heap.size, 1, none⟩ = some (.int .i64 zl) := by rw [cell_in b0]; rfl
  have q2 : W1.cell? ⟨w.heap.size, 2, none⟩ = some (.int .i64 zb) := by rw [cell_in b0]; rfl
  have q3 : W1.cell? ⟨w.heap.size, 3, none⟩ = some (.int .i64 zr) := by rw [cell_in b0]; rfl
  have hBW := Lib.hid (fun w' (h : Below W1.heap.size W1 w') => BW.trans (h.mono BW.size))
  clear b0
  replace BW := Lib.hid BW
  replace hcr := Lib.hid hcr
  replace hcc := Lib.hid hcc
  replace rbd := Lib.hid rbd
  replace CO := Lib.hid CO
  replace TE := Lib.hid TE
  generalize decide (0 ≤ at0 xs 4) = d4 at NB4 CO
  generalize decide (0 ≤ at0 xs 7) = d7 at NB7 CO
  generalize at0 xs 4 = a4 at RW4 NB4
  generalize at0 xs 7 = a7 at RW7 NB7
  go_upto_region 2 with fail
  go_cut [7, 8] (fun v7 v8 wx => ∃ g, v7 = .pointer (some ⟨g, 0, none⟩) ∧ v8 = .bool k1 ∧ Below W1.heap.size W1 wx ∧ W1.heap.size ≤ g ∧ wx.heap[g]? = some (.cells #[.int .i64 qt, .int .i64 ql, .int .i64 qb, .int .i64 qr] 31 (0, 0)))
  case first =>
    go_wp2_with (go_at_call 39; ((with_reducible refine (RC.out _ (hBW.out _ (by (repeat' (first | (with_reducible exact Below.refl _ _) | (with_reducible refine Below.alloc ?_ ?_ _) | (with_reducible refine below_ext ?_ ?_ _) | (with_reducible refine Below.drew ?_) | (with_reducible refine below_drewN ?_ _) | (with_reducible refine Below.setCell ?_ ?_ _) | go_size | (simp only [go_sem]; omega) | (simp [go_sem]; done) | (simp [go_sem]; omega)))))).mono ?_); rintro _ _ hgets; obtain ⟨rfl, x3, rfl⟩ := hgets.get; clear hgets))
    go_meet
    exact ⟨_, rfl, rfl, by (repeat' (first | (with_reducible exact Below.refl _ _) | (with_reducible refine Below.alloc ?_ ?_ _) | (with_reducible refine below_ext ?_ ?_ _) | (with_reducible refine Below.drew ?_) | (with_reducible refine below_drewN ?_ _) | (with_reducible refine Below.setCell ?_ ?_ _) | go_size | (simp only [go_sem]; omega) | (simp [go_sem]; done) | (simp [go_sem]; omega))), by simp, al_at _ _ (by simp [go_sem])⟩
  obtain ⟨g7, rfl, rfl, hB2, hg7, b7⟩ := hcut
  obtain ⟨W2, eW2⟩ : ∃ W2, W2 = wc := ⟨_, rfl⟩
  rw [← eW2] at hB2 b7 ⊢
  clear eW2 wc
  have m0 := (hB2.cell (p := ⟨w.heap.size, 0, none⟩) (by simp; omega)).trans q0
  have m1 := (hB2.cell (p := ⟨w.heap.size, 1, none⟩) (by simp; omega)).trans q1
  have m2 := (hB2.cell (p := ⟨w.heap.size, 2, none⟩) (by simp; omega)).trans q2
  have m3 := (hB2.cell (p := ⟨w.heap.size, 3, none⟩) (by simp; omega)).trans q3
  clear q0 q1 q2 q3
  have hg2 : w.heap.size < W2.heap.size := Nat.lt_of_lt_of_le hg0 hB2.size
  have hg7' : w.heap.size ≤ g7 := by omega
  have hl7 := heap_in b7
  have n0 : W2.cell? ⟨g7, 0, none⟩ = some (.int .i64 qt) := by rw [cell_in b7]; rfl
  have n1 : W2.cell? ⟨g7, 1, none⟩ = some (.int .i64 ql) := by rw [cell_in b7]; rfl
  have n2 : W2.cell? ⟨g7, 2, none⟩ = some (.int .i64 qb) := by rw [cell_in b7]; rfl
  have n3 : W2.cell? ⟨g7, 3, none⟩ = some (.int .i64 qr) := by rw [cell_in b7]; rfl
  have f7 := fun i => frozen_in (q := i) b7
  have hBW2 := Lib.hid (fun w' (h : Below w.heap.size W2 w') => (hBW.out _ hB2).trans h)
  have hne : g7 ≠ w.heap.size := by omega
  clear hB2 b7 hBW hg7 hg0
  go_upto_region 5 with (first
    | (go_at_call 42; ((with_reducible refine (RW4.out _ (hBW2.out _ (by (repeat' (first | (with_reducible exact Below.refl _ _) | (with_reducible refine Below.alloc ?_ ?_ _) | (with_reducible refine below_ext ?_ ?_ _) | (with_reducible refine Below.drew ?_) | (with_reducible refine below_drewN ?_ _) | (with_reducible refine Below.setCell ?_ ?_ _) | go_size | (simp only [go_sem]; omega) | (simp [go_sem]; done) | (simp [go_sem]; omega)))))).mono ?_); rintro _ _ ⟨rfl, rfl⟩))
    | (go_at_call 42; ((with_reducible refine (RW7.out _ (hBW2.out _ (by (repeat' (first | (with_reducible exact Below.refl _ _) | (with_reducible refine Below.alloc ?_ ?_ _) | (with_reducible refine below_ext ?_ ?_ _) | (with_reducible refine Below.drew ?_) | (with_reducible refine below_drewN ?_ _) | (with_reducible refine Below.setCell ?_ ?_ _) | go_size | (simp only [go_sem]; omega) | (simp [go_sem]; done) | (simp [go_sem]; omega)))))).mono ?_); rintro _ _ ⟨rfl, rfl⟩))
    | (go_at_call 43; ((with_reducible refine (NB4.out _ (hBW2.out _ (by (repeat' (first | (with_reducible exact Below.refl _ _) | (with_reducible refine Below.alloc ?_ ?_ _) | (with_reducible refine below_ext ?_ ?_ _) | (with_reducible refine Below.drew ?_) | (with_reducible refine below_drewN ?_ _) | (with_reducible refine Below.setCell ?_ ?_ _) | go_size | (simp only [go_sem]; omega) | (simp [go_sem]; done) | (simp [go_sem]; omega)))))).mono ?_); rintro _ _ hgets; obtain ⟨rfl, x4, rfl⟩ := hgets.get; clear hgets))
    | (go_at_call 43; ((with_reducible refine (NB7.out _ (hBW2.out _ (by (repeat' (first | (with_reducible exact Below.refl _ _) | (with_reducible refine Below.alloc ?_ ?_ _) | (with_reducible refine below_ext ?_ ?_ _) | (with_reducible refine Below.drew ?_) | (with_reducible refine below_drewN ?_ _) | (with_reducible refine Below.setCell ?_ ?_ _) | go_size | (simp only [go_sem]; omega) | (simp [go_sem]; done) | (simp [go_sem]; omega)))))).mono ?_); rintro _ _ hgets; obtain ⟨rfl, x7, rfl⟩ := hgets.get; clear hgets)))
  have NO : ∀ W', Below w.heap.size w W' → ok = false → Ending.returned (.bool false) = Ending.returned (.bool ok) ∧ BDid F b T w W' := fun W' hb e => by
    have h1 := TE.out
    rw [e] at h1
    rw [e, show T = S from h1]
    exact ⟨rfl, BR.out _ hb⟩
  replace NO := Lib.hid NO
  clear BR
  cases k1
  · go_wp2
    go_returns
    refine NO.out _ ?_ CO.out
    exact hBW2.out _ (by (repeat' (first | (with_reducible exact Below.refl _ _) | (with_reducible refine Below.alloc ?_ ?_ _) | (with_reducible refine below_ext ?_ ?_ _) | (with_reducible refine Below.drew ?_) | (with_reducible refine below_drewN ?_ _) | (with_reducible refine Below.setCell ?_ ?_ _) | go_size | (simp only [go_sem]; omega) | (simp [go_sem]; done) | (simp [go_sem]; omega))))
  · cases d4
    · go_wp2
      go_returns
      refine NO.out _ ?_ CO.out
      exact hBW2.out _ (by (repeat' (first | (with_reducible exact Below.refl _ _) | (with_reducible refine Below.alloc ?_ ?_ _) | (with_reducible refine below_ext ?_ ?_ _) | (with_reducible refine Below.drew ?_) | (with_reducible refine below_drewN ?_ _) | (with_reducible refine Below.setCell ?_ ?_ _) | go_size | (simp only [go_sem]; omega) | (simp [go_sem]; done) | (simp [go_sem]; omega))))
    · cases d7
      · go_wp2
        go_returns
        refine NO.out _ ?_ CO.out
        exact hBW2.out _ (by (repeat' (first | (with_reducible exact Below.refl _ _) | (with_reducible refine Below.alloc ?_ ?_ _) | (with_reducible refine below_ext ?_ ?_ _) | (with_reducible refine Below.drew ?_) | (with_reducible refine below_drewN ?_ _) | (with_reducible refine Below.setCell ?_ ?_ _) | go_size | (simp only [go_sem]; omega) | (simp [go_sem]; done) | (simp [go_sem]; omega))))
      · obtain rfl : ok = true := CO.out
        obtain rfl : T = _ := TE.out
        obtain ⟨p1, p2, p3, p4, p5, p6⟩ := rbd.out rfl
        obtain ⟨c1, c2⟩ := hcr.out
        obtain ⟨c3, c4⟩ := hcc.out
        have hw1 : IntKind.i64.wrap (qt + zb) = qt + zb := wrap_i64 (by omega) (by omega)
        have hw2 : IntKind.i64.wrap (qt + zb - pr) = qt + zb - pr := wrap_i64 (by omega) (by omega)
        have hw3 : IntKind.i64.wrap (ql + zr) = ql + zr := wrap_i64 (by omega) (by omega)
        have hw4 : IntKind.i64.wrap (ql + zr - pc) = ql + zr - pc := wrap_i64 (by omega) (by omega)
        clear NO TE RW4 RW7 NB4 NB7 WH MT CO rbd p1 p2 p3 p4 p5 p6 c1 c2 c3 c4 ht0 ht1 hl0 hl1 hb0 hb1 hr0 hr1
        go_upto_region 8 with (go_at_call 53; ((with_reducible refine (PL.out _ (hBW2.out _ (by (repeat' (first | (with_reducible exact Below.refl _ _) | (with_reducible refine Below.alloc ?_ ?_ _) | (with_reducible refine below_ext ?_ ?_ _) | (with_reducible refine Below.drew ?_) | (with_reducible refine below_drewN ?_ _) | (with_reducible refine Below.setCell ?_ ?_ _) | go_size | (simp only [go_sem]; omega) | (simp [go_sem]; done) | (simp [go_sem]; omega)))))).mono ?_); rintro _ _ hgets; obtain ⟨rfl, x5, rfl⟩ := hgets.get; clear hgets))
        go_wp2_with ((go_at_call 54); (with_reducible refine (CP.out _ (hBW2.out _ (by (repeat' (first | (with_reducible exact Below.refl _ _) | (with_reducible refine Below.alloc ?_ ?_ _) | (with_reducible refine below_ext ?_ ?_ _) | (with_reducible refine Below.drew ?_) | (with_reducible refine below_drewN ?_ _) | (with_reducible refine Below.setCell ?_ ?_ _) | go_size | (simp only [go_sem]; omega) | (simp [go_sem]; done) | (simp [go_sem]; omega)))))).mono ?_); (rintro _ W9 ⟨rfl, hD⟩); replace hD := Lib.hid (BDid.back hD (hBW2.out _ (by (repeat' (first | (with_reducible exact Below.refl _ _) | (with_reducible refine Below.alloc ?_ ?_ _) | (with_reducible refine below_ext ?_ ?_ _) | (with_reducible refine Below.drew ?_) | (with_reducible refine below_drewN ?_ _) | (with_reducible refine Below.setCell ?_ ?_ _) | go_size | (simp only [go_sem]; omega) | (simp [go_sem]; done) | (simp [go_sem]; omega))))) hFl.out))
        go_returns
        exact ⟨rfl, hD.out⟩
end
end Go.Proofs.YtignkkejkknddaaGreat
