/- rect: the box of a book's pages, the page of a number, Copy.  -/
import Derived.Test.YtignkkejkknddaaGreatRecD
import Derived.Test.YtignkkejkknddaaGreatBkB
import Derived.Test.YtignkkejkknddaaGreatBox4
import Derived.Test.YtignkkejkknddaaGreatRend3
import Derived.Test.YtignkkejkknddaaGreatClk
import Derived.Test.YtignkkejkknddaaGreatPgNew
import Derived.Test.YtignkkejkknddaaGreatRecH
import Derived.Test.YtignkkejkknddaaGreatPgIs
import Derived.Test.YtignkkejkknddaaGreatRbkB
import Derived.Deep.CutRange
namespace Go.Proofs.YtignkkejkknddaaGreat
open Go.RowKit
set_option linter.unusedVariables false
set_option linter.unusedSimpArgs false

/-- all pages of a book are of one size -/
def BkS.Even (S : BkS) : Prop := ∀ P ∈ S.pages, P.rows.length = S.rows ∧ P.cols = S.cols
theorem BkS.rows_le {S : BkS} (hS : S.Ok) : 1 ≤ S.rows ∧ S.rows ≤ 500 ∧ 1 ≤ S.cols ∧ S.cols ≤ 500 := by
  have h0 : 0 < S.pages.length := by have := hS.p1; omega
  have e : S.pages.getD 0 S.status = S.pages[0] := by simp [List.getD_eq_getElem?_getD, h0]
  have := hS.pg _ (List.getElem_mem h0)
  unfold BkS.rows BkS.cols
  rw [e]
  exact ⟨this.r1, this.r2, this.c1, this.c2⟩
/-- the page of a number, counted from 0 on -/
def nbI (S : BkS) (n : Int) : Int := max 1 (min n S.pages.length) - 1
theorem nbI_in {S : BkS} (hS : S.Ok) (n : Int) : 0 ≤ nbI S n ∧ nbI S n < S.pages.length := by
  have := hS.p1
  unfold nbI
  omega
theorem nbI_inP {S : BkS} (hS : S.Ok) (n : Int) : S.inP (nbI S n) = true := by
  obtain ⟨h1, h2⟩ := nbI_in hS n
  unfold BkS.inP
  simp
  omega
section
variable {w : World} {F : Nat → Prop} {b : Nat} {S : BkS} {V : Value} {ps : List PgR} {st : PgR}
theorem whole_b (h : BkO w F b S V ps st) (hS : S.Ok) : Calls Tryz.prog 41 #[ptrV b] w (Gives w (boxV 0 0 S.rows S.cols)) := by
  have SZ := Lib.hid (fun w' (hb : Below w.heap.size w w') => size_b (h.grow hb) hS)
  have W := Lib.hid (fun w' => whole_c S.rows S.cols w')
  rw [show max 0 (S.rows : Int) = S.rows by omega, show max 0 (S.cols : Int) = S.cols by omega] at W
  clear h
  go_enter Tryz.func41, Tryz.ntmps41
  go_wp2_with (first
    | (go_at_call 68; ((with_reducible refine (SZ.out _ (by (repeat' (first | (with_reducible exact Below.refl _ _) | (with_reducible refine Below.alloc ?_ ?_ _) | (with_reducible refine below_ext ?_ ?_ _) | (with_reducible refine Below.drew ?_) | (with_reducible refine below_drewN ?_ _) | (with_reducible refine Below.setCell ?_ ?_ _) | go_size | (simp only [go_sem]; omega) | (simp [go_sem]; done) | (simp [go_sem]; omega))))).mono ?_); rintro _ _ hgets; obtain ⟨rfl, x1, rfl⟩ := hgets.get; clear hgets))
    | (go_at_call 71; ((with_reducible refine (W.out _).mono ?_); rintro _ _ hgets; obtain ⟨rfl, x2, rfl⟩ := hgets.get; clear hgets)))
  go_returns
  exact ⟨rfl, by (repeat' (first | (with_reducible exact Below.refl _ _) | (with_reducible refine Below.alloc ?_ ?_ _) | (with_reducible refine below_ext ?_ ?_ _) | (with_reducible refine Below.drew ?_) | (with_reducible refine below_drewN ?_ _) | (with_reducible refine Below.setCell ?_ ?_ _) | go_size | (simp only [go_sem]; omega) | (simp [go_sem]; done) | (simp [go_sem]; omega)))⟩
theorem number_b (h : BkO w F b S V ps st) (hS : S.Ok) (n : Int) : Calls Tryz.prog 43 #[ptrV b, .int .i64 n] w (Gives w (.tuple #[.int .i64 (nbI S n), .bool (decide (0 ≤ n))])) := by
  have CT := Lib.hid (fun w' (hb : Below w.heap.size w w') => count_b (h.grow hb))
  have CL := Lib.hid (fun w' => pclip_c n 1 S.pages.length w')
  have h1 := hS.p1
  have h2 := hS.p2
  have hw : IntKind.i64.wrap (max 1 (min n (S.pages.length : Int)) - 1) = nbI S n := wrap_i64 (by omega) (by omega)
  have hg : (n ≥ 0) = (0 ≤ n) := rfl
  clear h hS
  go_enter Tryz.func43, Tryz.ntmps43
  go_wp2_with (first
    | (go_at_call 23; ((with_reducible refine (CT.out _ (by (repeat' (first | (with_reducible exact Below.refl _ _) | (with_reducible refine Below.alloc ?_ ?_ _) | (with_reducible refine below_ext ?_ ?_ _) | (with_reducible refine Below.drew ?_) | (with_reducible refine below_drewN ?_ _) | (with_reducible refine Below.setCell ?_ ?_ _) | go_size | (simp only [go_sem]; omega) | (simp [go_sem]; done) | (simp [go_sem]; omega))))).mono ?_); rintro _ _ hgets; obtain ⟨rfl, x1, rfl⟩ := hgets.get; clear hgets))
    | (go_at_call 91; ((with_reducible refine (CL.out _).mono ?_); rintro _ _ ⟨rfl, rfl⟩)))
  go_returns
  exact ⟨rfl, by (repeat' (first | (with_reducible exact Below.refl _ _) | (with_reducible refine Below.alloc ?_ ?_ _) | (with_reducible refine below_ext ?_ ?_ _) | (with_reducible refine Below.drew ?_) | (with_reducible refine below_drewN ?_ _) | (with_reducible refine Below.setCell ?_ ?_ _) | go_size | (simp only [go_sem]; omega) | (simp [go_sem]; done) | (simp [go_sem]; omega)))⟩
end
/-- what is copied: the rectangle, cut at the area's end -/
def cpB (y : BxI) (xs : List Int) (pr pc : Int) : BxI := ⟨(reB y xs 0).t, (reB y xs 0).l, min (reB y xs 0).b ((reB y xs 0).t + y.b - pr), min (reB y xs 0).r ((reB y xs 0).l + y.r - pc)⟩
def cpR (y : BxI) (xs : List Int) (i : Int) : Int := if y.b ≤ y.t ∨ y.r ≤ y.l then y.t else placeI y.t y.b (num0 xs i 0)
def cpC (y : BxI) (xs : List Int) (i : Int) : Int := if y.b ≤ y.t ∨ y.r ≤ y.l then y.l else placeI y.l y.r (num0 xs i 1)
theorem place_v (y : BxI) (xs : List Int) (i : Int) : placeV y.t y.l y.b y.r xs i = .agg #[.int .i64 (cpR y xs i), .int .i64 (cpC y xs i)] := by
  unfold placeV cpR cpC
  split <;> rfl
theorem re_bd (y : BxI) (xs : List Int) (i : Int) (h : reOk y xs i = true) : y.t ≤ (reB y xs i).t ∧ (reB y xs i).t < (reB y xs i).b ∧ (reB y xs i).b ≤ y.b ∧ y.l ≤ (reB y xs i).l ∧ (reB y xs i).l < (reB y xs i).r ∧ (reB y xs i).r ≤ y.r := by
  have h0 : rectOk y.t y.l y.b y.r xs i = true := h
  have h1 := h0
  unfold rectOk at h1
  simp only [Bool.and_eq_true, decide_eq_true_eq] at h1
  obtain ⟨⟨q1, q2⟩, q3⟩ := h1
  have a1 := side_bd q2
  have a2 := side_bd q3
  unfold reB rectT rectL rectB rectR
  simp only [if_pos h0]
  omega
def cpOk (y : BxI) (xs : List Int) : Bool := reOk y xs 0 && (decide (0 ≤ at0 xs 4) && decide (0 ≤ at0 xs 7))
def arK (S : BkS) (x : BxI) : BxI := onB S.rows S.cols x
def copyRS (S : BkS) (x : BxI) (xs : List Int) : BkS := if cpOk (arK S x) xs = true then S.copy (nbI S (at0 xs 4)) (cpB (arK S x) xs (cpR (arK S x) xs 5) (cpC (arK S x) xs 5)) (nbI S (at0 xs 7)) (cpR (arK S x) xs 5) (cpC (arK S x) xs 5) else S
section
variable {w : World} {F : Nat → Prop} {b : Nat} {S : BkS} {V : Value} {ps : List PgR} {st : PgR} {a : Option Addr} {c : Nat} {xs : List Int}
set_option maxRecDepth 100000 in
set_option maxHeartbeats 16000000 in
theorem copy_rect (h : BkO w F b S V ps st) (hS : S.Ok) (hx : NumL w a c xs) (x : BxI) :
    Calls Tryz.prog 15 #[ptrV b, boxV x.t x.l x.b x.r, .slice a xs.length c] w (fun e w' => e = .returned (.bool (cpOk (arK S x) xs)) ∧ BDid F b (copyRS S x xs) w w') := by
  have hbd : (0 ≤ (arK S x).t ∧ (arK S x).t ≤ 500) ∧ (0 ≤ (arK S x).l ∧ (arK S x).l ≤ 500) ∧ (0 ≤ (arK S x).b ∧ (arK S x).b ≤ 500) ∧ (0 ≤ (arK S x).r ∧ (arK S x).r ≤ 500) := by
    have := onB_in S.rows S.cols x
    have := BkS.rows_le hS
    unfold arK
    omega
  obtain ⟨⟨ht0, ht1⟩, ⟨hl0, hl1⟩, ⟨hb0, hb1⟩, ⟨hr0, hr1⟩⟩ := hbd
  have WH := Lib.hid (fun w' (hb : Below w.heap.size w w') => whole_b (h.grow hb) hS)
  have MT : Hid (∀ w', Calls Tryz.prog 40 #[boxV x.t x.l x.b x.r, boxV 0 0 S.rows S.cols] w' (Gives w' (boxV (arK S x).t (arK S x).l (arK S x).b (arK S x).r))) := Lib.hid (fun w' => meet_c x.t x.l x.b x.r 0 0 S.rows S.cols w')
  have RC : Hid (∀ w', Below w.heap.size w w' → Calls Tryz.prog 39 #[boxV (arK S x).t (arK S x).l (arK S x).b (arK S x).r, .slice a xs.length c, .int .i64 0] w' (Gives w' (.tuple #[boxV (reB (arK S x) xs 0).t (reB (arK S x) xs 0).l (reB (arK S x) xs 0).b (reB (arK S x) xs 0).r, .bool (reOk (arK S x) xs 0)]))) := Lib.hid (fun w' hb => rect_c _ _ _ _ a c xs 0 w' (by omega) (by omega) (by omega) (by omega) (hx.grow hb).rd (Nat.le_trans hx.lc hx.cm) hx.lc hx.cm hx.hi)
  have PL : Hid (∀ w', Below w.heap.size w w' → Calls Tryz.prog 53 #[boxV (arK S x).t (arK S x).l (arK S x).b (arK S x).r, .slice a xs.length c, .int .i64 5] w' (Gives w' (.agg #[.int .i64 (cpR (arK S x) xs 5), .int .i64 (cpC (arK S x) xs 5)]))) := Lib.hid (fun w' hb => by
    rw [← place_v]
    exact place_c _ _ _ _ a c xs 5 w' (by omega) (by omega) (by omega) (by omega) (hx.grow hb).rd (Nat.le_trans hx.lc hx.cm) hx.lc hx.cm)
  have RW4 := Lib.hid (fun w' (h : Below w.heap.size w w') => raw_c a c xs 4 w' (hx.grow h).rd (Nat.le_trans hx.lc hx.cm))
  have RW7 := Lib.hid (fun w' (h : Below w.heap.size w w') => raw_c a c xs 7 w' (hx.grow h).rd (Nat.le_trans hx.lc hx.cm))
  have NB4 := Lib.hid (fun w' (hb : Below w.heap.size w w') => number_b (h.grow hb) hS (at0 xs 4))
  have NB7 := Lib.hid (fun w' (hb : Below w.heap.size w w') => number_b (h.grow hb) hS (at0 xs 7))
  have hcr : 0 ≤ cpR (arK S x) xs 5 ∧ cpR (arK S x) xs 5 ≤ 1000 := by unfold cpR placeI; split <;> omega
  have hcc : 0 ≤ cpC (arK S x) xs 5 ∧ cpC (arK S x) xs 5 ≤ 1000 := by unfold cpC placeI; split <;> omega
  have CP := Lib.hid (fun w' (hb : Below w.heap.size w w') => copy_b (h.grow hb) hS (nbI S (at0 xs 4)) (cpB (arK S x) xs (cpR (arK S x) xs 5) (cpC (arK S x) xs 5)) (nbI S (at0 xs 7)) (cpR (arK S x) xs 5) (cpC (arK S x) xs 5) (by omega) (by omega))
  rw [nbI_inP hS, nbI_inP hS, Bool.true_and] at CP
  have BR := Lib.hid (fun w' (hb : Below w.heap.size w w') => (BDid.refl ⟨_, _, _, h⟩ : BDid F b S w w).grow hb)
  have hFl := Lib.hid h.lt
  have rbd := re_bd (arK S x) xs 0
  have CB : cpB (arK S x) xs (cpR (arK S x) xs 5) (cpC (arK S x) xs 5) = ⟨(reB (arK S x) xs 0).t, (reB (arK S x) xs 0).l, min (reB (arK S x) xs 0).b ((reB (arK S x) xs 0).t + (arK S x).b - (cpR (arK S x) xs 5)), min (reB (arK S x) xs 0).r ((reB (arK S x) xs 0).l + (arK S x).r - (cpC (arK S x) xs 5))⟩ := rfl
  have CO : cpOk (arK S x) xs = (reOk (arK S x) xs 0 && (decide (0 ≤ at0 xs 4) && decide (0 ≤ at0 xs 7))) := rfl
  have TE : copyRS S x xs = if cpOk (arK S x) xs = true then S.copy (nbI S (at0 xs 4)) (cpB (arK S x) xs (cpR (arK S x) xs 5) (cpC (arK S x) xs 5)) (nbI S (at0 xs 7)) (cpR (arK S x) xs 5) (cpC (arK S x) xs 5) else S := rfl
  generalize copyRS S x xs = T at TE ⊢
  generalize cpOk (arK S x) xs = ok at CO TE ⊢
  generalize cpB (arK S x) xs (cpR (arK S x) xs 5) (cpC (arK S x) xs 5) = cb at CB CP TE
  generalize cpR (arK S x) xs 5 = pr at *
  generalize cpC (arK S x) xs 5 = pc at *
  generalize nbI S (at0 xs 4) = n4 at *
  generalize nbI S (at0 xs 7) = n7 at *
  generalize reB (arK S x) xs 0 = q at *
  generalize reOk (arK S x) xs 0 = k1 at *
  generalize arK S x = z at *
  obtain ⟨xt, xl, xb, xr⟩ := x
  obtain ⟨zt, zl, zb, zr⟩ := z
  obtain ⟨qt, ql, qb, qr⟩ := q
  subst CB
  simp only at *
  clear h hx hS
  go_enter Tryz.func15, Tryz.ntmps15
  go_upto_region 1 with fail
  generalize hW : w.alloc (.cells #[.int .i64 xt, .int .i64 xl, .int .i64 xb, .int .i64 xr] 31) = W
  have hlt : w.heap.size < W.heap.size := by subst hW; simp [go_sem]
  have hB : Below w.heap.size w W := by subst hW; (repeat' (first | (with_reducible exact Below.refl _ _) | (with_reducible refine Below.alloc ?_ ?_ _) | (with_reducible refine below_ext ?_ ?_ _) | (with_reducible refine Below.drew ?_) | (with_reducible refine below_drewN ?_ _) | (with_reducible refine Below.setCell ?_ ?_ _) | go_size | (simp only [go_sem]; omega) | (simp [go_sem]; done) | (simp [go_sem]; omega)))
  have b0 : W.heap[w.heap.size]? = some (.cells #[.int .i64 xt, .int .i64 xl, .int .i64 xb, .int .i64 xr] 31 (0, 0)) := by subst hW; exact al_at _ _ rfl
  clear hW
  have KB : ∀ w', Below W.heap.size W w' → w'.heap[w.heap.size]? = some (.cells #[.int .i64 xt, .int .i64 xl, .int .i64 xb, .int .i64 xr] 31 (0, 0)) := fun w' h => (h.block _ hlt).trans b0
  have KS : ∀ w', Below W.heap.size W w' → w'.cell? ⟨w.heap.size, 0, none⟩ = some (.int .i64 xt) ∧ w'.cell? ⟨w.heap.size, 1, none⟩ = some (.int .i64 xl) ∧ w'.cell? ⟨w.heap.size, 2, none⟩ = some (.int .i64 xb) ∧ w'.cell? ⟨w.heap.size, 3, none⟩ = some (.int .i64 xr) := fun w' h => ⟨by rw [cell_in (KB _ h)]; rfl, by rw [cell_in (KB _ h)]; rfl, by rw [cell_in (KB _ h)]; rfl, by rw [cell_in (KB _ h)]; rfl⟩
  have hBW := Lib.hid (fun w' (h : Below W.heap.size W w') => hB.trans (h.mono hB.size))
  go_cut [4] (fun v4 wx => v4 = .pointer (some ⟨w.heap.size, 0, none⟩) ∧ Below w.heap.size w wx ∧ wx.heap[w.heap.size]? = some (.cells #[.int .i64 zt, .int .i64 zl, .int .i64 zb, .int .i64 zr] 31 (0, 0)))
  case first =>
    (refine wp_region_F (S := (fun w' => w'.cell? ⟨w.heap.size, 0, none⟩ = some (.int .i64 xt) ∧ w'.cell? ⟨w.heap.size, 1, none⟩ = some (.int .i64 xl) ∧ w'.cell? ⟨w.heap.size, 2, none⟩ = some (.int .i64 xb) ∧ w'.cell? ⟨w.heap.size, 3, none⟩ = some (.int .i64 xr))) 4 [false, false, false, false, false] rfl rfl (by kernel_rfl) ?_ (fun hHeld => ?_); (focus ((try dsimp only); (exact KS _ (by (repeat' (first | (with_reducible exact Below.refl _ _) | (with_reducible refine Below.alloc ?_ ?_ _) | (with_reducible refine below_ext ?_ ?_ _) | (with_reducible refine Below.drew ?_) | (with_reducible refine below_drewN ?_ _) | (with_reducible refine Below.setCell ?_ ?_ _) | go_size | (simp only [go_sem]; omega) | (simp [go_sem]; done) | (simp [go_sem]; omega))))); done)))
    ((refine AtF.take (oi := ?_) (v := ?_) 0 ?_ ?_ ?_ ?_ (Or.inl ⟨?_, ?_⟩) (by assumption) ?_; rotate_left 2; rfl; kernel_rfl; kernel_rfl; exact (fun _ _ _ h => h); rfl; (focus (intro w hSw; (try dsimp only at hSw); go_simp; (try with_reducible rfl); done)); (try simp only [Act.put, List.setIfInBounds_toArray, List.set_cons_zero, List.set_cons_succ])); (refine AtF.take (oi := ?_) (v := ?_) 1 ?_ ?_ ?_ ?_ (Or.inl ⟨?_, ?_⟩) (by assumption) ?_; rotate_left 2; rfl; kernel_rfl; kernel_rfl; exact (fun _ _ _ h => h); rfl; (focus (intro w hSw; (try dsimp only at hSw); go_simp; (try with_reducible rfl); done)); (try simp only [Act.put, List.setIfInBounds_toArray, List.set_cons_zero, List.set_cons_succ])))
    (refine AtF.only (oi := ?_) 2 ?_ ?_ (fun K hK => ?_); rotate_left 1; rfl; kernel_rfl; (try go_simp); (go_at_call 41; ((with_reducible refine (WH.out _ (hBW.out _ (by (repeat' (first | (with_reducible exact Below.refl _ _) | (with_reducible refine Below.alloc ?_ ?_ _) | (with_reducible refine below_ext ?_ ?_ _) | (with_reducible refine Below.drew ?_) | (with_reducible refine below_drewN ?_ _) | (with_reducible refine Below.setCell ?_ ?_ _) | go_size | (simp only [go_sem]; omega) | (simp [go_sem]; done) | (simp [go_sem]; omega)))))).mono ?_); rintro _ _ hgets; obtain ⟨rfl, x1, rfl⟩ := hgets.get; clear hgets)); (refine hK.out _ _ ?_ (fun hHeld => ?_)); (focus ((try dsimp only); (exact KS _ (by (repeat' (first | (with_reducible exact Below.refl _ _) | (with_reducible refine Below.alloc ?_ ?_ _) | (with_reducible refine below_ext ?_ ?_ _) | (with_reducible refine Below.drew ?_) | (with_reducible refine below_drewN ?_ _) | (with_reducible refine Below.setCell ?_ ?_ _) | go_size | (simp only [go_sem]; omega) | (simp [go_sem]; done) | (simp [go_sem]; omega))))); done)); clear hK K; (try simp only [Act.put, List.setIfInBounds_toArray, List.set_cons_zero, List.set_cons_succ]))
    (refine AtF.only (oi := ?_) 3 ?_ ?_ (fun K hK => ?_); rotate_left 1; rfl; kernel_rfl; (try go_simp); (go_at_call 40; ((with_reducible refine (MT.out _).mono ?_); rintro _ _ hgets; obtain ⟨rfl, x2, rfl⟩ := hgets.get; clear hgets)); (refine hK.out _ _ ?_ (fun hHeld => ?_)); (focus ((try dsimp only); (exact KS _ (by (repeat' (first | (with_reducible exact Below.refl _ _) | (with_reducible refine Below.alloc ?_ ?_ _) | (with_reducible refine below_ext ?_ ?_ _) | (with_reducible refine Below.drew ?_) | (with_reducible refine below_drewN ?_ _) | (with_reducible refine Below.setCell ?_ ?_ _) | go_size | (simp only [go_sem]; omega) | (simp [go_sem]; done) | (simp [go_sem]; omega))))); done)); clear hK K; (try simp only [Act.put, List.setIfInBounds_toArray, List.set_cons_zero, List.set_cons_succ]))
    obtain ⟨W2, hW2⟩ : ∃ W2, W2 = ext (ext W x1) x2 := ⟨_, rfl⟩
    have hB2 : Below W.heap.size W W2 := by rw [hW2]; (repeat' (first | (with_reducible exact Below.refl _ _) | (with_reducible refine Below.alloc ?_ ?_ _) | (with_reducible refine below_ext ?_ ?_ _) | (with_reducible refine Below.drew ?_) | (with_reducible refine below_drewN ?_ _) | (with_reducible refine Below.setCell ?_ ?_ _) | go_size | (simp only [go_sem]; omega) | (simp [go_sem]; done) | (simp [go_sem]; omega)))
    rw [← hW2]
    clear hW2 hHeld
    have b2 := KB _ hB2
    have f2 := fun i => frozen_in (q := i) b2
    have c0 := (KS _ hB2).1
    have c1 := (KS _ hB2).2.1
    have c2 := (KS _ hB2).2.2.1
    have c3 := (KS _ hB2).2.2.2
    have hlt2 := Nat.lt_of_lt_of_le hlt hB2.size
    have FN := Lib.hid (four_put b2 (hB.trans (hB2.mono hB.size)) (Nat.le_refl _) (.int .i64 zt) (.int .i64 zl) (.int .i64 zb) (.int .i64 zr))
    (refine AtF.last (oi := ?_) ?_ ?_ (fun K hK => ?_); rotate_left 1; rfl; kernel_rfl; go_simp; skip; refine hK.out _ _ ?_; clear hK K; (try simp only [Act.put, List.setIfInBounds_toArray, List.set_cons_zero, List.set_cons_succ]))
    go_wp2
    go_meet
    exact ⟨rfl, FN.out⟩
  obtain ⟨rfl, BW, b0⟩ := hcut
  obtain ⟨W1, eW1⟩ : ∃ W1, W1 = wc := ⟨_, rfl⟩
  rw [← eW1] at BW b0 ⊢
  clear eW1 wc KB KS hBW hB hlt
  have hg0 := heap_in b0
  have q0 : W1.cell? ⟨w.heap.size, 0, none⟩ = some (.int .i64 zt) := by rw [cell_in b0]; rfl
  have q1 : W1.cell? ⟨w.heap.size, 1, none⟩ = some (.int .i64 zl) := by rw [cell_in b0]; rfl
  have q2 : W1.cell? ⟨w.heap.size, 2, none⟩ = some (.int .i64 zb) := by rw [cell_in b0]; rfl
  have q3 : W1.cell? ⟨w.heap.size, 3, none⟩ = some (.int .i64 zr) := by rw [cell_in b0]; rfl
  have hBW := Lib.hid (fun w' (h : Below W1.heap.size W1 w') => BW.trans (h.mono BW.size))
  clear b0
  replace BW := Lib.hid BW
  replace hcr := Lib.hid hcr
  replace hcc := Lib.hid hcc
  replace rbd := Lib.hid rbd
  replace CO := Lib.hid CO
  replace TE := Lib.hid TE
  generalize decide (0 ≤ at0 xs 4) = d4 at NB4 CO
  generalize decide (0 ≤ at0 xs 7) = d7 at NB7 CO
  generalize at0 xs 4 = a4 at RW4 NB4
  generalize at0 xs 7 = a7 at RW7 NB7
  go_upto_region 2 with fail
  go_cut [7, 8] (fun v7 v8 wx => ∃ g, v7 = .pointer (some ⟨g, 0, none⟩) ∧ v8 = .bool k1 ∧ Below W1.heap.size W1 wx ∧ W1.heap.size ≤ g ∧ wx.heap[g]? = some (.cells #[.int .i64 qt, .int .i64 ql, .int .i64 qb, .int .i64 qr] 31 (0, 0)))
  case first =>
    go_wp2_with (go_at_call 39; ((with_reducible refine (RC.out _ (hBW.out _ (by (repeat' (first | (with_reducible exact Below.refl _ _) | (with_reducible refine Below.alloc ?_ ?_ _) | (with_reducible refine below_ext ?_ ?_ _) | (with_reducible refine Below.drew ?_) | (with_reducible refine below_drewN ?_ _) | (with_reducible refine Below.setCell ?_ ?_ _) | go_size | (simp only [go_sem]; omega) | (simp [go_sem]; done) | (simp [go_sem]; omega)))))).mono ?_); rintro _ _ hgets; obtain ⟨rfl, x3, rfl⟩ := hgets.get; clear hgets))
    go_meet
    exact ⟨_, rfl, rfl, by (repeat' (first | (with_reducible exact Below.refl _ _) | (with_reducible refine Below.alloc ?_ ?_ _) | (with_reducible refine below_ext ?_ ?_ _) | (with_reducible refine Below.drew ?_) | (with_reducible refine below_drewN ?_ _) | (with_reducible refine Below.setCell ?_ ?_ _) | go_size | (simp only [go_sem]; omega) | (simp [go_sem]; done) | (simp [go_sem]; omega))), by simp, al_at _ _ (by simp [go_sem])⟩
  obtain ⟨g7, rfl, rfl, hB2, hg7, b7⟩ := hcut
  obtain ⟨W2, eW2⟩ : ∃ W2, W2 = wc := ⟨_, rfl⟩
  rw [← eW2] at hB2 b7 ⊢
  clear eW2 wc
  have m0 := (hB2.cell (p := ⟨w.heap.size, 0, none⟩) (by simp; omega)).trans q0
  have m1 := (hB2.cell (p := ⟨w.heap.size, 1, none⟩) (by simp; omega)).trans q1
  have m2 := (hB2.cell (p := ⟨w.heap.size, 2, none⟩) (by simp; omega)).trans q2
  have m3 := (hB2.cell (p := ⟨w.heap.size, 3, none⟩) (by simp; omega)).trans q3
  clear q0 q1 q2 q3
  have hg2 : w.heap.size < W2.heap.size := Nat.lt_of_lt_of_le hg0 hB2.size
  have hg7' : w.heap.size ≤ g7 := by omega
  have hl7 := heap_in b7
  have n0 : W2.cell? ⟨g7, 0, none⟩ = some (.int .i64 qt) := by rw [cell_in b7]; rfl
  have n1 : W2.cell? ⟨g7, 1, none⟩ = some (.int .i64 ql) := by rw [cell_in b7]; rfl
  have n2 : W2.cell? ⟨g7, 2, none⟩ = some (.int .i64 qb) := by rw [cell_in b7]; rfl
  have n3 : W2.cell? ⟨g7, 3, none⟩ = some (.int .i64 qr) := by rw [cell_in b7]; rfl
  have f7 := fun i => frozen_in (q := i) b7
  have hBW2 := Lib.hid (fun w' (h : Below w.heap.size W2 w') => (hBW.out _ hB2).trans h)
  have hne : g7 ≠ w.heap.size := by omega
  clear hB2 b7 hBW hg7 hg0
  go_upto_region 5 with (first
    | (go_at_call 42; ((with_reducible refine (RW4.out _ (hBW2.out _ (by (repeat' (first | (with_reducible exact Below.refl _ _) | (with_reducible refine Below.alloc ?_ ?_ _) | (with_reducible refine below_ext ?_ ?_ _) | (with_reducible refine Below.drew ?_) | (with_reducible refine below_drewN ?_ _) | (with_reducible refine Below.setCell ?_ ?_ _) | go_size | (simp only [go_sem]; omega) | (simp [go_sem]; done) | (simp [go_sem]; omega)))))).mono ?_); rintro _ _ ⟨rfl, rfl⟩))
    | (go_at_call 42; ((with_reducible refine (RW7.out _ (hBW2.out _ (by (repeat' (first | (with_reducible exact Below.refl _ _) | (with_reducible refine Below.alloc ?_ ?_ _) | (with_reducible refine below_ext ?_ ?_ _) | (with_reducible refine Below.drew ?_) | (with_reducible refine below_drewN ?_ _) | (with_reducible refine Below.setCell ?_ ?_ _) | go_size | (simp only [go_sem]; omega) | (simp [go_sem]; done) | (simp [go_sem]; omega)))))).mono ?_); rintro _ _ ⟨rfl, rfl⟩))
    | (go_at_call 43; ((with_reducible refine (NB4.out _ (hBW2.out _ (by (repeat' (first | (with_reducible exact Below.refl _ _) | (with_reducible refine Below.alloc ?_ ?_ _) | (with_reducible refine below_ext ?_ ?_ _) | (with_reducible refine Below.drew ?_) | (with_reducible refine below_drewN ?_ _) | (with_reducible refine Below.setCell ?_ ?_ _) | go_size | (simp only [go_sem]; omega) | (simp [go_sem]; done) | (simp [go_sem]; omega)))))).mono ?_); rintro _ _ hgets; obtain ⟨rfl, x4, rfl⟩ := hgets.get; clear hgets))
    | (go_at_call 43; ((with_reducible refine (NB7.out _ (hBW2.out _ (by (repeat' (first | (with_reducible exact Below.refl _ _) | (with_reducible refine Below.alloc ?_ ?_ _) | (with_reducible refine below_ext ?_ ?_ _) | (with_reducible refine Below.drew ?_) | (with_reducible refine below_drewN ?_ _) | (with_reducible refine Below.setCell ?_ ?_ _) | go_size | (simp only [go_sem]; omega) | (simp [go_sem]; done) | (simp [go_sem]; omega)))))).mono ?_); rintro _ _ hgets; obtain ⟨rfl, x7, rfl⟩ := hgets.get; clear hgets)))
  have NO : ∀ W', Below w.heap.size w W' → ok = false → Ending.returned (.bool false) = Ending.returned (.bool ok) ∧ BDid F b T w W' := fun W' hb e => by
    have h1 := TE.out
    rw [e] at h1
    rw [e, show T = S from h1]
    exact ⟨rfl, BR.out _ hb⟩
  replace NO := Lib.hid NO
  clear BR
  cases k1
  · go_wp2
    go_returns
    refine NO.out _ ?_ CO.out
    exact hBW2.out _ (by (repeat' (first | (with_reducible exact Below.refl _ _) | (with_reducible refine Below.alloc ?_ ?_ _) | (with_reducible refine below_ext ?_ ?_ _) | (with_reducible refine Below.drew ?_) | (with_reducible refine below_drewN ?_ _) | (with_reducible refine Below.setCell ?_ ?_ _) | go_size | (simp only [go_sem]; omega) | (simp [go_sem]; done) | (simp [go_sem]; omega))))
  · cases d4
    · go_wp2
      go_returns
      refine NO.out _ ?_ CO.out
      exact hBW2.out _ (by (repeat' (first | (with_reducible exact Below.refl _ _) | (with_reducible refine Below.alloc ?_ ?_ _) | (with_reducible refine below_ext ?_ ?_ _) | (with_reducible refine Below.drew ?_) | (with_reducible refine below_drewN ?_ _) | (with_reducible refine Below.setCell ?_ ?_ _) | go_size | (simp only [go_sem]; omega) | (simp [go_sem]; done) | (simp [go_sem]; omega))))
    · cases d7
      · go_wp2
        go_returns
        refine NO.out _ ?_ CO.out
        exact hBW2.out _ (by (repeat' (first | (with_reducible exact Below.refl _ _) | (with_reducible refine Below.alloc ?_ ?_ _) | (with_reducible refine below_ext ?_ ?_ _) | (with_reducible refine Below.drew ?_) | (with_reducible refine below_drewN ?_ _) | (with_reducible refine Below.setCell ?_ ?_ _) | go_size | (simp only [go_sem]; omega) | (simp [go_sem]; done) | (simp [go_sem]; omega))))
      · obtain rfl : ok = true := CO.out
        obtain rfl : T = _ := TE.out
        obtain ⟨p1, p2, p3, p4, p5, p6⟩ := rbd.out rfl
        obtain ⟨c1, c2⟩ := hcr.out
        obtain ⟨c3, c4⟩ := hcc.out
        have hw1 : IntKind.i64.wrap (qt + zb) = qt + zb := wrap_i64 (by omega) (by omega)
        have hw2 : IntKind.i64.wrap (qt + zb - pr) = qt + zb - pr := wrap_i64 (by omega) (by omega)
        have hw3 : IntKind.i64.wrap (ql + zr) = ql + zr := wrap_i64 (by omega) (by omega)
        have hw4 : IntKind.i64.wrap (ql + zr - pc) = ql + zr - pc := wrap_i64 (by omega) (by omega)
        clear NO TE RW4 RW7 NB4 NB7 WH MT CO rbd p1 p2 p3 p4 p5 p6 c1 c2 c3 c4 ht0 ht1 hl0 hl1 hb0 hb1 hr0 hr1
        go_upto_region 8 with (go_at_call 53; ((with_reducible refine (PL.out _ (hBW2.out _ (by (repeat' (first | (with_reducible exact Below.refl _ _) | (with_reducible refine Below.alloc ?_ ?_ _) | (with_reducible refine below_ext ?_ ?_ _) | (with_reducible refine Below.drew ?_) | (with_reducible refine below_drewN ?_ _) | (with_reducible refine Below.setCell ?_ ?_ _) | go_size | (simp only [go_sem]; omega) | (simp [go_sem]; done) | (simp [go_sem]; omega)))))).mono ?_); rintro _ _ hgets; obtain ⟨rfl, x5, rfl⟩ := hgets.get; clear hgets))
        go_wp2_with ((go_at_call 54); (with_reducible refine (CP.out _ (hBW2.out _ (by (repeat' (first | (with_reducible exact Below.refl _ _) | (with_reducible refine Below.alloc ?_ ?_ _) | (with_reducible refine below_ext ?_ ?_ _) | (with_reducible refine Below.drew ?_) | (with_reducible refine below_drewN ?_ _) | (with_reducible refine Below.setCell ?_ ?_ _) | go_size | (simp only [go_sem]; omega) | (simp [go_sem]; done) | (simp [go_sem]; omega)))))).mono ?_); (rintro _ W9 ⟨rfl, hD⟩); replace hD := Lib.hid (BDid.back hD (hBW2.out _ (by (repeat' (first | (with_reducible exact Below.refl _ _) | (with_reducible refine Below.alloc ?_ ?_ _) | (with_reducible refine below_ext ?_ ?_ _) | (with_reducible refine Below.drew ?_) | (with_reducible refine below_drewN ?_ _) | (with_reducible refine Below.setCell ?_ ?_ _) | go_size | (simp only [go_sem]; omega) | (simp [go_sem]; done) | (simp [go_sem]; omega))))) hFl.out))
        go_returns
        exact ⟨rfl, hD.out⟩
end
end Go.Proofs.YtignkkejkknddaaGreat
/- What cells and rows of cells weigh (as Cell and Sum, over the cells of Clk).  -/
namespace Go.Proofs.YtignkkejkknddaaGreat
open Go.RowKit
set_option linter.unusedVariables false
set_option linter.unusedSimpArgs false

def wsum (f : Fl) : Nat → Int
  | 0 => 0
  | 1 => bi f.h 8
  | 2 => bi f.h 8 + bi f.u 16
  | 3 => bi f.h 8 + bi f.u 16 + bi f.r 32
  | 4 => bi f.h 8 + bi f.u 16 + bi f.r 32 + bi f.k 64
  | _ => bi f.h 8 + bi f.u 16 + bi f.r 32 + bi f.k 64 + bi f.b 128
def Fl.weight (f : Fl) : Int := wsum f 5
theorem wsum_bd (f : Fl) (k : Nat) : 0 ≤ wsum f k ∧ wsum f k ≤ 248 := by
  have h1 : ∀ (x : Bool) (n : Int), 0 ≤ n → 0 ≤ bi x n ∧ bi x n ≤ n := by intro x n h; cases x <;> simp [bi] <;> omega
  have a1 := h1 f.h 8 (by omega)
  have a2 := h1 f.u 16 (by omega)
  have a3 := h1 f.r 32 (by omega)
  have a4 := h1 f.k 64 (by omega)
  have a5 := h1 f.b 128 (by omega)
  rcases k with _ | _ | _ | _ | _ | k <;> simp only [wsum] <;> omega
theorem bit_all : ∀ k : Fin 256, (bits .and .u8 (k.val : Int) 16 != 0) = (Fl.of (k.val : Int)).h ∧ (bits .and .u8 (k.val : Int) 2 != 0) = (Fl.of (k.val : Int)).u ∧ (bits .and .u8 (k.val : Int) 8 != 0) = (Fl.of (k.val : Int)).r ∧
    (bits .and .u8 (k.val : Int) 4 != 0) = (Fl.of (k.val : Int)).k ∧ (bits .and .u8 (k.val : Int) 1 != 0) = (Fl.of (k.val : Int)).b := by decide +kernel
theorem bit_is {r : Int} (h : 0 ≤ r ∧ r ≤ 255) : (bits .and .u8 r 16 != 0) = (Fl.of r).h ∧ (bits .and .u8 r 2 != 0) = (Fl.of r).u ∧ (bits .and .u8 r 8 != 0) = (Fl.of r).r ∧
    (bits .and .u8 r 4 != 0) = (Fl.of r).k ∧ (bits .and .u8 r 1 != 0) = (Fl.of r).b := by
  have := bit_all ⟨r.toNat, by omega⟩
  simpa only [show ((r.toNat : Nat) : Int) = r by omega] using this

set_option maxHeartbeats 1000000 in
theorem weight_c (r : Int) (hr0 : 0 ≤ r) (hr1 : r ≤ 255) (w : World) :
    Calls Tryz.prog 132 #[.int .u8 r] w (Same w (.int .i64 (Fl.of r).weight)) := by
  have i0 : ∀ w, (Instr.index 178 (.agg #[.int .u8 16, .int .u8 2, .int .u8 8, .int .u8 4, .int .u8 1]) (.int .i64 0)).run Tryz.prog w = .ok (.int .u8 16) w := fun _ => by kernel_rfl
  have i1 : ∀ w, (Instr.index 178 (.agg #[.int .u8 16, .int .u8 2, .int .u8 8, .int .u8 4, .int .u8 1]) (.int .i64 1)).run Tryz.prog w = .ok (.int .u8 2) w := fun _ => by kernel_rfl
  have i2 : ∀ w, (Instr.index 178 (.agg #[.int .u8 16, .int .u8 2, .int .u8 8, .int .u8 4, .int .u8 1]) (.int .i64 2)).run Tryz.prog w = .ok (.int .u8 8) w := fun _ => by kernel_rfl
  have i3 : ∀ w, (Instr.index 178 (.agg #[.int .u8 16, .int .u8 2, .int .u8 8, .int .u8 4, .int .u8 1]) (.int .i64 3)).run Tryz.prog w = .ok (.int .u8 4) w := fun _ => by kernel_rfl
  have i4 : ∀ w, (Instr.index 178 (.agg #[.int .u8 16, .int .u8 2, .int .u8 8, .int .u8 4, .int .u8 1]) (.int .i64 4)).run Tryz.prog w = .ok (.int .u8 1) w := fun _ => by kernel_rfl
  have tests := bit_is ⟨hr0, hr1⟩
  unfold Fl.weight
  generalize Fl.of r = f at tests
  obtain ⟨t0, t1, t2, t3, t4⟩ := tests
  have B := Lib.hid (wsum_bd f)
  have T0 := Lib.hid t0
  have T1 := Lib.hid t1
  have T2 := Lib.hid t2
  have T3 := Lib.hid t3
  have T4 := Lib.hid t4
  clear t0 t1 t2 t3 t4
  go_enter Tryz.func132, Tryz.ntmps132
  go_wp2
  go_loop [3, 7] (fun v i => ∃ k : Nat, k ≤ 5 ∧ i = .int .i64 k ∧ v = .int .i64 (wsum f k)) (fun _ i => 5 - (intOf i).toNat)
  case atStart => exact ⟨0, by omega, rfl, rfl⟩
  case round =>
    obtain ⟨k, hk, rfl, rfl⟩ := hrel
    have hcases : k = 0 ∨ k = 1 ∨ k = 2 ∨ k = 3 ∨ k = 4 ∨ k = 5 := by omega
    rcases hcases with rfl | rfl | rfl | rfl | rfl | rfl
    · have HN : Hid (wsum f (0 + 1) = wsum f 0 + bi f.h 8) := Lib.hid (by simp [wsum])
      obtain ⟨s0, s1⟩ := B.out 0
      generalize wsum f 0 = s at HN s0 s1
      have tt := T0.out
      rcases Bool.eq_false_or_eq_true f.h with hb | hb
      all_goals
        rw [hb] at tt HN
        go_wp2
        go_round
        case rel => exact ⟨1, by omega, by go_num, by rw [show (1 : Nat) = 0 + 1 from rfl, HN.out]; simp [bi]⟩
        case measure => simp [intOf]
    · have HN : Hid (wsum f (1 + 1) = wsum f 1 + bi f.u 16) := Lib.hid (by simp [wsum])
      obtain ⟨s0, s1⟩ := B.out 1
      generalize wsum f 1 = s at HN s0 s1
      have tt := T1.out
      rcases Bool.eq_false_or_eq_true f.u with hb | hb
      all_goals
        rw [hb] at tt HN
        go_wp2
        go_round
        case rel => exact ⟨2, by omega, by go_num, by rw [show (2 : Nat) = 1 + 1 from rfl, HN.out]; simp [bi]⟩
        case measure => simp [intOf]
    · have HN : Hid (wsum f (2 + 1) = wsum f 2 + bi f.r 32) := Lib.hid (by simp [wsum])
      obtain ⟨s0, s1⟩ := B.out 2
      generalize wsum f 2 = s at HN s0 s1
      have tt := T2.out
      rcases Bool.eq_false_or_eq_true f.r with hb | hb
      all_goals
        rw [hb] at tt HN
        go_wp2
        go_round
        case rel => exact ⟨3, by omega, by go_num, by rw [show (3 : Nat) = 2 + 1 from rfl, HN.out]; simp [bi]⟩
        case measure => simp [intOf]
    · have HN : Hid (wsum f (3 + 1) = wsum f 3 + bi f.k 64) := Lib.hid (by simp [wsum])
      obtain ⟨s0, s1⟩ := B.out 3
      generalize wsum f 3 = s at HN s0 s1
      have tt := T3.out
      rcases Bool.eq_false_or_eq_true f.k with hb | hb
      all_goals
        rw [hb] at tt HN
        go_wp2
        go_round
        case rel => exact ⟨4, by omega, by go_num, by rw [show (4 : Nat) = 3 + 1 from rfl, HN.out]; simp [bi]⟩
        case measure => simp [intOf]
    · have HN : Hid (wsum f (4 + 1) = wsum f 4 + bi f.b 128) := Lib.hid (by simp [wsum])
      obtain ⟨s0, s1⟩ := B.out 4
      generalize wsum f 4 = s at HN s0 s1
      have tt := T4.out
      rcases Bool.eq_false_or_eq_true f.b with hb | hb
      all_goals
        rw [hb] at tt HN
        go_wp2
        go_round
        case rel => exact ⟨5, by omega, by go_num, by rw [show (5 : Nat) = 4 + 1 from rfl, HN.out]; simp [bi]⟩
        case measure => simp [intOf]
    · go_wp2
      go_returns
      exact ⟨rfl, rfl⟩

set_option maxRecDepth 100000 in
set_option maxHeartbeats 2000000 in
theorem weight_r (r : Int) (hr0 : 0 ≤ r) (hr1 : r ≤ 255) (w : World) :
    Calls Tryz.prog 118 #[.int .u8 r] w (Gives w (.int .i64 (Fl.of r).weight)) := by
  have o := fun w' => of_r r hr0 hr1 w'
  generalize Fl.of r = f at o
  obtain ⟨b, u, k, r', h⟩ := f
  have O := Lib.hid o
  clear o
  go_enter Tryz.func118, Tryz.ntmps118
  go_wp2_with (go_at_call 133; ((with_reducible refine (O.out _).mono ?_); rintro _ _ hgets; obtain ⟨rfl, x0, rfl⟩ := hgets.get; clear hgets))
  all_goals go_returns
  all_goals refine ⟨ret_int ?_, by (repeat' (first | (with_reducible exact Below.refl _ _) | (with_reducible refine Below.alloc ?_ ?_ _) | (with_reducible refine below_ext ?_ ?_ _) | (with_reducible refine Below.drew ?_) | (with_reducible refine below_drewN ?_ _) | (with_reducible refine Below.setCell ?_ ?_ _) | go_size | (simp only [go_sem]; omega) | (simp [go_sem]; done) | (simp [go_sem]; omega)))⟩
  all_goals simp_all [Fl.weight, wsum, bi]

theorem tmod_bd (g : Int) : -65536 < g.tmod 65536 ∧ g.tmod 65536 < 65536 ∧ (g.tmod 65536 < 0 → g.tmod 65536 + 65536 = g % 65536) ∧ (0 ≤ g.tmod 65536 → g.tmod 65536 = g % 65536) := by
  by_cases h : 0 ≤ g
  · rw [Int.tmod_eq_emod_of_nonneg h]; omega
  · have e : g.tmod 65536 = -((-g).tmod 65536) := by rw [Int.neg_tmod, Int.neg_neg]
    rw [e, Int.tmod_eq_emod_of_nonneg (by omega)]; omega
theorem tmod_neg {g : Int} (h : g.tmod 65536 < 0) : g.tmod 65536 + 65536 = g % 65536 := (tmod_bd g).2.2.1 h
theorem tmod_pos {g : Int} (h : 0 ≤ g.tmod 65536) : g.tmod 65536 = g % 65536 := (tmod_bd g).2.2.2 h
def Cl.weight (c : Cl) : Int := c.g % 65536 + (Fl.of c.r).weight + bi c.k 4
set_option maxHeartbeats 1000000 in
theorem cweight_c (g r : Int) (k : Bool) (hg : -2147483648 ≤ g ∧ g ≤ 2147483647) (hr : 0 ≤ r ∧ r ≤ 255) (w : World) :
    Calls Tryz.prog 116 #[.agg #[.int .i32 g, .int .u8 r, .bool k]] w (Gives w (.int .i64 (Cl.weight ⟨g, r, k⟩))) := by
  obtain ⟨hg0, hg1⟩ := hg
  have B := wsum_bd (Fl.of r) 5
  have W := Lib.hid (fun w' => weight_c r hr.1 hr.2 w')
  unfold Cl.weight
  obtain ⟨hr0, hr1⟩ := hr
  unfold Fl.weight at W ⊢
  generalize wsum (Fl.of r) 5 = s at W B ⊢
  obtain ⟨b0, b1⟩ := B
  cases k
  all_goals
    go_enter Tryz.func116, Tryz.ntmps116
    go_wp2
    (refine wp_region_free (by kernel_rfl) (by kernel_rfl) ?_)
    repeat (go_big_quiet_step ((go_at_call 132; with_reducible exact Calls.free_same (W.out _))))
    refine wpQuiet_nil ?_; rintro _ ⟨x2, rfl⟩
    go_wp2
    go_returns
    refine ⟨ret_int ?_, by (repeat' (first | (with_reducible exact Below.refl _ _) | (with_reducible refine Below.alloc ?_ ?_ _) | (with_reducible refine below_ext ?_ ?_ _) | (with_reducible refine Below.drew ?_) | (with_reducible refine below_drewN ?_ _) | (with_reducible refine Below.setCell ?_ ?_ _) | go_size | (simp only [go_sem]; omega) | (simp [go_sem]; done) | (simp [go_sem]; omega)))⟩
    simp [bi, IntKind.wrap_u16]
    go_arith

set_option maxHeartbeats 1000000 in
theorem cweight_r (g r : Int) (k : Bool) (hg : -2147483648 ≤ g ∧ g ≤ 2147483647) (hr : 0 ≤ r ∧ r ≤ 255) (w : World) :
    Calls Tryz.prog 97 #[.agg #[.int .i32 g, .int .u8 r, .bool k]] w (Gives w (.int .i64 (Cl.weight ⟨g, r, k⟩))) := by
  obtain ⟨hg0, hg1⟩ := hg
  have B := wsum_bd (Fl.of r) 5
  have W := Lib.hid (fun w' => weight_r r hr.1 hr.2 w')
  unfold Cl.weight
  obtain ⟨hr0, hr1⟩ := hr
  unfold Fl.weight at W ⊢
  generalize wsum (Fl.of r) 5 = s at W B ⊢
  obtain ⟨b0, b1⟩ := B
  have q0 := (tmod_bd g).1
  have q1 := (tmod_bd g).2.1
  cases k
  all_goals
    go_enter Tryz.func97, Tryz.ntmps97
    go_wp2_with (go_at_call 118; ((with_reducible refine (W.out _).mono ?_); rintro _ _ hgets; obtain ⟨rfl, _, rfl⟩ := hgets.get; clear hgets))
    all_goals go_returns
    all_goals refine ⟨ret_int ?_, by (repeat' (first | (with_reducible exact Below.refl _ _) | (with_reducible refine Below.alloc ?_ ?_ _) | (with_reducible refine below_ext ?_ ?_ _) | (with_reducible refine Below.drew ?_) | (with_reducible refine below_drewN ?_ _) | (with_reducible refine Below.setCell ?_ ?_ _) | go_size | (simp only [go_sem]; omega) | (simp [go_sem]; done) | (simp [go_sem]; omega)))⟩
    · have e := tmod_neg ‹_›
      (try simp [bi])
      go_arith
    · have e := tmod_pos ‹_›
      (try simp [bi])
      go_arith
def sumW (cs : List Cl) : Int := (cs.map Cl.weight).sum
theorem sumW_take (cs : List Cl) (k : Nat) (h : k < cs.length) : sumW (cs.take (k + 1)) = sumW (cs.take k) + Cl.weight cs[k] := by
  unfold sumW
  rw [List.take_succ_eq_append_getElem h, List.map_append, List.sum_append]
  simp
structure Rw where
  a : Option Addr
  c : Nat
  cs : List Cl
def encRw (r : Rw) : List Value := [.slice r.a r.cs.length r.c]
def sumR (rows : List Rw) : Int := (rows.map fun r => sumW r.cs).sum
theorem sumR_take (rows : List Rw) (k : Nat) (h : k < rows.length) : sumR (rows.take (k + 1)) = sumR (rows.take k) + sumW rows[k].cs := by
  unfold sumR
  rw [List.take_succ_eq_append_getElem h, List.map_append, List.sum_append]
  simp
def RowsOk (w : World) (rows : List Rw) : Prop := ∀ r ∈ rows, Rd encC 3 w r.a r.cs ∧ r.cs.length ≤ 9223372036854775807 ∧ ∀ c ∈ r.cs, c.ok

set_option maxRecDepth 100000 in
set_option maxHeartbeats 4000000 in
theorem sum_c (A : Option Addr) (C : Nat) (rows : List Rw) (w : World) (hA : Rd encRw 1 w A rows) (hm : rows.length ≤ 9223372036854775807) (hok : RowsOk w rows) :
    Calls Tryz.prog 94 #[.slice A rows.length C] w (Gives w (.int .i64 (sumR rows % 65536))) := by
  have OK := Lib.hid hok
  have HA := Lib.hid hA
  clear hok hA
  go_enter Tryz.func94, Tryz.ntmps94
  go_wp2
  go_loopw [3, 10] (fun v i wr => ∃ k : Nat, k ≤ rows.length ∧ i = .int .i64 k ∧ v = .int .u16 (sumR (rows.take k) % 65536) ∧ Below w.heap.size w wr) (fun _ i _ => rows.length - (intOf i).toNat)
  case atStart => exact ⟨0, by omega, rfl, by simp [sumR], Below.refl _ _⟩
  case round =>
    obtain ⟨k, hk, rfl, rfl, hB⟩ := hrel
    obtain ⟨x, rfl⟩ := ext_of hB
    clear hB
    by_cases hlt : k < rows.length
    · obtain ⟨b1, o1, rfl, hb1, hc1⟩ := HA.out.cell1 hlt rfl
      have HF := Lib.hid (sumR_take rows k hlt)
      obtain ⟨r1, r2, r3⟩ := OK.out rows[k] (List.getElem_mem hlt)
      generalize rows[k] = row at hc1 HF r1 r2 r3
      obtain ⟨ra, rc, cs⟩ := row
      have R1 := Lib.hid r1
      have R3 := Lib.hid r3
      clear r1 r3
      simp only at hc1 HF r2 R1 R3
      generalize sumR (rows.take k) = S at HF
      go_wp2
      go_loopw [3, 16] (fun v i wr => ∃ j : Nat, j ≤ cs.length ∧ i = .int .i64 j ∧ v = .int .u16 ((S + sumW (cs.take j)) % 65536) ∧ Below w.heap.size w wr) (fun _ i _ => cs.length - (intOf i).toNat)
      case atStart => exact ⟨0, by omega, rfl, by simp [sumW], by (repeat' (first | (with_reducible exact Below.refl _ _) | (with_reducible refine Below.alloc ?_ ?_ _) | (with_reducible refine below_ext ?_ ?_ _) | (with_reducible refine Below.drew ?_) | (with_reducible refine below_drewN ?_ _) | (with_reducible refine Below.setCell ?_ ?_ _) | go_size | (simp only [go_sem]; omega) | (simp [go_sem]; done) | (simp [go_sem]; omega)))⟩
      case round =>
        obtain ⟨j, hj, rfl, rfl, hB⟩ := hrel
        obtain ⟨x', rfl⟩ := ext_of hB
        clear hB
        by_cases hlt2 : j < cs.length
        · obtain ⟨b2, o2, rfl, hb2, d0, d1, d2⟩ := R1.out.cell3 hlt2
          have HG := Lib.hid (sumW_take cs j hlt2)
          obtain ⟨g1, g2⟩ := R3.out cs[j] (List.getElem_mem hlt2)
          have CW := Lib.hid (fun w' => cweight_c cs[j].g cs[j].r cs[j].k g1 g2 w')
          generalize cs[j] = cc at d0 d1 d2 HG CW
          clear g1 g2
          generalize hcw : Cl.weight cc = ww at HG
          obtain ⟨g, r, kk⟩ := cc
          simp only at d0 d1 d2 CW
          rw [hcw] at CW
          clear hcw
          generalize sumW (cs.take j) = T at HG
          go_wp2_with (go_at_call 116; ((with_reducible refine (CW.out _).mono ?_); rintro _ _ hgets; obtain ⟨rfl, _, rfl⟩ := hgets.get; clear hgets))
          go_roundw
          case rel =>
            refine ⟨j + 1, by omega, by go_num, ?_, by (repeat' (first | (with_reducible exact Below.refl _ _) | (with_reducible refine Below.alloc ?_ ?_ _) | (with_reducible refine below_ext ?_ ?_ _) | (with_reducible refine Below.drew ?_) | (with_reducible refine below_drewN ?_ _) | (with_reducible refine Below.setCell ?_ ?_ _) | go_size | (simp only [go_sem]; omega) | (simp [go_sem]; done) | (simp [go_sem]; omega)))⟩
            rw [HG.out]
            congr 1
            simp only [IntKind.wrap_u16]
            omega
          case measure => simp [intOf]; omega
        · have HT := Lib.hid (show cs.take j = cs from List.take_of_length_le (by omega))
          go_wp2
          go_roundw
          case rel =>
            refine ⟨k + 1, by omega, by go_num, ?_, by (repeat' (first | (with_reducible exact Below.refl _ _) | (with_reducible refine Below.alloc ?_ ?_ _) | (with_reducible refine below_ext ?_ ?_ _) | (with_reducible refine Below.drew ?_) | (with_reducible refine below_drewN ?_ _) | (with_reducible refine Below.setCell ?_ ?_ _) | go_size | (simp only [go_sem]; omega) | (simp [go_sem]; done) | (simp [go_sem]; omega)))⟩
            rw [HF.out, HT.out]
          case measure => simp [intOf]; omega
    · have HT := Lib.hid (show rows.take k = rows from List.take_of_length_le (by omega))
      go_wp2
      go_returns
      refine ⟨ret_int ?_, by (repeat' (first | (with_reducible exact Below.refl _ _) | (with_reducible refine Below.alloc ?_ ?_ _) | (with_reducible refine below_ext ?_ ?_ _) | (with_reducible refine Below.drew ?_) | (with_reducible refine below_drewN ?_ _) | (with_reducible refine Below.setCell ?_ ?_ _) | go_size | (simp only [go_sem]; omega) | (simp [go_sem]; done) | (simp [go_sem]; omega)))⟩
      rw [HT.out]

theorem wsum_cl (c : Cl) : 0 ≤ Cl.weight c ∧ Cl.weight c ≤ 65535 + 248 + 4 := by
  have := wsum_bd (Fl.of c.r) 5
  have h : 0 ≤ bi c.k 4 ∧ bi c.k 4 ≤ 4 := by cases c.k <;> simp [bi]
  unfold Cl.weight Fl.weight
  omega

set_option maxHeartbeats 1000000 in
theorem sum_r (A : Option Addr) (C : Nat) (cs : List Cl) (w : World) (hA : Rd encC 3 w A cs) (hm : cs.length ≤ 9223372036854775807) (hok : ∀ c ∈ cs, c.ok) :
    Calls Tryz.prog 50 #[.slice A cs.length C] w (Gives w (.int .i64 (sumW cs % 65536))) := by
  have R3 := Lib.hid hok
  have R1 := Lib.hid hA
  clear hok hA
  go_enter Tryz.func50, Tryz.ntmps50
  go_wp2
  go_loopw [3, 4] (fun v i wr => ∃ j : Nat, j ≤ cs.length ∧ i = .int .i64 j ∧ v = .int .i64 (sumW (cs.take j) % 65536) ∧ Below w.heap.size w wr) (fun _ i _ => cs.length - (intOf i).toNat)
  case atStart => exact ⟨0, by omega, rfl, by simp [sumW], Below.refl _ _⟩
  case round =>
    obtain ⟨j, hj, rfl, rfl, hB⟩ := hrel
    obtain ⟨x', rfl⟩ := ext_of hB
    clear hB
    by_cases hlt2 : j < cs.length
    · obtain ⟨b2, o2, rfl, hb2, d0, d1, d2⟩ := R1.out.cell3 hlt2
      have HG := Lib.hid (sumW_take cs j hlt2)
      obtain ⟨g1, g2⟩ := R3.out cs[j] (List.getElem_mem hlt2)
      have CW := Lib.hid (fun w' => cweight_r cs[j].g cs[j].r cs[j].k g1 g2 w')
      generalize cs[j] = cc at d0 d1 d2 HG CW
      clear g1 g2
      obtain ⟨w0, w1⟩ := wsum_cl cc
      generalize hcw : Cl.weight cc = ww at HG w0 w1
      obtain ⟨g, r, kk⟩ := cc
      simp only at d0 d1 d2 CW
      rw [hcw] at CW
      clear hcw
      generalize sumW (cs.take j) = T at HG
      have t0 : 0 ≤ T % 65536 := by omega
      have t1 : T % 65536 < 65536 := by omega
      go_wp2_with (go_at_call 97; ((with_reducible refine (CW.out _).mono ?_); rintro _ _ hgets; obtain ⟨rfl, _, rfl⟩ := hgets.get; clear hgets))
      go_roundw
      case rel =>
        refine ⟨j + 1, by omega, by go_num, ?_, by (repeat' (first | (with_reducible exact Below.refl _ _) | (with_reducible refine Below.alloc ?_ ?_ _) | (with_reducible refine below_ext ?_ ?_ _) | (with_reducible refine Below.drew ?_) | (with_reducible refine below_drewN ?_ _) | (with_reducible refine Below.setCell ?_ ?_ _) | go_size | (simp only [go_sem]; omega) | (simp [go_sem]; done) | (simp [go_sem]; omega)))⟩
        rw [HG.out]
        congr 1
        omega
      case measure => simp [intOf]; omega
    · have HT := Lib.hid (show cs.take j = cs from List.take_of_length_le (by omega))
      go_wp2
      go_returns
      refine ⟨ret_int ?_, by (repeat' (first | (with_reducible exact Below.refl _ _) | (with_reducible refine Below.alloc ?_ ?_ _) | (with_reducible refine below_ext ?_ ?_ _) | (with_reducible refine Below.drew ?_) | (with_reducible refine below_drewN ?_ _) | (with_reducible refine Below.setCell ?_ ?_ _) | go_size | (simp only [go_sem]; omega) | (simp [go_sem]; done) | (simp [go_sem]; omega)))⟩
      rw [HT.out]

set_option maxHeartbeats 400000 in
theorem negated_c (A : Option Addr) (C : Nat) (rows : List Rw) (w : World) (hA : Rd encRw 1 w A rows) (hm : rows.length ≤ 9223372036854775807) (hok : RowsOk w rows) :
    Calls Tryz.prog 45 #[.slice A rows.length C] w (Gives w (.int .i64 ((65536 - sumR rows % 65536) % 65536))) := by
  have S := Lib.hid (sum_c A C rows w hA hm hok)
  have t0 : 0 ≤ sumR rows % 65536 := by omega
  have t1 : sumR rows % 65536 < 65536 := by omega
  clear hA hok
  generalize sumR rows % 65536 = s at S t0 t1
  go_enter Tryz.func45, Tryz.ntmps45
  go_wp2_with (go_at_call 94; ((with_reducible refine (S.out).mono ?_); rintro _ _ hgets; obtain ⟨rfl, _, rfl⟩ := hgets.get; clear hgets))
  go_returns
  refine ⟨ret_int ?_, by (repeat' (first | (with_reducible exact Below.refl _ _) | (with_reducible refine Below.alloc ?_ ?_ _) | (with_reducible refine below_ext ?_ ?_ _) | (with_reducible refine Below.drew ?_) | (with_reducible refine below_drewN ?_ _) | (with_reducible refine Below.setCell ?_ ?_ _) | go_size | (simp only [go_sem]; omega) | (simp [go_sem]; done) | (simp [go_sem]; omega)))⟩
  rfl

end Go.Proofs.YtignkkejkknddaaGreat
/- rect.Sum.  -/
namespace Go.Proofs.YtignkkejkknddaaGreat
open Go.RowKit
set_option linter.unusedVariables false
set_option linter.unusedSimpArgs false

/-- rows of cells, weighed and negated -/
def smI (cs : List (List Cl)) : Int := (65536 - (cs.map sumW).sum % 65536) % 65536
def smCells (Ps : List PgS) (q : BxI) : List (List Cl) := Ps.flatMap fun P => cellsS P (onB P.rows.length P.cols q)
theorem smCells_snoc (Ps : List PgS) (P : PgS) (q : BxI) : smCells (Ps ++ [P]) q = smCells Ps q ++ cellsS P (onB P.rows.length P.cols q) := by simp [smCells]
theorem cellsS_len {P : PgS} (hP : P.Ok) (q : BxI) : (cellsS P (onB P.rows.length P.cols q)).length ≤ 500 := by
  have := onB_in P.rows.length P.cols q
  have := hP.r2
  unfold cellsS
  rw [List.length_map, List.length_range]
  omega
theorem cellsS_ok {P : PgS} (hP : P.Ok) (q : BxI) : ∀ xs ∈ cellsS P q, xs.length ≤ 500 ∧ ∀ y ∈ xs, y.ok := by
  intro xs hx
  unfold cellsS at hx
  simp only [List.mem_map] at hx
  obtain ⟨i, _, rfl⟩ := hx
  have h1 : ∀ y ∈ (P.rows.getD (q.t.toNat + i) ([], 0)).1, y.ok := by
    rw [List.getD_eq_getElem?_getD]
    cases e : P.rows[q.t.toNat + i]? with
    | none => intro y hy; simp at hy
    | some r => exact hP.ok r (List.mem_of_getElem? e)
  have h2 : (P.rows.getD (q.t.toNat + i) ([], 0)).1.length ≤ 500 := by
    rw [List.getD_eq_getElem?_getD]
    cases e : P.rows[q.t.toNat + i]? with
    | none => simp
    | some r => have := hP.wid r (List.mem_of_getElem? e); have := hP.c2; simp; omega
  refine ⟨?_, cutR_ok h1⟩
  unfold cutR
  rw [List.length_take, List.length_drop]
  omega
section
variable {w w0 wr U : World}
theorem CellsAt.form {B : Nat} {V : Value} {rows : List (RowD × List Cl)} (h : CellsAt B w V rows) : ∃ A c, V = .slice A rows.length c := by
  obtain ⟨A, c, e, _, _⟩ := h.own.form
  exact ⟨A, c, e⟩
/-- rows are appended to rows -/
theorem cells_join {w : World} {o : Oper} {a : Act} {K : Act → World → Prop} {Q : Exit → Act → World → Prop} {A A2 : Option Addr} {n c n2 c2 : Nat} {rows ys : List (RowD × List Cl)} (s xo : Operand)
    (ho : o.op = .call { callee := .builtin .append, args := #[s, xo], argTypes := #[97, 97] }) (hs : a.eval s = .slice A n c) (hx : a.eval xo = .slice A2 n2 c2)
    (hU : Below U.heap.size U w0) (hb : Below w0.heap.size w0 w) (hl : CellsAt U.heap.size w0 (.slice A n c) rows) (hy : CellsAt w0.heap.size w (.slice A2 n2 c2) ys) (hm : rows.length + ys.length ≤ 100000)
    (h : ∀ A' n' c' x', CellsAt U.heap.size (ext U x') (.slice A' n' c') (rows ++ ys) → K (a.put o.dst (.slice A' n' c')) (ext U x')) : Oper.wp Tryz.prog o a w K Q := by
  have hl1 := hl.grow hb
  obtain ⟨_, _, e2⟩ := hy.form
  injection e2 with _ e2 _
  subst e2
  have hUw : Below U.heap.size U w := hU.trans (hb.mono hU.size)
  obtain ⟨A', c', x', hrun, hO, hF, hG⟩ := run_append_far2 (P := Tryz.prog) U w 97 o.type 65 _ 24 Tryz.underlying97 cells_info rfl (by omega) encQ_len encQ_one rows ys _ A2 c2 hUw hl1.own (hy.own.rd encQ_len) (by simp [maxLen]; omega) (by omega)
  unfold Oper.wp execOp
  simp only [ho, resolve, invoke, builtin, Sem.run_bind, Sem.run_pure, Result.andThen_ok, List.map_toArray, List.map_cons, List.map_nil, hs, hx, hrun]
  have hR := ownQR hl1.own
  have hsn : RowsAt U.heap.size w (rows.map Prod.fst ++ ys.map Prod.fst) := hl.sep.app hU.size hb hy.sep
  have hkeep : ∀ q : RowD, q.Live U.heap.size w → ∀ g off, q.b = some (g, off) → (ext U x').heap[g]? = w.heap[g]? := fun q hq g off e => by
    refine hG g (hq.lt e) (fun hv => ?_)
    obtain ⟨_, cur, h2, _⟩ := hq.blk g off e
    obtain ⟨cur', h3⟩ := Own.blk (hR.mono (Nat.zero_le _) : Own encR 1 65 0 _ _ _) hv
    rw [h2] at h3
    injection h3 with h3
    injection h3 with _ e _
    exact absurd e (by decide)
  refine h A' _ c' x' ⟨hO, ⟨fun q hq => ?_, ?_⟩, fun q hq => ?_⟩
  · rw [List.map_append] at hq
    have hl := hsn.live q hq
    refine ⟨hl.le, hl.nil, fun g off e => ?_⟩
    obtain ⟨h1, cur, h2, h3⟩ := hl.blk g off e
    exact ⟨h1, cur, (hkeep q hl g off e).trans h2, h3⟩
  · rw [List.map_append]; exact hsn.sep
  · have hl := hsn.live q.1 (by
      rw [← List.map_append]
      exact List.mem_map.2 ⟨q, hq, rfl⟩)
    have h5 : q.1.n = q.2.length ∧ Rd encC 3 w q.1.adr q.2 := by
      rcases List.mem_append.1 hq with hq | hq
      · exact hl1.rd q hq
      · exact hy.rd q hq
    exact ⟨h5.1, h5.2.keep hF.size fun b off e => hkeep q.1 hl b off (adr_some e)⟩
theorem neg_cells {A : Option Addr} {n C B : Nat} {rows : List (RowD × List Cl)} (h : CellsAt B w (.slice A n C) rows) (hm : rows.length ≤ 100000) (hok : ∀ s ∈ rows, s.2.length ≤ 500 ∧ ∀ y ∈ s.2, y.ok) :
    Calls Tryz.prog 45 #[.slice A n C] w (Gives w (.int .i64 (smI (rows.map Prod.snd)))) := by
  obtain ⟨_, _, e2⟩ := h.form
  injection e2 with _ e2 _
  subst e2
  have e : smI (rows.map Prod.snd) = (65536 - sumR (rows.map fun s => ⟨s.1.adr, s.1.c, s.2⟩) % 65536) % 65536 := by
    unfold smI sumR
    rw [List.map_map, List.map_map]
    rfl
  rw [e]
  have hr : Rd encRw 1 w A (rows.map fun s => (⟨s.1.adr, s.1.c, s.2⟩ : Rw)) := fun h0 => by
    rw [List.length_map] at h0
    obtain ⟨b, off, e1, hl, hd⟩ := (h.own.rd encQ_len) h0
    refine ⟨b, off, e1, hl, fun i hi j v hv => ?_⟩
    rw [List.length_map] at hi
    refine hd i hi j v ?_
    rw [List.getElem_map] at hv
    rw [← hv]
    have := (h.rd _ (List.getElem_mem hi)).1
    unfold encQ encRw
    rw [← this]
    rfl
  have := negated_c A C (rows.map fun s => (⟨s.1.adr, s.1.c, s.2⟩ : Rw)) w hr (by rw [List.length_map]; omega) (fun r hr => by
    obtain ⟨s, hs, rfl⟩ := List.mem_map.1 hr
    exact ⟨(h.rd s hs).2, by have := (hok s hs).1; show s.2.length ≤ _; omega, (hok s hs).2⟩)
  rw [List.length_map] at this
  exact this
end
def smP (S : BkS) (n : Int) : List PgS := if n = 0 then S.pages else [S.pgAt (nbI S n)]
def smOk (y : BxI) (xs : List Int) : Bool := reOk y xs 1 && decide (0 ≤ at0 xs 0)
def smV (S : BkS) (x : BxI) (xs : List Int) : Int := if smOk (arK S x) xs = true then smI (smCells (smP S (at0 xs 0)) (reB (arK S x) xs 1)) else 0
theorem smP_at {S : BkS} (hS : S.Ok) (n : Int) : ∃ f cnt : Nat, f + cnt ≤ S.pages.length ∧ 1 ≤ cnt ∧ (smP S n).length = cnt ∧ (∀ j, j < cnt → (smP S n)[j]? = S.pages[f + j]?) ∧ (n = 0 → f = 0 ∧ cnt = S.pages.length) ∧ (n ≠ 0 → (f : Int) = nbI S n ∧ cnt = 1) := by
  have := hS.p1
  unfold smP
  by_cases h : n = 0
  · rw [if_pos h]
    exact ⟨0, S.pages.length, by omega, this, rfl, fun j hj => by rw [Nat.zero_add], fun _ => ⟨rfl, rfl⟩, fun h' => absurd h h'⟩
  · rw [if_neg h]
    obtain ⟨h1, h2⟩ := nbI_in hS n
    refine ⟨(nbI S n).toNat, 1, by omega, by omega, rfl, fun j hj => ?_, fun h' => absurd h' h, fun _ => ⟨by omega, rfl⟩⟩
    obtain rfl : j = 0 := by omega
    unfold BkS.pgAt
    rw [List.getD_eq_getElem?_getD, Nat.add_zero, List.getElem?_eq_getElem (by omega : (nbI S n).toNat < S.pages.length)]
    rfl
section
variable {w : World} {F : Nat → Prop} {b : Nat} {S : BkS} {V : Value} {ps : List PgR} {st : PgR} {a : Option Addr} {c : Nat} {xs : List Int}
set_option maxRecDepth 100000 in
set_option maxHeartbeats 16000000 in
theorem sum_rect (h : BkO w F b S V ps st) (hS : S.Ok) (hx : NumL w a c xs) (x : BxI) :
    Calls Tryz.prog 10 #[ptrV b, boxV x.t x.l x.b x.r, .slice a xs.length c] w (Gives w (.tuple #[.int .i64 (smV S x xs), .bool (smOk (arK S x) xs)])) := by
  have hbd : (0 ≤ (arK S x).t ∧ (arK S x).t ≤ 500) ∧ (0 ≤ (arK S x).l ∧ (arK S x).l ≤ 500) ∧ (0 ≤ (arK S x).b ∧ (arK S x).b ≤ 500) ∧ (0 ≤ (arK S x).r ∧ (arK S x).r ≤ 500) := by
    have := onB_in S.rows S.cols x
    have := BkS.rows_le hS
    unfold arK
    omega
  obtain ⟨⟨ht0, ht1⟩, ⟨hl0, hl1⟩, ⟨hb0, hb1⟩, ⟨hr0, hr1⟩⟩ := hbd
  have WH := Lib.hid (fun w' (hb : Below w.heap.size w w') => whole_b (h.grow hb) hS)
  have MT : Hid (∀ w', Calls Tryz.prog 40 #[boxV x.t x.l x.b x.r, boxV 0 0 S.rows S.cols] w' (Gives w' (boxV (arK S x).t (arK S x).l (arK S x).b (arK S x).r))) := Lib.hid (fun w' => meet_c x.t x.l x.b x.r 0 0 S.rows S.cols w')
  have RC : Hid (∀ w', Below w.heap.size w w' → Calls Tryz.prog 39 #[boxV (arK S x).t (arK S x).l (arK S x).b (arK S x).r, .slice a xs.length c, .int .i64 1] w' (Gives w' (.tuple #[boxV (reB (arK S x) xs 1).t (reB (arK S x) xs 1).l (reB (arK S x) xs 1).b (reB (arK S x) xs 1).r, .bool (reOk (arK S x) xs 1)]))) := Lib.hid (fun w' hb => rect_c _ _ _ _ a c xs 1 w' (by omega) (by omega) (by omega) (by omega) (hx.grow hb).rd (Nat.le_trans hx.lc hx.cm) hx.lc hx.cm hx.hi)
  have RW0 := Lib.hid (fun w' (h : Below w.heap.size w w') => raw_c a c xs 0 w' (hx.grow h).rd (Nat.le_trans hx.lc hx.cm))
  have NB0 := Lib.hid (fun w' (hb : Below w.heap.size w w') => number_b (h.grow hb) hS (at0 xs 0))
  have CT := Lib.hid (fun w' (hb : Below w.heap.size w w') => count_b (h.grow hb))
  have PG := Lib.hid (fun w' (hb : Below w.heap.size w w') (i : Nat) (r : PgR) (hr : ps[i]? = some r) => page_b (h.grow hb) hS hr)
  have GT := Lib.hid (fun (i : Nat) (hi : i < S.pages.length) => h.get hi)
  have okp := Lib.hid hS.pg
  have VE : smV S x xs = if smOk (arK S x) xs = true then smI (smCells (smP S (at0 xs 0)) (reB (arK S x) xs 1)) else 0 := rfl
  have OE : smOk (arK S x) xs = (reOk (arK S x) xs 1 && decide (0 ≤ at0 xs 0)) := rfl
  have SN : ∀ (j : Nat) (hj : j < (smP S (at0 xs 0)).length), smCells ((smP S (at0 xs 0)).take (j + 1)) (reB (arK S x) xs 1) = smCells ((smP S (at0 xs 0)).take j) (reB (arK S x) xs 1) ++ cellsS (smP S (at0 xs 0))[j] (onB (smP S (at0 xs 0))[j].rows.length (smP S (at0 xs 0))[j].cols (reB (arK S x) xs 1)) := fun j hj => by
    rw [List.take_succ_eq_append_getElem hj, smCells_snoc]
  have hp1 := hS.p1
  have hp2 := hS.p2
  have hnb := nbI_in hS (at0 xs 0)
  obtain ⟨f, cnt, hf1, hf2, hf3, hf4, hf5, hf6⟩ := smP_at hS (at0 xs 0)
  generalize smV S x xs = sv at VE ⊢
  generalize smOk (arK S x) xs = ok at VE OE ⊢
  generalize smP S (at0 xs 0) = Ps at *
  generalize nbI S (at0 xs 0) = nb at *
  generalize hq : reB (arK S x) xs 1 = q at *
  clear hq
  generalize reOk (arK S x) xs 1 = k1 at *
  generalize arK S x = z at *
  generalize at0 xs 0 = n0 at *
  obtain ⟨xt, xl, xb, xr⟩ := x
  obtain ⟨zt, zl, zb, zr⟩ := z
  simp only at MT RC
  replace VE := Lib.hid VE
  replace OE := Lib.hid OE
  replace SN := Lib.hid SN
  replace hf4 := Lib.hid hf4
  replace hf5 := Lib.hid hf5
  replace hf6 := Lib.hid hf6
  replace hf3 := Lib.hid hf3
  clear h hx hS
  go_enter Tryz.func10, Tryz.ntmps10
  go_upto_region 1 with fail
  obtain ⟨qt, ql, qb, qr⟩ := q
  generalize hW : w.alloc (.cells #[.int .i64 xt, .int .i64 xl, .int .i64 xb, .int .i64 xr] 31) = W
  have hlt : w.heap.size < W.heap.size := by subst hW; simp [go_sem]
  have hB : Below w.heap.size w W := by subst hW; (repeat' (first | (with_reducible exact Below.refl _ _) | (with_reducible refine Below.alloc ?_ ?_ _) | (with_reducible refine below_ext ?_ ?_ _) | (with_reducible refine Below.drew ?_) | (with_reducible refine below_drewN ?_ _) | (with_reducible refine Below.setCell ?_ ?_ _) | go_size | (simp only [go_sem]; omega) | (simp [go_sem]; done) | (simp [go_sem]; omega)))
  have b0 : W.heap[w.heap.size]? = some (.cells #[.int .i64 xt, .int .i64 xl, .int .i64 xb, .int .i64 xr] 31 (0, 0)) := by subst hW; exact al_at _ _ rfl
  clear hW
  have KB : ∀ w', Below W.heap.size W w' → w'.heap[w.heap.size]? = some (.cells #[.int .i64 xt, .int .i64 xl, .int .i64 xb, .int .i64 xr] 31 (0, 0)) := fun w' h => (h.block _ hlt).trans b0
  have KS : ∀ w', Below W.heap.size W w' → w'.cell? ⟨w.heap.size, 0, none⟩ = some (.int .i64 xt) ∧ w'.cell? ⟨w.heap.size, 1, none⟩ = some (.int .i64 xl) ∧ w'.cell? ⟨w.heap.size, 2, none⟩ = some (.int .i64 xb) ∧ w'.cell? ⟨w.heap.size, 3, none⟩ = some (.int .i64 xr) := fun w' h => ⟨by rw [cell_in (KB _ h)]; rfl, by rw [cell_in (KB _ h)]; rfl, by rw [cell_in (KB _ h)]; rfl, by rw [cell_in (KB _ h)]; rfl⟩
  have hBW := Lib.hid (fun w' (h : Below W.heap.size W w') => hB.trans (h.mono hB.size))
  go_cut [8, 9] (fun v8 v9 wx => ∃ g, v8 = .pointer (some ⟨g, 0, none⟩) ∧ v9 = .bool k1 ∧ Below W.heap.size W wx ∧ w.heap.size ≤ g ∧ wx.heap[g]? = some (.cells #[.int .i64 qt, .int .i64 ql, .int .i64 qb, .int .i64 qr] 31 (0, 0)))
  case first =>
    go_region_held3 (fun w' => w'.cell? ⟨w.heap.size, 0, none⟩ = some (.int .i64 xt) ∧ w'.cell? ⟨w.heap.size, 1, none⟩ = some (.int .i64 xl) ∧ w'.cell? ⟨w.heap.size, 2, none⟩ = some (.int .i64 xb) ∧ w'.cell? ⟨w.heap.size, 3, none⟩ = some (.int .i64 xr)) (exact KS _ (by (repeat' (first | (with_reducible exact Below.refl _ _) | (with_reducible refine Below.alloc ?_ ?_ _) | (with_reducible refine below_ext ?_ ?_ _) | (with_reducible refine Below.drew ?_) | (with_reducible refine below_drewN ?_ _) | (with_reducible refine Below.setCell ?_ ?_ _) | go_size | (simp only [go_sem]; omega) | (simp [go_sem]; done) | (simp [go_sem]; omega))))) ((first
      | (go_at_call 41; ((with_reducible refine (WH.out _ (hBW.out _ (by (repeat' (first | (with_reducible exact Below.refl _ _) | (with_reducible refine Below.alloc ?_ ?_ _) | (with_reducible refine below_ext ?_ ?_ _) | (with_reducible refine Below.drew ?_) | (with_reducible refine below_drewN ?_ _) | (with_reducible refine Below.setCell ?_ ?_ _) | go_size | (simp only [go_sem]; omega) | (simp [go_sem]; done) | (simp [go_sem]; omega)))))).mono ?_); rintro _ _ hgets; obtain ⟨rfl, x1, rfl⟩ := hgets.get; clear hgets))
      | (go_at_call 40; ((with_reducible refine (MT.out _).mono ?_); rintro _ _ hgets; obtain ⟨rfl, x2, rfl⟩ := hgets.get; clear hgets))
      | (go_at_call 39; ((with_reducible refine (RC.out _ (hBW.out _ (by (repeat' (first | (with_reducible exact Below.refl _ _) | (with_reducible refine Below.alloc ?_ ?_ _) | (with_reducible refine below_ext ?_ ?_ _) | (with_reducible refine Below.drew ?_) | (with_reducible refine below_drewN ?_ _) | (with_reducible refine Below.setCell ?_ ?_ _) | go_size | (simp only [go_sem]; omega) | (simp [go_sem]; done) | (simp [go_sem]; omega)))))).mono ?_); rintro _ _ hgets; obtain ⟨rfl, x3, rfl⟩ := hgets.get; clear hgets))))
    all_goals clear KS KB b0 hBW MT RC WH
    all_goals go_wp2
    all_goals go_meet
    all_goals refine ⟨_, rfl, rfl, by (repeat' (first | (with_reducible exact Below.refl _ _) | (with_reducible refine Below.alloc ?_ ?_ _) | (with_reducible refine below_ext ?_ ?_ _) | (with_reducible refine Below.drew ?_) | (with_reducible refine below_drewN ?_ _) | (with_reducible refine Below.setCell ?_ ?_ _) | go_size | (simp only [go_sem]; omega) | (simp [go_sem]; done) | (simp [go_sem]; omega))), by (try simp); omega, ?_⟩
    all_goals (repeat (first | ((with_reducible refine heap_at _ _ ?_); (focus (first | rfl | (simp [go_sem]; done) | (simp [go_sem]; omega)))) | ((with_reducible refine (heap_old _ _ ?_).trans ?_); (focus (first | (simp [go_sem]; done) | (simp [go_sem]; omega)))) | ((with_reducible refine (block_ext _ _ ?_).trans ?_); (focus (first | (simp [go_sem]; done) | (simp [go_sem]; omega)))) | ((with_reducible refine (heap_drew _ _).trans ?_))))
  obtain ⟨g8, rfl, rfl, hB1, hg8, b8⟩ := hcut
  have BW := hB.trans (hB1.mono hB.size)
  obtain ⟨W1, eW1⟩ : ∃ W1, W1 = wc := ⟨_, rfl⟩
  rw [← eW1] at BW b8 ⊢
  clear eW1 wc KB KS hBW hB hlt b0 hB1 ht0 ht1 hl0 hl1 hb0 hb1 hr0 hr1 WH MT RC
  have hl8 := heap_in b8
  have hBW := Lib.hid (fun w' (h : Below w.heap.size W1 w') => BW.trans h)
  replace BW := Lib.hid BW
  go_upto_region 4 with (first
    | (go_at_call 42; ((with_reducible refine (RW0.out _ (hBW.out _ (by (repeat' (first | (with_reducible exact Below.refl _ _) | (with_reducible refine Below.alloc ?_ ?_ _) | (with_reducible refine below_ext ?_ ?_ _) | (with_reducible refine Below.drew ?_) | (with_reducible refine below_drewN ?_ _) | (with_reducible refine Below.setCell ?_ ?_ _) | go_size | (simp only [go_sem]; omega) | (simp [go_sem]; done) | (simp [go_sem]; omega)))))).mono ?_); rintro _ _ ⟨rfl, rfl⟩))
    | (go_at_call 43; ((with_reducible refine (NB0.out _ (hBW.out _ (by (repeat' (first | (with_reducible exact Below.refl _ _) | (with_reducible refine Below.alloc ?_ ?_ _) | (with_reducible refine below_ext ?_ ?_ _) | (with_reducible refine Below.drew ?_) | (with_reducible refine below_drewN ?_ _) | (with_reducible refine Below.setCell ?_ ?_ _) | go_size | (simp only [go_sem]; omega) | (simp [go_sem]; done) | (simp [go_sem]; omega)))))).mono ?_); rintro _ _ hgets; obtain ⟨rfl, x4, rfl⟩ := hgets.get; clear hgets)))
  clear RW0 NB0
  have NO : ∀ W', Below w.heap.size w W' → ok = false → Gives w (.tuple #[.int .i64 sv, .bool ok]) (.returned (.tuple #[.int .i64 0, .bool false])) W' := fun W' hb e => by
    have h1 := VE.out
    rw [e] at h1
    rw [e, show sv = 0 from h1]
    exact ⟨rfl, hb⟩
  replace NO := Lib.hid NO
  generalize hdn : decide (0 ≤ n0) = dn at OE ⊢
  cases k1
  · go_wp2
    go_returns
    refine NO.out _ ?_ OE.out
    exact hBW.out _ (by (repeat' (first | (with_reducible exact Below.refl _ _) | (with_reducible refine Below.alloc ?_ ?_ _) | (with_reducible refine below_ext ?_ ?_ _) | (with_reducible refine Below.drew ?_) | (with_reducible refine below_drewN ?_ _) | (with_reducible refine Below.setCell ?_ ?_ _) | go_size | (simp only [go_sem]; omega) | (simp [go_sem]; done) | (simp [go_sem]; omega))))
  · cases dn
    · go_wp2
      go_returns
      refine NO.out _ ?_ OE.out
      exact hBW.out _ (by (repeat' (first | (with_reducible exact Below.refl _ _) | (with_reducible refine Below.alloc ?_ ?_ _) | (with_reducible refine below_ext ?_ ?_ _) | (with_reducible refine Below.drew ?_) | (with_reducible refine below_drewN ?_ _) | (with_reducible refine Below.setCell ?_ ?_ _) | go_size | (simp only [go_sem]; omega) | (simp [go_sem]; done) | (simp [go_sem]; omega))))
    · obtain rfl : ok = true := OE.out
      have hsv := Lib.hid (show sv = smI (smCells Ps ⟨qt, ql, qb, qr⟩) from VE.out)
      clear NO VE OE
      have hn0 : 0 ≤ n0 := by simpa using hdn
      clear hdn
      go_upto_if 43 with fail
      go_cut [13, 14] (fun v13 v14 wx => v13 = .int .i64 f ∧ v14 = .int .i64 ((f : Int) + cnt - 1) ∧ Below W1.heap.size W1 wx)
      case first =>
        by_cases h0 : n0 = 0
        · obtain ⟨e1, e2⟩ := hf5.out h0
          subst h0 e1 e2
          have hw1 : IntKind.i64.wrap ((S.pages.length : Int) - 1) = S.pages.length - 1 := wrap_i64 (by omega) (by omega)
          clear hf4 hf5 hf6 hf3 SN
          go_wp2_with (go_at_call 23; ((with_reducible refine (CT.out _ (hBW.out _ (by (repeat' (first | (with_reducible exact Below.refl _ _) | (with_reducible refine Below.alloc ?_ ?_ _) | (with_reducible refine below_ext ?_ ?_ _) | (with_reducible refine Below.drew ?_) | (with_reducible refine below_drewN ?_ _) | (with_reducible refine Below.setCell ?_ ?_ _) | go_size | (simp only [go_sem]; omega) | (simp [go_sem]; done) | (simp [go_sem]; omega)))))).mono ?_); rintro _ _ hgets; obtain ⟨rfl, x5, rfl⟩ := hgets.get; clear hgets))
          go_meet
          exact ⟨rfl, by simp, by (repeat' (first | (with_reducible exact Below.refl _ _) | (with_reducible refine Below.alloc ?_ ?_ _) | (with_reducible refine below_ext ?_ ?_ _) | (with_reducible refine Below.drew ?_) | (with_reducible refine below_drewN ?_ _) | (with_reducible refine Below.setCell ?_ ?_ _) | go_size | (simp only [go_sem]; omega) | (simp [go_sem]; done) | (simp [go_sem]; omega)))⟩
        · obtain ⟨e1, e2⟩ := hf6.out h0
          subst e2
          have hne : (n0 == 0) = false := by simp [h0]
          go_wp2
          go_meet
          exact ⟨by rw [e1], by rw [e1]; simp, by (repeat' (first | (with_reducible exact Below.refl _ _) | (with_reducible refine Below.alloc ?_ ?_ _) | (with_reducible refine below_ext ?_ ?_ _) | (with_reducible refine Below.drew ?_) | (with_reducible refine below_drewN ?_ _) | (with_reducible refine Below.setCell ?_ ?_ _) | go_size | (simp only [go_sem]; omega) | (simp [go_sem]; done) | (simp [go_sem]; omega)))⟩
      obtain ⟨rfl, rfl, hB2⟩ := hcut
      obtain ⟨W2, eW2⟩ : ∃ W2, W2 = wc := ⟨_, rfl⟩
      rw [← eW2] at hB2 ⊢
      clear eW2 wc
      have b82 := (hB2.block g8 hl8).trans b8
      have hl82 := Nat.lt_of_lt_of_le hl8 hB2.size
      have hBW2 := Lib.hid (fun w' (h : Below w.heap.size W2 w') => (hBW.out _ (hB2.mono (hBW.out _ (Below.refl _ _)).size)).trans h)
      have hwle : w.heap.size ≤ W2.heap.size := by omega
      clear b8 hl8 hBW hB2 hf5 hf6 hnb hn0
      have KS : ∀ w', Below W2.heap.size W2 w' → w'.cell? ⟨g8, 0, none⟩ = some (.int .i64 qt) ∧ w'.cell? ⟨g8, 1, none⟩ = some (.int .i64 ql) ∧ w'.cell? ⟨g8, 2, none⟩ = some (.int .i64 qb) ∧ w'.cell? ⟨g8, 3, none⟩ = some (.int .i64 qr) := fun w' h => ⟨by rw [cell_in ((h.block _ hl82).trans b82)]; rfl, by rw [cell_in ((h.block _ hl82).trans b82)]; rfl, by rw [cell_in ((h.block _ hl82).trans b82)]; rfl, by rw [cell_in ((h.block _ hl82).trans b82)]; rfl⟩
      replace KS := Lib.hid KS
      go_upto_region 11 with fail
      go_loopw [15, 16] (fun v i wr => ∃ (j : Nat) (A : Option Addr) (n C : Nat) (x : More) (rows : List (RowD × List Cl)), j ≤ cnt ∧ i = .int .i64 ((f : Int) + j) ∧ v = .slice A n C ∧ wr = ext W2 x ∧ Hid (CellsAt W2.heap.size (ext W2 x) (.slice A n C) rows) ∧ Hid (rows.map Prod.snd = smCells (Ps.take j) ⟨qt, ql, qb, qr⟩) ∧ rows.length ≤ 500 * j ∧ Hid (∀ s ∈ rows, s.2.length ≤ 500 ∧ ∀ y ∈ s.2, y.ok)) (fun _ i _ => (f + cnt - intOf i).toNat)
      case atStart => exact ⟨0, none, 0, 0, ⟨#[], W2.drawn⟩, [], by omega, by simp, rfl, by simp [ext], Lib.hid (CellsAt.nil _ _), Lib.hid (by simp [smCells]), by simp, Lib.hid (fun s hs => by simp at hs)⟩
      case round =>
        obtain ⟨j, A, n, C, x, rows, hj, rfl, rfl, rfl, hC, hv, hlen, hok⟩ := hrel
        by_cases hlt : j < cnt
        · have hd : decide ((f : Int) + j ≤ (f : Int) + cnt - 1) = true := by simp; omega
          obtain ⟨r, hr, -, hP⟩ := GT.out (f + j) (by omega)
          have hjl : j < Ps.length := by rw [hf3.out]; exact hlt
          have hPj : Ps[j] = S.pages[f + j] := by
            have := hf4.out j hlt
            rw [List.getElem?_eq_getElem hjl, List.getElem?_eq_getElem (by omega)] at this
            exact Option.some.inj this
          have sn := SN.out j hjl
          rw [hPj] at sn
          have okP := okp.out _ (List.getElem_mem (by omega : f + j < S.pages.length))
          generalize S.pages[f + j] = P at hP sn okP
          have PG1 := Lib.hid (fun w' hb => PG.out w' hb (f + j) r hr)
          have CE := Lib.hid (fun w' (hb : Below w.heap.size w w') => cells_p (hP.grow hb) okP ⟨qt, ql, qb, qr⟩)
          have hcl := cellsS_len okP ⟨qt, ql, qb, qr⟩
          have hco := cellsS_ok okP (onB P.rows.length P.cols ⟨qt, ql, qb, qr⟩)
          rw [show (((f + j : Nat)) : Int) = (f : Int) + j by omega] at PG1
          generalize cellsS P (onB P.rows.length P.cols ⟨qt, ql, qb, qr⟩) = cs at CE sn hcl hco
          simp only at CE
          replace sn := Lib.hid sn
          replace hco := Lib.hid hco
          clear hP okP hPj hr
          have hBx := Lib.hid (fun w' (h : Below W2.heap.size W2 w') => hBW2.out w' (h.mono hwle))
          go_upto_region 13 with fail
          (refine wp_region_F (S := (fun w' => w'.cell? ⟨g8, 0, none⟩ = some (.int .i64 qt) ∧ w'.cell? ⟨g8, 1, none⟩ = some (.int .i64 ql) ∧ w'.cell? ⟨g8, 2, none⟩ = some (.int .i64 qb) ∧ w'.cell? ⟨g8, 3, none⟩ = some (.int .i64 qr))) 7 [false, false, false, false, false, false, false, false] rfl rfl (by kernel_rfl) ?_ (fun hHeld => ?_); (focus ((try dsimp only); (exact KS.out _ (by (repeat' (first | (with_reducible exact Below.refl _ _) | (with_reducible refine Below.alloc ?_ ?_ _) | (with_reducible refine below_ext ?_ ?_ _) | (with_reducible refine Below.drew ?_) | (with_reducible refine below_drewN ?_ _) | (with_reducible refine Below.setCell ?_ ?_ _) | go_size | (simp only [go_sem]; omega) | (simp [go_sem]; done) | (simp [go_sem]; omega))))); done)))
          ((refine AtF.take (oi := ?_) (v := ?_) 0 ?_ ?_ ?_ ?_ (Or.inl ⟨?_, ?_⟩) (by assumption) ?_; rotate_left 2; rfl; kernel_rfl; kernel_rfl; exact (fun _ _ _ h => h); rfl; (focus (intro w hSw; (try dsimp only at hSw); go_simp; (try with_reducible rfl); done)); (try simp only [Act.put, List.setIfInBounds_toArray, List.set_cons_zero, List.set_cons_succ])); (refine AtF.take (oi := ?_) (v := ?_) 1 ?_ ?_ ?_ ?_ (Or.inl ⟨?_, ?_⟩) (by assumption) ?_; rotate_left 2; rfl; kernel_rfl; kernel_rfl; exact (fun _ _ _ h => h); rfl; (focus (intro w hSw; (try dsimp only at hSw); go_simp; (try with_reducible rfl); done)); (try simp only [Act.put, List.setIfInBounds_toArray, List.set_cons_zero, List.set_cons_succ])); (refine AtF.take (oi := ?_) (v := ?_) 2 ?_ ?_ ?_ ?_ (Or.inl ⟨?_, ?_⟩) (by assumption) ?_; rotate_left 2; rfl; kernel_rfl; kernel_rfl; exact (fun _ _ _ h => h); rfl; (focus (intro w hSw; (try dsimp only at hSw); go_simp; (try with_reducible rfl); done)); (try simp only [Act.put, List.setIfInBounds_toArray, List.set_cons_zero, List.set_cons_succ])); (refine AtF.take (oi := ?_) (v := ?_) 4 ?_ ?_ ?_ ?_ (Or.inl ⟨?_, ?_⟩) (by assumption) ?_; rotate_left 2; rfl; kernel_rfl; kernel_rfl; exact (fun _ _ _ h => h); rfl; (focus (intro w hSw; (try dsimp only at hSw); go_simp; (try with_reducible rfl); done)); (try simp only [Act.put, List.setIfInBounds_toArray, List.set_cons_zero, List.set_cons_succ])))
          (refine AtF.only (oi := ?_) 3 ?_ ?_ (fun K hK => ?_); rotate_left 1; rfl; kernel_rfl; (try go_simp); (go_at_call 17; ((with_reducible refine (PG1.out _ (hBx.out _ (by (repeat' (first | (with_reducible exact Below.refl _ _) | (with_reducible refine Below.alloc ?_ ?_ _) | (with_reducible refine below_ext ?_ ?_ _) | (with_reducible refine Below.drew ?_) | (with_reducible refine below_drewN ?_ _) | (with_reducible refine Below.setCell ?_ ?_ _) | go_size | (simp only [go_sem]; omega) | (simp [go_sem]; done) | (simp [go_sem]; omega)))))).mono ?_); rintro _ _ hgets; obtain ⟨rfl, x5, rfl⟩ := hgets.get; clear hgets)); (refine hK.out _ _ ?_ (fun hHeld => ?_)); (focus ((try dsimp only); (exact KS.out _ (by (repeat' (first | (with_reducible exact Below.refl _ _) | (with_reducible refine Below.alloc ?_ ?_ _) | (with_reducible refine below_ext ?_ ?_ _) | (with_reducible refine Below.drew ?_) | (with_reducible refine below_drewN ?_ _) | (with_reducible refine Below.setCell ?_ ?_ _) | go_size | (simp only [go_sem]; omega) | (simp [go_sem]; done) | (simp [go_sem]; omega))))); done)); clear hK K; (try simp only [Act.put, List.setIfInBounds_toArray, List.set_cons_zero, List.set_cons_succ]))
          (refine AtF.only (oi := ?_) 5 ?_ ?_ (fun K hK => ?_); rotate_left 1; rfl; kernel_rfl; (try go_simp); ((go_at_call 44); (with_reducible refine (CE.out _ (hBx.out _ (by (repeat' (first | (with_reducible exact Below.refl _ _) | (with_reducible refine Below.alloc ?_ ?_ _) | (with_reducible refine below_ext ?_ ?_ _) | (with_reducible refine Below.drew ?_) | (with_reducible refine below_drewN ?_ _) | (with_reducible refine Below.setCell ?_ ?_ _) | go_size | (simp only [go_sem]; omega) | (simp [go_sem]; done) | (simp [go_sem]; omega)))))).mono ?_); (rintro _ _ ⟨V2, ys, x6, rfl, rfl, hY, hYv⟩); (obtain ⟨A2, c2, rfl⟩ := hY.form); (have hyl : ys.length ≤ 500 := by have := congrArg List.length hYv; simp at this; omega); (replace hY := Lib.hid hY); (replace hYv := Lib.hid hYv)); (refine hK.out _ _ ?_ (fun hHeld => ?_)); (focus ((try dsimp only); (exact KS.out _ (by (repeat' (first | (with_reducible exact Below.refl _ _) | (with_reducible refine Below.alloc ?_ ?_ _) | (with_reducible refine below_ext ?_ ?_ _) | (with_reducible refine Below.drew ?_) | (with_reducible refine below_drewN ?_ _) | (with_reducible refine Below.setCell ?_ ?_ _) | go_size | (simp only [go_sem]; omega) | (simp [go_sem]; done) | (simp [go_sem]; omega))))); done)); clear hK K; (try simp only [Act.put, List.setIfInBounds_toArray, List.set_cons_zero, List.set_cons_succ]))
          (refine AtF.only (oi := ?_) 6 ?_ ?_ (fun K hK => ?_); rotate_left 1; rfl; kernel_rfl; (refine step_do rfl (cells_join (U := W2) (w0 := ext (ext W2 x) x5) (.tmp 53) (.tmp 58) rfl rfl rfl (by (repeat' (first | (with_reducible exact Below.refl _ _) | (with_reducible refine Below.alloc ?_ ?_ _) | (with_reducible refine below_ext ?_ ?_ _) | (with_reducible refine Below.drew ?_) | (with_reducible refine below_drewN ?_ _) | (with_reducible refine Below.setCell ?_ ?_ _) | go_size | (simp only [go_sem]; omega) | (simp [go_sem]; done) | (simp [go_sem]; omega)))) (by (repeat' (first | (with_reducible exact Below.refl _ _) | (with_reducible refine Below.alloc ?_ ?_ _) | (with_reducible refine below_ext ?_ ?_ _) | (with_reducible refine Below.drew ?_) | (with_reducible refine below_drewN ?_ _) | (with_reducible refine Below.setCell ?_ ?_ _) | go_size | (simp only [go_sem]; omega) | (simp [go_sem]; done) | (simp [go_sem]; omega)))) (hC.out.grow (by (repeat' (first | (with_reducible exact Below.refl _ _) | (with_reducible refine Below.alloc ?_ ?_ _) | (with_reducible refine below_ext ?_ ?_ _) | (with_reducible refine Below.drew ?_) | (with_reducible refine below_drewN ?_ _) | (with_reducible refine Below.setCell ?_ ?_ _) | go_size | (simp only [go_sem]; omega) | (simp [go_sem]; done) | (simp [go_sem]; omega))))) hY.out (by omega) ?_)); (intro A' n' c' x7 hJ); (replace hJ := Lib.hid hJ); (refine hK.out _ _ ?_ (fun hHeld => ?_)); (focus ((try dsimp only); (exact KS.out _ (by (repeat' (first | (with_reducible exact Below.refl _ _) | (with_reducible refine Below.alloc ?_ ?_ _) | (with_reducible refine below_ext ?_ ?_ _) | (with_reducible refine Below.drew ?_) | (with_reducible refine below_drewN ?_ _) | (with_reducible refine Below.setCell ?_ ?_ _) | go_size | (simp only [go_sem]; omega) | (simp [go_sem]; done) | (simp [go_sem]; omega))))); done)); clear hK K; (try simp only [Act.put, List.setIfInBounds_toArray, List.set_cons_zero, List.set_cons_succ]))
          (refine AtF.last (oi := ?_) ?_ ?_ (fun K hK => ?_); rotate_left 1; rfl; kernel_rfl; go_simp; skip; refine hK.out _ _ ?_; clear hK K; (try simp only [Act.put, List.setIfInBounds_toArray, List.set_cons_zero, List.set_cons_succ]))
          clear hHeld
          go_wp2
          go_roundw
          case rel => exact ⟨j + 1, A', n', c', x7, rows ++ ys, by omega, by go_num, rfl, rfl, hJ, Lib.hid (by rw [List.map_append, hv.out, hYv.out, sn.out]), by rw [List.length_append]; omega, Lib.hid (fun s hs => by
            rcases List.mem_append.1 hs with hs | hs
            · exact hok.out s hs
            · exact hco.out s.2 (by rw [← hYv.out]; exact List.mem_map.2 ⟨s, hs, rfl⟩))⟩
          case measure => simp [intOf]; omega
        · obtain rfl : j = cnt := by omega
          have hd : decide ((f : Int) + j ≤ (f : Int) + j - 1) = false := by simp; omega
          have hlen2 : rows.length ≤ 100000 := by omega
          have NG := Lib.hid (fun w' (hb : Below (ext W2 x).heap.size (ext W2 x) w') => neg_cells (hC.out.grow hb) hlen2 hok.out)
          rw [hv.out, List.take_of_length_le (by rw [hf3.out]; omega), ← hsv.out] at NG
          clear PG GT okp SN CT hv hok hC KS hf4
          go_wp2_with (go_at_call 45; ((with_reducible refine (NG.out _ (by (repeat' (first | (with_reducible exact Below.refl _ _) | (with_reducible refine Below.alloc ?_ ?_ _) | (with_reducible refine below_ext ?_ ?_ _) | (with_reducible refine Below.drew ?_) | (with_reducible refine below_drewN ?_ _) | (with_reducible refine Below.setCell ?_ ?_ _) | go_size | (simp only [go_sem]; omega) | (simp [go_sem]; done) | (simp [go_sem]; omega))))).mono ?_); rintro _ _ hgets; obtain ⟨rfl, x8, rfl⟩ := hgets.get; clear hgets))
          go_returns
          exact ⟨rfl, hBW2.out _ (by (repeat' (first | (with_reducible exact Below.refl _ _) | (with_reducible refine Below.alloc ?_ ?_ _) | (with_reducible refine below_ext ?_ ?_ _) | (with_reducible refine Below.drew ?_) | (with_reducible refine below_drewN ?_ _) | (with_reducible refine Below.setCell ?_ ?_ _) | go_size | (simp only [go_sem]; omega) | (simp [go_sem]; done) | (simp [go_sem]; omega))))⟩
end
end Go.Proofs.YtignkkejkknddaaGreat
/- phosphorlaw16: few, awake.  -/
namespace Go.Proofs.YtignkkejkknddaaGreat
open Go.RowKit
set_option linter.unusedVariables false
set_option linter.unusedSimpArgs false

theorem int_info16 : (Tryz.prog.info? 3).map (fun i => (i.zero, i.size, i.bytes)) = some (some (.int .i64 0), 1, 8) := by kernel_rfl
/-- numbers of one's own, made behind a world -/
def FewR (w : World) (xs : List Int) (e : Ending) (w' : World) : Prop := ∃ A C x, e = .returned (.slice A xs.length C) ∧ w' = ext w x ∧ Own (encI .i64) 1 3 w.heap.size (ext w x) (.slice A xs.length C) xs
section
variable {w : World} {a : Option Addr} {c : Nat} {xs : List Int}
theorem own_num {B n C : Nat} {A : Option Addr} {w : World} {xs : List Int} (h : Own (encI .i64) 1 3 B w (.slice A n C) xs) (hi : ∀ z ∈ xs, z ≤ 9223372036854775807) : n = xs.length ∧ NumL w A C xs ∧ (0 < xs.length → ∀ q o, A = some ⟨q, o, none⟩ → B ≤ q) := by
  obtain ⟨A', c', e, h1, h2⟩ := h.form
  injection e with e1 e2 e3
  subst e1 e2 e3
  refine ⟨rfl, ⟨h.rd (encI_len _), h1, by simp [maxLen] at h2; omega, hi⟩, fun h0 q o e => ?_⟩
  obtain ⟨g, c2, e2, -, -⟩ := h.some_of h0
  injection e2 with e2
  have := h.lt g (by rw [e2]; rfl)
  rw [e] at e2
  injection e2 with e2
  injection e2 with e2
  omega
set_option maxRecDepth 100000 in
set_option maxHeartbeats 4000000 in
theorem few_c (hx : NumL w a c xs) (n : Nat) (hn : n ≤ 1000) : Calls Tryz.prog 11 #[.slice a xs.length c, .int .i64 n] w (FewR w (xs.take n)) := by
  have lc := hx.lc
  have cm := hx.cm
  have hyl : (xs.take n).length = min n xs.length := List.length_take
  have RD := Lib.hid (hx.rd.take n)
  clear hx
  have hy : (xs.take n).length ≤ 1000 := by omega
  have hyc : (xs.take n).length ≤ c := by omega
  generalize xs.take n = ys at RD hyl hy hyc ⊢
  go_enter Tryz.func11, Tryz.ntmps11
  go_upto_if 8 with fail
  go_cut [0] (fun lv wx => lv = .slice a ys.length c ∧ wx = w)
  case first =>
    by_cases h : n < xs.length
    · have e : ys.length = n := by omega
      have HE := Lib.hid e
      have h1 : decide ((xs.length : Int) > (n : Int)) = true := by simp; omega
      have h2 : (n : Int) ≤ (c : Int) := by omega
      clear e hyl
      go_wp2
      go_meet
      rw [HE.out]
      exact ⟨rfl, rfl⟩
    · have e : ys.length = xs.length := by omega
      have HE := Lib.hid e
      have h1 : decide ((xs.length : Int) > (n : Int)) = false := by simp; omega
      clear e hyl
      go_wp2
      go_meet
      rw [HE.out]
      exact ⟨rfl, rfl⟩
  obtain ⟨rfl, rfl⟩ := hcut
  clear hyl lc
  go_wp2_with (first
    | (at_builtin
       refine append_rd (U := wc) (.tmp 12) (.tmp 13) 22 3 _ 8 rfl rfl Tryz.underlying22 int_info16 rfl (by omega) (encI_len _) (encI_one _) [] ys _ a c rfl rfl ?_ (Own.new (encI_len _) (by simp) rfl #[] rfl (Nat.le_refl _) (by simp [maxLen])) (by repeat (first | exact RD.out | exact RD | refine Rd.ext ?_ _ | refine Rd.alloc ?_ _ | refine Rd.drew ?_)) (by first | (simp [maxLen]; done) | (simp [maxLen]; omega)) (by first | (simp; done) | (simp; omega)) ?_
       · (repeat' (first | (with_reducible exact Below.refl _ _) | (with_reducible refine Below.alloc ?_ ?_ _) | (with_reducible refine below_ext ?_ ?_ _) | (with_reducible refine Below.drew ?_) | (with_reducible refine below_drewN ?_ _) | (with_reducible refine Below.setCell ?_ ?_ _) | go_size | (simp only [go_sem]; omega) | (simp [go_sem]; done) | (simp [go_sem]; omega)))
       intro A' c' x3 zs hz hO))
  rw [List.nil_append] at hz
  subst hz
  go_wp2_with fail
  go_returns
  exact ⟨A', c', x3, rfl, rfl, hO⟩
end
def aw16L : List Int := [1, 3, 2, 1, 1]
def aw16S : PgS := resizeS ⟨[], 0⟩ 3 4
def aw16B : BxI := ⟨0, 0, 3, 4⟩
def aw16T : PgS := chS aw16S (chB (arB aw16S aw16B) aw16L true) (chF false (aw16L.drop 4))
theorem aw16_okS : aw16S.Ok := resizeS_ok _ _ _ (fun r hr => by cases hr)
theorem aw16_okT : aw16T.Ok := chS_ok aw16_okS (chF_ok _ _) _
theorem aw16_1 : chOk (arB aw16S aw16B) aw16L true = true := by decide +kernel
theorem aw16_2 : chOk (arB aw16T aw16B) aw16L false = false := by decide +kernel
theorem aw16_3 : chB (arB aw16T aw16B) aw16L false = [] := by
  unfold chB
  rw [if_neg (by decide), if_neg (by have := aw16_2; unfold chOk at this; rw [if_neg (by decide)] at this; rw [this]; decide)]
theorem aw16_d : aw16T.rows.length = 3 ∧ aw16T.cols = 4 := by decide +kernel
theorem aw16_a : (atS aw16T 0 2).r = 1 := by decide +kernel
theorem aw16_b : (atS aw16T 1 0).r = 1 := by decide +kernel
theorem aw16_c : (atS aw16T 0 1).r = 0 := by decide +kernel
theorem aw16_e : (atS aw16T 1 1).r = 0 := by decide +kernel
theorem aw16_call {w : World} {F : Nat → Prop} {p : Nat} {S : PgS} (h : PageAt w F p S) (hS : S.Ok) (w' : World) (q : Nat) (hb : Below w.heap.size w w') (hq : q = w'.heap.size) (st : Bool) :
    Calls Tryz.prog 27 #[.pointer (some ⟨p, 0, none⟩), boxV 0 0 3 4, .slice (some ⟨q, 0, none⟩) 5 5, .bool st, .bool false] (w'.alloc (.cells #[.int .i64 1, .int .i64 3, .int .i64 2, .int .i64 1, .int .i64 1] 3))
      (fun e w2 => e = .returned (.bool (chOk (arB S aw16B) aw16L st)) ∧ Did F p (chS S (chB (arB S aw16B) aw16L st) (chF false (aw16L.drop 4))) (w'.alloc (.cells #[.int .i64 1, .int .i64 3, .int .i64 2, .int .i64 1, .int .i64 1] 3)) w2) := by
  subst hq
  have hO : Own (encI .i64) 1 3 w'.heap.size (w'.alloc (.cells #[.int .i64 1, .int .i64 3, .int .i64 2, .int .i64 1, .int .i64 1] 3)) (.slice (some ⟨w'.heap.size, 0, none⟩) 5 5) aw16L := Own.new (encI_len .i64) rfl (rfl : (5 : Nat) = _) _ rfl (Nat.le_refl _) (by simp [maxLen, aw16L])
  obtain ⟨-, hN, hB⟩ := own_num hO (by decide)
  exact change_rect (h.grow (hb.alloc hb.size _)) hS (fun b hb2 => by have := h.lt b hb2; have := hb.size; simp; omega) hN (fun h0 q o e f => by have := hB h0 q o e; have := h.lt q f; have := hb.size; omega) aw16B st false
theorem cell16_f1 (g r : Int) (k : Bool) (w : World) : (Instr.field 60 (.agg #[.int .i32 g, .int .u8 r, .bool k]) 1).run Tryz.prog w = .ok (.int .u8 r) w := by kernel_rfl
attribute [local go_sem ↓] cell16_f1
set_option maxRecDepth 100000 in
set_option maxHeartbeats 8000000 in
theorem awake_16 (w : World) : Calls Tryz.prog 7 #[] w (Gives w (.bool true)) := by
  have NP := Lib.hid (fun w' => (by exact new_p 3 4 w' : Calls Tryz.prog 31 #[.int .i64 3, .int .i64 4] w' (NewPg aw16S w')))
  go_enter Tryz.func7, Tryz.ntmps7
  go_upto_region 2 with ((go_at_call 31); (with_reducible refine (NP.out _).mono ?_); (rintro _ _ ⟨p, F, x3, rfl, rfl, hFg, hPg⟩))
  have hbW := below_of_ext w x3
  generalize ext w x3 = w1 at hPg hbW ⊢
  have hPl := Lib.hid hPg.lt
  have BX := Lib.hid (fun w' (hb : Below w1.heap.size w1 w') => (by exact box_p (hPg.grow hb) : Calls Tryz.prog 24 #[.pointer (some ⟨p, 0, none⟩)] w' (Gives w' (boxV 0 0 3 4))))
  have C1 := Lib.hid (fun w' q hb hq => aw16_call hPg aw16_okS w' q hb hq true)
  rw [aw16_1, show chS aw16S (chB (arB aw16S aw16B) aw16L true) (chF false (aw16L.drop 4)) = aw16T from rfl] at C1
  have okT := aw16_okT
  have k2 := aw16_2
  have k3 := aw16_3
  have kd := aw16_d
  have ka := aw16_a
  have kb := aw16_b
  have kc := aw16_c
  have ke := aw16_e
  generalize aw16T = T at *
  replace hbW := Lib.hid hbW
  replace hFg := Lib.hid hFg
  clear NP hPg
  go_upto_region 4 with (first
    | (go_at_call 24; ((with_reducible refine (BX2.out _ (by (repeat' (first | (with_reducible exact Below.refl _ _) | (with_reducible refine Below.alloc ?_ ?_ _) | (with_reducible refine below_ext ?_ ?_ _) | (with_reducible refine Below.drew ?_) | (with_reducible refine below_drewN ?_ _) | (with_reducible refine Below.setCell ?_ ?_ _) | go_size | (simp only [go_sem]; omega) | (simp [go_sem]; done) | (simp [go_sem]; omega))))).mono ?_); rintro _ _ hgets; obtain ⟨rfl, x6, rfl⟩ := hgets.get; clear hgets))
    | (go_at_call 24; ((with_reducible refine (BX.out _ (by (repeat' (first | (with_reducible exact Below.refl _ _) | (with_reducible refine Below.alloc ?_ ?_ _) | (with_reducible refine below_ext ?_ ?_ _) | (with_reducible refine Below.drew ?_) | (with_reducible refine below_drewN ?_ _) | (with_reducible refine Below.setCell ?_ ?_ _) | go_size | (simp only [go_sem]; omega) | (simp [go_sem]; done) | (simp [go_sem]; omega))))).mono ?_); rintro _ _ hgets; obtain ⟨rfl, x4, rfl⟩ := hgets.get; clear hgets))
    | ((go_at_call 27); (with_reducible refine (C2.out _ _ (by (repeat' (first | (with_reducible exact Below.refl _ _) | (with_reducible refine Below.alloc ?_ ?_ _) | (with_reducible refine below_ext ?_ ?_ _) | (with_reducible refine Below.drew ?_) | (with_reducible refine below_drewN ?_ _) | (with_reducible refine Below.setCell ?_ ?_ _) | go_size | (simp only [go_sem]; omega) | (simp [go_sem]; done) | (simp [go_sem]; omega)))) (by simp [go_sem])).mono ?_); (rintro _ w5 ⟨rfl, hD⟩); (have hD1 := Did.back hD (show Below w3.heap.size w3 ((ext w3 x6).alloc (.cells #[.int .i64 1, .int .i64 3, .int .i64 2, .int .i64 1, .int .i64 1] 3)) by (repeat' (first | (with_reducible exact Below.refl _ _) | (with_reducible refine Below.alloc ?_ ?_ _) | (with_reducible refine below_ext ?_ ?_ _) | (with_reducible refine Below.drew ?_) | (with_reducible refine below_drewN ?_ _) | (with_reducible refine Below.setCell ?_ ?_ _) | go_size | (simp only [go_sem]; omega) | (simp [go_sem]; done) | (simp [go_sem]; omega)))) hP3l.out); (have hP5 := Lib.hid hD1.2); (have hb5 := Lib.hid (hb3.out.trans (hD1.1.below (B := w.heap.size) hFg3.out hb3.out.size))); (clear hD hD1 C2 BX2 hP3 hP3l))
    | ((go_at_call 27); (with_reducible refine (C1.out _ _ (by (repeat' (first | (with_reducible exact Below.refl _ _) | (with_reducible refine Below.alloc ?_ ?_ _) | (with_reducible refine below_ext ?_ ?_ _) | (with_reducible refine Below.drew ?_) | (with_reducible refine below_drewN ?_ _) | (with_reducible refine Below.setCell ?_ ?_ _) | go_size | (simp only [go_sem]; omega) | (simp [go_sem]; done) | (simp [go_sem]; omega)))) (by simp [go_sem])).mono ?_); (rintro _ w3 ⟨rfl, hD⟩); (have hD1 := Did.back hD (show Below w1.heap.size w1 ((ext w1 x4).alloc (.cells #[.int .i64 1, .int .i64 3, .int .i64 2, .int .i64 1, .int .i64 1] 3)) by (repeat' (first | (with_reducible exact Below.refl _ _) | (with_reducible refine Below.alloc ?_ ?_ _) | (with_reducible refine below_ext ?_ ?_ _) | (with_reducible refine Below.drew ?_) | (with_reducible refine below_drewN ?_ _) | (with_reducible refine Below.setCell ?_ ?_ _) | go_size | (simp only [go_sem]; omega) | (simp [go_sem]; done) | (simp [go_sem]; omega)))) hPl.out); (have hP3 := hD1.2); (have hb3 := Lib.hid (hbW.out.trans (hD1.1.below (B := w.heap.size) (fun b hb => hFg.out b hb) hbW.out.size))); (have hP3l := Lib.hid hP3.lt); (have hFg3 := Lib.hid (fun b (hb : more F w1 w3 b) => hb.elim (hFg.out b) (fun e => Nat.le_trans hbW.out.size e.1))); (have BX2 := Lib.hid (fun w' (hb : Below w3.heap.size w3 w') => (by have := box_p (hP3.grow hb); rw [kd.1, kd.2] at this; exact this : Calls Tryz.prog 24 #[.pointer (some ⟨p, 0, none⟩)] w' (Gives w' (boxV 0 0 3 4))))); (have C2 := Lib.hid (fun w' q hb hq => (by have := aw16_call hP3 okT w' q hb hq false; rw [k2, k3] at this; exact this))); (clear hD hD1 C1 BX); (replace hP3 := Lib.hid hP3)))
  replace hP5 : Hid (PageAt w5 _ p T) := hP5
  generalize more (more F w1 w3) w3 w5 = F5 at hP5
  have A1 := Lib.hid (fun w' (hb : Below w5.heap.size w5 w') => at_p (hP5.out.grow hb) okT 0 2)
  have A2 := Lib.hid (fun w' (hb : Below w5.heap.size w5 w') => at_p (hP5.out.grow hb) okT 1 0)
  have A3 := Lib.hid (fun w' (hb : Below w5.heap.size w5 w') => at_p (hP5.out.grow hb) okT 0 1)
  have A4 := Lib.hid (fun w' (hb : Below w5.heap.size w5 w') => at_p (hP5.out.grow hb) okT 1 1)
  generalize atS T 0 2 = y1 at A1 ka
  generalize atS T 1 0 = y2 at A2 kb
  generalize atS T 0 1 = y3 at A3 kc
  generalize atS T 1 1 = y4 at A4 ke
  obtain ⟨g1, r1, k1⟩ := y1
  obtain ⟨g2, r2, k2'⟩ := y2
  obtain ⟨g3, r3, k3'⟩ := y3
  obtain ⟨g4, r4, k4⟩ := y4
  simp only at ka kb kc ke
  subst ka kb kc ke
  simp only [cellV] at A1 A2 A3 A4
  clear hP5 hPl hbW hFg hb3 hFg3
  go_wp2_with (first
    | (go_at_call 21; ((with_reducible refine (A1.out _ (by (repeat' (first | (with_reducible exact Below.refl _ _) | (with_reducible refine Below.alloc ?_ ?_ _) | (with_reducible refine below_ext ?_ ?_ _) | (with_reducible refine Below.drew ?_) | (with_reducible refine below_drewN ?_ _) | (with_reducible refine Below.setCell ?_ ?_ _) | go_size | (simp only [go_sem]; omega) | (simp [go_sem]; done) | (simp [go_sem]; omega))))).mono ?_); rintro _ _ hgets; obtain ⟨rfl, x7, rfl⟩ := hgets.get; clear hgets))
    | (go_at_call 21; ((with_reducible refine (A2.out _ (by (repeat' (first | (with_reducible exact Below.refl _ _) | (with_reducible refine Below.alloc ?_ ?_ _) | (with_reducible refine below_ext ?_ ?_ _) | (with_reducible refine Below.drew ?_) | (with_reducible refine below_drewN ?_ _) | (with_reducible refine Below.setCell ?_ ?_ _) | go_size | (simp only [go_sem]; omega) | (simp [go_sem]; done) | (simp [go_sem]; omega))))).mono ?_); rintro _ _ hgets; obtain ⟨rfl, x8, rfl⟩ := hgets.get; clear hgets))
    | (go_at_call 21; ((with_reducible refine (A3.out _ (by (repeat' (first | (with_reducible exact Below.refl _ _) | (with_reducible refine Below.alloc ?_ ?_ _) | (with_reducible refine below_ext ?_ ?_ _) | (with_reducible refine Below.drew ?_) | (with_reducible refine below_drewN ?_ _) | (with_reducible refine Below.setCell ?_ ?_ _) | go_size | (simp only [go_sem]; omega) | (simp [go_sem]; done) | (simp [go_sem]; omega))))).mono ?_); rintro _ _ hgets; obtain ⟨rfl, x9, rfl⟩ := hgets.get; clear hgets))
    | (go_at_call 21; ((with_reducible refine (A4.out _ (by (repeat' (first | (with_reducible exact Below.refl _ _) | (with_reducible refine Below.alloc ?_ ?_ _) | (with_reducible refine below_ext ?_ ?_ _) | (with_reducible refine Below.drew ?_) | (with_reducible refine below_drewN ?_ _) | (with_reducible refine Below.setCell ?_ ?_ _) | go_size | (simp only [go_sem]; omega) | (simp [go_sem]; done) | (simp [go_sem]; omega))))).mono ?_); rintro _ _ hgets; obtain ⟨rfl, x10, rfl⟩ := hgets.get; clear hgets)))
  go_returns
  exact ⟨rfl, hb5.out.trans (Below.mono (B := w5.heap.size) (by (repeat' (first | (with_reducible exact Below.refl _ _) | (with_reducible refine Below.alloc ?_ ?_ _) | (with_reducible refine below_ext ?_ ?_ _) | (with_reducible refine Below.drew ?_) | (with_reducible refine below_drewN ?_ _) | (with_reducible refine Below.setCell ?_ ?_ _) | go_size | (simp only [go_sem]; omega) | (simp [go_sem]; done) | (simp [go_sem]; omega)))) hb5.out.size)⟩
end Go.Proofs.YtignkkejkknddaaGreat
/- a book while its pages are changed.  -/
namespace Go.Proofs.YtignkkejkknddaaGreat
open Go.RowKit
set_option linter.unusedVariables false
set_option linter.unusedSimpArgs false

section
variable {w w' : World} {F G : Nat → Prop} {b i : Nat} {S T : BkS} {V : Value} {ps ps' : List PgR} {st st' r r' : PgR}
theorem BkO.ptr (h : BkO w F b S V ps st) (h' : BkO w' G b T V ps' st') (h0 : 0 < S.pages.length) (hk : ∀ x, V.ownBlock = some x → w'.heap[x]? = w.heap[x]?) (hr : ps[i]? = some r) (hr' : ps'[i]? = some r') : r'.p = r.p := by
  obtain ⟨L, c, rfl, -, -⟩ := h.form1 h0
  have c1 := (h.cell hr).1
  have c2 := (h'.cell hr').1
  rw [cell_of_heap (hk L rfl), c1] at c2
  injection c2 with c2
  unfold PgR.v at c2
  injection c2 with c2
  injection c2 with c2
  injection c2 with c2 _
  exact c2.symm
end
/-- a book, since a world; its pages' places -/
structure BkM (w0 : World) (F : Nat → Prop) (b : Nat) (pp : Nat → Nat) (T : BkS) (wr : World) : Prop where
  keep : Keep F w0 wr
  ok : T.Ok
  ex : ∃ V ps st F', BkO wr F' b T V ps st ∧ (∀ x, F' x → F x ∨ w0.heap.size ≤ x) ∧ ∀ i r, ps[i]? = some r → r.p = pp i
section
variable {w0 wr wz w1 w2 : World} {F : Nat → Prop} {b i : Nat} {pp : Nat → Nat} {T : BkS}
theorem BkM.start {V : Value} {ps : List PgR} {st : PgR} (h : BkO w0 F b T V ps st) (hT : T.Ok) : ∃ pp, BkM w0 F b pp T w0 :=
  ⟨fun i => (ps[i]?.map PgR.p).getD 0, Keep.refl _ _, hT, V, ps, st, F, h, fun x hx => .inl hx, fun i r hr => by simp [hr]⟩
theorem BkM.grow (h : BkM w0 F b pp T wr) (hb : Below wr.heap.size wr wz) : BkM w0 F b pp T wz := by
  obtain ⟨k, ok, V, ps, st, F', h1, h2, h3⟩ := h
  exact ⟨k.trans (Keep.of_below (F := F) hb) (fun x hx => .inl hx), ok, V, ps, st, F', h1.grow hb, h2, h3⟩
theorem BkM.page (h : BkM w0 F b pp T wr) (i : Nat) (hi : i < T.pages.length) (w' : World) (hb : Below wr.heap.size wr w') : Calls Tryz.prog 17 #[ptrV b, .int .i64 i] w' (Gives w' (ptrV (pp i))) := by
  obtain ⟨k, ok, V, ps, st, F', h1, h2, h3⟩ := h
  obtain ⟨r, hr, -, -⟩ := h1.get hi
  rw [← h3 i r hr]
  exact page_b (h1.grow hb) ok hr
theorem BkM.deed (h : BkM w0 F b pp T wr) (i : Nat) (hi : i < T.pages.length) : ∃ G, PageAt wr G (pp i) T.pages[i] ∧ (∀ x, G x → F x ∨ w0.heap.size ≤ x) ∧
    ∀ w1 w2 P, P.Ok → Below wr.heap.size wr w1 → Did G (pp i) P w1 w2 → BkM w0 F b pp (T.set i P) w2 := by
  obtain ⟨k, ok, V, ps, st, F', h1, h2, h3⟩ := h
  obtain ⟨r, hr, hr', hP⟩ := h1.get hi
  have e := h3 i r hr
  refine ⟨r.F, by rw [← e]; exact hP, fun x hx => h2 x (h1.inF r (List.mem_of_getElem? hr') x hx), fun w1 w2 P hPk hb hD => ?_⟩
  rw [← e] at hD
  have hD' := Did.back hD hb hP.lt
  obtain ⟨hk, ps', st', h5⟩ := h1.act hr' hD'
  refine ⟨k.trans hk h2, ok.set i hPk, V, ps', st', _, h5, fun x hx => ?_, fun j q hq => ?_⟩
  · rcases hx with hx | hx
    · exact h2 x hx
    · exact .inr (Nat.le_trans k.size hx.1)
  · have hlen : ps'.length = ps.length := by rw [h5.len, h1.len, BkS.set_len]
    have hj : j < ps.length := by rw [← hlen]; exact (List.getElem?_eq_some_iff.1 hq).1
    have e2 := h1.ptr h5 (by omega) (fun x hx => hD'.1.block x (h1.lt x (h1.list x hx)) (h1.offV r (List.mem_of_getElem? hr') x hx)) (List.getElem?_eq_getElem hj) hq
    rw [e2]
    exact h3 j _ (List.getElem?_eq_getElem hj)
/-- a change of one of its pages -/
theorem BkM.change (h : BkM w0 F b pp T wr) (i : Nat) (hi : i < T.pages.length) {a : Option Addr} {c : Nat} {xs : List Int} (hx : NumL w0 a c xs) (hA : 0 < xs.length → ∀ q o, a = some ⟨q, o, none⟩ → ¬ F q) (x : BxI) (st fl : Bool) (w' : World) (hb : Below wr.heap.size wr w') :
    Calls Tryz.prog 27 #[ptrV (pp i), boxV x.t x.l x.b x.r, .slice a xs.length c, .bool st, .bool fl] w' (fun e w2 => e = .returned (.bool (chOk (arB T.pages[i] x) xs st)) ∧ BkM w0 F b pp (T.set i (chS T.pages[i] (chB (arB T.pages[i] x) xs st) (chF fl (xs.drop 4)))) w2) := by
  obtain ⟨G, h1, h2, h3⟩ := h.deed i hi
  have okP := h.ok.pg _ (List.getElem_mem hi)
  have hk := (h.grow hb).keep
  have hx' : NumL w' a c xs := ⟨Rd.keep' hx.rd hk hA, hx.lc, hx.cm, hx.hi⟩
  refine (change_rect (h1.grow hb) okP (fun q f => Nat.lt_of_lt_of_le (h1.lt q f) hb.size) hx' (fun h0 q o e f => ?_) x st fl).mono ?_
  · rcases h2 q f with g | g
    · exact hA h0 q o e g
    · obtain ⟨b', o', e', hlt, -⟩ := hx.rd h0
      rw [e] at e'
      injection e' with e'
      injection e' with e1 e2
      omega
  · rintro e w2 ⟨rfl, hD⟩
    exact ⟨rfl, h3 w' w2 _ (chS_ok okP (chF_ok _ _) _) hb hD⟩
theorem BkM.at (h : BkM w0 F b pp T wr) (i : Nat) (hi : i < T.pages.length) (r c : Int) (w' : World) (hb : Below wr.heap.size wr w') : Calls Tryz.prog 21 #[ptrV (pp i), .agg #[.int .i64 r, .int .i64 c]] w' (Gives w' (cellV (atS T.pages[i] r c))) := by
  obtain ⟨G, h1, -, -⟩ := h.deed i hi
  exact at_p (h1.grow hb) (h.ok.pg _ (List.getElem_mem hi)) r c
end
end Go.Proofs.YtignkkejkknddaaGreat
/- rect.Change, by place: plain.  -/
namespace Go.Proofs.YtignkkejkknddaaGreat
open Go.RowKit
set_option linter.unusedVariables false
set_option linter.unusedSimpArgs false

theorem num_at (xs : List Int) (j : Int) (h : 0 ≤ j) : num0 xs 0 j = at0 xs j := by
  unfold num0 at0
  rw [if_neg (by omega), if_neg (by omega)]
  simp
/-- is a place changed? -/
def chIn (y : BxI) (xs : List Int) (st : Bool) (i k : Nat) : Bool := if st = true then stOk y xs && inSt y xs i k else reOk y xs 0 && decide ((reB y xs 0).t ≤ i ∧ (i : Int) < (reB y xs 0).b ∧ (reB y xs 0).l ≤ k ∧ (k : Int) < (reB y xs 0).r)
theorem chS_str {S : PgS} (hS : S.Ok) (y : BxI) (xs : List Int) {f : Cl → Cl} (hf : ∀ c, c.ok → (f c).ok) : ∀ j : Nat, (j : Int) ≤ stB y xs - stT y xs → chS S ((List.range j).map fun i : Nat => stBox y xs (stT y xs + (i : Int))) f = strJ S y xs f j
  | 0, _ => by rw [strJ_zero]; rfl
  | j + 1, h => by
    rw [← stBoxes_take, chS_snoc, chS_str hS y xs hf j (by omega), strJ_len, show (strJ S y xs f j).cols = S.cols from rfl]
    exact strJ_step hS hf (by omega)
theorem chS_form {S : PgS} (hS : S.Ok) (y : BxI) (xs : List Int) (st : Bool) {f : Cl → Cl} (hf : ∀ c, c.ok → (f c).ok) : chS S (chB y xs st) f = mapS S (fun i k c => if chIn y xs st i k = true then f c else c) := by
  cases st
  · unfold chB chIn
    simp only [Bool.false_eq_true, if_false]
    by_cases h : reOk y xs 0 = true
    · rw [if_pos h]
      show eachS S (onB S.rows.length S.cols (reB y xs 0)) (fun zs l r => eachR zs l r f) = _
      rw [each_map hS]
      refine mapS_congr fun i hi k hk => ?_
      rw [h, Bool.true_and]
      by_cases q : (reB y xs 0).t ≤ i ∧ (i : Int) < (reB y xs 0).b ∧ (reB y xs 0).l ≤ k ∧ (k : Int) < (reB y xs 0).r
      · rw [if_pos q, if_pos (decide_eq_true q)]
      · rw [if_neg q, if_neg (by rw [decide_eq_false q]; decide)]
    · rw [if_neg h]
      have h' : reOk y xs 0 = false := by simpa using h
      show S = _
      exact (mapS_id fun i hi k hk => by rw [h']; simp).symm
  · unfold chB chIn flB
    simp only [if_true]
    by_cases h : stOk y xs = true
    · rw [if_pos h]
      have hp : stT y xs < stB y xs := by
        unfold stOk stPre at h
        simp only [Bool.and_eq_true, decide_eq_true_eq] at h
        exact h.1.2.2.2.2.2.2.1
      unfold stBoxes
      rw [chS_str hS y xs hf _ (by omega), strJ_end]
      unfold strS
      refine mapS_congr fun i hi k hk => ?_
      rw [h, Bool.true_and]
    · rw [if_neg h]
      have h' : stOk y xs = false := by simpa using h
      show S = _
      exact (mapS_id fun i hi k hk => by rw [h']; simp).symm
end Go.Proofs.YtignkkejkknddaaGreat
/- phosphorref16: Area, page, Sum.  -/
namespace Go.Proofs.YtignkkejkknddaaGreat
open Go.RowKit
set_option linter.unusedVariables false
set_option linter.unusedSimpArgs false

section
variable {w : World} {P : PgS} {U : Value}
set_option maxRecDepth 100000 in
theorem area16_c (h : RefV w U P) (x : BxI) : Calls Tryz.prog 46 #[U, boxV x.t x.l x.b x.r] w (Gives w (boxV (arB P x).t (arB P x).l (arB P x).b (arB P x).r)) := by
  have BX := Lib.hid (fun w' (hb : Below w.heap.size w w') => refbox_c U P w' (h.grow hb))
  have M := Lib.hid (fun w' => meet_r x.t x.l x.b x.r 0 0 P.rows.length P.cols w')
  rw [onB_v, show onB P.rows.length P.cols x = arB P x from rfl] at M
  obtain ⟨A, c, rows, rfl, hl, hv, hn⟩ := h.op
  clear h hl hv hn
  generalize arB P x = y at M ⊢
  obtain ⟨t, l, b, r⟩ := x
  obtain ⟨t', l', b', r'⟩ := y
  simp only at M ⊢
  go_enter Tryz.func46, Tryz.ntmps46
  go_wp2
  (refine wp_region_tail 4 (by kernel_rfl) (by kernel_rfl) ?_; simp only [List.take_succ_cons, List.take_zero, List.drop_succ_cons, List.drop_zero])
  repeat (go_big_quiet_step (first | ((go_at_call 9; with_reducible exact Calls.free (BX.out _ (by (repeat' (first | (with_reducible exact Below.refl _ _) | (with_reducible refine Below.alloc ?_ ?_ _) | (with_reducible refine below_ext ?_ ?_ _) | (with_reducible refine Below.drew ?_) | (with_reducible refine below_drewN ?_ _) | (with_reducible refine Below.setCell ?_ ?_ _) | go_size | (simp only [go_sem]; omega) | (simp [go_sem]; done) | (simp [go_sem]; omega))))))) | ((go_at_call 95; with_reducible exact Calls.free (M.out _)))))
  refine wpQuiet_nil ?_; rintro _ ⟨x1, rfl⟩
  go_wp2
  go_returns
  exact ⟨rfl, by (repeat' (first | (with_reducible exact Below.refl _ _) | (with_reducible refine Below.alloc ?_ ?_ _) | (with_reducible refine below_ext ?_ ?_ _) | (with_reducible refine Below.drew ?_) | (with_reducible refine below_drewN ?_ _) | (with_reducible refine Below.setCell ?_ ?_ _) | go_size | (simp only [go_sem]; omega) | (simp [go_sem]; done) | (simp [go_sem]; omega)))⟩
end
def pgI (n : Nat) (k : Int) : Int := if k < 0 then -1 else if k = 0 then 0 else if (n : Int) < k then n - 1 else k - 1
theorem pgI_nb (S : BkS) {k : Int} (hp : 1 ≤ S.pages.length) (h : 0 ≤ k) : pgI S.pages.length k = nbI S k := by
  unfold pgI nbI
  rw [if_neg (by omega)]
  split
  · omega
  · split <;> omega
theorem page16_c (A : Option Addr) (n c : Nat) (sA : Option Addr) (sm sc : Nat) (sn nw : Int) (bl : Bool) (k : Int) (w : World) (hn : n ≤ 1000) (hk : k ≤ 9223372036854775807) : Calls Tryz.prog 48 #[.agg (rbA A n c sA sm sc sn nw bl), .int .i64 k] w (Gives w (.int .i64 (pgI n k))) := by
  have hw1 : IntKind.i64.wrap ((n : Int) - 1) = n - 1 := wrap_i64 (by omega) (by omega)
  by_cases h1 : k < 0
  · have hv : pgI n k = -1 := by unfold pgI; rw [if_pos h1]
    rw [hv]
    clear hv
    go_enter Tryz.func48, Tryz.ntmps48
    go_wp2
    go_returns
    exact ⟨rfl, by (repeat' (first | (with_reducible exact Below.refl _ _) | (with_reducible refine Below.alloc ?_ ?_ _) | (with_reducible refine below_ext ?_ ?_ _) | (with_reducible refine Below.drew ?_) | (with_reducible refine below_drewN ?_ _) | (with_reducible refine Below.setCell ?_ ?_ _) | go_size | (simp only [go_sem]; omega) | (simp [go_sem]; done) | (simp [go_sem]; omega)))⟩
  · have hw2 : IntKind.i64.wrap (k - 1) = k - 1 := wrap_i64 (by omega) (by omega)
    by_cases h2 : k = 0
    · subst h2
      have hv : pgI n 0 = 0 := by unfold pgI; rw [if_neg (by omega), if_pos rfl]
      rw [hv]
      clear hv
      go_enter Tryz.func48, Tryz.ntmps48
      go_wp2
      go_returns
      exact ⟨rfl, by (repeat' (first | (with_reducible exact Below.refl _ _) | (with_reducible refine Below.alloc ?_ ?_ _) | (with_reducible refine below_ext ?_ ?_ _) | (with_reducible refine Below.drew ?_) | (with_reducible refine below_drewN ?_ _) | (with_reducible refine Below.setCell ?_ ?_ _) | go_size | (simp only [go_sem]; omega) | (simp [go_sem]; done) | (simp [go_sem]; omega)))⟩
    · have hd : (k == 0) = false := by simp [h2]
      have hd1 : decide (k < 0) = false := by simp; omega
      by_cases h3 : (n : Int) < k
      · have hv : pgI n k = n - 1 := by unfold pgI; rw [if_neg h1, if_neg h2, if_pos h3]
        have hd3 : decide (k > (n : Int)) = true := by simp; omega
        rw [hv]
        clear hv
        go_enter Tryz.func48, Tryz.ntmps48
        go_wp2
        go_returns
        exact ⟨rfl, by (repeat' (first | (with_reducible exact Below.refl _ _) | (with_reducible refine Below.alloc ?_ ?_ _) | (with_reducible refine below_ext ?_ ?_ _) | (with_reducible refine Below.drew ?_) | (with_reducible refine below_drewN ?_ _) | (with_reducible refine Below.setCell ?_ ?_ _) | go_size | (simp only [go_sem]; omega) | (simp [go_sem]; done) | (simp [go_sem]; omega)))⟩
      · have hv : pgI n k = k - 1 := by unfold pgI; rw [if_neg h1, if_neg h2, if_neg h3]
        have hd3 : decide (k > (n : Int)) = false := by simp; omega
        rw [hv]
        clear hv
        go_enter Tryz.func48, Tryz.ntmps48
        go_wp2
        go_returns
        exact ⟨rfl, by (repeat' (first | (with_reducible exact Below.refl _ _) | (with_reducible refine Below.alloc ?_ ?_ _) | (with_reducible refine below_ext ?_ ?_ _) | (with_reducible refine Below.drew ?_) | (with_reducible refine below_drewN ?_ _) | (with_reducible refine Below.setCell ?_ ?_ _) | go_size | (simp only [go_sem]; omega) | (simp [go_sem]; done) | (simp [go_sem]; omega)))⟩
/-- the pages summed so far -/
def visK (S : BkS) (n : Int) (k : Nat) : List PgS := if n = 0 then S.pages.take k else if nbI S n < k then [S.pgAt (nbI S n)] else []
theorem visK_zero {S : BkS} (hS : S.Ok) (n : Int) : visK S n 0 = [] := by
  have := nbI_in hS n
  unfold visK
  split
  · simp
  · rw [if_neg (by omega)]
theorem visK_end {S : BkS} (hS : S.Ok) (n : Int) : visK S n S.pages.length = smP S n := by
  have := nbI_in hS n
  unfold visK smP
  split
  · simp
  · rw [if_pos (by omega)]
theorem visK_yes {S : BkS} (hS : S.Ok) {n : Int} {k : Nat} (hk : k < S.pages.length) (h : n = 0 ∨ (k : Int) = nbI S n) : visK S n (k + 1) = visK S n k ++ [S.pages[k]] := by
  unfold visK
  by_cases h0 : n = 0
  · rw [if_pos h0, if_pos h0, List.take_succ_eq_append_getElem hk]
  · have e : (k : Int) = nbI S n := h.resolve_left h0
    rw [if_neg h0, if_neg h0, if_pos (by omega), if_neg (by omega), ← e]
    simp [BkS.pgAt, hk]
theorem visK_no {S : BkS} {n : Int} {k : Nat} (h0 : n ≠ 0) (h : (k : Int) ≠ nbI S n) : visK S n (k + 1) = visK S n k := by
  unfold visK
  rw [if_neg h0, if_neg h0]
  by_cases h1 : nbI S n < k
  · rw [if_pos h1, if_pos (by omega)]
  · rw [if_neg h1, if_neg (by omega)]
/-- what rows of cells add up to -/
def smT (cs : List (List Cl)) : Int := (cs.map sumW).sum
theorem smT_snoc (cs ds : List (List Cl)) : smT (cs ++ ds) = smT cs + smT ds := by simp [smT]
theorem smT_take (cs : List (List Cl)) (j : Nat) (h : j < cs.length) : smT (cs.take (j + 1)) = smT (cs.take j) + sumW cs[j] := by
  unfold smT
  rw [List.take_succ_eq_append_getElem h, List.map_append, List.sum_append]
  simp
theorem smI_T (cs : List (List Cl)) : smI cs = (65536 - smT cs % 65536) % 65536 := rfl
theorem arB_0 {S : BkS} (hS : S.Ok) (x : BxI) : arB (S.pages[0]'hS.p1) x = arK S x := by
  have := hS.p1
  have e : S.pages.getD 0 S.status = S.pages[0]'hS.p1 := by rw [List.getD_eq_getElem?_getD, List.getElem?_eq_getElem (by omega)]; rfl
  unfold arB arK BkS.rows BkS.cols
  rw [e]
section
variable {w : World} {F : Nat → Prop} {S : BkS} {U : Value} {a : Option Addr} {c : Nat} {xs : List Int}
set_option maxRecDepth 100000 in
set_option maxHeartbeats 16000000 in
theorem sum16_c (h : RBk w F U S) (hS : S.Ok) (hx : NumL w a c xs) (x : BxI) :
    Calls Tryz.prog 12 #[U, boxV x.t x.l x.b x.r, .slice a xs.length c] w (Gives w (.tuple #[.int .i64 (smV S x xs), .bool (smOk (arK S x) xs)])) := by
  have hbd : (0 ≤ (arK S x).t ∧ (arK S x).t ≤ 500) ∧ (0 ≤ (arK S x).l ∧ (arK S x).l ≤ 500) ∧ (0 ≤ (arK S x).b ∧ (arK S x).b ≤ 500) ∧ (0 ≤ (arK S x).r ∧ (arK S x).r ≤ 500) := by
    have := onB_in S.rows S.cols x
    have := BkS.rows_le hS
    unfold arK
    omega
  obtain ⟨⟨ht0, ht1⟩, ⟨hl0, hl1⟩, ⟨hb0, hb1⟩, ⟨hr0, hr1⟩⟩ := hbd
  have hp1 := hS.p1
  have hp0 : 0 < S.pages.length := hp1
  have hp2 := hS.p2
  obtain ⟨A, c0, us, ⟨sA, sm, sc, sn⟩, rfl, ho⟩ := h
  obtain ⟨⟨rA, rm, rc, rn⟩, L, o, -, rfl, hP0, d0, d1, hL⟩ := ho.ps.get hp1
  simp only [RPg.V, RPg.v, Nat.zero_mul, Nat.add_zero] at d0 d1 hP0 ⊢
  have AR := Lib.hid (fun w' (hb : Below w.heap.size w w') => area16_c (hP0.grow hb).v x)
  rw [arB_0 hS x] at AR
  have RC : Hid (∀ w', Below w.heap.size w w' → Calls Tryz.prog 13 #[boxV (arK S x).t (arK S x).l (arK S x).b (arK S x).r, .slice a xs.length c, .int .i64 1] w' (Gives w' (.tuple #[boxV (reB (arK S x) xs 1).t (reB (arK S x) xs 1).l (reB (arK S x) xs 1).b (reB (arK S x) xs 1).r, .bool (reOk (arK S x) xs 1)]))) := Lib.hid (fun w' hb => rect_r _ _ _ _ a c xs 1 w' (by omega) (by omega) (by omega) (by omega) (hx.grow hb).rd (Nat.le_trans hx.lc hx.cm) hx.hi)
  have NB0 := Lib.hid (fun w' (h : Below w.heap.size w w') => number_r a c xs 0 0 w' (hx.grow h).rd (Nat.le_trans hx.lc hx.cm) (by omega))
  rw [num_at _ _ (by omega)] at NB0
  have GT := Lib.hid (fun (i : Nat) (hi : i < S.pages.length) => ho.ps.get hi)
  have okp := Lib.hid hS.pg
  have VE : smV S x xs = if smOk (arK S x) xs = true then smI (smCells (smP S (at0 xs 0)) (reB (arK S x) xs 1)) else 0 := rfl
  have OE : smOk (arK S x) xs = (reOk (arK S x) xs 1 && decide (0 ≤ at0 xs 0)) := rfl
  have VZ := Lib.hid (visK_zero hS (at0 xs 0))
  have VEN := Lib.hid (visK_end hS (at0 xs 0))
  have VY := Lib.hid (fun (k : Nat) (hk : k < S.pages.length) (h : at0 xs 0 = 0 ∨ (k : Int) = nbI S (at0 xs 0)) => visK_yes hS hk h)
  have VN := Lib.hid (fun (k : Nat) (h0 : at0 xs 0 ≠ 0) (h : (k : Int) ≠ nbI S (at0 xs 0)) => visK_no (S := S) h0 h)
  have PG := Lib.hid (fun (h0 : 0 ≤ at0 xs 0) w' => pgI_nb S hp1 h0 ▸ page16_c (some ⟨L, o, none⟩) S.pages.length c0 sA sm sc sn S.now S.below (at0 xs 0) w' (by omega) (by have := num0_le hx.hi 0 0; rw [num_at _ _ (by omega)] at this; exact this))
  have hnb := nbI_in hS (at0 xs 0)
  generalize smV S x xs = sv at VE ⊢
  generalize smOk (arK S x) xs = ok at VE OE ⊢
  generalize smP S (at0 xs 0) = Ps at *
  generalize nbI S (at0 xs 0) = nb at *
  generalize hq : reB (arK S x) xs 1 = q at *
  clear hq
  generalize reOk (arK S x) xs 1 = k1 at *
  generalize arK S x = z at *
  generalize visK S (at0 xs 0) = vis at *
  generalize at0 xs 0 = n0 at *
  obtain ⟨xt, xl, xb, xr⟩ := x
  obtain ⟨zt, zl, zb, zr⟩ := z
  simp only at AR RC
  replace VE := Lib.hid VE
  replace OE := Lib.hid OE
  clear ho hx hS hP0
  go_enter Tryz.func12, Tryz.ntmps12
  go_upto_region 1 with fail
  obtain ⟨qt, ql, qb, qr⟩ := q
  generalize hW : ((w.alloc (.cells #[.slice (some ⟨L, o, none⟩) S.pages.length c0, .slice sA sm sc, .int .i64 sn, .int .i64 S.now, .bool S.below] 41)).alloc (.cells #[.int .i64 xt, .int .i64 xl, .int .i64 xb, .int .i64 xr] 31)) = W
  have hlt : w.heap.size + 1 < W.heap.size := by subst hW; simp [go_sem]
  have hB : Below w.heap.size w W := by subst hW; (repeat' (first | (with_reducible exact Below.refl _ _) | (with_reducible refine Below.alloc ?_ ?_ _) | (with_reducible refine below_ext ?_ ?_ _) | (with_reducible refine Below.drew ?_) | (with_reducible refine below_drewN ?_ _) | (with_reducible refine Below.setCell ?_ ?_ _) | go_size | (simp only [go_sem]; omega) | (simp [go_sem]; done) | (simp [go_sem]; omega)))
  have b0 : W.heap[w.heap.size]? = some (.cells #[.slice (some ⟨L, o, none⟩) S.pages.length c0, .slice sA sm sc, .int .i64 sn, .int .i64 S.now, .bool S.below] 41 (0, 0)) := by subst hW; exact al0 _ _ _
  have b1 : W.heap[w.heap.size + 1]? = some (.cells #[.int .i64 xt, .int .i64 xl, .int .i64 xb, .int .i64 xr] 31 (0, 0)) := by subst hW; exact al1 _ _ _
  clear hW
  have KS : ∀ w', Below W.heap.size W w' → w'.cell? ⟨w.heap.size, 0, none⟩ = some (.slice (some ⟨L, o, none⟩) S.pages.length c0) ∧ w'.cell? ⟨w.heap.size + 1, 0, none⟩ = some (.int .i64 xt) ∧ w'.cell? ⟨w.heap.size + 1, 1, none⟩ = some (.int .i64 xl) ∧ w'.cell? ⟨w.heap.size + 1, 2, none⟩ = some (.int .i64 xb) ∧ w'.cell? ⟨w.heap.size + 1, 3, none⟩ = some (.int .i64 xr) ∧ w'.cell? ⟨L, o, none⟩ = some (.slice rA rm rc) ∧ w'.cell? ⟨L, o + 1, none⟩ = some (.int .i64 rn) := fun w' h => by
    have h0 := (h.block _ (by omega : w.heap.size < W.heap.size)).trans b0
    have h1 := (h.block _ hlt).trans b1
    have h2 := hB.trans (h.mono hB.size)
    refine ⟨by rw [cell_in h0]; rfl, by rw [cell_in h1]; rfl, by rw [cell_in h1]; rfl, by rw [cell_in h1]; rfl, by rw [cell_in h1]; rfl, (h2.cell (p := ⟨L, _, none⟩) hL).trans d0, (h2.cell (p := ⟨L, _, none⟩) hL).trans d1⟩
  have hBW := Lib.hid (fun w' (h : Below W.heap.size W w') => hB.trans (h.mono hB.size))
  go_cut [8, 9] (fun v8 v9 wx => ∃ g, v8 = .pointer (some ⟨g, 0, none⟩) ∧ v9 = .bool k1 ∧ Below W.heap.size W wx ∧ w.heap.size + 1 < g ∧ wx.heap[g]? = some (.cells #[.int .i64 qt, .int .i64 ql, .int .i64 qb, .int .i64 qr] 31 (0, 0)))
  case first =>
    go_region_held3 (fun w' => w'.cell? ⟨w.heap.size, 0, none⟩ = some (.slice (some ⟨L, o, none⟩) S.pages.length c0) ∧ w'.cell? ⟨w.heap.size + 1, 0, none⟩ = some (.int .i64 xt) ∧ w'.cell? ⟨w.heap.size + 1, 1, none⟩ = some (.int .i64 xl) ∧ w'.cell? ⟨w.heap.size + 1, 2, none⟩ = some (.int .i64 xb) ∧ w'.cell? ⟨w.heap.size + 1, 3, none⟩ = some (.int .i64 xr) ∧ w'.cell? ⟨L, o, none⟩ = some (.slice rA rm rc) ∧ w'.cell? ⟨L, o + 1, none⟩ = some (.int .i64 rn)) (exact KS _ (by (repeat' (first | (with_reducible exact Below.refl _ _) | (with_reducible refine Below.alloc ?_ ?_ _) | (with_reducible refine below_ext ?_ ?_ _) | (with_reducible refine Below.drew ?_) | (with_reducible refine below_drewN ?_ _) | (with_reducible refine Below.setCell ?_ ?_ _) | go_size | (simp only [go_sem]; omega) | (simp [go_sem]; done) | (simp [go_sem]; omega))))) ((first
      | (go_at_call 46; ((with_reducible refine (AR.out _ (hBW.out _ (by (repeat' (first | (with_reducible exact Below.refl _ _) | (with_reducible refine Below.alloc ?_ ?_ _) | (with_reducible refine below_ext ?_ ?_ _) | (with_reducible refine Below.drew ?_) | (with_reducible refine below_drewN ?_ _) | (with_reducible refine Below.setCell ?_ ?_ _) | go_size | (simp only [go_sem]; omega) | (simp [go_sem]; done) | (simp [go_sem]; omega)))))).mono ?_); rintro _ _ hgets; obtain ⟨rfl, x1, rfl⟩ := hgets.get; clear hgets))
      | (go_at_call 13; ((with_reducible refine (RC.out _ (hBW.out _ (by (repeat' (first | (with_reducible exact Below.refl _ _) | (with_reducible refine Below.alloc ?_ ?_ _) | (with_reducible refine below_ext ?_ ?_ _) | (with_reducible refine Below.drew ?_) | (with_reducible refine below_drewN ?_ _) | (with_reducible refine Below.setCell ?_ ?_ _) | go_size | (simp only [go_sem]; omega) | (simp [go_sem]; done) | (simp [go_sem]; omega)))))).mono ?_); rintro _ _ hgets; obtain ⟨rfl, x3, rfl⟩ := hgets.get; clear hgets))))
    all_goals clear KS b0 b1 hBW AR RC
    all_goals go_wp2
    all_goals go_meet
    all_goals refine ⟨_, rfl, rfl, by (repeat' (first | (with_reducible exact Below.refl _ _) | (with_reducible refine Below.alloc ?_ ?_ _) | (with_reducible refine below_ext ?_ ?_ _) | (with_reducible refine Below.drew ?_) | (with_reducible refine below_drewN ?_ _) | (with_reducible refine Below.setCell ?_ ?_ _) | go_size | (simp only [go_sem]; omega) | (simp [go_sem]; done) | (simp [go_sem]; omega))), by (try simp); omega, ?_⟩
    all_goals (repeat (first | ((with_reducible refine heap_at _ _ ?_); (focus (first | rfl | (simp [go_sem]; done) | (simp [go_sem]; omega)))) | ((with_reducible refine (heap_old _ _ ?_).trans ?_); (focus (first | (simp [go_sem]; done) | (simp [go_sem]; omega)))) | ((with_reducible refine (block_ext _ _ ?_).trans ?_); (focus (first | (simp [go_sem]; done) | (simp [go_sem]; omega)))) | ((with_reducible refine (heap_drew _ _).trans ?_))))
  obtain ⟨g8, rfl, rfl, hB1, hg8, b8⟩ := hcut
  obtain ⟨W1, eW1⟩ : ∃ W1, W1 = wc := ⟨_, rfl⟩
  rw [← eW1] at hB1 b8 ⊢
  have b01 := (hB1.block _ (by omega : w.heap.size < W.heap.size)).trans b0
  have BW := hB.trans (hB1.mono hB.size)
  have hl8 := heap_in b8
  have hlg := heap_in b01
  have hBW1 := Lib.hid (fun w' (h : Below W1.heap.size W1 w') => BW.trans (h.mono BW.size))
  clear eW1 wc KS hBW hB hlt b0 b1 hB1 ht0 ht1 hl0 hl1 hb0 hb1 hr0 hr1 AR RC BW
  go_upto_region 3 with (go_at_call 47; ((with_reducible refine (NB0.out _ (hBW1.out _ (by (repeat' (first | (with_reducible exact Below.refl _ _) | (with_reducible refine Below.alloc ?_ ?_ _) | (with_reducible refine below_ext ?_ ?_ _) | (with_reducible refine Below.drew ?_) | (with_reducible refine below_drewN ?_ _) | (with_reducible refine Below.setCell ?_ ?_ _) | go_size | (simp only [go_sem]; omega) | (simp [go_sem]; done) | (simp [go_sem]; omega)))))).mono ?_); rintro _ _ ⟨rfl, rfl⟩))
  clear NB0
  have NO : ∀ W', Below w.heap.size w W' → ok = false → Gives w (.tuple #[.int .i64 sv, .bool ok]) (.returned (.tuple #[.int .i64 0, .bool false])) W' := fun W' hb e => by
    have h1 := VE.out
    rw [e] at h1
    rw [e, show sv = 0 from h1]
    exact ⟨rfl, hb⟩
  replace NO := Lib.hid NO
  cases k1
  · go_wp2
    go_returns
    exact NO.out _ (hBW1.out _ (by (repeat' (first | (with_reducible exact Below.refl _ _) | (with_reducible refine Below.alloc ?_ ?_ _) | (with_reducible refine below_ext ?_ ?_ _) | (with_reducible refine Below.drew ?_) | (with_reducible refine below_drewN ?_ _) | (with_reducible refine Below.setCell ?_ ?_ _) | go_size | (simp only [go_sem]; omega) | (simp [go_sem]; done) | (simp [go_sem]; omega))))) OE.out
  · by_cases hn0 : n0 < 0
    · have oe := OE.out
      rw [decide_eq_false (by omega : ¬ 0 ≤ n0)] at oe
      clear OE
      go_wp2
      go_returns
      exact NO.out _ (hBW1.out _ (by (repeat' (first | (with_reducible exact Below.refl _ _) | (with_reducible refine Below.alloc ?_ ?_ _) | (with_reducible refine below_ext ?_ ?_ _) | (with_reducible refine Below.drew ?_) | (with_reducible refine below_drewN ?_ _) | (with_reducible refine Below.setCell ?_ ?_ _) | go_size | (simp only [go_sem]; omega) | (simp [go_sem]; done) | (simp [go_sem]; omega))))) oe
    · have oe := OE.out
      rw [decide_eq_true (by omega : 0 ≤ n0)] at oe
      obtain rfl : ok = true := oe
      have hsv := Lib.hid (show sv = smI (smCells Ps ⟨qt, ql, qb, qr⟩) from VE.out)
      clear NO VE OE
      have hn1 : 0 ≤ n0 := by omega
      replace PG := Lib.hid (PG.out hn1)
      have hng : decide (n0 < 0) = false := by simp; omega
      clear hn0
      go_upto_region 7 with fail
      have d01 : ∀ w', Below W1.heap.size W1 w' → (w'.cell? ⟨w.heap.size, 0, none⟩ = some (.slice (some ⟨L, o, none⟩) S.pages.length c0) ∧ w'.cell? ⟨w.heap.size, 1, none⟩ = some (.slice sA sm sc) ∧ w'.cell? ⟨w.heap.size, 2, none⟩ = some (.int .i64 sn) ∧ w'.cell? ⟨w.heap.size, 3, none⟩ = some (.int .i64 S.now) ∧ w'.cell? ⟨w.heap.size, 4, none⟩ = some (.bool S.below)) ∧ w'.cell? ⟨g8, 0, none⟩ = some (.int .i64 qt) ∧ w'.cell? ⟨g8, 1, none⟩ = some (.int .i64 ql) ∧ w'.cell? ⟨g8, 2, none⟩ = some (.int .i64 qb) ∧ w'.cell? ⟨g8, 3, none⟩ = some (.int .i64 qr) := fun w' h => by
        have h0 := (h.block _ hlg).trans b01
        have h1 := (h.block _ hl8).trans b8
        exact ⟨⟨by rw [cell_in h0]; rfl, by rw [cell_in h0]; rfl, by rw [cell_in h0]; rfl, by rw [cell_in h0]; rfl, by rw [cell_in h0]; rfl⟩, by rw [cell_in h1]; rfl, by rw [cell_in h1]; rfl, by rw [cell_in h1]; rfl, by rw [cell_in h1]; rfl⟩
      have KS := Lib.hid d01
      clear d01 b01 b8
      go_loopw [11, 12] (fun v i wr => ∃ k : Nat, k ≤ S.pages.length ∧ i = .int .i64 k ∧ v = .int .i64 (smT (smCells (vis k) ⟨qt, ql, qb, qr⟩) % 65536) ∧ Below W1.heap.size W1 wr) (fun _ i _ => S.pages.length - (intOf i).toNat)
      case atStart => exact ⟨0, by omega, rfl, by rw [VZ.out]; rfl, Below.refl _ _⟩
      case round =>
        obtain ⟨k, hk, rfl, rfl, hB⟩ := hrel
        obtain ⟨x, rfl⟩ := ext_of hB
        obtain ⟨⟨c1, c2, c3, c4, c5⟩, c6, c7, c8, c9⟩ := KS.out _ hB
        clear hB
        by_cases hlt : k < S.pages.length
        · have hBx := Lib.hid (fun w' (h : Below (ext W1 x).heap.size (ext W1 x) w') => (by have h2 := hBW1.out _ (by (repeat' (first | (with_reducible exact Below.refl _ _) | (with_reducible refine Below.alloc ?_ ?_ _) | (with_reducible refine below_ext ?_ ?_ _) | (with_reducible refine Below.drew ?_) | (with_reducible refine below_drewN ?_ _) | (with_reducible refine Below.setCell ?_ ?_ _) | go_size | (simp only [go_sem]; omega) | (simp [go_sem]; done) | (simp [go_sem]; omega))) : Below W1.heap.size W1 (ext W1 x)); exact h2.trans (h.mono h2.size) : Below w.heap.size w w'))
          by_cases hv : n0 = 0 ∨ (k : Int) = nb
          · have hY := Lib.hid (VY.out k hlt hv)
            replace hv := Lib.hid hv
            obtain ⟨⟨pA, pm, pc, pn⟩, L', o', -, eL, hP, e0, e1, -⟩ := GT.out k hlt
            injection eL with eL
            injection eL with eL eo
            subst eL eo
            have okP := okp.out _ (List.getElem_mem hlt)
            generalize S.pages[k] = P at hP hY okP
            have CE := Lib.hid (fun w' (hb : Below w.heap.size w w') => refcells_c _ ⟨qt, ql, qb, qr⟩ (hP.grow hb).v okP)
            have hcl := cellsS_len okP ⟨qt, ql, qb, qr⟩
            have hco := cellsS_ok okP (onB P.rows.length P.cols ⟨qt, ql, qb, qr⟩)
            have hYT := Lib.hid (show smT (smCells (vis (k + 1)) ⟨qt, ql, qb, qr⟩) = smT (smCells (vis k) ⟨qt, ql, qb, qr⟩) + smT (cellsS P (onB P.rows.length P.cols ⟨qt, ql, qb, qr⟩)) by rw [hY.out, smCells_snoc, smT_snoc])
            generalize cellsS P (onB P.rows.length P.cols ⟨qt, ql, qb, qr⟩) = cs at CE hcl hco hYT
            generalize smT (smCells (vis k) ⟨qt, ql, qb, qr⟩) = T at hYT
            have t0 : 0 ≤ T % 65536 := by omega
            have t1 : T % 65536 < 65536 := by omega
            simp only [RPg.v, RPg.V] at CE e0 e1
            replace e0 := ((hBW1.out _ (Below.refl _ _)).cell (p := ⟨L, _, none⟩) hL).trans e0
            replace e1 := ((hBW1.out _ (Below.refl _ _)).cell (p := ⟨L, _, none⟩) hL).trans e1
            have hL1 : L < W1.heap.size := Nat.lt_of_lt_of_le hL (hBW1.out _ (Below.refl _ _)).size
            clear hP okP hY
            go_upto_region 9 with fail
            go_cut [49] (fun v49 wx => v49 = .bool false ∧ Below W1.heap.size W1 wx)
            case first =>
              by_cases h0 : n0 = 0
              · have hne : (n0 != 0) = false := by simp [h0]
                clear h0
                go_wp2
                go_meet
                exact ⟨rfl, by (repeat' (first | (with_reducible exact Below.refl _ _) | (with_reducible refine Below.alloc ?_ ?_ _) | (with_reducible refine below_ext ?_ ?_ _) | (with_reducible refine Below.drew ?_) | (with_reducible refine below_drewN ?_ _) | (with_reducible refine Below.setCell ?_ ?_ _) | go_size | (simp only [go_sem]; omega) | (simp [go_sem]; done) | (simp [go_sem]; omega)))⟩
              · have hne : (n0 != 0) = true := by simp [h0]
                have hnk : ((k : Int) != nb) = false := by simpa using hv.out.resolve_left h0
                clear h0
                go_wp2_with (go_at_call 48; ((with_reducible refine (PG.out _).mono ?_); rintro _ _ hgets; obtain ⟨rfl, x5, rfl⟩ := hgets.get; clear hgets))
                go_meet
                exact ⟨rfl, by (repeat' (first | (with_reducible exact Below.refl _ _) | (with_reducible refine Below.alloc ?_ ?_ _) | (with_reducible refine below_ext ?_ ?_ _) | (with_reducible refine Below.drew ?_) | (with_reducible refine below_drewN ?_ _) | (with_reducible refine Below.setCell ?_ ?_ _) | go_size | (simp only [go_sem]; omega) | (simp [go_sem]; done) | (simp [go_sem]; omega)))⟩
            obtain ⟨rfl, hcut⟩ := hcut
            have KS2 := Lib.hid (fun w' (h : Below W1.heap.size W1 w') => (⟨(KS.out _ h).1.1, (h.cell (p := ⟨L, _, none⟩) hL1).trans e0, (h.cell (p := ⟨L, _, none⟩) hL1).trans e1, (KS.out _ h).2⟩ : w'.cell? ⟨w.heap.size, 0, none⟩ = some (.slice (some ⟨L, o, none⟩) S.pages.length c0) ∧ w'.cell? ⟨L, o + k * 2, none⟩ = some (.slice pA pm pc) ∧ w'.cell? ⟨L, o + k * 2 + 1, none⟩ = some (.int .i64 pn) ∧ w'.cell? ⟨g8, 0, none⟩ = some (.int .i64 qt) ∧ w'.cell? ⟨g8, 1, none⟩ = some (.int .i64 ql) ∧ w'.cell? ⟨g8, 2, none⟩ = some (.int .i64 qb) ∧ w'.cell? ⟨g8, 3, none⟩ = some (.int .i64 qr)))
            clear c1 c2 c3 c4 c5 c6 c7 c8 c9 e0 e1 KS hBx PG
            obtain ⟨x4, rfl⟩ := ext_of hcut
            clear hcut x
            go_upto_region 10 with fail
            (refine wp_region_F (S := (fun w' => w'.cell? ⟨w.heap.size, 0, none⟩ = some (.slice (some ⟨L, o, none⟩) S.pages.length c0) ∧ w'.cell? ⟨L, o + k * 2, none⟩ = some (.slice pA pm pc) ∧ w'.cell? ⟨L, o + k * 2 + 1, none⟩ = some (.int .i64 pn) ∧ w'.cell? ⟨g8, 0, none⟩ = some (.int .i64 qt) ∧ w'.cell? ⟨g8, 1, none⟩ = some (.int .i64 ql) ∧ w'.cell? ⟨g8, 2, none⟩ = some (.int .i64 qb) ∧ w'.cell? ⟨g8, 3, none⟩ = some (.int .i64 qr))) 7 [false, false, false, false, false, false, false, false] rfl rfl (by kernel_rfl) ?_ (fun hHeld => ?_); (focus ((try dsimp only); (exact KS2.out _ (by (repeat' (first | (with_reducible exact Below.refl _ _) | (with_reducible refine Below.alloc ?_ ?_ _) | (with_reducible refine below_ext ?_ ?_ _) | (with_reducible refine Below.drew ?_) | (with_reducible refine below_drewN ?_ _) | (with_reducible refine Below.setCell ?_ ?_ _) | go_size | (simp only [go_sem]; omega) | (simp [go_sem]; done) | (simp [go_sem]; omega))))); done)))
            ((refine AtF.take (oi := ?_) (v := ?_) 0 ?_ ?_ ?_ ?_ (Or.inl ⟨?_, ?_⟩) (by assumption) ?_; rotate_left 2; rfl; kernel_rfl; kernel_rfl; exact (fun _ _ _ h => h); rfl; (focus (intro w hSw; (try dsimp only at hSw); go_simp; (try with_reducible rfl); done)); (try simp only [Act.put, List.setIfInBounds_toArray, List.set_cons_zero, List.set_cons_succ])); (refine AtF.take (oi := ?_) (v := ?_) 1 ?_ ?_ ?_ ?_ (Or.inl ⟨?_, ?_⟩) (by assumption) ?_; rotate_left 2; rfl; kernel_rfl; kernel_rfl; exact (fun _ _ _ h => h); rfl; (focus (intro w hSw; (try dsimp only at hSw); go_simp; (try with_reducible rfl); done)); (try simp only [Act.put, List.setIfInBounds_toArray, List.set_cons_zero, List.set_cons_succ])); (refine AtF.take (oi := ?_) (v := ?_) 2 ?_ ?_ ?_ ?_ (Or.inl ⟨?_, ?_⟩) (by assumption) ?_; rotate_left 2; rfl; kernel_rfl; kernel_rfl; exact (fun _ _ _ h => h); rfl; (focus (intro w hSw; (try dsimp only at hSw); go_simp; (try with_reducible rfl); done)); (try simp only [Act.put, List.setIfInBounds_toArray, List.set_cons_zero, List.set_cons_succ])); (refine AtF.take (oi := ?_) (v := ?_) 3 ?_ ?_ ?_ ?_ (Or.inl ⟨?_, ?_⟩) (by assumption) ?_; rotate_left 2; rfl; kernel_rfl; kernel_rfl; exact (fun _ _ _ h => h); rfl; (focus (intro w hSw; (try dsimp only at hSw); go_simp; (try with_reducible rfl); done)); (try simp only [Act.put, List.setIfInBounds_toArray, List.set_cons_zero, List.set_cons_succ])); (refine AtF.take (oi := ?_) (v := ?_) 4 ?_ ?_ ?_ ?_ (Or.inl ⟨?_, ?_⟩) (by assumption) ?_; rotate_left 2; rfl; kernel_rfl; kernel_rfl; exact (fun _ _ _ h => h); rfl; (focus (intro w hSw; (try dsimp only at hSw); go_simp; (try with_reducible rfl); done)); (try simp only [Act.put, List.setIfInBounds_toArray, List.set_cons_zero, List.set_cons_succ])); (refine AtF.take (oi := ?_) (v := ?_) 5 ?_ ?_ ?_ ?_ (Or.inl ⟨?_, ?_⟩) (by assumption) ?_; rotate_left 2; rfl; kernel_rfl; kernel_rfl; exact (fun _ _ _ h => h); rfl; (focus (intro w hSw; (try dsimp only at hSw); go_simp; (try with_reducible rfl); done)); (try simp only [Act.put, List.setIfInBounds_toArray, List.set_cons_zero, List.set_cons_succ])))
            (refine AtF.only (oi := ?_) 6 ?_ ?_ (fun K hK => ?_); rotate_left 1; rfl; kernel_rfl; (try go_simp); ((go_at_call 49); (with_reducible refine (CE.out _ (hBW1.out _ (by (repeat' (first | (with_reducible exact Below.refl _ _) | (with_reducible refine Below.alloc ?_ ?_ _) | (with_reducible refine below_ext ?_ ?_ _) | (with_reducible refine Below.drew ?_) | (with_reducible refine below_drewN ?_ _) | (with_reducible refine Below.setCell ?_ ?_ _) | go_size | (simp only [go_sem]; omega) | (simp [go_sem]; done) | (simp [go_sem]; omega)))))).mono ?_); (rintro _ _ ⟨V2, ys, x6, rfl, rfl, hY2, hYv⟩); (obtain ⟨A2, c2, rfl⟩ := hY2.form); (try simp only [ext_drew] at hY2); (replace hY2 := Lib.hid hY2); (replace hYv := Lib.hid hYv)); (refine hK.out _ _ ?_ (fun hHeld => ?_)); (focus ((try dsimp only); (exact KS2.out _ (by (repeat' (first | (with_reducible exact Below.refl _ _) | (with_reducible refine Below.alloc ?_ ?_ _) | (with_reducible refine below_ext ?_ ?_ _) | (with_reducible refine Below.drew ?_) | (with_reducible refine below_drewN ?_ _) | (with_reducible refine Below.setCell ?_ ?_ _) | go_size | (simp only [go_sem]; omega) | (simp [go_sem]; done) | (simp [go_sem]; omega))))); done)); clear hK K; (try simp only [Act.put, List.setIfInBounds_toArray, List.set_cons_zero, List.set_cons_succ]))
            (refine AtF.last (oi := ?_) ?_ ?_ (fun K hK => ?_); rotate_left 1; rfl; kernel_rfl; go_simp; skip; refine hK.out _ _ ?_; clear hK K; (try simp only [Act.put, List.setIfInBounds_toArray, List.set_cons_zero, List.set_cons_succ]))
            clear hHeld KS2
            obtain rfl : ys.map Prod.snd = cs := hYv.out
            have hBz := hBW1.out (ext (ext W1 x4) x6) (by (repeat' (first | (with_reducible exact Below.refl _ _) | (with_reducible refine Below.alloc ?_ ?_ _) | (with_reducible refine below_ext ?_ ?_ _) | (with_reducible refine Below.drew ?_) | (with_reducible refine below_drewN ?_ _) | (with_reducible refine Below.setCell ?_ ?_ _) | go_size | (simp only [go_sem]; omega) | (simp [go_sem]; done) | (simp [go_sem]; omega))))
            obtain ⟨W3, eW3⟩ : ∃ W3, W3 = ext (ext W1 x4) x6 := ⟨_, rfl⟩
            have hB3 : Below W1.heap.size W1 W3 := by rw [eW3]; (repeat' (first | (with_reducible exact Below.refl _ _) | (with_reducible refine Below.alloc ?_ ?_ _) | (with_reducible refine below_ext ?_ ?_ _) | (with_reducible refine Below.drew ?_) | (with_reducible refine below_drewN ?_ _) | (with_reducible refine Below.setCell ?_ ?_ _) | go_size | (simp only [go_sem]; omega) | (simp [go_sem]; done) | (simp [go_sem]; omega)))
            have hYr := Lib.hid (hY2.out.own.rd encQ_len)
            have hYc := Lib.hid (fun (j : Nat) (hj : j < ys.length) => hY2.out.rd ys[j] (List.getElem_mem hj))
            have hYo := Lib.hid (fun (j : Nat) (hj : j < ys.length) => hco ys[j].2 (List.mem_map.2 ⟨ys[j], List.getElem_mem hj, rfl⟩))
            rw [← eW3] at hYr hYc hBz ⊢
            clear eW3 hY2 hYv hco CE
            rw [List.length_map] at hcl
            go_wp2
            go_loopw [11, 14] (fun v i wr => ∃ j : Nat, j ≤ ys.length ∧ i = .int .i64 j ∧ v = .int .i64 ((T + smT ((ys.map Prod.snd).take j)) % 65536) ∧ Below W3.heap.size W3 wr) (fun _ i _ => ys.length - (intOf i).toNat)
            case atStart => exact ⟨0, by omega, rfl, by simp [smT], Below.refl _ _⟩
            case round =>
              obtain ⟨j, hj, rfl, rfl, hB⟩ := hrel
              obtain ⟨x', rfl⟩ := ext_of hB
              by_cases hlt2 : j < ys.length
              · obtain ⟨b2, o2, rfl, hb2, q0⟩ := (hYr.out.below hB).cell1 hlt2 rfl
                obtain ⟨z1, z2⟩ := hYc.out j hlt2
                replace z2 := z2.below hB
                have z3 := hYo.out j hlt2
                have TK := Lib.hid (smT_take (ys.map Prod.snd) j (by rw [List.length_map]; exact hlt2))
                rw [List.getElem_map] at TK
                have q1 : (ext W3 x').cell? ⟨b2, o2 + j, none⟩ = some (.slice ys[j].1.adr ys[j].2.length ys[j].1.c) := by rw [← z1]; exact q0
                clear q0
                generalize ys[j].1.adr = Ay at z2 q1
                generalize ys[j].1.c = Cy at q1
                generalize ys[j].2 = yj at z2 q1 z3 TK
                clear hB z1
                have SR := Lib.hid (fun w' (h : Rd encC 3 w' Ay yj) => sum_r Ay Cy yj w' h (by omega) z3.2)
                have X := Lib.hid z2
                generalize hT2 : smT ((ys.map Prod.snd).take j) = T2 at TK ⊢
                generalize hw2 : sumW yj % 65536 = v2 at SR
                have v0 : 0 ≤ v2 := by omega
                have v1 : v2 < 65536 := by omega
                have u0 : 0 ≤ (T + T2) % 65536 := by omega
                have u1 : (T + T2) % 65536 < 65536 := by omega
                generalize hu : (T + T2) % 65536 = u2 at u0 u1 ⊢
                replace hu := Lib.hid hu
                replace hw2 := Lib.hid hw2
                go_wp2_with (go_at_call 50; ((with_reducible refine (SR.out _ (by repeat (first | exact X.out | exact X | refine Rd.ext ?_ _ | refine Rd.alloc ?_ _ | refine Rd.drew ?_))).mono ?_); rintro _ _ hgets; obtain ⟨rfl, x7, rfl⟩ := hgets.get; clear hgets))
                go_roundw
                case rel =>
                  refine ⟨j + 1, by omega, by go_num, ?_, by (repeat' (first | (with_reducible exact Below.refl _ _) | (with_reducible refine Below.alloc ?_ ?_ _) | (with_reducible refine below_ext ?_ ?_ _) | (with_reducible refine Below.drew ?_) | (with_reducible refine below_drewN ?_ _) | (with_reducible refine Below.setCell ?_ ?_ _) | go_size | (simp only [go_sem]; omega) | (simp [go_sem]; done) | (simp [go_sem]; omega)))⟩
                  rw [TK.out]
                  congr 1
                  have := hu.out
                  have := hw2.out
                  omega
                case measure => simp [intOf]; omega
              · have HT := Lib.hid (show (ys.map Prod.snd).take j = ys.map Prod.snd from List.take_of_length_le (by rw [List.length_map]; omega))
                rw [HT.out, ← hYT.out]
                clear hYr hYc hYo
                have hB1 := hB3.trans (hB.mono hB3.size)
                clear hB
                go_wp2
                go_roundw
                case rel => exact ⟨k + 1, by omega, by go_num, rfl, hB1⟩
                case measure => simp [intOf]; omega
          · have h0 : n0 ≠ 0 := fun h => hv (.inl h)
            have hnk : (k : Int) ≠ nb := fun h => hv (.inr h)
            have hY := VN.out k h0 hnk
            have hne : (n0 != 0) = true := by simp [h0]
            have hnk1 : ((k : Int) != nb) = true := by simp [hnk]
            rw [← hY]
            clear h0
            replace hnk := Lib.hid hnk
            replace hY := Lib.hid hY
            replace hv := Lib.hid hv
            go_wp2_with (go_at_call 48; ((with_reducible refine (PG.out _).mono ?_); rintro _ _ hgets; obtain ⟨rfl, x5, rfl⟩ := hgets.get; clear hgets))
            go_roundw
            case rel => exact ⟨k + 1, by omega, by go_num, rfl, by (repeat' (first | (with_reducible exact Below.refl _ _) | (with_reducible refine Below.alloc ?_ ?_ _) | (with_reducible refine below_ext ?_ ?_ _) | (with_reducible refine Below.drew ?_) | (with_reducible refine below_drewN ?_ _) | (with_reducible refine Below.setCell ?_ ?_ _) | go_size | (simp only [go_sem]; omega) | (simp [go_sem]; done) | (simp [go_sem]; omega)))⟩
            case measure => simp [intOf]; omega
        · have e := VEN.out
          obtain rfl : k = S.pages.length := by omega
          rw [e]
          have hfin : (65536 - smT (smCells Ps ⟨qt, ql, qb, qr⟩) % 65536) % 65536 = sv := by rw [hsv.out, smI_T]
          generalize smT (smCells Ps ⟨qt, ql, qb, qr⟩) = T at hfin ⊢
          have hw : IntKind.i64.wrap (65536 - T % 65536) = 65536 - T % 65536 := wrap_i64 (by omega) (by omega)
          go_wp2
          go_returns
          refine ⟨?_, hBW1.out _ (by (repeat' (first | (with_reducible exact Below.refl _ _) | (with_reducible refine Below.alloc ?_ ?_ _) | (with_reducible refine below_ext ?_ ?_ _) | (with_reducible refine Below.drew ?_) | (with_reducible refine below_drewN ?_ _) | (with_reducible refine Below.setCell ?_ ?_ _) | go_size | (simp only [go_sem]; omega) | (simp [go_sem]; done) | (simp [go_sem]; omega))))⟩
          rw [← hfin]
          first | rfl | (congr 4; rfl) | (congr 4; omega)
end
end Go.Proofs.YtignkkejkknddaaGreat
/- Rectangles told by their own numbers; what is pasted has the same cells. Plain laws.  -/
namespace Go.Proofs.YtignkkejkknddaaGreat
open Go.RowKit
set_option linter.unusedVariables false
set_option linter.unusedSimpArgs false

theorem onB_self {m n : Nat} {X : BxI} (h1 : 0 ≤ X.t) (h2 : X.t < X.b) (h3 : X.b ≤ m) (h4 : 0 ≤ X.l) (h5 : X.l < X.r) (h6 : X.r ≤ n) : onB m n X = X := by
  obtain ⟨t, l, b, r⟩ := X
  simp only at *
  unfold onB meetI
  simp only [BxI.mk.injEq]
  refine ⟨?_, ?_, ?_, ?_⟩ <;> (rw [if_neg (by omega)]; omega)
theorem bkset_same {S : BkS} {i : Nat} (hi : i < S.pages.length) (P : PgS) (h' : i < (S.set i P).pages.length) : (S.set i P).pages[i] = P := by
  unfold BkS.set
  simp [hi]
theorem bkset_else {S : BkS} {i j : Nat} (hj : j < S.pages.length) (hne : i ≠ j) (P : PgS) (h' : j < (S.set i P).pages.length) : (S.set i P).pages[j] = S.pages[j] := by
  unfold BkS.set
  split
  · simp [hne]
  · rfl
section
variable {w : World} {F : Nat → Prop} {b : Nat} {S : BkS} {V : Value} {ps : List PgR} {st : PgR}
end
end Go.Proofs.YtignkkejkknddaaGreat
/- phosphorref16: Do.  -/
namespace Go.Proofs.YtignkkejkknddaaGreat
open Go.RowKit
set_option linter.unusedVariables false
set_option linter.unusedSimpArgs false

section
variable {P : PgS} {G : Nat → Nat → Cl → Cl} {i0 k0 C0 C1 : Nat}
theorem mapIJ_from (h : ∀ i k y, i < i0 ∨ k < k0 → G i k y = y) : mapIJ P G i0 k0 = P := mapS_id fun i hi k hk => by
  by_cases q : i < i0 ∨ (i = i0 ∧ k < k0)
  · rw [if_pos q, h _ _ _ (by omega)]
  · rw [if_neg q]
theorem mapIJ_over (h : ∀ i k y, k < C0 ∨ C1 ≤ k → G i k y = y) : mapIJ P G i0 C1 = mapIJ P G (i0 + 1) C0 := mapS_congr fun i hi k hk => by
  by_cases q : i < i0 ∨ (i = i0 ∧ k < C1)
  · rw [if_pos q, if_pos (by omega)]
  · rw [if_neg q]
    by_cases q2 : i < i0 + 1 ∨ (i = i0 + 1 ∧ k < C0)
    · rw [if_pos q2, h _ _ _ (by omega)]
    · rw [if_neg q2]
theorem mapIJ_fin (h : ∀ i k y, i0 ≤ i → G i k y = y) : mapIJ P G i0 k0 = mapS P G := mapS_congr fun i hi k hk => by
  by_cases q : i < i0 ∨ (i = i0 ∧ k < k0)
  · rw [if_pos q]
  · rw [if_neg q, h _ _ _ (by omega)]
theorem mapIJ_pass (h : ∀ y, G i0 k0 y = y) : mapIJ P G i0 (k0 + 1) = mapIJ P G i0 k0 := mapS_congr fun i hi k hk => by
  by_cases e : i = i0 ∧ k = k0
  · obtain ⟨rfl, rfl⟩ := e
    rw [if_pos (by omega), if_neg (by omega), h]
  · by_cases q : i < i0 ∨ (i = i0 ∧ k < k0)
    · rw [if_pos q, if_pos (by omega)]
    · rw [if_neg q, if_neg (by omega)]
end
/-- one of the document's pages, and a truth -/
def NewPo (F : Nat → Prop) (P : PgS) (ok : Bool) (w : World) (e : Ending) (w' : World) : Prop := ∃ (r : RPg) (x : More), e = .returned (.tuple #[r.v, .bool ok]) ∧ w' = ext w x ∧ RefAt (ext w x) F r.v P
section
variable {w w' W a b : World} {F : Nat → Prop} {P : PgS} {r : RPg} {R : Nat} {ok : Bool}
theorem NewPo.at (h : RefAt W (fun x => F x ∨ x = R) r.v P) (hk : Keep (· = R) W w') (hb : Below w.heap.size w w') : NewPo F P ok w (.returned (.tuple #[r.v, .bool ok])) w' := by
  have h2 := (h.keep' hk (fun x hx e => hx (.inr e))).mono (G := F) (fun _ _ => .inl)
  obtain ⟨x, rfl⟩ := ext_of hb
  exact ⟨r, x, rfl, rfl, h2⟩
theorem NewPo.old (h : RefAt w F r.v P) (hb : Below w.heap.size w w') : NewPo F P ok w (.returned (.tuple #[r.v, .bool ok])) w' := by
  obtain ⟨x, rfl⟩ := ext_of hb
  exact ⟨r, x, rfl, rfl, h.grow hb⟩
theorem Keep.al {G : Nat → Prop} (h : Keep G a b) (hs : a.heap.size = b.heap.size) (o : Obj) : Keep G (a.alloc o) (b.alloc o) :=
  ⟨h.os, h.tape, h.output, by simp [hs], fun k hk hF => by
    rcases Nat.lt_or_ge k a.heap.size with hl | hl
    · rw [((Below.refl b.heap.size b).alloc (Nat.le_refl _) o).block k (by omega), ((Below.refl a.heap.size a).alloc (Nat.le_refl _) o).block k hl]
      exact h.block k hl hF
    · simp only [World.size_alloc] at hk
      obtain rfl : k = a.heap.size := by omega
      rw [heap_alloc_new a o, hs, heap_alloc_new b o]⟩
end
section
variable {w : World} {F : Nat → Prop} {P : PgS} {r : RPg} {a : Option Addr} {c : Nat} {xs : List Int}
set_option maxRecDepth 100000 in
set_option maxHeartbeats 4000000 in
theorem do16_c (d : Int) (Fd : Cl → Cl) (y : Cl) (hd : Deed d y [] Fd) (h : RefAt w F r.v P) (hP : P.Ok) (hF : ∀ x, F x → x < w.heap.size) (hx : NumL w a c xs) (x : BxI) (i : Int) :
    Calls Tryz.prog 57 #[.int .i64 d, r.v, boxV x.t x.l x.b x.r, .slice a xs.length c, .int .i64 i, cellV y] w (NewPo F (if reOk (arB P x) xs i = true then eachS P (onB P.rows.length P.cols (reB (arB P x) xs i)) (fun zs l r => eachR zs l r Fd) else P) (reOk (arB P x) xs i) w) := by
  have AR := Lib.hid (fun w' (hb : Below w.heap.size w w') => area16_c (h.grow hb).v x)
  have RC : Hid (∀ w', Below w.heap.size w w' → Calls Tryz.prog 13 #[boxV (arB P x).t (arB P x).l (arB P x).b (arB P x).r, .slice a xs.length c, .int .i64 i] w' (Gives w' (.tuple #[boxV (reB (arB P x) xs i).t (reB (arB P x) xs i).l (reB (arB P x) xs i).b (reB (arB P x) xs i).r, .bool (reOk (arB P x) xs i)]))) := Lib.hid (fun w' hb => by
    obtain ⟨h1, h2, h3, h4⟩ := arB_bd hP x
    exact rect_r _ _ _ _ a c xs i w' h1 h2 h3 h4 (hx.grow hb).rd (Nat.le_trans hx.lc hx.cm) hx.hi)
  have EA := Lib.hid (fun w' (hb : Below w.heap.size w w') => refeach_c d r.v (reB (arB P x) xs i) y (.slice none 0 0) Fd (h.grow hb).v hP (fun z hz w2 hb2 => one_r d y none 0 [] Fd hd z w2 hz (fun h0 => by simp at h0) (by simp)))
  have OLD := Lib.hid (fun ok w' (hb : Below w.heap.size w w') => NewPo.old (ok := ok) h hb)
  generalize eachS P (onB P.rows.length P.cols (reB (arB P x) xs i)) (fun zs l r => eachR zs l r Fd) = T at EA ⊢
  generalize reB (arB P x) xs i = q at RC EA
  generalize reOk (arB P x) xs i = ok at RC ⊢
  generalize arB P x = z at RC AR
  obtain ⟨rA, rm, rc, rn⟩ := r
  obtain ⟨xt, xl, xb, xr⟩ := x
  obtain ⟨zt, zl, zb, zr⟩ := z
  obtain ⟨qt, ql, qb, qr⟩ := q
  obtain ⟨yg, yr, yk⟩ := y
  simp only [RPg.v, RPg.V, cellV] at AR RC EA OLD ⊢
  clear h hx hd
  cases ok
  · rw [if_neg (by decide)]
    go_enter Tryz.func57, Tryz.ntmps57
    go_wp2_with (first
      | (go_at_call 46; ((with_reducible refine (AR.out _ (by (repeat' (first | (with_reducible exact Below.refl _ _) | (with_reducible refine Below.alloc ?_ ?_ _) | (with_reducible refine below_ext ?_ ?_ _) | (with_reducible refine Below.drew ?_) | (with_reducible refine below_drewN ?_ _) | (with_reducible refine Below.setCell ?_ ?_ _) | go_size | (simp only [go_sem]; omega) | (simp [go_sem]; done) | (simp [go_sem]; omega))))).mono ?_); rintro _ _ hgets; obtain ⟨rfl, x1, rfl⟩ := hgets.get; clear hgets))
      | (go_at_call 13; ((with_reducible refine (RC.out _ (by (repeat' (first | (with_reducible exact Below.refl _ _) | (with_reducible refine Below.alloc ?_ ?_ _) | (with_reducible refine below_ext ?_ ?_ _) | (with_reducible refine Below.drew ?_) | (with_reducible refine below_drewN ?_ _) | (with_reducible refine Below.setCell ?_ ?_ _) | go_size | (simp only [go_sem]; omega) | (simp [go_sem]; done) | (simp [go_sem]; omega))))).mono ?_); rintro _ _ hgets; obtain ⟨rfl, x2, rfl⟩ := hgets.get; clear hgets)))
    go_returns
    exact OLD.out false _ (by (repeat' (first | (with_reducible exact Below.refl _ _) | (with_reducible refine Below.alloc ?_ ?_ _) | (with_reducible refine below_ext ?_ ?_ _) | (with_reducible refine Below.drew ?_) | (with_reducible refine below_drewN ?_ _) | (with_reducible refine Below.setCell ?_ ?_ _) | go_size | (simp only [go_sem]; omega) | (simp [go_sem]; done) | (simp [go_sem]; omega))))
  · rw [if_pos rfl]
    clear OLD
    go_enter Tryz.func57, Tryz.ntmps57
    go_wp2_with (first
      | (go_at_call 46; ((with_reducible refine (AR.out _ (by (repeat' (first | (with_reducible exact Below.refl _ _) | (with_reducible refine Below.alloc ?_ ?_ _) | (with_reducible refine below_ext ?_ ?_ _) | (with_reducible refine Below.drew ?_) | (with_reducible refine below_drewN ?_ _) | (with_reducible refine Below.setCell ?_ ?_ _) | go_size | (simp only [go_sem]; omega) | (simp [go_sem]; done) | (simp [go_sem]; omega))))).mono ?_); rintro _ _ hgets; obtain ⟨rfl, x1, rfl⟩ := hgets.get; clear hgets))
      | (go_at_call 13; ((with_reducible refine (RC.out _ (by (repeat' (first | (with_reducible exact Below.refl _ _) | (with_reducible refine Below.alloc ?_ ?_ _) | (with_reducible refine below_ext ?_ ?_ _) | (with_reducible refine Below.drew ?_) | (with_reducible refine below_drewN ?_ _) | (with_reducible refine Below.setCell ?_ ?_ _) | go_size | (simp only [go_sem]; omega) | (simp [go_sem]; done) | (simp [go_sem]; omega))))).mono ?_); rintro _ _ hgets; obtain ⟨rfl, x2, rfl⟩ := hgets.get; clear hgets))
      | ((go_at_call 101); (with_reducible refine (EA.out _ ?_).mono ?_); (focus (repeat' (first | (with_reducible exact Below.refl _ _) | (with_reducible refine Below.alloc ?_ ?_ _) | (with_reducible refine below_ext ?_ ?_ _) | (with_reducible refine Below.drew ?_) | (with_reducible refine below_drewN ?_ _) | (with_reducible refine Below.setCell ?_ ?_ _) | go_size | (simp only [go_sem]; omega) | (simp [go_sem]; done) | (simp [go_sem]; omega)))); (intro e' w'' hN); (obtain ⟨⟨pA, pm, pc, pn⟩, x3, rfl, rfl, hp⟩ := hN.at (F := fun x => F x ∨ x = w.heap.size + 1 + 1 + 1) (fun x hx => by rcases hx with hx | hx; have := hF x hx; simp; omega; subst hx; (simp <;> omega)); clear hN); (try simp only [RPg.v, RPg.V]); (replace hp := Lib.hid hp)))
    go_returns
    exact NewPo.at (r := ⟨pA, pm, pc, pn⟩) hp.out (((((keep_swap _ _ _ (by simp)).ext (by simp) _).ext (by simp) _).al (by simp) _).ext (by simp) _) (by (repeat' (first | (with_reducible exact Below.refl _ _) | (with_reducible refine Below.alloc ?_ ?_ _) | (with_reducible refine below_ext ?_ ?_ _) | (with_reducible refine Below.drew ?_) | (with_reducible refine below_drewN ?_ _) | (with_reducible refine Below.setCell ?_ ?_ _) | go_size | (simp only [go_sem]; omega) | (simp [go_sem]; done) | (simp [go_sem]; omega))))
end
theorem loop_meas {m i : Nat} (h : i < m) : m - (intOf (Value.int .i64 ((i : Int) + 1))).toNat < m - (intOf (Value.int .i64 (i : Int))).toNat := by
  simp [intOf]
  omega
theorem wrap_pos {a b c d : Nat} (h : a + b = c + d) (ha : a ≤ 1000) (hb : b ≤ 1000) : RowKit.wrap64 (RowKit.wrap64 ((a : Int) + b) - c) = d := by
  simp only [RowKit.wrap64]
  omega
theorem copy_scan {S : BkS} (hS : S.Ok) {f t : Nat} (hf : f < S.pages.length) (ht : t < S.pages.length) {tq lq mm nn rr cc : Nat} {zb zr : Int} (h1 : 0 < mm) (h2 : 0 < nn) (h3 : (rr : Int) < zb) (h4 : (cc : Int) < zr) (h5 : tq + mm ≤ S.pages[f].rows.length) (h6 : lq + nn ≤ S.pages[f].cols) :
    ∃ G : Nat → Nat → Cl → Cl, S.copy f ⟨tq, lq, min ((tq : Int) + mm) (tq + zb - rr), min ((lq : Int) + nn) (lq + zr - cc)⟩ t rr cc = S.set t (mapS S.pages[t] G) ∧
      (∀ i k y, i < rr ∨ k < cc → G i k y = y) ∧ (∀ i k y, k < cc ∨ cc + nn ≤ k → G i k y = y) ∧ (∀ i k y, rr + mm ≤ i → G i k y = y) ∧
      (∀ ii kk y, ¬ (((rr + ii : Nat) : Int) < zb ∧ ((cc + kk : Nat) : Int) < zr) → G (rr + ii) (cc + kk) y = y) ∧
      (∀ ii kk y, ii < mm → kk < nn → ((rr + ii : Nat) : Int) < zb → ((cc + kk : Nat) : Int) < zr → G (rr + ii) (cc + kk) y = cellAt S.pages[f] (tq + ii) (lq + kk)) := by
  have e1 : S.pgAt (f : Int) = S.pages[f] := by simp [BkS.pgAt, hf]
  have e2 : S.pgAt (t : Int) = S.pages[t] := by simp [BkS.pgAt, ht]
  have i1 : S.inP (f : Int) = true := by unfold BkS.inP; simp; omega
  have i2 : S.inP (t : Int) = true := by unfold BkS.inP; simp; omega
  refine ⟨pasteG S.pages[f] ⟨tq, lq, min ((tq : Int) + mm) (tq + zb - rr), min ((lq : Int) + nn) (lq + zr - cc)⟩ rr cc (min ((tq : Int) + mm) (tq + zb - rr) - tq).toNat, ?_, ?_, ?_, ?_, ?_, ?_⟩
  · unfold BkS.copy BkS.copied
    rw [i1, i2, e1, e2, onB_self (by simp only; omega) (by simp only; omega) (by simp only; omega) (by simp only; omega) (by simp only; omega) (by simp only; omega)]
    rfl
  · intro i k y h
    exact if_neg (by simp only; omega)
  · intro i k y h
    exact if_neg (by simp only; omega)
  · intro i k y h
    exact if_neg (by simp only; omega)
  · intro i k y h
    exact if_neg (by simp only; omega)
  · intro i k y a1 a2 a3 a4
    refine (if_pos (by simp only; omega)).trans ?_
    simp only
    rw [show ((tq : Int) + (((rr + i : Nat) : Int) - rr)).toNat = tq + i by omega, show ((lq : Int) + (((cc + k : Nat) : Int) - cc)).toNat = lq + k by omega]
section
variable {w : World} {F : Nat → Prop} {S : BkS} {U : Value} {a : Option Addr} {c : Nat} {xs : List Int}
theorem num_pos (xs : List Int) (i : Int) (h : 0 ≤ i) : num0 xs i 0 = at0 xs i := by
  unfold num0 at0
  rw [if_neg (by omega), if_neg (by omega)]
  rfl
set_option maxRecDepth 100000 in
set_option maxHeartbeats 16000000 in
theorem copy16_c (h : RBk w F U S) (hS : S.Ok) (he : S.Even) (hF : ∀ x, F x → x < w.heap.size) (hx : NumL w a c xs) (x : BxI) :
    Calls Tryz.prog 59 #[U, boxV x.t x.l x.b x.r, .slice a xs.length c] w (NewRBo F (copyRS S x xs) (cpOk (arK S x) xs) w) := by
  have hbd : (0 ≤ (arK S x).t ∧ (arK S x).t ≤ 500) ∧ (0 ≤ (arK S x).l ∧ (arK S x).l ≤ 500) ∧ (0 ≤ (arK S x).b ∧ (arK S x).b ≤ 500 ∧ (arK S x).b ≤ S.rows) ∧ (0 ≤ (arK S x).r ∧ (arK S x).r ≤ 500 ∧ (arK S x).r ≤ S.cols) := by
    have := onB_in S.rows S.cols x
    have := BkS.rows_le hS
    unfold arK
    omega
  obtain ⟨⟨ht0, ht1⟩, ⟨hl0, hl1⟩, ⟨hb0, hb1, hb2⟩, ⟨hr0, hr1, hr2⟩⟩ := hbd
  have hp1 := hS.p1
  have hp0 : 0 < S.pages.length := hp1
  have hp2 := hS.p2
  have h' := Lib.hid h
  obtain ⟨A, c0, us, ⟨sA, sm, sc, sn⟩, rfl, ho⟩ := h
  obtain ⟨⟨rA, rm, rc, rn⟩, L, o, -, rfl, hP0, d0, d1, hL⟩ := ho.ps.get hp1
  have FN := Lib.hid (fun w' (hb : Below w.heap.size w w') => NewRBo.of (S := S) (ok := false) (c := c0) (w' := w') ho hb rfl)
  simp only [RPg.V, RPg.v, Nat.zero_mul, Nat.add_zero] at d0 d1 hP0 FN ⊢
  have AR := Lib.hid (fun w' (hb : Below w.heap.size w w') => area16_c (hP0.grow hb).v x)
  rw [arB_0 hS x] at AR
  have RC : Hid (∀ w', Below w.heap.size w w' → Calls Tryz.prog 13 #[boxV (arK S x).t (arK S x).l (arK S x).b (arK S x).r, .slice a xs.length c, .int .i64 0] w' (Gives w' (.tuple #[boxV (reB (arK S x) xs 0).t (reB (arK S x) xs 0).l (reB (arK S x) xs 0).b (reB (arK S x) xs 0).r, .bool (reOk (arK S x) xs 0)]))) := Lib.hid (fun w' hb => rect_r _ _ _ _ a c xs 0 w' (by omega) (by omega) (by omega) (by omega) (hx.grow hb).rd (Nat.le_trans hx.lc hx.cm) hx.hi)
  have PL : Hid (∀ w', Below w.heap.size w w' → Calls Tryz.prog 14 #[boxV (arK S x).t (arK S x).l (arK S x).b (arK S x).r, .slice a xs.length c, .int .i64 5] w' (Gives w' (.agg #[.int .i64 (cpR (arK S x) xs 5), .int .i64 (cpC (arK S x) xs 5)]))) := Lib.hid (fun w' hb => by
    rw [← place_v]
    exact place_r _ _ _ _ a c xs 5 w' (by omega) (by omega) (by omega) (by omega) (hx.grow hb).rd (Nat.le_trans hx.lc hx.cm))
  have N4 := Lib.hid (fun w' (h : Below w.heap.size w w') => number_r a c xs 4 0 w' (hx.grow h).rd (Nat.le_trans hx.lc hx.cm) (by omega))
  have N7 := Lib.hid (fun w' (h : Below w.heap.size w w') => number_r a c xs 7 0 w' (hx.grow h).rd (Nat.le_trans hx.lc hx.cm) (by omega))
  rw [num_pos _ _ (by omega)] at N4 N7
  have PG4 := Lib.hid (fun w' => page16_c (some ⟨L, o, none⟩) S.pages.length c0 sA sm sc sn S.now S.below (at0 xs 4) w' (by omega) (by have := num0_le hx.hi 4 0; rw [num_pos _ _ (by omega)] at this; exact this))
  have PG7 := Lib.hid (fun w' => page16_c (some ⟨L, o, none⟩) S.pages.length c0 sA sm sc sn S.now S.below (at0 xs 7) w' (by omega) (by have := num0_le hx.hi 7 0; rw [num_pos _ _ (by omega)] at this; exact this))
  have hi4 : pgI S.pages.length (at0 xs 4) < 0 ↔ at0 xs 4 < 0 := by unfold pgI; split <;> (try split) <;> (try split) <;> omega
  have hi7 : pgI S.pages.length (at0 xs 7) < 0 ↔ at0 xs 7 < 0 := by unfold pgI; split <;> (try split) <;> (try split) <;> omega
  have hn4 := pgI_nb S (k := at0 xs 4) hp1
  have hn7 := pgI_nb S (k := at0 xs 7) hp1
  have OE : cpOk (arK S x) xs = (reOk (arK S x) xs 0 && (decide (0 ≤ at0 xs 4) && decide (0 ≤ at0 xs 7))) := rfl
  have TE : copyRS S x xs = if cpOk (arK S x) xs = true then S.copy (nbI S (at0 xs 4)) (cpB (arK S x) xs (cpR (arK S x) xs 5) (cpC (arK S x) xs 5)) (nbI S (at0 xs 7)) (cpR (arK S x) xs 5) (cpC (arK S x) xs 5) else S := rfl
  have RE := re_bd (arK S x) xs 0
  have CB : cpB (arK S x) xs (cpR (arK S x) xs 5) (cpC (arK S x) xs 5) = ⟨(reB (arK S x) xs 0).t, (reB (arK S x) xs 0).l, min (reB (arK S x) xs 0).b ((reB (arK S x) xs 0).t + (arK S x).b - cpR (arK S x) xs 5), min (reB (arK S x) xs 0).r ((reB (arK S x) xs 0).l + (arK S x).r - cpC (arK S x) xs 5)⟩ := rfl
  have PB : reOk (arK S x) xs 0 = true → ((arK S x).t ≤ cpR (arK S x) xs 5 ∧ cpR (arK S x) xs 5 < (arK S x).b) ∧ (arK S x).l ≤ cpC (arK S x) xs 5 ∧ cpC (arK S x) xs 5 < (arK S x).r := fun hk => by
    have := RE hk
    unfold cpR cpC placeI
    rw [if_neg (by omega), if_neg (by omega)]
    omega
  generalize cpB (arK S x) xs (cpR (arK S x) xs 5) (cpC (arK S x) xs 5) = X at TE CB
  generalize cpR (arK S x) xs 5 = pr at *
  generalize cpC (arK S x) xs 5 = pc at *
  generalize cpOk (arK S x) xs = ok at *
  generalize copyRS S x xs = T at *
  generalize reB (arK S x) xs 0 = q at *
  generalize reOk (arK S x) xs 0 = k1 at *
  generalize arK S x = z at *
  generalize pgI S.pages.length (at0 xs 4) = p4 at *
  generalize pgI S.pages.length (at0 xs 7) = p7 at *
  obtain ⟨xt, xl, xb, xr⟩ := x
  obtain ⟨zt, zl, zb, zr⟩ := z
  obtain ⟨qt, ql, qb, qr⟩ := q
  simp only at AR RC PL RE CB PB ht0 ht1 hl0 hl1 hb0 hb1 hb2 hr0 hr1 hr2
  have NO : ok = false → ∀ w', Below w.heap.size w w' → NewRBo F T ok w (.returned (.tuple #[rbV (some ⟨L, o, none⟩) S.pages.length c0 (.slice sA sm sc) sn S.now S.below, .bool false])) w' := fun e w' hb => by
    rw [e] at TE ⊢
    rw [if_neg (by decide)] at TE
    rw [TE]
    exact FN.out w' hb
  replace NO := Lib.hid NO
  replace TE := Lib.hid TE
  replace OE := Lib.hid OE
  replace RE := Lib.hid RE
  replace CB := Lib.hid CB
  replace PB := Lib.hid PB
  replace hn4 := Lib.hid hn4
  replace hn7 := Lib.hid hn7
  clear hx hP0 FN
  go_enter Tryz.func59, Tryz.ntmps59
  go_upto_region 1 with fail
  generalize hW : (((w.alloc (.cells #[.slice (some ⟨L, o, none⟩) S.pages.length c0, .slice sA sm sc, .int .i64 sn, .int .i64 S.now, .bool S.below] 41)).alloc (.cells #[.int .i64 xt, .int .i64 xl, .int .i64 xb, .int .i64 xr] 31)).alloc (.cells #[.slice none 0 0, .slice none 0 0, .int .i64 0, .int .i64 0, .bool false] 41)) = W
  have hsz : W.heap.size = w.heap.size + 1 + 1 + 1 := by subst hW; simp [go_sem]
  have hB : Below w.heap.size w W := by subst hW; (repeat' (first | (with_reducible exact Below.refl _ _) | (with_reducible refine Below.alloc ?_ ?_ _) | (with_reducible refine below_ext ?_ ?_ _) | (with_reducible refine Below.drew ?_) | (with_reducible refine below_drewN ?_ _) | (with_reducible refine Below.setCell ?_ ?_ _) | go_size | (simp only [go_sem]; omega) | (simp [go_sem]; done) | (simp [go_sem]; omega)))
  have b0 : W.heap[w.heap.size]? = some (.cells #[.slice (some ⟨L, o, none⟩) S.pages.length c0, .slice sA sm sc, .int .i64 sn, .int .i64 S.now, .bool S.below] 41 (0, 0)) := by subst hW; (repeat (first | ((with_reducible refine heap_at _ _ ?_); (focus (first | rfl | (simp [go_sem]; done) | (simp [go_sem]; omega)))) | ((with_reducible refine (heap_old _ _ ?_).trans ?_); (focus (first | (simp [go_sem]; done) | (simp [go_sem]; omega)))) | ((with_reducible refine (block_ext _ _ ?_).trans ?_); (focus (first | (simp [go_sem]; done) | (simp [go_sem]; omega)))) | ((with_reducible refine (heap_drew _ _).trans ?_))))
  have b1 : W.heap[w.heap.size + 1]? = some (.cells #[.int .i64 xt, .int .i64 xl, .int .i64 xb, .int .i64 xr] 31 (0, 0)) := by subst hW; (repeat (first | ((with_reducible refine heap_at _ _ ?_); (focus (first | rfl | (simp [go_sem]; done) | (simp [go_sem]; omega)))) | ((with_reducible refine (heap_old _ _ ?_).trans ?_); (focus (first | (simp [go_sem]; done) | (simp [go_sem]; omega)))) | ((with_reducible refine (block_ext _ _ ?_).trans ?_); (focus (first | (simp [go_sem]; done) | (simp [go_sem]; omega)))) | ((with_reducible refine (heap_drew _ _).trans ?_))))
  have b2 : W.heap[w.heap.size + 1 + 1]? = some (.cells #[.slice none 0 0, .slice none 0 0, .int .i64 0, .int .i64 0, .bool false] 41 (0, 0)) := by subst hW; (repeat (first | ((with_reducible refine heap_at _ _ ?_); (focus (first | rfl | (simp [go_sem]; done) | (simp [go_sem]; omega)))) | ((with_reducible refine (heap_old _ _ ?_).trans ?_); (focus (first | (simp [go_sem]; done) | (simp [go_sem]; omega)))) | ((with_reducible refine (block_ext _ _ ?_).trans ?_); (focus (first | (simp [go_sem]; done) | (simp [go_sem]; omega)))) | ((with_reducible refine (heap_drew _ _).trans ?_))))
  clear hW
  have KS := Lib.hid (fun w' (h : Below W.heap.size W w') => (by
    have h0 := (h.block _ (by omega : w.heap.size < W.heap.size)).trans b0
    have h1 := (h.block _ (by omega : w.heap.size + 1 < W.heap.size)).trans b1
    have h2 := hB.trans (h.mono hB.size)
    exact ⟨by rw [cell_in h0]; rfl, by rw [cell_in h1]; rfl, by rw [cell_in h1]; rfl, by rw [cell_in h1]; rfl, by rw [cell_in h1]; rfl, (h2.cell (p := ⟨L, _, none⟩) hL).trans d0, (h2.cell (p := ⟨L, _, none⟩) hL).trans d1⟩ : w'.cell? ⟨w.heap.size, 0, none⟩ = some (.slice (some ⟨L, o, none⟩) S.pages.length c0) ∧ w'.cell? ⟨w.heap.size + 1, 0, none⟩ = some (.int .i64 xt) ∧ w'.cell? ⟨w.heap.size + 1, 1, none⟩ = some (.int .i64 xl) ∧ w'.cell? ⟨w.heap.size + 1, 2, none⟩ = some (.int .i64 xb) ∧ w'.cell? ⟨w.heap.size + 1, 3, none⟩ = some (.int .i64 xr) ∧ w'.cell? ⟨L, o, none⟩ = some (.slice rA rm rc) ∧ w'.cell? ⟨L, o + 1, none⟩ = some (.int .i64 rn)))
  have hBW := Lib.hid (fun w' (h : Below W.heap.size W w') => hB.trans (h.mono hB.size))
  have FZ := Lib.hid (fun w' (h : Below W.heap.size W w') (k : Nat) => (frozen_in ((h.block _ (by omega : w.heap.size + 1 < W.heap.size)).trans b1) : w'.frozen? ⟨w.heap.size + 1, k, none⟩ = false))
  go_cut [] from 18 to 23 (fun wx => ∃ x1, wx = ext ((((W.setCell ⟨w.heap.size + 1, 0, none⟩ (.int .i64 zt)).setCell ⟨w.heap.size + 1, 1, none⟩ (.int .i64 zl)).setCell ⟨w.heap.size + 1, 2, none⟩ (.int .i64 zb)).setCell ⟨w.heap.size + 1, 3, none⟩ (.int .i64 zr)) x1)
  case first =>
    clear RC PL N4 N7 PG4 PG7
    (refine wp_region_F (S := (fun w' => w'.cell? ⟨w.heap.size, 0, none⟩ = some (.slice (some ⟨L, o, none⟩) S.pages.length c0) ∧ w'.cell? ⟨w.heap.size + 1, 0, none⟩ = some (.int .i64 xt) ∧ w'.cell? ⟨w.heap.size + 1, 1, none⟩ = some (.int .i64 xl) ∧ w'.cell? ⟨w.heap.size + 1, 2, none⟩ = some (.int .i64 xb) ∧ w'.cell? ⟨w.heap.size + 1, 3, none⟩ = some (.int .i64 xr) ∧ w'.cell? ⟨L, o, none⟩ = some (.slice rA rm rc) ∧ w'.cell? ⟨L, o + 1, none⟩ = some (.int .i64 rn))) 6 [false, false, false, false, false, false, false] rfl rfl (by kernel_rfl) ?_ (fun hHeld => ?_); (focus ((try dsimp only); (exact KS.out _ (by (repeat' (first | (with_reducible exact Below.refl _ _) | (with_reducible refine Below.alloc ?_ ?_ _) | (with_reducible refine below_ext ?_ ?_ _) | (with_reducible refine Below.drew ?_) | (with_reducible refine below_drewN ?_ _) | (with_reducible refine Below.setCell ?_ ?_ _) | go_size | (simp only [go_sem]; omega) | (simp [go_sem]; done) | (simp [go_sem]; omega))))); done)))
    ((refine AtF.take (oi := ?_) (v := ?_) 0 ?_ ?_ ?_ ?_ (Or.inl ⟨?_, ?_⟩) (by assumption) ?_; rotate_left 2; rfl; kernel_rfl; kernel_rfl; exact (fun _ _ _ h => h); rfl; (focus (intro w hSw; (try dsimp only at hSw); go_simp; (try with_reducible rfl); done)); (try simp only [Act.put, List.setIfInBounds_toArray, List.set_cons_zero, List.set_cons_succ])); (refine AtF.take (oi := ?_) (v := ?_) 1 ?_ ?_ ?_ ?_ (Or.inl ⟨?_, ?_⟩) (by assumption) ?_; rotate_left 2; rfl; kernel_rfl; kernel_rfl; exact (fun _ _ _ h => h); rfl; (focus (intro w hSw; (try dsimp only at hSw); go_simp; (try with_reducible rfl); done)); (try simp only [Act.put, List.setIfInBounds_toArray, List.set_cons_zero, List.set_cons_succ])); (refine AtF.take (oi := ?_) (v := ?_) 2 ?_ ?_ ?_ ?_ (Or.inl ⟨?_, ?_⟩) (by assumption) ?_; rotate_left 2; rfl; kernel_rfl; kernel_rfl; exact (fun _ _ _ h => h); rfl; (focus (intro w hSw; (try dsimp only at hSw); go_simp; (try with_reducible rfl); done)); (try simp only [Act.put, List.setIfInBounds_toArray, List.set_cons_zero, List.set_cons_succ])); (refine AtF.take (oi := ?_) (v := ?_) 3 ?_ ?_ ?_ ?_ (Or.inl ⟨?_, ?_⟩) (by assumption) ?_; rotate_left 2; rfl; kernel_rfl; kernel_rfl; exact (fun _ _ _ h => h); rfl; (focus (intro w hSw; (try dsimp only at hSw); go_simp; (try with_reducible rfl); done)); (try simp only [Act.put, List.setIfInBounds_toArray, List.set_cons_zero, List.set_cons_succ])); (refine AtF.take (oi := ?_) (v := ?_) 4 ?_ ?_ ?_ ?_ (Or.inl ⟨?_, ?_⟩) (by assumption) ?_; rotate_left 2; rfl; kernel_rfl; kernel_rfl; exact (fun _ _ _ h => h); rfl; (focus (intro w hSw; (try dsimp only at hSw); go_simp; (try with_reducible rfl); done)); (try simp only [Act.put, List.setIfInBounds_toArray, List.set_cons_zero, List.set_cons_succ])))
    (refine AtF.only (oi := ?_) 5 ?_ ?_ (fun K hK => ?_); rotate_left 1; rfl; kernel_rfl; (try go_simp); (go_at_call 46; ((with_reducible refine (AR.out _ (hBW.out _ (by (repeat' (first | (with_reducible exact Below.refl _ _) | (with_reducible refine Below.alloc ?_ ?_ _) | (with_reducible refine below_ext ?_ ?_ _) | (with_reducible refine Below.drew ?_) | (with_reducible refine below_drewN ?_ _) | (with_reducible refine Below.setCell ?_ ?_ _) | go_size | (simp only [go_sem]; omega) | (simp [go_sem]; done) | (simp [go_sem]; omega)))))).mono ?_); rintro _ _ hgets; obtain ⟨rfl, x1, rfl⟩ := hgets.get; clear hgets)); (refine hK.out _ _ ?_ (fun hHeld => ?_)); (focus ((try dsimp only); (exact KS.out _ (by (repeat' (first | (with_reducible exact Below.refl _ _) | (with_reducible refine Below.alloc ?_ ?_ _) | (with_reducible refine below_ext ?_ ?_ _) | (with_reducible refine Below.drew ?_) | (with_reducible refine below_drewN ?_ _) | (with_reducible refine Below.setCell ?_ ?_ _) | go_size | (simp only [go_sem]; omega) | (simp [go_sem]; done) | (simp [go_sem]; omega))))); done)); clear hK K; (try simp only [Act.put, List.setIfInBounds_toArray, List.set_cons_zero, List.set_cons_succ]))
    obtain ⟨f0, f1, f2, f3, f4, f5, f6⟩ := KS.out W (Below.refl _ _)
    have fz := FZ.out W (Below.refl _ _)
    have hlq : w.heap.size + 1 < W.heap.size := by omega
    (refine AtF.last (oi := ?_) ?_ ?_ (fun K hK => ?_); rotate_left 1; rfl; kernel_rfl; go_simp; skip; refine hK.out _ _ ?_; clear hK K; (try simp only [Act.put, List.setIfInBounds_toArray, List.set_cons_zero, List.set_cons_succ]))
    clear hHeld
    go_wp2
    go_meet
    exact ⟨x1, rfl⟩
  obtain ⟨x1, rfl⟩ := hcut
  have hk1 : Keep (· = w.heap.size + 1) W ((((W.setCell ⟨w.heap.size + 1, 0, none⟩ (.int .i64 zt)).setCell ⟨w.heap.size + 1, 1, none⟩ (.int .i64 zl)).setCell ⟨w.heap.size + 1, 2, none⟩ (.int .i64 zb)).setCell ⟨w.heap.size + 1, 3, none⟩ (.int .i64 zr)) := (((keep_set W (w.heap.size + 1) 0 _).set (F := (· = w.heap.size + 1)) (p := ⟨w.heap.size + 1, 1, none⟩) (.inl rfl) _).set (F := (· = w.heap.size + 1)) (p := ⟨w.heap.size + 1, 2, none⟩) (.inl rfl) _).set (F := (· = w.heap.size + 1)) (p := ⟨w.heap.size + 1, 3, none⟩) (.inl rfl) _
  have hz1 : ((((W.setCell ⟨w.heap.size + 1, 0, none⟩ (.int .i64 zt)).setCell ⟨w.heap.size + 1, 1, none⟩ (.int .i64 zl)).setCell ⟨w.heap.size + 1, 2, none⟩ (.int .i64 zb)).setCell ⟨w.heap.size + 1, 3, none⟩ (.int .i64 zr)).heap[w.heap.size + 1]? = some (.cells #[.int .i64 zt, .int .i64 zl, .int .i64 zb, .int .i64 zr] 31 (0, 0)) := by
    have := set_cellA (k := 3) (.int .i64 zr) (set_cellA (k := 2) (.int .i64 zb) (set_cellA (k := 1) (.int .i64 zl) (set_cellA (k := 0) (.int .i64 zt) b1)))
    simpa using this
  have hB2 : Below w.heap.size w ((((W.setCell ⟨w.heap.size + 1, 0, none⟩ (.int .i64 zt)).setCell ⟨w.heap.size + 1, 1, none⟩ (.int .i64 zl)).setCell ⟨w.heap.size + 1, 2, none⟩ (.int .i64 zb)).setCell ⟨w.heap.size + 1, 3, none⟩ (.int .i64 zr)) := hB.trans (hk1.below (fun x e => by omega) hB.size)
  generalize (((W.setCell ⟨w.heap.size + 1, 0, none⟩ (.int .i64 zt)).setCell ⟨w.heap.size + 1, 1, none⟩ (.int .i64 zl)).setCell ⟨w.heap.size + 1, 2, none⟩ (.int .i64 zb)).setCell ⟨w.heap.size + 1, 3, none⟩ (.int .i64 zr) = W2 at hk1 hz1 hB2 ⊢
  have hsz2 := hk1.size
  have b02 := (hk1.block w.heap.size (by omega) (by omega)).trans b0
  have b22 := (hk1.block (w.heap.size + 1 + 1) (by omega) (by omega)).trans b2
  clear hk1 b0 b1 b2 KS hBW FZ
  have hBW2 := Lib.hid (fun w' (h : Below W2.heap.size W2 w') => hB2.trans (h.mono hB2.size))
  have KZ := Lib.hid (fun w' (h : Below W2.heap.size W2 w') => (by
    have h1 := (h.block _ (by omega : w.heap.size + 1 < W2.heap.size)).trans hz1
    exact ⟨by rw [cell_in h1]; rfl, by rw [cell_in h1]; rfl, by rw [cell_in h1]; rfl, by rw [cell_in h1]; rfl⟩ : w'.cell? ⟨w.heap.size + 1, 0, none⟩ = some (.int .i64 zt) ∧ w'.cell? ⟨w.heap.size + 1, 1, none⟩ = some (.int .i64 zl) ∧ w'.cell? ⟨w.heap.size + 1, 2, none⟩ = some (.int .i64 zb) ∧ w'.cell? ⟨w.heap.size + 1, 3, none⟩ = some (.int .i64 zr)))
  go_upto_region 2 with fail
  go_cut [8, 9] from 24 to 29 (fun v8 v9 wx => ∃ H8, v8 = .pointer (some ⟨H8, 0, none⟩) ∧ v9 = .bool k1 ∧ Below W2.heap.size W2 wx ∧ W2.heap.size ≤ H8 ∧ wx.heap[H8]? = some (.cells #[.int .i64 qt, .int .i64 ql, .int .i64 qb, .int .i64 qr] 31 (0, 0)))
  case first =>
    obtain ⟨f1, f2, f3, f4⟩ := KZ.out W2 (Below.refl _ _)
    have hlz : w.heap.size + 1 < W2.heap.size := by omega
    go_wp2_with (go_at_call 13; ((with_reducible refine (RC.out _ (hBW2.out _ (by (repeat' (first | (with_reducible exact Below.refl _ _) | (with_reducible refine Below.alloc ?_ ?_ _) | (with_reducible refine below_ext ?_ ?_ _) | (with_reducible refine Below.drew ?_) | (with_reducible refine below_drewN ?_ _) | (with_reducible refine Below.setCell ?_ ?_ _) | go_size | (simp only [go_sem]; omega) | (simp [go_sem]; done) | (simp [go_sem]; omega)))))).mono ?_); rintro _ _ hgets; obtain ⟨rfl, x2, rfl⟩ := hgets.get; clear hgets))
    go_meet
    refine ⟨_, rfl, rfl, by (repeat' (first | (with_reducible exact Below.refl _ _) | (with_reducible refine Below.alloc ?_ ?_ _) | (with_reducible refine below_ext ?_ ?_ _) | (with_reducible refine Below.drew ?_) | (with_reducible refine below_drewN ?_ _) | (with_reducible refine Below.setCell ?_ ?_ _) | go_size | (simp only [go_sem]; omega) | (simp [go_sem]; done) | (simp [go_sem]; omega))), by (try simp); (try omega), ?_⟩
    (repeat (first | ((with_reducible refine heap_at _ _ ?_); (focus (first | rfl | (simp [go_sem]; done) | (simp [go_sem]; omega)))) | ((with_reducible refine (heap_old _ _ ?_).trans ?_); (focus (first | (simp [go_sem]; done) | (simp [go_sem]; omega)))) | ((with_reducible refine (block_ext _ _ ?_).trans ?_); (focus (first | (simp [go_sem]; done) | (simp [go_sem]; omega)))) | ((with_reducible refine (heap_drew _ _).trans ?_))))
  obtain ⟨H8, rfl, rfl, hB3, hH8, b8⟩ := hcut
  obtain ⟨W3, eW3⟩ : ∃ W3, W3 = wc := ⟨_, rfl⟩
  rw [← eW3] at hB3 b8 ⊢
  clear eW3 wc x1 RC
  have hBW3 := Lib.hid (fun w' (h : Below W3.heap.size W3 w') => hBW2.out _ (hB3.trans (h.mono hB3.size)))
  have hsz3 := hB3.size
  have b03 := (hB3.block _ (by omega : w.heap.size < W2.heap.size)).trans b02
  have K0 := Lib.hid (fun w' (h : Below W3.heap.size W3 w') => (by
    have h1 := (h.block _ (by omega : w.heap.size < W3.heap.size)).trans b03
    exact ⟨by rw [cell_in h1]; rfl, by rw [cell_in h1]; rfl, by rw [cell_in h1]; rfl, by rw [cell_in h1]; rfl, by rw [cell_in h1]; rfl⟩ : w'.cell? ⟨w.heap.size, 0, none⟩ = some (.slice (some ⟨L, o, none⟩) S.pages.length c0) ∧ w'.cell? ⟨w.heap.size, 1, none⟩ = some (.slice sA sm sc) ∧ w'.cell? ⟨w.heap.size, 2, none⟩ = some (.int .i64 sn) ∧ w'.cell? ⟨w.heap.size, 3, none⟩ = some (.int .i64 S.now) ∧ w'.cell? ⟨w.heap.size, 4, none⟩ = some (.bool S.below)))
  go_upto_region 3 with fail
  go_cut [10] from 30 to 33 (fun v wx => v = .int .i64 p4 ∧ Below W3.heap.size W3 wx)
  case first =>
    go_region_held3 (fun w' => w'.cell? ⟨w.heap.size, 0, none⟩ = some (.slice (some ⟨L, o, none⟩) S.pages.length c0) ∧ w'.cell? ⟨w.heap.size, 1, none⟩ = some (.slice sA sm sc) ∧ w'.cell? ⟨w.heap.size, 2, none⟩ = some (.int .i64 sn) ∧ w'.cell? ⟨w.heap.size, 3, none⟩ = some (.int .i64 S.now) ∧ w'.cell? ⟨w.heap.size, 4, none⟩ = some (.bool S.below)) (exact K0.out _ (by (repeat' (first | (with_reducible exact Below.refl _ _) | (with_reducible refine Below.alloc ?_ ?_ _) | (with_reducible refine below_ext ?_ ?_ _) | (with_reducible refine Below.drew ?_) | (with_reducible refine below_drewN ?_ _) | (with_reducible refine Below.setCell ?_ ?_ _) | go_size | (simp only [go_sem]; omega) | (simp [go_sem]; done) | (simp [go_sem]; omega))))) ((first
      | (go_at_call 47; ((with_reducible refine (N4.out _ (hBW3.out _ (by (repeat' (first | (with_reducible exact Below.refl _ _) | (with_reducible refine Below.alloc ?_ ?_ _) | (with_reducible refine below_ext ?_ ?_ _) | (with_reducible refine Below.drew ?_) | (with_reducible refine below_drewN ?_ _) | (with_reducible refine Below.setCell ?_ ?_ _) | go_size | (simp only [go_sem]; omega) | (simp [go_sem]; done) | (simp [go_sem]; omega)))))).mono ?_); rintro _ _ ⟨rfl, rfl⟩))
      | (go_at_call 48; ((with_reducible refine (PG4.out _).mono ?_); rintro _ _ hgets; obtain ⟨rfl, x4, rfl⟩ := hgets.get; clear hgets))))
    all_goals go_wp2
    all_goals go_meet
    all_goals exact ⟨rfl, by (repeat' (first | (with_reducible exact Below.refl _ _) | (with_reducible refine Below.alloc ?_ ?_ _) | (with_reducible refine below_ext ?_ ?_ _) | (with_reducible refine Below.drew ?_) | (with_reducible refine below_drewN ?_ _) | (with_reducible refine Below.setCell ?_ ?_ _) | go_size | (simp only [go_sem]; omega) | (simp [go_sem]; done) | (simp [go_sem]; omega)))⟩
  obtain ⟨rfl, hB3⟩ := hcut
  obtain ⟨x3, e3⟩ := ext_of hB3
  subst e3
  clear hB3
  go_upto_region 4 with fail
  go_cut [11] from 34 to 37 (fun v wx => v = .int .i64 p7 ∧ Below W3.heap.size W3 wx)
  case first =>
    go_region_held3 (fun w' => w'.cell? ⟨w.heap.size, 0, none⟩ = some (.slice (some ⟨L, o, none⟩) S.pages.length c0) ∧ w'.cell? ⟨w.heap.size, 1, none⟩ = some (.slice sA sm sc) ∧ w'.cell? ⟨w.heap.size, 2, none⟩ = some (.int .i64 sn) ∧ w'.cell? ⟨w.heap.size, 3, none⟩ = some (.int .i64 S.now) ∧ w'.cell? ⟨w.heap.size, 4, none⟩ = some (.bool S.below)) (exact K0.out _ (by (repeat' (first | (with_reducible exact Below.refl _ _) | (with_reducible refine Below.alloc ?_ ?_ _) | (with_reducible refine below_ext ?_ ?_ _) | (with_reducible refine Below.drew ?_) | (with_reducible refine below_drewN ?_ _) | (with_reducible refine Below.setCell ?_ ?_ _) | go_size | (simp only [go_sem]; omega) | (simp [go_sem]; done) | (simp [go_sem]; omega))))) ((first
      | (go_at_call 47; ((with_reducible refine (N7.out _ (hBW3.out _ (by (repeat' (first | (with_reducible exact Below.refl _ _) | (with_reducible refine Below.alloc ?_ ?_ _) | (with_reducible refine below_ext ?_ ?_ _) | (with_reducible refine Below.drew ?_) | (with_reducible refine below_drewN ?_ _) | (with_reducible refine Below.setCell ?_ ?_ _) | go_size | (simp only [go_sem]; omega) | (simp [go_sem]; done) | (simp [go_sem]; omega)))))).mono ?_); rintro _ _ ⟨rfl, rfl⟩))
      | (go_at_call 48; ((with_reducible refine (PG7.out _).mono ?_); rintro _ _ hgets; obtain ⟨rfl, x4, rfl⟩ := hgets.get; clear hgets))))
    all_goals go_wp2
    all_goals go_meet
    all_goals exact ⟨rfl, by (repeat' (first | (with_reducible exact Below.refl _ _) | (with_reducible refine Below.alloc ?_ ?_ _) | (with_reducible refine below_ext ?_ ?_ _) | (with_reducible refine Below.drew ?_) | (with_reducible refine below_drewN ?_ _) | (with_reducible refine Below.setCell ?_ ?_ _) | go_size | (simp only [go_sem]; omega) | (simp [go_sem]; done) | (simp [go_sem]; omega)))⟩
  obtain ⟨rfl, hB4⟩ := hcut
  obtain ⟨x4, e4⟩ := ext_of hB4
  subst e4
  clear hB4
  clear N4 N7 PG4 PG7 x3
  have b23 := (hB3.block _ (by omega : w.heap.size + 1 + 1 < W2.heap.size)).trans b22
  obtain ⟨f1, f2, f3, f4, f5⟩ := K0.out (ext W3 x4) (by (repeat' (first | (with_reducible exact Below.refl _ _) | (with_reducible refine Below.alloc ?_ ?_ _) | (with_reducible refine below_ext ?_ ?_ _) | (with_reducible refine Below.drew ?_) | (with_reducible refine below_drewN ?_ _) | (with_reducible refine Below.setCell ?_ ?_ _) | go_size | (simp only [go_sem]; omega) | (simp [go_sem]; done) | (simp [go_sem]; omega))))
  have b24 : (ext W3 x4).heap[w.heap.size + 1 + 1]? = some (.cells #[.slice none 0 0, .slice none 0 0, .int .i64 0, .int .i64 0, .bool false] 41 (0, 0)) := ((below_of_ext W3 x4).block _ (by omega)).trans b23
  generalize hW4 : ext W3 x4 = W4 at f1 f2 f3 f4 f5 b24 ⊢
  have hB34 : Below W3.heap.size W3 W4 := by rw [← hW4]; (repeat' (first | (with_reducible exact Below.refl _ _) | (with_reducible refine Below.alloc ?_ ?_ _) | (with_reducible refine below_ext ?_ ?_ _) | (with_reducible refine Below.drew ?_) | (with_reducible refine below_drewN ?_ _) | (with_reducible refine Below.setCell ?_ ?_ _) | go_size | (simp only [go_sem]; omega) | (simp [go_sem]; done) | (simp [go_sem]; omega)))
  clear hW4
  have hl0 : w.heap.size < W4.heap.size := by have := hB34.size; omega
  go_upto_region 5 with fail
  obtain ⟨nb, hnb⟩ : ∃ nb, nb = !ok := ⟨_, rfl⟩
  go_cut [47] from 38 to 47 (fun v wx => v = .bool nb ∧ wx = W4)
  case first =>
    have oe := OE.out
    replace hi4 := Lib.hid hi4
    replace hi7 := Lib.hid hi7
    cases k1
    · rw [Bool.false_and] at oe
      rw [oe] at hnb
      replace hnb := Lib.hid hnb
      go_wp2
      go_meet
      exact ⟨by rw [hnb.out]; rfl, rfl⟩
    · rw [Bool.true_and] at oe
      by_cases g4 : p4 < 0
      · have oe2 : ok = false := by rw [oe, decide_eq_false (by have := hi4.out.1 g4; omega), Bool.false_and]
        have d4 : decide (p4 < 0) = true := decide_eq_true g4
        rw [oe2] at hnb
        replace hnb := Lib.hid hnb
        go_wp2
        go_meet
        exact ⟨by rw [hnb.out]; rfl, rfl⟩
      · have d4 : decide (p4 < 0) = false := decide_eq_false g4
        by_cases g7 : p7 < 0
        · have oe2 : ok = false := by rw [oe, decide_eq_false (p := 0 ≤ at0 xs 7) (by have := hi7.out.1 g7; omega), Bool.and_false]
          have d7 : decide (p7 < 0) = true := decide_eq_true g7
          rw [oe2] at hnb
          replace hnb := Lib.hid hnb
          go_wp2
          go_meet
          exact ⟨by rw [hnb.out]; rfl, rfl⟩
        · have oe2 : ok = true := by rw [oe, decide_eq_true (p := 0 ≤ at0 xs 7) (Int.not_lt.mp fun h => g7 (hi7.out.2 h)), decide_eq_true (p := 0 ≤ at0 xs 4) (Int.not_lt.mp fun h => g4 (hi4.out.2 h))]; rfl
          have d7 : decide (p7 < 0) = false := decide_eq_false g7
          rw [oe2] at hnb
          replace hnb := Lib.hid hnb
          go_wp2
          go_meet
          exact ⟨by rw [hnb.out]; rfl, rfl⟩
  obtain ⟨rfl, e⟩ := hcut
  rw [e]
  clear e wc
  cases hok : ok
  · obtain rfl : nb = true := by rw [hnb, hok]; rfl
    clear hnb
    obtain ⟨r0, r1, r2, r3, r4, hr24, rz⟩ := five b24
    have rz0 := rz 0
    have rz1 := rz 1
    have rz2 := rz 2
    have rz3 := rz 3
    have rz4 := rz 4
    clear rz
    obtain ⟨W5, h5, hk5, hs5⟩ := store5 b24 (.slice (some ⟨L, o, none⟩) S.pages.length c0) (.slice sA sm sc) (.int .i64 sn) (.int .i64 S.now) (.bool S.below)
    obtain ⟨t0, t1, t2, t3, t4, tl, tz⟩ := five hs5
    have hB5 : Below w.heap.size w W5 := (hBW3.out _ hB34).trans (hk5.below (fun x e => by omega) (hBW3.out _ hB34).size)
    clear hk5 hs5 b24 tz
    have no := Lib.hid (NO.out hok _ hB5)
    rw [hok] at no
    clear NO
    go_wp2
    try rw [h5]
    simp [bodyPost, go_sem, t0, t1, t2, t3, t4]
    exact ⟨_, by simp [results, Tryz.f59, go_sem, t0, t1, t2, t3, t4] <;> rfl, no.out⟩
  · obtain rfl : nb = false := by rw [hnb, hok]; rfl
    clear hnb
    have oe := OE.out.symm
    rw [hok] at oe
    simp only [Bool.and_eq_true, decide_eq_true_eq] at oe
    obtain ⟨o1, o4, o7⟩ := oe
    subst o1
    have pb := PB.out rfl
    have re := RE.out rfl
    have n4 := hn4.out o4
    have n7 := hn7.out o7
    have i4 := nbI_in hS (at0 xs 4)
    have i7 := nbI_in hS (at0 xs 7)
    have te := TE.out
    have cb := CB.out
    rw [if_pos hok, ← n4, ← n7] at te
    rw [← n4] at i4
    rw [← n7] at i7
    obtain ⟨j4, rfl⟩ : ∃ j : Nat, p4 = j := Int.eq_ofNat_of_zero_le (by omega)
    obtain ⟨j7, rfl⟩ : ∃ j : Nat, p7 = j := Int.eq_ofNat_of_zero_le (by omega)
    obtain ⟨tq, rfl⟩ : ∃ j : Nat, qt = j := Int.eq_ofNat_of_zero_le (by omega)
    obtain ⟨lq, rfl⟩ : ∃ j : Nat, ql = j := Int.eq_ofNat_of_zero_le (by omega)
    obtain ⟨mm, rfl⟩ : ∃ m : Nat, qb = (tq : Int) + m := ⟨(qb - tq).toNat, by omega⟩
    obtain ⟨nn, rfl⟩ : ∃ m : Nat, qr = (lq : Int) + m := ⟨(qr - lq).toNat, by omega⟩
    obtain ⟨rr, rfl⟩ : ∃ j : Nat, pr = j := Int.eq_ofNat_of_zero_le (by omega)
    obtain ⟨cc, rfl⟩ : ∃ j : Nat, pc = j := Int.eq_ofNat_of_zero_le (by omega)
    have hj4 : j4 < S.pages.length := by omega
    have hj7 : j7 < S.pages.length := by omega
    obtain ⟨ev4a, ev4b⟩ := he _ (List.getElem_mem hj4)
    obtain ⟨ev7a, ev7b⟩ := he _ (List.getElem_mem hj7)
    obtain ⟨G, eT, g1, g2, g3, g4, g5⟩ := copy_scan hS hj4 hj7 (tq := tq) (lq := lq) (mm := mm) (nn := nn) (rr := rr) (cc := cc) (zb := zb) (zr := zr) (by omega) (by omega) (by omega) (by omega) (by omega) (by omega)
    rw [cb, eT] at te
    obtain ⟨⟨A4, m4, k4, n4'⟩, L4, o4', -, eL4, hr4, d4, -, hl4⟩ := ho.ps.get hj4
    obtain ⟨⟨A7, m7, k7, n7'⟩, L7, o7', -, eL7, hr7, d7, d71, -⟩ := ho.ps.get hj7
    injection eL4 with eL4
    injection eL4 with eL4 eo4
    subst eL4 eo4
    injection eL7 with eL7
    injection eL7 with eL7 eo7
    subst eL7 eo7
    have ok4 := hS.pg _ (List.getElem_mem hj4)
    have ok7 := hS.pg _ (List.getElem_mem hj7)
    obtain ⟨e41, -⟩ := hr4.form
    simp only at e41
    subst e41
    simp only [RPg.V, RPg.v] at hr4 hr7 d4 d7 d71
    have CP := Lib.hid (fun w' (hb : Below w.heap.size w w') => refcopy_c _ _ w' (hr7.grow hb).v ok7.r2 ok7.small)
    have SP := Lib.hid (fun p P w' (hb' : Below w.heap.size w w') => setpage_c (F := fun x => F x ∨ x = w.heap.size + 1 + 1) (P := P) (p := p) (w := w') j7 hj7 ((h'.out.off (R := w.heap.size + 1 + 1) (by omega)).grow hb') hS)
    obtain ⟨V4, rows4, eV4, hlb, hvb, -⟩ := hr4
    injection eV4 with eV4
    simp only [Array.mk.injEq, List.cons.injEq, and_true] at eV4
    obtain ⟨rfl, -⟩ := eV4
    have hrow := Lib.hid (fun i (hi : i < S.pages[j4].rows.length) => hlb.at hvb hi)
    clear hlb hvb hr7 h' NO
    generalize S.pages[j7] = P at *
    generalize S.pages[j4] = Q at *
    replace g1 := Lib.hid g1
    replace g2 := Lib.hid g2
    replace g3 := Lib.hid g3
    replace g4 := Lib.hid g4
    replace g5 := Lib.hid g5
    replace te := Lib.hid te
    replace hok := Lib.hid hok
    have ok4h := Lib.hid ok4
    have ok7h := Lib.hid ok7
    clear eT cb n4 n7 hi4 hi7 ok4 ok7
    have hrb : rr ≤ 500 ∧ cc ≤ 500 ∧ tq + mm ≤ 500 ∧ lq + nn ≤ 500 := by omega
    have hdim := Lib.hid (fun ri ci ii kk i k (e1 : ri = rr + ii) (e2 : ci = cc + kk) (e3 : i = tq + ii) (e4 : k = lq + kk) (h1 : ii < mm) (h2 : kk < nn) (h3 : (ri : Int) < zb) (h4 : (ci : Int) < zr) => (by omega : ri < P.rows.length ∧ ci < P.cols ∧ i < Q.rows.length ∧ k < Q.cols ∧ ri < 500 ∧ ci < 500 ∧ i < 500 ∧ k < 500))
    clear ev4a ev4b ev7a ev7b
    have hB4 := hBW3.out _ hB34
    have hs4 := hB34.size
    have hs4' := hB3.size
    go_upto_region 7 with fail
    have zz : W4.heap[w.heap.size + 1]? = some (.cells #[.int .i64 zt, .int .i64 zl, .int .i64 zb, .int .i64 zr] 31 (0, 0)) := (hB34.block _ (by omega)).trans ((hB3.block _ (by omega)).trans hz1)
    have b8' := (hB34.block _ (heap_in b8)).trans b8
    go_cut [12] from 49 to 51 (fun v wx => ∃ H12, v = .pointer (some ⟨H12, 0, none⟩) ∧ Below W4.heap.size W4 wx ∧ W4.heap.size ≤ H12 ∧ wx.heap[H12]? = some (.cells #[.int .i64 rr, .int .i64 cc] 52 (0, 0)))
    case first =>
      have f1 : W4.cell? ⟨w.heap.size + 1, 0, none⟩ = some (.int .i64 zt) := by rw [cell_in zz]; rfl
      have f2 : W4.cell? ⟨w.heap.size + 1, 1, none⟩ = some (.int .i64 zl) := by rw [cell_in zz]; rfl
      have f3 : W4.cell? ⟨w.heap.size + 1, 2, none⟩ = some (.int .i64 zb) := by rw [cell_in zz]; rfl
      have f4 : W4.cell? ⟨w.heap.size + 1, 3, none⟩ = some (.int .i64 zr) := by rw [cell_in zz]; rfl
      have hlz := heap_in zz
      go_wp2_with (go_at_call 14; ((with_reducible refine (PL.out _ (by first | exact hB4 | (repeat' (first | (with_reducible exact Below.refl _ _) | (with_reducible refine Below.alloc ?_ ?_ _) | (with_reducible refine below_ext ?_ ?_ _) | (with_reducible refine Below.drew ?_) | (with_reducible refine below_drewN ?_ _) | (with_reducible refine Below.setCell ?_ ?_ _) | go_size | (simp only [go_sem]; omega) | (simp [go_sem]; done) | (simp [go_sem]; omega))))).mono ?_); rintro _ _ hgets; obtain ⟨rfl, x2, rfl⟩ := hgets.get; clear hgets))
      go_meet
      refine ⟨_, rfl, by (repeat' (first | (with_reducible exact Below.refl _ _) | (with_reducible refine Below.alloc ?_ ?_ _) | (with_reducible refine below_ext ?_ ?_ _) | (with_reducible refine Below.drew ?_) | (with_reducible refine below_drewN ?_ _) | (with_reducible refine Below.setCell ?_ ?_ _) | go_size | (simp only [go_sem]; omega) | (simp [go_sem]; done) | (simp [go_sem]; omega))), by (try simp); (try omega), ?_⟩
      (repeat (first | ((with_reducible refine heap_at _ _ ?_); (focus (first | rfl | (simp [go_sem]; done) | (simp [go_sem]; omega)))) | ((with_reducible refine (heap_old _ _ ?_).trans ?_); (focus (first | (simp [go_sem]; done) | (simp [go_sem]; omega)))) | ((with_reducible refine (block_ext _ _ ?_).trans ?_); (focus (first | (simp [go_sem]; done) | (simp [go_sem]; omega)))) | ((with_reducible refine (heap_drew _ _).trans ?_))))
    obtain ⟨H12, rfl, hB5, hH12, b12⟩ := hcut
    obtain ⟨W5, eW5⟩ : ∃ W5, W5 = wc := ⟨_, rfl⟩
    rw [← eW5] at hB5 b12 ⊢
    clear eW5 wc PL
    have hs5 := hB5.size
    have hB5w : Below w.heap.size w W5 := hB4.trans (hB5.mono (by omega))
    have z5 := (hB5.block _ (by omega)).trans zz
    have q5 := (hB5.block _ (heap_in b8')).trans b8'
    have a5 : W5.cell? ⟨w.heap.size, 0, none⟩ = some (.slice (some ⟨L, o, none⟩) S.pages.length c0) := (cell_of_heap (hB5.block w.heap.size (by omega))).trans f1
    have c7 : W5.cell? ⟨L, o + j7 * 2, none⟩ = some (.slice A7 m7 k7) := (hB5w.cell (p := ⟨L, _, none⟩) hL).trans d7
    have c71 : W5.cell? ⟨L, o + j7 * 2 + 1, none⟩ = some (.int .i64 n7') := (hB5w.cell (p := ⟨L, _, none⟩) hL).trans d71
    have c4 : W5.cell? ⟨L, o + j4 * 2, none⟩ = some (.slice A4 Q.rows.length k4) := (hB5w.cell (p := ⟨L, _, none⟩) hL).trans d4
    have hL5 : L < W5.heap.size := by omega
    have hl05 : w.heap.size < W5.heap.size := by omega
    go_upto_region 8 with fail
    go_cut [13] from 52 to 57 (fun v wx => ∃ H A n c rows, v = .pointer (some ⟨H, 0, none⟩) ∧ QAt W5 wx H P A n c rows)
    case first =>
      go_wp2_with (
        (go_at_call 84
         (with_reducible refine (CP.out _ hB5w).mono ?_)
         rintro _ _ ⟨V, rws, x2, rfl, rfl, hl1, hv1, hf1⟩
         obtain ⟨A1, c1, rfl, _, _⟩ := hl1.form))
      go_meet
      exact ⟨_, _, _, _, _, rfl, q_start hl1 hv1 hf1 rfl⟩
    obtain ⟨H, A1, n1, c1, rws, rfl, hQ⟩ := hcut
    obtain ⟨wi, ewi⟩ : ∃ wi, wi = wc := ⟨_, rfl⟩
    rw [← ewi] at hQ ⊢
    clear ewi wc CP
    have nr : n1 = P.rows.length := hQ.num
    subst nr
    have u0 := hQ.old (by have := heap_in q5; omega) (show W5.cell? ⟨H8, 0, none⟩ = some (.int .i64 tq) by rw [cell_in q5]; rfl)
    have hq8 : H8 < wi.heap.size := by have := heap_in q5; have := hQ.keep.size; omega
    replace hQ : QAt W5 wi H (mapIJ P G rr cc) A1 P.rows.length c1 rws := by rw [mapIJ_from g1.out]; exact hQ
    replace hQ := Lib.hid hQ
    have hrW := Lib.hid (fun i (hi : i < Q.rows.length) => (by
      obtain ⟨L, g, k, xs, z, h1, h2, h3, h4, h5, h6, h7, h8⟩ := hrow.out i hi
      exact ⟨L, g, k, xs, z, h1, h2, h3.grow hB5w, Nat.lt_of_lt_of_le h8 hB5w.size, (hB5w.cell (p := ⟨L, _, none⟩) h8).trans h6⟩ : ∃ L g k xs z, A4 = some ⟨L, 0, none⟩ ∧ Q.rows[i] = (xs, z) ∧ RowM.At W5 ⟨g, k, xs, z⟩ ∧ L < W5.heap.size ∧ W5.cell? ⟨L, i * 2, none⟩ = some (.slice (some ⟨g, 0, none⟩) xs.length k)))
    have b05 := (hB5.block _ (by omega)).trans ((hB34.block _ (by omega)).trans b03)
    have b25 := (hB5.block _ (by omega)).trans b24
    have z5l := heap_in z5
    have q5l := heap_in q5
    have b12l := heap_in b12
    have hO := Lib.hid (⟨by rw [cell_in z5]; rfl, by rw [cell_in z5]; rfl, by rw [cell_in z5]; rfl, by rw [cell_in z5]; rfl, by rw [cell_in q5]; rfl, by rw [cell_in q5]; rfl, by rw [cell_in q5]; rfl, by rw [cell_in q5]; rfl, by rw [cell_in b12]; rfl, by rw [cell_in b12]; rfl, a5, c4⟩ :
      W5.cell? ⟨w.heap.size + 1, 0, none⟩ = some (.int .i64 zt) ∧ W5.cell? ⟨w.heap.size + 1, 1, none⟩ = some (.int .i64 zl) ∧ W5.cell? ⟨w.heap.size + 1, 2, none⟩ = some (.int .i64 zb) ∧ W5.cell? ⟨w.heap.size + 1, 3, none⟩ = some (.int .i64 zr) ∧
      W5.cell? ⟨H8, 0, none⟩ = some (.int .i64 tq) ∧ W5.cell? ⟨H8, 1, none⟩ = some (.int .i64 lq) ∧ W5.cell? ⟨H8, 2, none⟩ = some (.int .i64 ((tq : Int) + mm)) ∧ W5.cell? ⟨H8, 3, none⟩ = some (.int .i64 ((lq : Int) + nn)) ∧
      W5.cell? ⟨H12, 0, none⟩ = some (.int .i64 rr) ∧ W5.cell? ⟨H12, 1, none⟩ = some (.int .i64 cc) ∧ W5.cell? ⟨w.heap.size, 0, none⟩ = some (.slice (some ⟨L, o, none⟩) S.pages.length c0) ∧ W5.cell? ⟨L, o + j4 * 2, none⟩ = some (.slice A4 Q.rows.length k4))
    replace b05 := Lib.hid b05
    replace b25 := Lib.hid b25
    have hB5h := Lib.hid hB5w
    have hFh := Lib.hid hF
    clear hF hB5w hrow c7 c71 c4 a5 z5 q5 b12 b8 b8' zz hz1 b02 b22 b03 b23 b24 f1 f2 f3 f4 f5 hB2 hB hBW2 hBW3 K0 KZ hB5 hB4 hB34 hB3 d4 d7 d71 TE OE CB PB RE hn4 hn7
    go_wp2
    clear u0 hq8
    go_loopw [14] (fun iv wr => ∃ (i ii : Nat) (rows' : List RowM), i = tq + ii ∧ ii ≤ mm ∧ iv = .int .i64 i ∧ Hid (QAt W5 wr H (mapIJ P G (rr + ii) cc) A1 P.rows.length c1 rows')) (fun iv _ => tq + mm - (intOf iv).toNat)
    case atStart => exact ⟨tq, 0, rws, rfl, by omega, rfl, hQ⟩
    case round =>
      obtain ⟨i, ii, rows', ei, hii, rfl, hQ⟩ := hrel
      obtain ⟨Z0, Z1, Z2, Z3, Q0, Q1, Q2, Q3, T0, T1, B0, P0⟩ := hO.out
      have hS0 := hQ.out.keep.size
      have hi9 : i < 1000 := by omega
      by_cases hlt : ii < mm
      · have d1 : decide ((i : Int) < (tq : Int) + mm) = true := decide_eq_true (by omega)
        have r2 := hQ.out.old q5l Q2
        have r1 := hQ.out.old q5l Q1
        have hq8 := Nat.lt_of_lt_of_le q5l hS0
        replace ei := Lib.hid ei
        go_wp2
        replace ei := ei.out
        clear r1 r2 hq8 hS0
        go_loopw [15] (fun kv wr => ∃ (k kk : Nat) (rows2 : List RowM), k = lq + kk ∧ kk ≤ nn ∧ kv = .int .i64 k ∧ Hid (QAt W5 wr H (mapIJ P G (rr + ii) (cc + kk)) A1 P.rows.length c1 rows2)) (fun kv _ => lq + nn - (intOf kv).toNat)
        case atStart => exact ⟨lq, 0, rows', rfl, by omega, rfl, hQ⟩
        case round =>
          obtain ⟨k, kk, rows2, ek, hkk, rfl, hQ⟩ := hrel
          have hS0 := hQ.out.keep.size
          have r3 := hQ.out.old q5l Q3
          have hq8 := Nat.lt_of_lt_of_le q5l hS0
          have hk9 : k < 1000 := by omega
          by_cases hkl : kk < nn
          · have d2 : decide ((k : Int) < (lq : Int) + nn) = true := decide_eq_true (by omega)
            have r0 := hQ.out.old q5l Q0
            have r1 := hQ.out.old q5l Q1
            have t0 := hQ.out.old b12l T0
            have t1 := hQ.out.old b12l T1
            have hq12 := Nat.lt_of_lt_of_le b12l hS0
            obtain ⟨ri, hri⟩ : ∃ r : Nat, r = rr + ii := ⟨_, rfl⟩
            obtain ⟨ci, hci⟩ : ∃ r : Nat, r = cc + kk := ⟨_, rfl⟩
            have hw1 : RowKit.wrap64 (RowKit.wrap64 ((rr : Int) + i) - tq) = ri := wrap_pos (by omega) (by omega) (by omega)
            have hw2 : RowKit.wrap64 (RowKit.wrap64 ((cc : Int) + k) - lq) = ci := wrap_pos (by omega) (by omega) (by omega)
            rw [← hri, ← hci] at hQ
            have hEQ := Lib.hid (And.intro hri (And.intro hci (And.intro ei ek)))
            clear hri hci ei ek hrb
            go_upto_region 15 with fail
            go_cut [16] from 74 to 80 (fun v wx => v = .int .i64 ri ∧ wx = wr)
            case first =>
              go_wp2
              go_meet
              exact ⟨by first | rfl | rw [hw1] | (have e1 := hEQ.out.1; have e2 := hEQ.out.2.2.1; exact congrArg (Value.int IntKind.i64) (by omega)), rfl⟩
            obtain ⟨rfl, e⟩ := hcut
            rw [e]
            clear e wc
            go_upto_region 16 with fail
            go_cut [17] from 81 to 87 (fun v wx => v = .int .i64 ci ∧ wx = wr)
            case first =>
              go_wp2
              go_meet
              exact ⟨by first | rfl | rw [hw2] | (have e1 := hEQ.out.2.1; have e2 := hEQ.out.2.2.2; exact congrArg (Value.int IntKind.i64) (by omega)), rfl⟩
            obtain ⟨rfl, e⟩ := hcut
            rw [e]
            clear e wc hw1 hw2 r0 r1 r3 t0 t1 d2 d1 hq8 hq12
            have z0 := hQ.out.old z5l Z0
            have z1 := hQ.out.old z5l Z1
            have z2 := hQ.out.old z5l Z2
            have z3 := hQ.out.old z5l Z3
            have hz8 := Nat.lt_of_lt_of_le z5l hS0
            have IN := Lib.hid (fun w' => in_r zt zl zb zr ri ci w')
            have g4' := g4.out ii kk
            have g5' := g5.out ii kk
            rw [← hEQ.out.1, ← hEQ.out.2.1] at g4' g5'
            by_cases hin : (ri : Int) < zb ∧ (ci : Int) < zr
            · have ib : inB zt zl zb zr ri ci = true := by unfold inB; simp only [Bool.and_eq_true, decide_eq_true_eq]; have := hEQ.out.1; have := hEQ.out.2.1; omega
              rw [ib] at IN
              replace g5' := Lib.hid (fun y => g5' y hlt hkl hin.1 hin.2)
              clear g4'
              go_upto_region 18 with (go_at_call 20; ((with_reducible refine (IN.out _).mono ?_); rintro _ _ hgets; obtain ⟨rfl, x5, rfl⟩ := hgets.get; clear hgets))
              have hby : Below wr.heap.size wr (ext wr x5) := by (repeat' (first | (with_reducible exact Below.refl _ _) | (with_reducible refine Below.alloc ?_ ?_ _) | (with_reducible refine below_ext ?_ ?_ _) | (with_reducible refine Below.drew ?_) | (with_reducible refine below_drewN ?_ _) | (with_reducible refine Below.setCell ?_ ?_ _) | go_size | (simp only [go_sem]; omega) | (simp [go_sem]; done) | (simp [go_sem]; omega)))
              replace hQ := Lib.hid (hQ.out.grow hby)
              clear hby z0 z1 z2 z3 hz8 hS0 IN
              generalize ext wr x5 = V at hQ ⊢
              obtain ⟨hlt', hci2, hi2, hk2, hri5, hci5, hi5, hk5⟩ := hdim.out ri ci ii kk i k hEQ.out.1 hEQ.out.2.1 hEQ.out.2.2.1 hEQ.out.2.2.2 hlt hkl hin.1 hin.2
              obtain ⟨Lp, gp, kp, xp, zp, rfl, p1, p2, p3, p4⟩ := hrW.out i hi2
              have hpw := ok4h.out.len hi2
              have hwid := ok7h.out.len hlt'
              have hk1 : ci < P.rows[ri].1.length := by omega
              rw [p1] at hpw
              simp only at hpw
              obtain ⟨gq, eg, _, hltp, v0, v1, v2, _⟩ := own_at p2 k (by simp only; omega)
              injection eg with eg
              injection eg with eg
              subst eg
              simp only at v0 v1 v2 hltp
              have hS1 := hQ.out.keep.size
              have f0 := hQ.out.old hl05 B0
              have f4 := hQ.out.old hL5 P0
              replace v0 := hQ.out.old hltp v0
              replace v1 := hQ.out.old hltp v1
              replace v2 := hQ.out.old hltp v2
              replace p4 := hQ.out.old p3 p4
              have hsb := Nat.lt_of_lt_of_le hl05 hS1
              have hsL := Nat.lt_of_lt_of_le hL5 hS1
              have hpr := Nat.lt_of_lt_of_le p3 hS1
              have hpg := Nat.lt_of_lt_of_le hltp hS1
              obtain ⟨L', rfl⟩ := hQ.out.some (by rw [mapIJ_len]; omega)
              have q0 := hQ.out.c0
              have hQl := hQ.out.lt
              obtain ⟨g5, k5, xs5, z5, c1', c2, c3, c4, c5, c6, c7, c8, c9⟩ := hQ.out.at (i := ri) (by rw [mapIJ_len]; exact hlt')
              have hx5 : xs5.length = P.cols := by
                rw [mapIJ_row hlt'] at c1'
                injection c1' with c1a c1b
                rw [← c1a, List.length_mapIdx]
                exact hwid
              have hbl5 : ci < xs5.length := by omega
              obtain ⟨g', eg, _, hlt5, u0, u1, u2, hz5⟩ := own_at c3 ci hbl5
              injection eg with eg
              injection eg with eg
              subst eg
              simp only at u0 u1 u2 hlt5 hz5
              have y0 := hz5 (ci * 3)
              have y1 := hz5 (ci * 3 + 1)
              have y2 := hz5 (ci * 3 + 2)
              generalize xs5[ci] = v5 at u0 u1 u2
              have hstep := mapIJ_step (S := P) (G := G) hlt' hk1 c1'
              have eG : G ri ci P.rows[ri].1[ci] = xp[k]'(by omega) := by
                rw [g5'.out, ← hEQ.out.2.2.1, ← hEQ.out.2.2.2, cellAt_in hi2 (by rw [p1]; simp only; omega)]
                simp only [p1]
              rw [eG] at hstep
              generalize xp[k]'(by omega) = y at v0 v1 v2 hstep
              obtain ⟨yg, yr, yk⟩ := y
              simp only at v0 v1 v2
              have hput := Lib.hid (fun x => (hQ.out.grow (below_of_ext V x)).put c2 hbl5 ⟨yg, yr, yk⟩)
              simp only at hput
              rw [← hstep] at hput
              replace hx5 := Lib.hid hx5
              replace hpw := Lib.hid hpw
              replace hwid := Lib.hid hwid
              have hxk : k < xp.length := by have := hpw.out; omega
              clear hci2 hk2 c1' c3 c8 hz5 hstep p1 p2 eG g5' Z0 Z1 Z2 Z3 Q0 Q1 Q2 Q3 T0 T1 B0 P0
              (refine wp_region_tail 21 (by kernel_rfl) (by kernel_rfl) ?_; simp only [List.take_succ_cons, List.take_zero, List.drop_succ_cons, List.drop_zero])
              repeat (go_big_quiet_step (fail))
              refine wpQuiet_nil ?_; rintro _ ⟨x6, rfl⟩
              obtain ⟨rows8, h9⟩ := hput.out x6
              simp [go_sem, hlt5] at h9
              rw [hEQ.out.1, show ci + 1 = cc + (kk + 1) by have := hEQ.out.2.1; omega] at h9
              replace h9 := Lib.hid h9
              clear hput
              go_wp2
              have ek := hEQ.out.2.2.2
              exact ⟨⟨k + 1, kk + 1, rows8, congrArg (· + 1) ek, hkl, rfl, h9⟩, loop_meas (by rw [ek]; exact Nat.add_lt_add_left hkl _)⟩
            · have ib : inB zt zl zb zr ri ci = false := by
                rw [Bool.eq_false_iff]
                intro hc
                unfold inB at hc
                simp only [Bool.and_eq_true, decide_eq_true_eq] at hc
                exact hin ⟨hc.1.1.2, hc.2⟩
              rw [ib] at IN
              have h9 := hQ.out
              rw [← mapIJ_pass (fun y => g4' y hin), hEQ.out.1, show ci + 1 = cc + (kk + 1) by have := hEQ.out.2.1; omega] at h9
              replace h9 := Lib.hid h9
              clear g4' g5'
              go_wp2_with (go_at_call 20; ((with_reducible refine (IN.out _).mono ?_); rintro _ _ hgets; obtain ⟨rfl, x5, rfl⟩ := hgets.get; clear hgets))
              have ek := hEQ.out.2.2.2
              exact ⟨⟨k + 1, kk + 1, rows2, congrArg (· + 1) ek, hkl, rfl, Lib.hid (h9.out.grow (by (repeat' (first | (with_reducible exact Below.refl _ _) | (with_reducible refine Below.alloc ?_ ?_ _) | (with_reducible refine below_ext ?_ ?_ _) | (with_reducible refine Below.drew ?_) | (with_reducible refine below_drewN ?_ _) | (with_reducible refine Below.setCell ?_ ?_ _) | go_size | (simp only [go_sem]; omega) | (simp [go_sem]; done) | (simp [go_sem]; omega)))))⟩, loop_meas (by rw [ek]; exact Nat.add_lt_add_left hkl _)⟩
          · obtain rfl : kk = nn := by omega
            have d2 : decide ((k : Int) < (lq : Int) + kk) = false := decide_eq_false (by omega)
            have hnx := mapIJ_over (P := P) (G := G) (i0 := rr + ii) (C0 := cc) (C1 := cc + kk) (fun i k y h => g2.out i k y h)
            have h9 := hQ.out
            rw [hnx] at h9
            replace h9 := Lib.hid h9
            replace ei := Lib.hid ei
            clear hnx ek
            go_wp2
            replace ei := ei.out
            exact ⟨⟨i + 1, ii + 1, rows2, congrArg (· + 1) ei, hlt, rfl, h9⟩, loop_meas (by rw [ei]; exact Nat.add_lt_add_left hlt _)⟩
      · obtain rfl : ii = mm := by omega
        have d1 : decide ((i : Int) < (tq : Int) + ii) = false := decide_eq_false (by omega)
        have r2 := hQ.out.old q5l Q2
        have hq8 := Nat.lt_of_lt_of_le q5l hS0
        have h9 := hQ.out
        rw [mapIJ_fin (fun i k y h => g3.out i k y h)] at h9
        have q0 := h9.c0
        have q1 := h9.c1
        rw [show (mapS P G).cols = P.cols from rfl] at q1
        have hQl := h9.lt
        have hBr : Below w.heap.size w wr := hB5h.out.trans (h9.keep.mono hB5h.out.size)
        have SP2 := SP.out ⟨A1, P.rows.length, c1, P.cols⟩ (mapS P G) wr hBr ⟨_, _, rfl, h9.l, h9.val, fun b hb f => by
          have := h9.ft b hb
          rcases f with f | f
          · have := hFh.out b f; omega
          · omega⟩ (fun x f => by
          have := hBr.size
          rcases f with f | f
          · have := hFh.out x f; omega
          · omega)
        rw [← te.out] at SP2
        simp only [RPg.V, RPg.v] at SP2
        replace SP2 := Lib.hid SP2
        have b0r := (h9.keep.block _ hl05).trans b05.out
        have b2r := (h9.keep.block _ (heap_in b25.out)).trans b25.out
        obtain ⟨f1, f2, f3, f4, f5, hl0r, -⟩ := five b0r
        obtain ⟨s0, s1, s2, s3, s4, hl2r, rz⟩ := five b2r
        have rz0 := rz 0
        have rz1 := rz 1
        have rz2 := rz 2
        have rz3 := rz 3
        have rz4 := rz 4
        have b2x := Lib.hid (fun x => (block_ext wr x hl2r).trans b2r)
        have hBrx := Lib.hid (fun x => below_ext hBr hBr.size x)
        clear rz Z0 Z1 Z2 Z3 Q0 Q1 Q2 Q3 T0 T1 B0 P0 h9 b0r b2r hBr SP
        clear ei hrb hdim pb re hlt hii hi9 ht0 ht1 hl0 hl1 hb0 hb1 hb2 hr0 hr1 hr2 i4 i7
        go_upto_region 19 with fail
        clear d1 r2 hq8
        repeat (first | go_values | go_skip | go_guarded | go_step)
        go_at_call 36
        (with_reducible refine SP2.out.mono ?_)
        rintro _ _ ⟨U', x2, rfl, rfl, hBk⟩
        obtain ⟨A2, c2, us2, ⟨tA, tm, tc, tn⟩, rfl, H2⟩ := hBk
        (try simp only [RPg.V])
        replace H2 := Lib.hid H2
        have bV := b2x.out x2
        have hV := hBrx.out x2
        clear b2x hBrx SP2 s0 s1 s2 s3 s4 rz0 rz1 rz2 rz3 rz4 hl2r hl0r f1 f2 f3 f4 f5 q0 q1 hQl
        generalize ext wr x2 = V at H2 bV hV ⊢
        obtain ⟨s0, s1, s2, s3, s4, hl2r, rz⟩ := five bV
        have rz0 := rz 0
        have rz1 := rz 1
        have rz2 := rz 2
        have rz3 := rz 3
        have rz4 := rz 4
        obtain ⟨W6, h6, hk6, hs6⟩ := store5 bV (.slice A2 T.pages.length c2) (.slice tA tm tc) (.int .i64 tn) (.int .i64 T.now) (.bool T.below)
        obtain ⟨y0, y1, y2, y3, y4, yl, -⟩ := five hs6
        have hB6 : Below w.heap.size w W6 := hV.trans (hk6.below (fun x e => by omega) hV.size)
        have no := Lib.hid (NewRBo.at (ok := true) (n := T.pages.length) (c := c2) (s := ⟨tA, tm, tc, tn⟩) H2.out hk6 hB6 rfl)
        clear hs6 hk6 bV hV hB6 rz H2
        repeat (first | go_values | go_skip | go_guarded | go_step)
        rw [hok.out]
        simp [bodyPost, go_sem, y0, y1, y2, y3, y4]
        exact ⟨_, by simp [results, Tryz.f59, go_sem, y0, y1, y2, y3, y4] <;> rfl, no.out⟩
end
end Go.Proofs.YtignkkejkknddaaGreat
