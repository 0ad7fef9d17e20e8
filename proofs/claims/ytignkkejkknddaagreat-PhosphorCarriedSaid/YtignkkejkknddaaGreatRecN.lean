/- rect: the box of a book's pages, the page of a number, Copy.  -/
import Derived.Test.YtignkkejkknddaaGreatRecD
import Derived.Test.YtignkkejkknddaaGreatBkB
import Derived.Test.YtignkkejkknddaaGreatBox4
import Derived.Test.YtignkkejkknddaaGreatRend3
import Derived.Test.YtignkkejkknddaaGreatClk
import Derived.Test.YtignkkejkknddaaGreatPgNew
import Derived.Test.YtignkkejkknddaaGreatRecH
import Derived.Test.YtignkkejkknddaaGreatPgIs
import Derived.Test.YtignkkejkknddaaGreatRbkB
import Derived.Deep.CutRange
namespace Go.Proofs.YtignkkejkknddaaGreat
open Go.RowKit
set_option linter.unusedVariables false
set_option linter.unusedSimpArgs false

theorem BkS.rows_le {S : BkS} (hS : S.Ok) : 1 ≤ S.rows ∧ S.rows ≤ 500 ∧ 1 ≤ S.cols ∧ S.cols ≤ 500 := by
  have h0 : 0 < S.pages.length := by have := hS.p1; omega
  have e : S.pages.getD 0 S.status = S.pages[0] := by simp [List.getD_eq_getElem?_getD, h0]
  have := hS.pg _ (List.getElem_mem h0)
  unfold BkS.rows BkS.cols
  rw [e]
  exact ⟨this.r1, this.r2, this.c1, this.c2⟩
/-- the page of a number, counted from 0 on -/
def nbI (S : BkS) (n : Int) : Int := max 1 (min n S.pages.length) - 1
theorem nbI_in {S : BkS} (hS : S.Ok) (n : Int) : 0 ≤ nbI S n ∧ nbI S n < S.pages.length := by
  have := hS.p1
  unfold nbI
  omega
theorem nbI_inP {S : BkS} (hS : S.Ok) (n : Int) : S.inP (nbI S n) = true := by
  obtain ⟨h1, h2⟩ := nbI_in hS n
  unfold BkS.inP
  simp
  omega
section
variable {w : World} {F : Nat → Prop} {b : Nat} {S : BkS} {V : Value} {ps : List PgR} {st : PgR}
theorem whole_b (h : BkO w F b S V ps st) (hS : S.Ok) : Calls Tryz.prog 41 #[ptrV b] w (Gives w (boxV 0 0 S.rows S.cols)) := by
  have SZ := Lib.hid (fun w' (hb : Below w.heap.size w w') => size_b (h.grow hb) hS)
  have W := Lib.hid (fun w' => whole_c S.rows S.cols w')
  rw [show max 0 (S.rows : Int) = S.rows by omega, show max 0 (S.cols : Int) = S.cols by omega] at W
  clear h
  go_enter Tryz.func41, Tryz.ntmps41
  go_wp2_with (first
    | (go_at_call 68; ((with_reducible refine (SZ.out _ (by (repeat' (first | (with_reducible exact Below.refl _ _) | (with_reducible refine Below.alloc ?_ ?_ _) | (with_reducible refine below_ext ?_ ?_ _) | (with_reducible refine Below.drew ?_) | (with_reducible refine below_drewN ?_ _) | (with_reducible refine Below.setCell ?_ ?_ _) | go_size | (simp only [go_sem]; omega) | (simp [go_sem]; done) | (simp [go_sem]; omega))))).mono ?_); rintro _ _ hgets; obtain ⟨rfl, x1, rfl⟩ := hgets.get; clear hgets))
    | (go_at_call 71; ((with_reducible refine (W.out _).mono ?_); rintro _ _ hgets; obtain ⟨rfl, x2, rfl⟩ := hgets.get; clear hgets)))
  go_returns
  exact ⟨rfl, by (repeat' (first | (with_reducible exact Below.refl _ _) | (with_reducible refine Below.alloc ?_ ?_ _) | (with_reducible refine below_ext ?_ ?_ _) | (with_reducible refine Below.drew ?_) | (with_reducible refine below_drewN ?_ _) | (with_reducible refine Below.setCell ?_ ?_ _) | go_size | (simp only [go_sem]; omega) | (simp [go_sem]; done) | (simp [go_sem]; omega)))⟩
theorem number_b (h : BkO w F b S V ps st) (hS : S.Ok) (n : Int) : Calls Tryz.prog 43 #[ptrV b, .int .i64 n] w (Gives w (.tuple #[.int .i64 (nbI S n), .bool (decide (0 ≤ n))])) := by
  have CT := Lib.hid (fun w' (hb : Below w.heap.size w w') => count_b (h.grow hb))
  have CL := Lib.hid (fun w' => pclip_c n 1 S.pages.length w')
  have h1 := hS.p1
  have h2 := hS.p2
  have hw : IntKind.i64.wrap (max 1 (min n (S.pages.length : Int)) - 1) = nbI S n := wrap_i64 (by omega) (by omega)
  have hg : (n ≥ 0) = (0 ≤ n) := rfl
  clear h hS
  go_enter Tryz.func43, Tryz.ntmps43
  go_wp2_with (first
    | (go_at_call 23; ((with_reducible refine (CT.out _ (by (repeat' (first | (with_reducible exact Below.refl _ _) | (with_reducible refine Below.alloc ?_ ?_ _) | (with_reducible refine below_ext ?_ ?_ _) | (with_reducible refine Below.drew ?_) | (with_reducible refine below_drewN ?_ _) | (with_reducible refine Below.setCell ?_ ?_ _) | go_size | (simp only [go_sem]; omega) | (simp [go_sem]; done) | (simp [go_sem]; omega))))).mono ?_); rintro _ _ hgets; obtain ⟨rfl, x1, rfl⟩ := hgets.get; clear hgets))
    | (go_at_call 91; ((with_reducible refine (CL.out _).mono ?_); rintro _ _ ⟨rfl, rfl⟩)))
  go_returns
  exact ⟨rfl, by (repeat' (first | (with_reducible exact Below.refl _ _) | (with_reducible refine Below.alloc ?_ ?_ _) | (with_reducible refine below_ext ?_ ?_ _) | (with_reducible refine Below.drew ?_) | (with_reducible refine below_drewN ?_ _) | (with_reducible refine Below.setCell ?_ ?_ _) | go_size | (simp only [go_sem]; omega) | (simp [go_sem]; done) | (simp [go_sem]; omega)))⟩
end
/-- what is copied: the rectangle, cut at the area's end -/
def cpB (y : BxI) (xs : List Int) (pr pc : Int) : BxI := ⟨(reB y xs 0).t, (reB y xs 0).l, min (reB y xs 0).b ((reB y xs 0).t + y.b - pr), min (reB y xs 0).r ((reB y xs 0).l + y.r - pc)⟩
def cpR (y : BxI) (xs : List Int) (i : Int) : Int := if y.b ≤ y.t ∨ y.r ≤ y.l then y.t else placeI y.t y.b (num0 xs i 0)
def cpC (y : BxI) (xs : List Int) (i : Int) : Int := if y.b ≤ y.t ∨ y.r ≤ y.l then y.l else placeI y.l y.r (num0 xs i 1)
theorem place_v (y : BxI) (xs : List Int) (i : Int) : placeV y.t y.l y.b y.r xs i = .agg #[.int .i64 (cpR y xs i), .int .i64 (cpC y xs i)] := by
  unfold placeV cpR cpC
  split <;> rfl
theorem re_bd (y : BxI) (xs : List Int) (i : Int) (h : reOk y xs i = true) : y.t ≤ (reB y xs i).t ∧ (reB y xs i).t < (reB y xs i).b ∧ (reB y xs i).b ≤ y.b ∧ y.l ≤ (reB y xs i).l ∧ (reB y xs i).l < (reB y xs i).r ∧ (reB y xs i).r ≤ y.r := by
  have h0 : rectOk y.t y.l y.b y.r xs i = true := h
  have h1 := h0
  unfold rectOk at h1
  simp only [Bool.and_eq_true, decide_eq_true_eq] at h1
  obtain ⟨⟨q1, q2⟩, q3⟩ := h1
  have a1 := side_bd q2
  have a2 := side_bd q3
  unfold reB rectT rectL rectB rectR
  simp only [if_pos h0]
  omega
def cpOk (y : BxI) (xs : List Int) : Bool := reOk y xs 0 && (decide (0 ≤ at0 xs 4) && decide (0 ≤ at0 xs 7))
def arK (S : BkS) (x : BxI) : BxI := onB S.rows S.cols x
def copyRS (S : BkS) (x : BxI) (xs : List Int) : BkS := if cpOk (arK S x) xs = true then S.copy (nbI S (at0 xs 4)) (cpB (arK S x) xs (cpR (arK S x) xs 5) (cpC (arK S x) xs 5)) (nbI S (at0 xs 7)) (cpR (arK S x) xs 5) (cpC (arK S x) xs 5) else S
section
variable {w : World} {F : Nat → Prop} {b : Nat} {S : BkS} {V : Value} {ps : List PgR} {st : PgR} {a : Option Addr} {c : Nat} {xs : List Int}
set_option maxRecDepth 100000 in
set_option maxHeartbeats 16000000 in
theorem copy_rect (h : BkO w F b S V ps st) (hS : S.Ok) (hx : NumL w a c xs) (x : BxI) :
    Calls Tryz.prog 15 #[ptrV b, boxV x.t x.l x.b x.r, .slice a xs.length c] w (fun e w' => e = .returned (.bool (cpOk (arK S x) xs)) ∧ BDid F b (copyRS S x xs) w w') := by
  have hbd : (0 ≤ (arK S x).t ∧ (arK S x).t ≤ 500) ∧ (0 ≤ (arK S x).l ∧ (arK S x).l ≤ 500) ∧ (0 ≤ (arK S x).b ∧ (arK S x).b ≤ 500) ∧ (0 ≤ (arK S x).r ∧ (arK S x).r ≤ 500) := by
    have := onB_in S.rows S.cols x
    have := BkS.rows_le hS
    unfold arK
    omega
  obtain ⟨⟨ht0, ht1⟩, ⟨hl0, hl1⟩, ⟨hb0, hb1⟩, ⟨hr0, hr1⟩⟩ := hbd
  have WH := Lib.hid (fun w' (hb : Below w.heap.size w w') => whole_b (h.grow hb) hS)
  have MT : Hid (∀ w', Calls Tryz.prog 40 #[boxV x.t x.l x.b x.r, boxV 0 0 S.rows S.cols] w' (Gives w' (boxV (arK S x).t (arK S x).l (arK S x).b (arK S x).r))) := Lib.hid (fun w' => meet_c x.t x.l x.b x.r 0 0 S.rows S.cols w')
  have RC : Hid (∀ w', Below w.heap.size w w' → Calls Tryz.prog 39 #[boxV (arK S x).t (arK S x).l (arK S x).b (arK S x).r, .slice a xs.length c, .int .i64 0] w' (Gives w' (.tuple #[boxV (reB (arK S x) xs 0).t (reB (arK S x) xs 0).l (reB (arK S x) xs 0).b (reB (arK S x) xs 0).r, .bool (reOk (arK S x) xs 0)]))) := Lib.hid (fun w' hb => rect_c _ _ _ _ a c xs 0 w' (by omega) (by omega) (by omega) (by omega) (hx.grow hb).rd (Nat.le_trans hx.lc hx.cm) hx.lc hx.cm hx.hi)
  have PL : Hid (∀ w', Below w.heap.size w w' → Calls Tryz.prog 53 #[boxV (arK S x).t (arK S x).l (arK S x).b (arK S x).r, .slice a xs.length c, .int .i64 5] w' (Gives w' (.agg #[.int .i64 (cpR (arK S x) xs 5), .int .i64 (cpC (arK S x) xs 5)]))) := Lib.hid (fun w' hb => by
    rw [← place_v]
    exact place_c _ _ _ _ a c xs 5 w' (by omega) (by omega) (by omega) (by omega) (hx.grow hb).rd (Nat.le_trans hx.lc hx.cm) hx.lc hx.cm)
  have RW4 := Lib.hid (fun w' (h : Below w.heap.size w w') => raw_c a c xs 4 w' (hx.grow h).rd (Nat.le_trans hx.lc hx.cm))
  have RW7 := Lib.hid (fun w' (h : Below w.heap.size w w') => raw_c a c xs 7 w' (hx.grow h).rd (Nat.le_trans hx.lc hx.cm))
  have NB4 := Lib.hid (fun w' (hb : Below w.heap.size w w') => number_b (h.grow hb) hS (at0 xs 4))
  have NB7 := Lib.hid (fun w' (hb : Below w.heap.size w w') => number_b (h.grow hb) hS (at0 xs 7))
  have hcr : 0 ≤ cpR (arK S x) xs 5 ∧ cpR (arK S x) xs 5 ≤ 1000 := by unfold cpR placeI; split <;> omega
  have hcc : 0 ≤ cpC (arK S x) xs 5 ∧ cpC (arK S x) xs 5 ≤ 1000 := by unfold cpC placeI; split <;> omega
  have CP := Lib.hid (fun w' (hb : Below w.heap.size w w') => copy_b (h.grow hb) hS (nbI S (at0 xs 4)) (cpB (arK S x) xs (cpR (arK S x) xs 5) (cpC (arK S x) xs 5)) (nbI S (at0 xs 7)) (cpR (arK S x) xs 5) (cpC (arK S x) xs 5) (by omega) (by omega))
  rw [nbI_inP hS, nbI_inP hS, Bool.true_and] at CP
  have BR := Lib.hid (fun w' (hb : Below w.heap.size w w') => (BDid.refl ⟨_, _, _, h⟩ : BDid F b S w w).grow hb)
  have hFl := Lib.hid h.lt
  have rbd := re_bd (arK S x) xs 0
  have CB : cpB (arK S x) xs (cpR (arK S x) xs 5) (cpC (arK S x) xs 5) = ⟨(reB (arK S x) xs 0).t, (reB (arK S x) xs 0).l, min (reB (arK S x) xs 0).b ((reB (arK S x) xs 0).t + (arK S x).b - (cpR (arK S x) xs 5)), min (reB (arK S x) xs 0).r ((reB (arK S x) xs 0).l + (arK S x).r - (cpC (arK S x) xs 5))⟩ := rfl
  have CO : cpOk (arK S x) xs = (reOk (arK S x) xs 0 && (decide (0 ≤ at0 xs 4) && decide (0 ≤ at0 xs 7))) := rfl
  have TE : copyRS S x xs = if cpOk (arK S x) xs = true then S.copy (nbI S (at0 xs 4)) (cpB (arK S x) xs (cpR (arK S x) xs 5) (cpC (arK S x) xs 5)) (nbI S (at0 xs 7)) (cpR (arK S x) xs 5) (cpC (arK S x) xs 5) else S := rfl
  generalize copyRS S x xs = T at TE ⊢
  generalize cpOk (arK S x) xs = ok at CO TE ⊢
  generalize cpB (arK S x) xs (cpR (arK S x) xs 5) (cpC (arK S x) xs 5) = cb at CB CP TE
  generalize cpR (arK S x) xs 5 = pr at *
  generalize cpC (arK S x) xs 5 = pc at *
  generalize nbI S (at0 xs 4) = n4 at *
  generalize nbI S (at0 xs 7) = n7 at *
  generalize reB (arK S x) xs 0 = q at *
  generalize reOk (arK S x) xs 0 = k1 at *
  generalize arK S x = z at *
  obtain ⟨xt, xl, xb, xr⟩ := x
  obtain ⟨zt, zl, zb, zr⟩ := z
  obtain ⟨qt, ql, qb, qr⟩ := q
  subst CB
  simp only at *
  clear h hx hS
  go_enter Tryz.func15, Tryz.ntmps15
  go_upto_region 1 with fail
  generalize hW : w.alloc (.cells #[.int .i64 xt, .int .i64 xl, .int .i64 xb, .int .i64 xr] 31) = W
  have hlt : w.heap.size < W.heap.size := by subst hW; simp [go_sem]
  have hB : Below w.heap.size w W := by subst hW; (repeat' (first | (with_reducible exact Below.refl _ _) | (with_reducible refine Below.alloc ?_ ?_ _) | (with_reducible refine below_ext ?_ ?_ _) | (with_reducible refine Below.drew ?_) | (with_reducible refine below_drewN ?_ _) | (with_reducible refine Below.setCell ?_ ?_ _) | go_size | (simp only [go_sem]; omega) | (simp [go_sem]; done) | (simp [go_sem]; omega)))
  have b0 : W.heap[w.heap.size]? = some (.cells #[.int .i64 xt, .int .i64 xl, .int .i64 xb, .int .i64 xr] 31 (0, 0)) := by subst hW; exact al_at _ _ rfl
  clear hW
  have KB : ∀ w', Below W.heap.size W w' → w'.heap[w.heap.size]? = some (.cells #[.int .i64 xt, .int .i64 xl, .int .i64 xb, .int .i64 xr] 31 (0, 0)) := fun w' h => (h.block _ hlt).trans b0
  have KS : ∀ w', Below W.heap.size W w' → w'.cell? ⟨w.heap.size, 0, none⟩ = some (.int .i64 xt) ∧ w'.cell? ⟨w.heap.size, 1, none⟩ = some (.int .i64 xl) ∧ w'.cell? ⟨w.heap.size, 2, none⟩ = some (.int .i64 xb) ∧ w'.cell? ⟨w.heap.size, 3, none⟩ = some (.int .i64 xr) := fun w' h => ⟨by rw [cell_in (KB _ h)]; rfl, by rw [cell_in (KB _ h)]; rfl, by rw [cell_in (KB _ h)]; rfl, by rw [cell_in (KB _ h)]; rfl⟩
  have hBW := Lib.hid (fun w' (h : Below W.heap.size W w') => hB.trans (h.mono hB.size))
  go_cut [4] (fun v4 wx => v4 = .pointer (some ⟨w.heap.size, 0, none⟩) ∧ Below w.heap.size w wx ∧ wx.heap[w.heap.size]? = some (.cells #[.int .i64 zt, .int .i64 zl, .int .i64 zb, .int .i64 zr] 31 (0, 0)))
  case first =>
    (refine wp_region_F (S := (fun w' => w'.cell? ⟨w.heap.size, 0, none⟩ = some (.int .i64 xt) ∧ w'.cell? ⟨w.heap.size, 1, none⟩ = some (.int .i64 xl) ∧ w'.cell? ⟨w.heap.size, 2, none⟩ = some (.int .i64 xb) ∧ w'.cell? ⟨w.heap.size, 3, none⟩ = some (.int .i64 xr))) 4 [false, false, false, false, false] rfl rfl (by kernel_rfl) ?_ (fun hHeld => ?_); (focus ((try dsimp only); (exact KS _ (by (repeat' (first | (with_reducible exact Below.refl _ _) | (with_reducible refine Below.alloc ?_ ?_ _) | (with_reducible refine below_ext ?_ ?_ _) | (with_reducible refine Below.drew ?_) | (with_reducible refine below_drewN ?_ _) | (with_reducible refine Below.setCell ?_ ?_ _) | go_size | (simp only [go_sem]; omega) | (simp [go_sem]; done) | (simp [go_sem]; omega))))); done)))
    ((refine AtF.take (oi := ?_) (v := ?_) 0 ?_ ?_ ?_ ?_ (Or.inl ⟨?_, ?_⟩) (by assumption) ?_; rotate_left 2; rfl; kernel_rfl; kernel_rfl; exact (fun _ _ _ h => h); rfl; (focus (intro w hSw; (try dsimp only at hSw); go_simp; (try with_reducible rfl); done)); (try simp only [Act.put, List.setIfInBounds_toArray, List.set_cons_zero, List.set_cons_succ])); (refine AtF.take (oi := ?_) (v := ?_) 1 ?_ ?_ ?_ ?_ (Or.inl ⟨?_, ?_⟩) (by assumption) ?_; rotate_left 2; rfl; kernel_rfl; kernel_rfl; exact (fun _ _ _ h => h); rfl; (focus (intro w hSw; (try dsimp only at hSw); go_simp; (try with_reducible rfl); done)); (try simp only [Act.put, List.setIfInBounds_toArray, List.set_cons_zero, List.set_cons_succ])))
    (refine AtF.only (oi := ?_) 2 ?_ ?_ (fun K hK => ?_); rotate_left 1; rfl; kernel_rfl; (try go_simp); (go_at_call 41; ((with_reducible refine (WH.out _ (hBW.out _ (by (repeat' (first | (with_reducible exact Below.refl _ _) | (with_reducible refine Below.alloc ?_ ?_ _) | (with_reducible refine below_ext ?_ ?_ _) | (with_reducible refine Below.drew ?_) | (with_reducible refine below_drewN ?_ _) | (with_reducible refine Below.setCell ?_ ?_ _) | go_size | (simp only [go_sem]; omega) | (simp [go_sem]; done) | (simp [go_sem]; omega)))))).mono ?_); rintro _ _ hgets; obtain ⟨rfl, x1, rfl⟩ := hgets.get; clear hgets)); (refine hK.out _ _ ?_ (fun hHeld => ?_)); (focus ((try dsimp only); (exact KS _ (by (repeat' (first | (with_reducible exact Below.refl _ _) | (with_reducible refine Below.alloc ?_ ?_ _) | (with_reducible refine below_ext ?_ ?_ _) | (with_reducible refine Below.drew ?_) | (with_reducible refine below_drewN ?_ _) | (with_reducible refine Below.setCell ?_ ?_ _) | go_size | (simp only [go_sem]; omega) | (simp [go_sem]; done) | (simp [go_sem]; omega))))); done)); clear hK K; (try simp only [Act.put, List.setIfInBounds_toArray, List.set_cons_zero, List.set_cons_succ]))
    (refine AtF.only (oi := ?_) 3 ?_ ?_ (fun K hK => ?_); rotate_left 1; rfl; kernel_rfl; (try go_simp); (go_at_call 40; ((with_reducible refine (MT.out _).mono ?_); rintro _ _ hgets; obtain ⟨rfl, x2, rfl⟩ := hgets.get; clear hgets)); (refine hK.out _ _ ?_ (fun hHeld => ?_)); (focus ((try dsimp only); (exact KS _ (by (repeat' (first | (with_reducible exact Below.refl _ _) | (with_reducible refine Below.alloc ?_ ?_ _) | (with_reducible refine below_ext ?_ ?_ _) | (with_reducible refine Below.drew ?_) | (with_reducible refine below_drewN ?_ _) | (with_reducible refine Below.setCell ?_ ?_ _) | go_size | (simp only [go_sem]; omega) | (simp [go_sem]; done) | (simp [go_sem]; omega))))); done)); clear hK K; (try simp only [Act.put, List.setIfInBounds_toArray, List.set_cons_zero, List.set_cons_succ]))
    obtain ⟨W2, hW2⟩ : ∃ W2, W2 = ext (ext W x1) x2 := ⟨_, rfl⟩
    have hB2 : Below W.heap.size W W2 := by rw [hW2]; (repeat' (first | (with_reducible exact Below.refl _ _) | (with_reducible refine Below.alloc ?_ ?_ _) | (with_reducible refine below_ext ?_ ?_ _) | (with_reducible refine Below.drew ?_) | (with_reducible refine below_drewN ?_ _) | (with_reducible refine Below.setCell ?_ ?_ _) | go_size | (simp only [go_sem]; omega) | (simp [go_sem]; done) | (simp [go_sem]; omega)))
    rw [← hW2]
    clear hW2 hHeld
    have b2 := KB _ hB2
    have f2 := fun i => frozen_in (q := i) b2
    have c0 := (KS _ hB2).1
    have c1 := (KS _ hB2).2.1
    have c2 := (KS _ hB2).2.2.1
    have c3 := (KS _ hB2).2.2.2
    have hlt2 := Nat.lt_of_lt_of_le hlt hB2.size
    have FN := Lib.hid (four_put b2 (hB.trans (hB2.mono hB.size)) (Nat.le_refl _) (.int .i64 zt) (.int .i64 zl) (.int .i64 zb) (.int .i64 zr))
    (refine AtF.last (oi := ?_) ?_ ?_ (fun K hK => ?_); rotate_left 1; rfl; kernel_rfl; go_simp; skip; refine hK.out _ _ ?_; clear hK K; (try simp only [Act.put, List.setIfInBounds_toArray, List.set_cons_zero, List.set_cons_succ]))
    go_wp2
    go_meet
    exact ⟨rfl, FN.out⟩
  obtain ⟨rfl, BW, b0⟩ := hcut
  obtain ⟨W1, eW1⟩ : ∃ W1, W1 = wc := ⟨_, rfl⟩
  rw [← eW1] at BW b0 ⊢
  clear eW1 wc KB KS hBW hB hlt
  have hg0 := heap_in b0
  have q0 : W1.cell? ⟨w.heap.size, 0, none⟩ = some (.int .i64 zt) := by rw [cell_in b0]; rfl
  have q1 : W1.cell? ⟨w.heap.size, 1, none⟩ = some (.int .i64 zl) := by rw [cell_in b0]; rfl
  have q2 : W1.cell? ⟨w.heap.size, 2, none⟩ = some (.int .i64 zb) := by rw [cell_in b0]; rfl
  have q3 : W1.cell? ⟨w.heap.size, 3, none⟩ = some (.int .i64 zr) := by rw [cell_in b0]; rfl
  have hBW := Lib.hid (fun w' (h : Below W1.heap.size W1 w') => BW.trans (h.mono BW.size))
  clear b0
  replace BW := Lib.hid BW
  replace hcr := Lib.hid hcr
  replace hcc := Lib.hid hcc
  replace rbd := Lib.hid rbd
  replace CO := Lib.hid CO
  replace TE := Lib.hid TE
  generalize decide (0 ≤ at0 xs 4) = d4 at NB4 CO
  generalize decide (0 ≤ at0 xs 7) = d7 at NB7 CO
  generalize at0 xs 4 = a4 at RW4 NB4
  generalize at0 xs 7 = a7 at RW7 NB7
  go_upto_region 2 with fail
  go_cut [7, 8] (fun v7 v8 wx => ∃ g, v7 = .pointer (some ⟨g, 0, none⟩) ∧ v8 = .bool k1 ∧ Below W1.heap.size W1 wx ∧ W1.heap.size ≤ g ∧ wx.heap[g]? = some (.cells #[.int .i64 qt, .int .i64 ql, .int .i64 qb, .int .i64 qr] 31 (0, 0)))
  case first =>
    go_wp2_with (go_at_call 39; ((with_reducible refine (RC.out _ (hBW.out _ (by (repeat' (first | (with_reducible exact Below.refl _ _) | (with_reducible refine Below.alloc ?_ ?_ _) | (with_reducible refine below_ext ?_ ?_ _) | (with_reducible refine Below.drew ?_) | (with_reducible refine below_drewN ?_ _) | (with_reducible refine Below.setCell ?_ ?_ _) | go_size | (simp only [go_sem]; omega) | (simp [go_sem]; done) | (simp [go_sem]; omega)))))).mono ?_); rintro _ _ hgets; obtain ⟨rfl, x3, rfl⟩ := hgets.get; clear hgets))
    go_meet
    exact ⟨_, rfl, rfl, by (repeat' (first | (with_reducible exact Below.refl _ _) | (with_reducible refine Below.alloc ?_ ?_ _) | (with_reducible refine below_ext ?_ ?_ _) | (with_reducible refine Below.drew ?_) | (with_reducible refine below_drewN ?_ _) | (with_reducible refine Below.setCell ?_ ?_ _) | go_size | (simp only [go_sem]; omega) | (simp [go_sem]; done) | (simp [go_sem]; omega))), by simp, al_at _ _ (by simp [go_sem])⟩
  obtain ⟨g7, rfl, rfl, hB2, hg7, b7⟩ := hcut
  obtain ⟨W2, eW2⟩ : ∃ W2, W2 = wc := ⟨_, rfl⟩
  rw [← eW2] at hB2 b7 ⊢
  clear eW2 wc
  have m0 := (hB2.cell (p := ⟨w.heap.size, 0, none⟩) (by simp; omega)).trans q0
  have m1 := (hB2.cell (p := ⟨w.heap.size, 1, none⟩) (by simp; omega)).trans q1
  have m2 := (hB2.cell (p := ⟨w.heap.size, 2, none⟩) (by simp; omega)).trans q2
  have m3 := (hB2.cell (p := ⟨w.heap.size, 3, none⟩) (by simp; omega)).trans q3
  clear q0 q1 q2 q3
  have hg2 : w.heap.size < W2.heap.size := Nat.lt_of_lt_of_le hg0 hB2.size
  have hg7' : w.heap.size ≤ g7 := by omega
  have hl7 := heap_in b7
  have n0 : W2.cell? ⟨g7, 0, none⟩ = some (.int .i64 qt) := by rw [cell_in b7]; rfl
  have n1 : W2.cell? ⟨g7, 1, none⟩ = some (.int .i64 ql) := by rw [cell_in b7]; rfl
  have n2 : W2.cell? ⟨g7, 2, none⟩ = some (.int .i64 qb) := by rw [cell_in b7]; rfl
  have n3 : W2.cell? ⟨g7, 3, none⟩ = some (.int .i64 qr) := by rw [cell_in b7]; rfl
  have f7 := fun i => frozen_in (q := i) b7
  have hBW2 := Lib.hid (fun w' (h : Below w.heap.size W2 w') => (hBW.out _ hB2).trans h)
  have hne : g7 ≠ w.heap.size := by omega
  clear hB2 b7 hBW hg7 hg0
  go_upto_region 5 with (first
    | (go_at_call 42; ((with_reducible refine (RW4.out _ (hBW2.out _ (by (repeat' (first | (with_reducible exact Below.refl _ _) | (with_reducible refine Below.alloc ?_ ?_ _) | (with_reducible refine below_ext ?_ ?_ _) | (with_reducible refine Below.drew ?_) | (with_reducible refine below_drewN ?_ _) | (with_reducible refine Below.setCell ?_ ?_ _) | go_size | (simp only [go_sem]; omega) | (simp [go_sem]; done) | (simp [go_sem]; omega)))))).mono ?_); rintro _ _ ⟨rfl, rfl⟩))
    | (go_at_call 42; ((with_reducible refine (RW7.out _ (hBW2.out _ (by (repeat' (first | (with_reducible exact Below.refl _ _) | (with_reducible refine Below.alloc ?_ ?_ _) | (with_reducible refine below_ext ?_ ?_ _) | (with_reducible refine Below.drew ?_) | (with_reducible refine below_drewN ?_ _) | (with_reducible refine Below.setCell ?_ ?_ _) | go_size | (simp only [go_sem]; omega) | (simp [go_sem]; done) | (simp [go_sem]; omega)))))).mono ?_); rintro _ _ ⟨rfl, rfl⟩))
    | (go_at_call 43; ((with_reducible refine (NB4.out _ (hBW2.out _ (by (repeat' (first | (with_reducible exact Below.refl _ _) | (with_reducible refine Below.alloc ?_ ?_ _) | (with_reducible refine below_ext ?_ ?_ _) | (with_reducible refine Below.drew ?_) | (with_reducible refine below_drewN ?_ _) | (with_reducible refine Below.setCell ?_ ?_ _) | go_size | (simp only [go_sem]; omega) | (simp [go_sem]; done) | (simp [go_sem]; omega)))))).mono ?_); rintro _ _ hgets; obtain ⟨rfl, x4, rfl⟩ := hgets.get; clear hgets))
    | (go_at_call 43; ((with_reducible refine (NB7.out _ (hBW2.out _ (by (repeat' (first | (with_reducible exact Below.refl _ _) | (with_reducible refine Below.alloc ?_ ?_ _) | (with_reducible refine below_ext ?_ ?_ _) | (with_reducible refine Below.drew ?_) | (with_reducible refine below_drewN ?_ _) | (with_reducible refine Below.setCell ?_ ?_ _) | go_size | (simp only [go_sem]; omega) | (simp [go_sem]; done) | (simp [go_sem]; omega)))))).mono ?_); rintro _ _ hgets; obtain ⟨rfl, x7, rfl⟩ := hgets.get; clear hgets)))
  have NO : ∀ W', Below w.heap.size w W' → ok = false → Ending.returned (.bool false) = Ending.returned (.bool ok) ∧ BDid F b T w W' := fun W' hb e => by
    have h1 := TE.out
    rw [e] at h1
    rw [e, show T = S from h1]
    exact ⟨rfl, BR.out _ hb⟩
  replace NO := Lib.hid NO
  clear BR
  cases k1
  · go_wp2
    go_returns
    refine NO.out _ ?_ CO.out
    exact hBW2.out _ (by (repeat' (first | (with_reducible exact Below.refl _ _) | (with_reducible refine Below.alloc ?_ ?_ _) | (with_reducible refine below_ext ?_ ?_ _) | (with_reducible refine Below.drew ?_) | (with_reducible refine below_drewN ?_ _) | (with_reducible refine Below.setCell ?_ ?_ _) | go_size | (simp only [go_sem]; omega) | (simp [go_sem]; done) | (simp [go_sem]; omega))))
  · cases d4
    · go_wp2
      go_returns
      refine NO.out _ ?_ CO.out
      exact hBW2.out _ (by (repeat' (first | (with_reducible exact Below.refl _ _) | (with_reducible refine Below.alloc ?_ ?_ _) | (with_reducible refine below_ext ?_ ?_ _) | (with_reducible refine Below.drew ?_) | (with_reducible refine below_drewN ?_ _) | (with_reducible refine Below.setCell ?_ ?_ _) | go_size | (simp only [go_sem]; omega) | (simp [go_sem]; done) | (simp [go_sem]; omega))))
    · cases d7
      · go_wp2
        go_returns
        refine NO.out _ ?_ CO.out
        exact hBW2.out _ (by (repeat' (first | (with_reducible exact Below.refl _ _) | (with_reducible refine Below.alloc ?_ ?_ _) | (with_reducible refine below_ext ?_ ?_ _) | (with_reducible refine Below.drew ?_) | (with_reducible refine below_drewN ?_ _) | (with_reducible refine Below.setCell ?_ ?_ _) | go_size | (simp only [go_sem]; omega) | (simp [go_sem]; done) | (simp [go_sem]; omega))))
      · obtain rfl : ok = true := CO.out
        obtain rfl : T = _ := TE.out
        obtain ⟨p1, p2, p3, p4, p5, p6⟩ := rbd.out rfl
        obtain ⟨c1, c2⟩ := hcr.out
        obtain ⟨c3, c4⟩ := hcc.out
        have hw1 : IntKind.i64.wrap (qt + zb) = qt + zb := wrap_i64 (by omega) (by omega)
        have hw2 : IntKind.i64.wrap (qt + zb - pr) = qt + zb - pr := wrap_i64 (by omega) (by omega)
        have hw3 : IntKind.i64.wrap (ql + zr) = ql + zr := wrap_i64 (by omega) (by omega)
        have hw4 : IntKind.i64.wrap (ql + zr - pc) = ql + zr - pc := wrap_i64 (by omega) (by omega)
        clear NO TE RW4 RW7 NB4 NB7 WH MT CO rbd p1 p2 p3 p4 p5 p6 c1 c2 c3 c4 ht0 ht1 hl0 hl1 hb0 hb1 hr0 hr1
        go_upto_region 8 with (go_at_call 53; ((with_reducible refine (PL.out _ (hBW2.out _ (by (repeat' (first | (with_reducible exact Below.refl _ _) | (with_reducible refine Below.alloc ?_ ?_ _) | (with_reducible refine below_ext ?_ ?_ _) | (with_reducible refine Below.drew ?_) | (with_reducible refine below_drewN ?_ _) | (with_reducible refine Below.setCell ?_ ?_ _) | go_size | (simp only [go_sem]; omega) | (simp [go_sem]; done) | (simp [go_sem]; omega)))))).mono ?_); rintro _ _ hgets; obtain ⟨rfl, x5, rfl⟩ := hgets.get; clear hgets))
        go_wp2_with ((go_at_call 54); (with_reducible refine (CP.out _ (hBW2.out _ (by (repeat' (first | (with_reducible exact Below.refl _ _) | (with_reducible refine Below.alloc ?_ ?_ _) | (with_reducible refine below_ext ?_ ?_ _) | (with_reducible refine Below.drew ?_) | (with_reducible refine below_drewN ?_ _) | (with_reducible refine Below.setCell ?_ ?_ _) | go_size | (simp only [go_sem]; omega) | (simp [go_sem]; done) | (simp [go_sem]; omega)))))).mono ?_); (rintro _ W9 ⟨rfl, hD⟩); replace hD := Lib.hid (BDid.back hD (hBW2.out _ (by (repeat' (first | (with_reducible exact Below.refl _ _) | (with_reducible refine Below.alloc ?_ ?_ _) | (with_reducible refine below_ext ?_ ?_ _) | (with_reducible refine Below.drew ?_) | (with_reducible refine below_drewN ?_ _) | (with_reducible refine Below.setCell ?_ ?_ _) | go_size | (simp only [go_sem]; omega) | (simp [go_sem]; done) | (simp [go_sem]; omega))))) hFl.out))
        go_returns
        exact ⟨rfl, hD.out⟩
end
end Go.Proofs.YtignkkejkknddaaGreat
/- What cells and rows of cells weigh (as Cell and Sum, over the cells of Clk).  -/
namespace Go.Proofs.YtignkkejkknddaaGreat
open Go.RowKit
set_option linter.unusedVariables false
set_option linter.unusedSimpArgs false

def wsum (f : Fl) : Nat → Int
  | 0 => 0
  | 1 => bi f.h 8
  | 2 => bi f.h 8 + bi f.u 16
  | 3 => bi f.h 8 + bi f.u 16 + bi f.r 32
  | 4 => bi f.h 8 + bi f.u 16 + bi f.r 32 + bi f.k 64
  | _ => bi f.h 8 + bi f.u 16 + bi f.r 32 + bi f.k 64 + bi f.b 128
def Fl.weight (f : Fl) : Int := wsum f 5
theorem wsum_bd (f : Fl) (k : Nat) : 0 ≤ wsum f k ∧ wsum f k ≤ 248 := by
  have h1 : ∀ (x : Bool) (n : Int), 0 ≤ n → 0 ≤ bi x n ∧ bi x n ≤ n := by intro x n h; cases x <;> simp [bi] <;> omega
  have a1 := h1 f.h 8 (by omega)
  have a2 := h1 f.u 16 (by omega)
  have a3 := h1 f.r 32 (by omega)
  have a4 := h1 f.k 64 (by omega)
  have a5 := h1 f.b 128 (by omega)
  rcases k with _ | _ | _ | _ | _ | k <;> simp only [wsum] <;> omega
theorem bit_all : ∀ k : Fin 256, (bits .and .u8 (k.val : Int) 16 != 0) = (Fl.of (k.val : Int)).h ∧ (bits .and .u8 (k.val : Int) 2 != 0) = (Fl.of (k.val : Int)).u ∧ (bits .and .u8 (k.val : Int) 8 != 0) = (Fl.of (k.val : Int)).r ∧
    (bits .and .u8 (k.val : Int) 4 != 0) = (Fl.of (k.val : Int)).k ∧ (bits .and .u8 (k.val : Int) 1 != 0) = (Fl.of (k.val : Int)).b := by decide +kernel
theorem bit_is {r : Int} (h : 0 ≤ r ∧ r ≤ 255) : (bits .and .u8 r 16 != 0) = (Fl.of r).h ∧ (bits .and .u8 r 2 != 0) = (Fl.of r).u ∧ (bits .and .u8 r 8 != 0) = (Fl.of r).r ∧
    (bits .and .u8 r 4 != 0) = (Fl.of r).k ∧ (bits .and .u8 r 1 != 0) = (Fl.of r).b := by
  have := bit_all ⟨r.toNat, by omega⟩
  simpa only [show ((r.toNat : Nat) : Int) = r by omega] using this

set_option maxHeartbeats 1000000 in
theorem weight_c (r : Int) (hr0 : 0 ≤ r) (hr1 : r ≤ 255) (w : World) :
    Calls Tryz.prog 132 #[.int .u8 r] w (Same w (.int .i64 (Fl.of r).weight)) := by
  have i0 : ∀ w, (Instr.index 178 (.agg #[.int .u8 16, .int .u8 2, .int .u8 8, .int .u8 4, .int .u8 1]) (.int .i64 0)).run Tryz.prog w = .ok (.int .u8 16) w := fun _ => by kernel_rfl
  have i1 : ∀ w, (Instr.index 178 (.agg #[.int .u8 16, .int .u8 2, .int .u8 8, .int .u8 4, .int .u8 1]) (.int .i64 1)).run Tryz.prog w = .ok (.int .u8 2) w := fun _ => by kernel_rfl
  have i2 : ∀ w, (Instr.index 178 (.agg #[.int .u8 16, .int .u8 2, .int .u8 8, .int .u8 4, .int .u8 1]) (.int .i64 2)).run Tryz.prog w = .ok (.int .u8 8) w := fun _ => by kernel_rfl
  have i3 : ∀ w, (Instr.index 178 (.agg #[.int .u8 16, .int .u8 2, .int .u8 8, .int .u8 4, .int .u8 1]) (.int .i64 3)).run Tryz.prog w = .ok (.int .u8 4) w := fun _ => by kernel_rfl
  have i4 : ∀ w, (Instr.index 178 (.agg #[.int .u8 16, .int .u8 2, .int .u8 8, .int .u8 4, .int .u8 1]) (.int .i64 4)).run Tryz.prog w = .ok (.int .u8 1) w := fun _ => by kernel_rfl
  have tests := bit_is ⟨hr0, hr1⟩
  unfold Fl.weight
  generalize Fl.of r = f at tests
  obtain ⟨t0, t1, t2, t3, t4⟩ := tests
  have B := Lib.hid (wsum_bd f)
  have T0 := Lib.hid t0
  have T1 := Lib.hid t1
  have T2 := Lib.hid t2
  have T3 := Lib.hid t3
  have T4 := Lib.hid t4
  clear t0 t1 t2 t3 t4
  go_enter Tryz.func132, Tryz.ntmps132
  go_wp2
  go_loop [3, 7] (fun v i => ∃ k : Nat, k ≤ 5 ∧ i = .int .i64 k ∧ v = .int .i64 (wsum f k)) (fun _ i => 5 - (intOf i).toNat)
  case atStart => exact ⟨0, by omega, rfl, rfl⟩
  case round =>
    obtain ⟨k, hk, rfl, rfl⟩ := hrel
    have hcases : k = 0 ∨ k = 1 ∨ k = 2 ∨ k = 3 ∨ k = 4 ∨ k = 5 := by omega
    rcases hcases with rfl | rfl | rfl | rfl | rfl | rfl
    · have HN : Hid (wsum f (0 + 1) = wsum f 0 + bi f.h 8) := Lib.hid (by simp [wsum])
      obtain ⟨s0, s1⟩ := B.out 0
      generalize wsum f 0 = s at HN s0 s1
      have tt := T0.out
      rcases Bool.eq_false_or_eq_true f.h with hb | hb
      all_goals
        rw [hb] at tt HN
        go_wp2
        go_round
        case rel => exact ⟨1, by omega, by go_num, by rw [show (1 : Nat) = 0 + 1 from rfl, HN.out]; simp [bi]⟩
        case measure => simp [intOf]
    · have HN : Hid (wsum f (1 + 1) = wsum f 1 + bi f.u 16) := Lib.hid (by simp [wsum])
      obtain ⟨s0, s1⟩ := B.out 1
      generalize wsum f 1 = s at HN s0 s1
      have tt := T1.out
      rcases Bool.eq_false_or_eq_true f.u with hb | hb
      all_goals
        rw [hb] at tt HN
        go_wp2
        go_round
        case rel => exact ⟨2, by omega, by go_num, by rw [show (2 : Nat) = 1 + 1 from rfl, HN.out]; simp [bi]⟩
        case measure => simp [intOf]
    · have HN : Hid (wsum f (2 + 1) = wsum f 2 + bi f.r 32) := Lib.hid (by simp [wsum])
      obtain ⟨s0, s1⟩ := B.out 2
      generalize wsum f 2 = s at HN s0 s1
      have tt := T2.out
      rcases Bool.eq_false_or_eq_true f.r with hb | hb
      all_goals
        rw [hb] at tt HN
        go_wp2
        go_round
        case rel => exact ⟨3, by omega, by go_num, by rw [show (3 : Nat) = 2 + 1 from rfl, HN.out]; simp [bi]⟩
        case measure => simp [intOf]
    · have HN : Hid (wsum f (3 + 1) = wsum f 3 + bi f.k 64) := Lib.hid (by simp [wsum])
      obtain ⟨s0, s1⟩ := B.out 3
      generalize wsum f 3 = s at HN s0 s1
      have tt := T3.out
      rcases Bool.eq_false_or_eq_true f.k with hb | hb
      all_goals
        rw [hb] at tt HN
        go_wp2
        go_round
        case rel => exact ⟨4, by omega, by go_num, by rw [show (4 : Nat) = 3 + 1 from rfl, HN.out]; simp [bi]⟩
        case measure => simp [intOf]
    · have HN : Hid (wsum f (4 + 1) = wsum f 4 + bi f.b 128) := Lib.hid (by simp [wsum])
      obtain ⟨s0, s1⟩ := B.out 4
      generalize wsum f 4 = s at HN s0 s1
      have tt := T4.out
      rcases Bool.eq_false_or_eq_true f.b with hb | hb
      all_goals
        rw [hb] at tt HN
        go_wp2
        go_round
        case rel => exact ⟨5, by omega, by go_num, by rw [show (5 : Nat) = 4 + 1 from rfl, HN.out]; simp [bi]⟩
        case measure => simp [intOf]
    · go_wp2
      go_returns
      exact ⟨rfl, rfl⟩

def Cl.weight (c : Cl) : Int := c.g % 65536 + (Fl.of c.r).weight + bi c.k 4
set_option maxHeartbeats 1000000 in
theorem cweight_c (g r : Int) (k : Bool) (hg : -2147483648 ≤ g ∧ g ≤ 2147483647) (hr : 0 ≤ r ∧ r ≤ 255) (w : World) :
    Calls Tryz.prog 116 #[.agg #[.int .i32 g, .int .u8 r, .bool k]] w (Gives w (.int .i64 (Cl.weight ⟨g, r, k⟩))) := by
  obtain ⟨hg0, hg1⟩ := hg
  have B := wsum_bd (Fl.of r) 5
  have W := Lib.hid (fun w' => weight_c r hr.1 hr.2 w')
  unfold Cl.weight
  obtain ⟨hr0, hr1⟩ := hr
  unfold Fl.weight at W ⊢
  generalize wsum (Fl.of r) 5 = s at W B ⊢
  obtain ⟨b0, b1⟩ := B
  cases k
  all_goals
    go_enter Tryz.func116, Tryz.ntmps116
    go_wp2
    (refine wp_region_free (by kernel_rfl) (by kernel_rfl) ?_)
    repeat (go_big_quiet_step ((go_at_call 132; with_reducible exact Calls.free_same (W.out _))))
    refine wpQuiet_nil ?_; rintro _ ⟨x2, rfl⟩
    go_wp2
    go_returns
    refine ⟨ret_int ?_, by (repeat' (first | (with_reducible exact Below.refl _ _) | (with_reducible refine Below.alloc ?_ ?_ _) | (with_reducible refine below_ext ?_ ?_ _) | (with_reducible refine Below.drew ?_) | (with_reducible refine below_drewN ?_ _) | (with_reducible refine Below.setCell ?_ ?_ _) | go_size | (simp only [go_sem]; omega) | (simp [go_sem]; done) | (simp [go_sem]; omega)))⟩
    simp [bi, IntKind.wrap_u16]
    go_arith

def sumW (cs : List Cl) : Int := (cs.map Cl.weight).sum
theorem sumW_take (cs : List Cl) (k : Nat) (h : k < cs.length) : sumW (cs.take (k + 1)) = sumW (cs.take k) + Cl.weight cs[k] := by
  unfold sumW
  rw [List.take_succ_eq_append_getElem h, List.map_append, List.sum_append]
  simp
structure Rw where
  a : Option Addr
  c : Nat
  cs : List Cl
def encRw (r : Rw) : List Value := [.slice r.a r.cs.length r.c]
def sumR (rows : List Rw) : Int := (rows.map fun r => sumW r.cs).sum
theorem sumR_take (rows : List Rw) (k : Nat) (h : k < rows.length) : sumR (rows.take (k + 1)) = sumR (rows.take k) + sumW rows[k].cs := by
  unfold sumR
  rw [List.take_succ_eq_append_getElem h, List.map_append, List.sum_append]
  simp
def RowsOk (w : World) (rows : List Rw) : Prop := ∀ r ∈ rows, Rd encC 3 w r.a r.cs ∧ r.cs.length ≤ 9223372036854775807 ∧ ∀ c ∈ r.cs, c.ok

set_option maxRecDepth 100000 in
set_option maxHeartbeats 4000000 in
theorem sum_c (A : Option Addr) (C : Nat) (rows : List Rw) (w : World) (hA : Rd encRw 1 w A rows) (hm : rows.length ≤ 9223372036854775807) (hok : RowsOk w rows) :
    Calls Tryz.prog 94 #[.slice A rows.length C] w (Gives w (.int .i64 (sumR rows % 65536))) := by
  have OK := Lib.hid hok
  have HA := Lib.hid hA
  clear hok hA
  go_enter Tryz.func94, Tryz.ntmps94
  go_wp2
  go_loopw [3, 10] (fun v i wr => ∃ k : Nat, k ≤ rows.length ∧ i = .int .i64 k ∧ v = .int .u16 (sumR (rows.take k) % 65536) ∧ Below w.heap.size w wr) (fun _ i _ => rows.length - (intOf i).toNat)
  case atStart => exact ⟨0, by omega, rfl, by simp [sumR], Below.refl _ _⟩
  case round =>
    obtain ⟨k, hk, rfl, rfl, hB⟩ := hrel
    obtain ⟨x, rfl⟩ := ext_of hB
    clear hB
    by_cases hlt : k < rows.length
    · obtain ⟨b1, o1, rfl, hb1, hc1⟩ := HA.out.cell1 hlt rfl
      have HF := Lib.hid (sumR_take rows k hlt)
      obtain ⟨r1, r2, r3⟩ := OK.out rows[k] (List.getElem_mem hlt)
      generalize rows[k] = row at hc1 HF r1 r2 r3
      obtain ⟨ra, rc, cs⟩ := row
      have R1 := Lib.hid r1
      have R3 := Lib.hid r3
      clear r1 r3
      simp only at hc1 HF r2 R1 R3
      generalize sumR (rows.take k) = S at HF
      go_wp2
      go_loopw [3, 16] (fun v i wr => ∃ j : Nat, j ≤ cs.length ∧ i = .int .i64 j ∧ v = .int .u16 ((S + sumW (cs.take j)) % 65536) ∧ Below w.heap.size w wr) (fun _ i _ => cs.length - (intOf i).toNat)
      case atStart => exact ⟨0, by omega, rfl, by simp [sumW], by (repeat' (first | (with_reducible exact Below.refl _ _) | (with_reducible refine Below.alloc ?_ ?_ _) | (with_reducible refine below_ext ?_ ?_ _) | (with_reducible refine Below.drew ?_) | (with_reducible refine below_drewN ?_ _) | (with_reducible refine Below.setCell ?_ ?_ _) | go_size | (simp only [go_sem]; omega) | (simp [go_sem]; done) | (simp [go_sem]; omega)))⟩
      case round =>
        obtain ⟨j, hj, rfl, rfl, hB⟩ := hrel
        obtain ⟨x', rfl⟩ := ext_of hB
        clear hB
        by_cases hlt2 : j < cs.length
        · obtain ⟨b2, o2, rfl, hb2, d0, d1, d2⟩ := R1.out.cell3 hlt2
          have HG := Lib.hid (sumW_take cs j hlt2)
          obtain ⟨g1, g2⟩ := R3.out cs[j] (List.getElem_mem hlt2)
          have CW := Lib.hid (fun w' => cweight_c cs[j].g cs[j].r cs[j].k g1 g2 w')
          generalize cs[j] = cc at d0 d1 d2 HG CW
          clear g1 g2
          generalize hcw : Cl.weight cc = ww at HG
          obtain ⟨g, r, kk⟩ := cc
          simp only at d0 d1 d2 CW
          rw [hcw] at CW
          clear hcw
          generalize sumW (cs.take j) = T at HG
          go_wp2_with (go_at_call 116; ((with_reducible refine (CW.out _).mono ?_); rintro _ _ hgets; obtain ⟨rfl, _, rfl⟩ := hgets.get; clear hgets))
          go_roundw
          case rel =>
            refine ⟨j + 1, by omega, by go_num, ?_, by (repeat' (first | (with_reducible exact Below.refl _ _) | (with_reducible refine Below.alloc ?_ ?_ _) | (with_reducible refine below_ext ?_ ?_ _) | (with_reducible refine Below.drew ?_) | (with_reducible refine below_drewN ?_ _) | (with_reducible refine Below.setCell ?_ ?_ _) | go_size | (simp only [go_sem]; omega) | (simp [go_sem]; done) | (simp [go_sem]; omega)))⟩
            rw [HG.out]
            congr 1
            simp only [IntKind.wrap_u16]
            omega
          case measure => simp [intOf]; omega
        · have HT := Lib.hid (show cs.take j = cs from List.take_of_length_le (by omega))
          go_wp2
          go_roundw
          case rel =>
            refine ⟨k + 1, by omega, by go_num, ?_, by (repeat' (first | (with_reducible exact Below.refl _ _) | (with_reducible refine Below.alloc ?_ ?_ _) | (with_reducible refine below_ext ?_ ?_ _) | (with_reducible refine Below.drew ?_) | (with_reducible refine below_drewN ?_ _) | (with_reducible refine Below.setCell ?_ ?_ _) | go_size | (simp only [go_sem]; omega) | (simp [go_sem]; done) | (simp [go_sem]; omega)))⟩
            rw [HF.out, HT.out]
          case measure => simp [intOf]; omega
    · have HT := Lib.hid (show rows.take k = rows from List.take_of_length_le (by omega))
      go_wp2
      go_returns
      refine ⟨ret_int ?_, by (repeat' (first | (with_reducible exact Below.refl _ _) | (with_reducible refine Below.alloc ?_ ?_ _) | (with_reducible refine below_ext ?_ ?_ _) | (with_reducible refine Below.drew ?_) | (with_reducible refine below_drewN ?_ _) | (with_reducible refine Below.setCell ?_ ?_ _) | go_size | (simp only [go_sem]; omega) | (simp [go_sem]; done) | (simp [go_sem]; omega)))⟩
      rw [HT.out]

set_option maxHeartbeats 400000 in
theorem negated_c (A : Option Addr) (C : Nat) (rows : List Rw) (w : World) (hA : Rd encRw 1 w A rows) (hm : rows.length ≤ 9223372036854775807) (hok : RowsOk w rows) :
    Calls Tryz.prog 45 #[.slice A rows.length C] w (Gives w (.int .i64 ((65536 - sumR rows % 65536) % 65536))) := by
  have S := Lib.hid (sum_c A C rows w hA hm hok)
  have t0 : 0 ≤ sumR rows % 65536 := by omega
  have t1 : sumR rows % 65536 < 65536 := by omega
  clear hA hok
  generalize sumR rows % 65536 = s at S t0 t1
  go_enter Tryz.func45, Tryz.ntmps45
  go_wp2_with (go_at_call 94; ((with_reducible refine (S.out).mono ?_); rintro _ _ hgets; obtain ⟨rfl, _, rfl⟩ := hgets.get; clear hgets))
  go_returns
  refine ⟨ret_int ?_, by (repeat' (first | (with_reducible exact Below.refl _ _) | (with_reducible refine Below.alloc ?_ ?_ _) | (with_reducible refine below_ext ?_ ?_ _) | (with_reducible refine Below.drew ?_) | (with_reducible refine below_drewN ?_ _) | (with_reducible refine Below.setCell ?_ ?_ _) | go_size | (simp only [go_sem]; omega) | (simp [go_sem]; done) | (simp [go_sem]; omega)))⟩
  rfl

end Go.Proofs.YtignkkejkknddaaGreat
/- rect.Sum.  -/
namespace Go.Proofs.YtignkkejkknddaaGreat
open Go.RowKit
set_option linter.unusedVariables false
set_option linter.unusedSimpArgs false

/-- rows of cells, weighed and negated -/
def smI (cs : List (List Cl)) : Int := (65536 - (cs.map sumW).sum % 65536) % 65536
def smCells (Ps : List PgS) (q : BxI) : List (List Cl) := Ps.flatMap fun P => cellsS P (onB P.rows.length P.cols q)
theorem smCells_snoc (Ps : List PgS) (P : PgS) (q : BxI) : smCells (Ps ++ [P]) q = smCells Ps q ++ cellsS P (onB P.rows.length P.cols q) := by simp [smCells]
theorem cellsS_len {P : PgS} (hP : P.Ok) (q : BxI) : (cellsS P (onB P.rows.length P.cols q)).length ≤ 500 := by
  have := onB_in P.rows.length P.cols q
  have := hP.r2
  unfold cellsS
  rw [List.length_map, List.length_range]
  omega
theorem cellsS_ok {P : PgS} (hP : P.Ok) (q : BxI) : ∀ xs ∈ cellsS P q, xs.length ≤ 500 ∧ ∀ y ∈ xs, y.ok := by
  intro xs hx
  unfold cellsS at hx
  simp only [List.mem_map] at hx
  obtain ⟨i, _, rfl⟩ := hx
  have h1 : ∀ y ∈ (P.rows.getD (q.t.toNat + i) ([], 0)).1, y.ok := by
    rw [List.getD_eq_getElem?_getD]
    cases e : P.rows[q.t.toNat + i]? with
    | none => intro y hy; simp at hy
    | some r => exact hP.ok r (List.mem_of_getElem? e)
  have h2 : (P.rows.getD (q.t.toNat + i) ([], 0)).1.length ≤ 500 := by
    rw [List.getD_eq_getElem?_getD]
    cases e : P.rows[q.t.toNat + i]? with
    | none => simp
    | some r => have := hP.wid r (List.mem_of_getElem? e); have := hP.c2; simp; omega
  refine ⟨?_, cutR_ok h1⟩
  unfold cutR
  rw [List.length_take, List.length_drop]
  omega
section
variable {w w0 wr U : World}
theorem CellsAt.form {B : Nat} {V : Value} {rows : List (RowD × List Cl)} (h : CellsAt B w V rows) : ∃ A c, V = .slice A rows.length c := by
  obtain ⟨A, c, e, _, _⟩ := h.own.form
  exact ⟨A, c, e⟩
/-- rows are appended to rows -/
theorem cells_join {w : World} {o : Oper} {a : Act} {K : Act → World → Prop} {Q : Exit → Act → World → Prop} {A A2 : Option Addr} {n c n2 c2 : Nat} {rows ys : List (RowD × List Cl)} (s xo : Operand)
    (ho : o.op = .call { callee := .builtin .append, args := #[s, xo], argTypes := #[97, 97] }) (hs : a.eval s = .slice A n c) (hx : a.eval xo = .slice A2 n2 c2)
    (hU : Below U.heap.size U w0) (hb : Below w0.heap.size w0 w) (hl : CellsAt U.heap.size w0 (.slice A n c) rows) (hy : CellsAt w0.heap.size w (.slice A2 n2 c2) ys) (hm : rows.length + ys.length ≤ 100000)
    (h : ∀ A' n' c' x', CellsAt U.heap.size (ext U x') (.slice A' n' c') (rows ++ ys) → K (a.put o.dst (.slice A' n' c')) (ext U x')) : Oper.wp Tryz.prog o a w K Q := by
  have hl1 := hl.grow hb
  obtain ⟨_, _, e2⟩ := hy.form
  injection e2 with _ e2 _
  subst e2
  have hUw : Below U.heap.size U w := hU.trans (hb.mono hU.size)
  obtain ⟨A', c', x', hrun, hO, hF, hG⟩ := run_append_far2 (P := Tryz.prog) U w 97 o.type 65 _ 24 Tryz.underlying97 cells_info rfl (by omega) encQ_len encQ_one rows ys _ A2 c2 hUw hl1.own (hy.own.rd encQ_len) (by simp [maxLen]; omega) (by omega)
  unfold Oper.wp execOp
  simp only [ho, resolve, invoke, builtin, Sem.run_bind, Sem.run_pure, Result.andThen_ok, List.map_toArray, List.map_cons, List.map_nil, hs, hx, hrun]
  have hR := ownQR hl1.own
  have hsn : RowsAt U.heap.size w (rows.map Prod.fst ++ ys.map Prod.fst) := hl.sep.app hU.size hb hy.sep
  have hkeep : ∀ q : RowD, q.Live U.heap.size w → ∀ g off, q.b = some (g, off) → (ext U x').heap[g]? = w.heap[g]? := fun q hq g off e => by
    refine hG g (hq.lt e) (fun hv => ?_)
    obtain ⟨_, cur, h2, _⟩ := hq.blk g off e
    obtain ⟨cur', h3⟩ := Own.blk (hR.mono (Nat.zero_le _) : Own encR 1 65 0 _ _ _) hv
    rw [h2] at h3
    injection h3 with h3
    injection h3 with _ e _
    exact absurd e (by decide)
  refine h A' _ c' x' ⟨hO, ⟨fun q hq => ?_, ?_⟩, fun q hq => ?_⟩
  · rw [List.map_append] at hq
    have hl := hsn.live q hq
    refine ⟨hl.le, hl.nil, fun g off e => ?_⟩
    obtain ⟨h1, cur, h2, h3⟩ := hl.blk g off e
    exact ⟨h1, cur, (hkeep q hl g off e).trans h2, h3⟩
  · rw [List.map_append]; exact hsn.sep
  · have hl := hsn.live q.1 (by
      rw [← List.map_append]
      exact List.mem_map.2 ⟨q, hq, rfl⟩)
    have h5 : q.1.n = q.2.length ∧ Rd encC 3 w q.1.adr q.2 := by
      rcases List.mem_append.1 hq with hq | hq
      · exact hl1.rd q hq
      · exact hy.rd q hq
    exact ⟨h5.1, h5.2.keep hF.size fun b off e => hkeep q.1 hl b off (adr_some e)⟩
theorem neg_cells {A : Option Addr} {n C B : Nat} {rows : List (RowD × List Cl)} (h : CellsAt B w (.slice A n C) rows) (hm : rows.length ≤ 100000) (hok : ∀ s ∈ rows, s.2.length ≤ 500 ∧ ∀ y ∈ s.2, y.ok) :
    Calls Tryz.prog 45 #[.slice A n C] w (Gives w (.int .i64 (smI (rows.map Prod.snd)))) := by
  obtain ⟨_, _, e2⟩ := h.form
  injection e2 with _ e2 _
  subst e2
  have e : smI (rows.map Prod.snd) = (65536 - sumR (rows.map fun s => ⟨s.1.adr, s.1.c, s.2⟩) % 65536) % 65536 := by
    unfold smI sumR
    rw [List.map_map, List.map_map]
    rfl
  rw [e]
  have hr : Rd encRw 1 w A (rows.map fun s => (⟨s.1.adr, s.1.c, s.2⟩ : Rw)) := fun h0 => by
    rw [List.length_map] at h0
    obtain ⟨b, off, e1, hl, hd⟩ := (h.own.rd encQ_len) h0
    refine ⟨b, off, e1, hl, fun i hi j v hv => ?_⟩
    rw [List.length_map] at hi
    refine hd i hi j v ?_
    rw [List.getElem_map] at hv
    rw [← hv]
    have := (h.rd _ (List.getElem_mem hi)).1
    unfold encQ encRw
    rw [← this]
    rfl
  have := negated_c A C (rows.map fun s => (⟨s.1.adr, s.1.c, s.2⟩ : Rw)) w hr (by rw [List.length_map]; omega) (fun r hr => by
    obtain ⟨s, hs, rfl⟩ := List.mem_map.1 hr
    exact ⟨(h.rd s hs).2, by have := (hok s hs).1; show s.2.length ≤ _; omega, (hok s hs).2⟩)
  rw [List.length_map] at this
  exact this
end
def smP (S : BkS) (n : Int) : List PgS := if n = 0 then S.pages else [S.pgAt (nbI S n)]
def smOk (y : BxI) (xs : List Int) : Bool := reOk y xs 1 && decide (0 ≤ at0 xs 0)
def smV (S : BkS) (x : BxI) (xs : List Int) : Int := if smOk (arK S x) xs = true then smI (smCells (smP S (at0 xs 0)) (reB (arK S x) xs 1)) else 0
theorem smP_at {S : BkS} (hS : S.Ok) (n : Int) : ∃ f cnt : Nat, f + cnt ≤ S.pages.length ∧ 1 ≤ cnt ∧ (smP S n).length = cnt ∧ (∀ j, j < cnt → (smP S n)[j]? = S.pages[f + j]?) ∧ (n = 0 → f = 0 ∧ cnt = S.pages.length) ∧ (n ≠ 0 → (f : Int) = nbI S n ∧ cnt = 1) := by
  have := hS.p1
  unfold smP
  by_cases h : n = 0
  · rw [if_pos h]
    exact ⟨0, S.pages.length, by omega, this, rfl, fun j hj => by rw [Nat.zero_add], fun _ => ⟨rfl, rfl⟩, fun h' => absurd h h'⟩
  · rw [if_neg h]
    obtain ⟨h1, h2⟩ := nbI_in hS n
    refine ⟨(nbI S n).toNat, 1, by omega, by omega, rfl, fun j hj => ?_, fun h' => absurd h' h, fun _ => ⟨by omega, rfl⟩⟩
    obtain rfl : j = 0 := by omega
    unfold BkS.pgAt
    rw [List.getD_eq_getElem?_getD, Nat.add_zero, List.getElem?_eq_getElem (by omega : (nbI S n).toNat < S.pages.length)]
    rfl
section
variable {w : World} {F : Nat → Prop} {b : Nat} {S : BkS} {V : Value} {ps : List PgR} {st : PgR} {a : Option Addr} {c : Nat} {xs : List Int}
set_option maxRecDepth 100000 in
set_option maxHeartbeats 16000000 in
theorem sum_rect (h : BkO w F b S V ps st) (hS : S.Ok) (hx : NumL w a c xs) (x : BxI) :
    Calls Tryz.prog 10 #[ptrV b, boxV x.t x.l x.b x.r, .slice a xs.length c] w (Gives w (.tuple #[.int .i64 (smV S x xs), .bool (smOk (arK S x) xs)])) := by
  have hbd : (0 ≤ (arK S x).t ∧ (arK S x).t ≤ 500) ∧ (0 ≤ (arK S x).l ∧ (arK S x).l ≤ 500) ∧ (0 ≤ (arK S x).b ∧ (arK S x).b ≤ 500) ∧ (0 ≤ (arK S x).r ∧ (arK S x).r ≤ 500) := by
    have := onB_in S.rows S.cols x
    have := BkS.rows_le hS
    unfold arK
    omega
  obtain ⟨⟨ht0, ht1⟩, ⟨hl0, hl1⟩, ⟨hb0, hb1⟩, ⟨hr0, hr1⟩⟩ := hbd
  have WH := Lib.hid (fun w' (hb : Below w.heap.size w w') => whole_b (h.grow hb) hS)
  have MT : Hid (∀ w', Calls Tryz.prog 40 #[boxV x.t x.l x.b x.r, boxV 0 0 S.rows S.cols] w' (Gives w' (boxV (arK S x).t (arK S x).l (arK S x).b (arK S x).r))) := Lib.hid (fun w' => meet_c x.t x.l x.b x.r 0 0 S.rows S.cols w')
  have RC : Hid (∀ w', Below w.heap.size w w' → Calls Tryz.prog 39 #[boxV (arK S x).t (arK S x).l (arK S x).b (arK S x).r, .slice a xs.length c, .int .i64 1] w' (Gives w' (.tuple #[boxV (reB (arK S x) xs 1).t (reB (arK S x) xs 1).l (reB (arK S x) xs 1).b (reB (arK S x) xs 1).r, .bool (reOk (arK S x) xs 1)]))) := Lib.hid (fun w' hb => rect_c _ _ _ _ a c xs 1 w' (by omega) (by omega) (by omega) (by omega) (hx.grow hb).rd (Nat.le_trans hx.lc hx.cm) hx.lc hx.cm hx.hi)
  have RW0 := Lib.hid (fun w' (h : Below w.heap.size w w') => raw_c a c xs 0 w' (hx.grow h).rd (Nat.le_trans hx.lc hx.cm))
  have NB0 := Lib.hid (fun w' (hb : Below w.heap.size w w') => number_b (h.grow hb) hS (at0 xs 0))
  have CT := Lib.hid (fun w' (hb : Below w.heap.size w w') => count_b (h.grow hb))
  have PG := Lib.hid (fun w' (hb : Below w.heap.size w w') (i : Nat) (r : PgR) (hr : ps[i]? = some r) => page_b (h.grow hb) hS hr)
  have GT := Lib.hid (fun (i : Nat) (hi : i < S.pages.length) => h.get hi)
  have okp := Lib.hid hS.pg
  have VE : smV S x xs = if smOk (arK S x) xs = true then smI (smCells (smP S (at0 xs 0)) (reB (arK S x) xs 1)) else 0 := rfl
  have OE : smOk (arK S x) xs = (reOk (arK S x) xs 1 && decide (0 ≤ at0 xs 0)) := rfl
  have SN : ∀ (j : Nat) (hj : j < (smP S (at0 xs 0)).length), smCells ((smP S (at0 xs 0)).take (j + 1)) (reB (arK S x) xs 1) = smCells ((smP S (at0 xs 0)).take j) (reB (arK S x) xs 1) ++ cellsS (smP S (at0 xs 0))[j] (onB (smP S (at0 xs 0))[j].rows.length (smP S (at0 xs 0))[j].cols (reB (arK S x) xs 1)) := fun j hj => by
    rw [List.take_succ_eq_append_getElem hj, smCells_snoc]
  have hp1 := hS.p1
  have hp2 := hS.p2
  have hnb := nbI_in hS (at0 xs 0)
  obtain ⟨f, cnt, hf1, hf2, hf3, hf4, hf5, hf6⟩ := smP_at hS (at0 xs 0)
  generalize smV S x xs = sv at VE ⊢
  generalize smOk (arK S x) xs = ok at VE OE ⊢
  generalize smP S (at0 xs 0) = Ps at *
  generalize nbI S (at0 xs 0) = nb at *
  generalize hq : reB (arK S x) xs 1 = q at *
  clear hq
  generalize reOk (arK S x) xs 1 = k1 at *
  generalize arK S x = z at *
  generalize at0 xs 0 = n0 at *
  obtain ⟨xt, xl, xb, xr⟩ := x
  obtain ⟨zt, zl, zb, zr⟩ := z
  simp only at MT RC
  replace VE := Lib.hid VE
  replace OE := Lib.hid OE
  replace SN := Lib.hid SN
  replace hf4 := Lib.hid hf4
  replace hf5 := Lib.hid hf5
  replace hf6 := Lib.hid hf6
  replace hf3 := Lib.hid hf3
  clear h hx hS
  go_enter Tryz.func10, Tryz.ntmps10
  go_upto_region 1 with fail
  obtain ⟨qt, ql, qb, qr⟩ := q
  generalize hW : w.alloc (.cells #[.int .i64 xt, .int .i64 xl, .int .i64 xb, .int .i64 xr] 31) = W
  have hlt : w.heap.size < W.heap.size := by subst hW; simp [go_sem]
  have hB : Below w.heap.size w W := by subst hW; (repeat' (first | (with_reducible exact Below.refl _ _) | (with_reducible refine Below.alloc ?_ ?_ _) | (with_reducible refine below_ext ?_ ?_ _) | (with_reducible refine Below.drew ?_) | (with_reducible refine below_drewN ?_ _) | (with_reducible refine Below.setCell ?_ ?_ _) | go_size | (simp only [go_sem]; omega) | (simp [go_sem]; done) | (simp [go_sem]; omega)))
  have b0 : W.heap[w.heap.size]? = some (.cells #[.int .i64 xt, .int .i64 xl, .int .i64 xb, .int .i64 xr] 31 (0, 0)) := by subst hW; exact al_at _ _ rfl
  clear hW
  have KB : ∀ w', Below W.heap.size W w' → w'.heap[w.heap.size]? = some (.cells #[.int .i64 xt, .int .i64 xl, .int .i64 xb, .int .i64 xr] 31 (0, 0)) := fun w' h => (h.block _ hlt).trans b0
  have KS : ∀ w', Below W.heap.size W w' → w'.cell? ⟨w.heap.size, 0, none⟩ = some (.int .i64 xt) ∧ w'.cell? ⟨w.heap.size, 1, none⟩ = some (.int .i64 xl) ∧ w'.cell? ⟨w.heap.size, 2, none⟩ = some (.int .i64 xb) ∧ w'.cell? ⟨w.heap.size, 3, none⟩ = some (.int .i64 xr) := fun w' h => ⟨by rw [cell_in (KB _ h)]; rfl, by rw [cell_in (KB _ h)]; rfl, by rw [cell_in (KB _ h)]; rfl, by rw [cell_in (KB _ h)]; rfl⟩
  have hBW := Lib.hid (fun w' (h : Below W.heap.size W w') => hB.trans (h.mono hB.size))
  go_cut [8, 9] (fun v8 v9 wx => ∃ g, v8 = .pointer (some ⟨g, 0, none⟩) ∧ v9 = .bool k1 ∧ Below W.heap.size W wx ∧ w.heap.size ≤ g ∧ wx.heap[g]? = some (.cells #[.int .i64 qt, .int .i64 ql, .int .i64 qb, .int .i64 qr] 31 (0, 0)))
  case first =>
    go_region_held3 (fun w' => w'.cell? ⟨w.heap.size, 0, none⟩ = some (.int .i64 xt) ∧ w'.cell? ⟨w.heap.size, 1, none⟩ = some (.int .i64 xl) ∧ w'.cell? ⟨w.heap.size, 2, none⟩ = some (.int .i64 xb) ∧ w'.cell? ⟨w.heap.size, 3, none⟩ = some (.int .i64 xr)) (exact KS _ (by (repeat' (first | (with_reducible exact Below.refl _ _) | (with_reducible refine Below.alloc ?_ ?_ _) | (with_reducible refine below_ext ?_ ?_ _) | (with_reducible refine Below.drew ?_) | (with_reducible refine below_drewN ?_ _) | (with_reducible refine Below.setCell ?_ ?_ _) | go_size | (simp only [go_sem]; omega) | (simp [go_sem]; done) | (simp [go_sem]; omega))))) ((first
      | (go_at_call 41; ((with_reducible refine (WH.out _ (hBW.out _ (by (repeat' (first | (with_reducible exact Below.refl _ _) | (with_reducible refine Below.alloc ?_ ?_ _) | (with_reducible refine below_ext ?_ ?_ _) | (with_reducible refine Below.drew ?_) | (with_reducible refine below_drewN ?_ _) | (with_reducible refine Below.setCell ?_ ?_ _) | go_size | (simp only [go_sem]; omega) | (simp [go_sem]; done) | (simp [go_sem]; omega)))))).mono ?_); rintro _ _ hgets; obtain ⟨rfl, x1, rfl⟩ := hgets.get; clear hgets))
      | (go_at_call 40; ((with_reducible refine (MT.out _).mono ?_); rintro _ _ hgets; obtain ⟨rfl, x2, rfl⟩ := hgets.get; clear hgets))
      | (go_at_call 39; ((with_reducible refine (RC.out _ (hBW.out _ (by (repeat' (first | (with_reducible exact Below.refl _ _) | (with_reducible refine Below.alloc ?_ ?_ _) | (with_reducible refine below_ext ?_ ?_ _) | (with_reducible refine Below.drew ?_) | (with_reducible refine below_drewN ?_ _) | (with_reducible refine Below.setCell ?_ ?_ _) | go_size | (simp only [go_sem]; omega) | (simp [go_sem]; done) | (simp [go_sem]; omega)))))).mono ?_); rintro _ _ hgets; obtain ⟨rfl, x3, rfl⟩ := hgets.get; clear hgets))))
    all_goals clear KS KB b0 hBW MT RC WH
    all_goals go_wp2
    all_goals go_meet
    all_goals refine ⟨_, rfl, rfl, by (repeat' (first | (with_reducible exact Below.refl _ _) | (with_reducible refine Below.alloc ?_ ?_ _) | (with_reducible refine below_ext ?_ ?_ _) | (with_reducible refine Below.drew ?_) | (with_reducible refine below_drewN ?_ _) | (with_reducible refine Below.setCell ?_ ?_ _) | go_size | (simp only [go_sem]; omega) | (simp [go_sem]; done) | (simp [go_sem]; omega))), by (try simp); omega, ?_⟩
    all_goals (repeat (first | ((with_reducible refine heap_at _ _ ?_); (focus (first | rfl | (simp [go_sem]; done) | (simp [go_sem]; omega)))) | ((with_reducible refine (heap_old _ _ ?_).trans ?_); (focus (first | (simp [go_sem]; done) | (simp [go_sem]; omega)))) | ((with_reducible refine (block_ext _ _ ?_).trans ?_); (focus (first | (simp [go_sem]; done) | (simp [go_sem]; omega)))) | ((with_reducible refine (heap_drew _ _).trans ?_))))
  obtain ⟨g8, rfl, rfl, hB1, hg8, b8⟩ := hcut
  have BW := hB.trans (hB1.mono hB.size)
  obtain ⟨W1, eW1⟩ : ∃ W1, W1 = wc := ⟨_, rfl⟩
  rw [← eW1] at BW b8 ⊢
  clear eW1 wc KB KS hBW hB hlt b0 hB1 ht0 ht1 hl0 hl1 hb0 hb1 hr0 hr1 WH MT RC
  have hl8 := heap_in b8
  have hBW := Lib.hid (fun w' (h : Below w.heap.size W1 w') => BW.trans h)
  replace BW := Lib.hid BW
  go_upto_region 4 with (first
    | (go_at_call 42; ((with_reducible refine (RW0.out _ (hBW.out _ (by (repeat' (first | (with_reducible exact Below.refl _ _) | (with_reducible refine Below.alloc ?_ ?_ _) | (with_reducible refine below_ext ?_ ?_ _) | (with_reducible refine Below.drew ?_) | (with_reducible refine below_drewN ?_ _) | (with_reducible refine Below.setCell ?_ ?_ _) | go_size | (simp only [go_sem]; omega) | (simp [go_sem]; done) | (simp [go_sem]; omega)))))).mono ?_); rintro _ _ ⟨rfl, rfl⟩))
    | (go_at_call 43; ((with_reducible refine (NB0.out _ (hBW.out _ (by (repeat' (first | (with_reducible exact Below.refl _ _) | (with_reducible refine Below.alloc ?_ ?_ _) | (with_reducible refine below_ext ?_ ?_ _) | (with_reducible refine Below.drew ?_) | (with_reducible refine below_drewN ?_ _) | (with_reducible refine Below.setCell ?_ ?_ _) | go_size | (simp only [go_sem]; omega) | (simp [go_sem]; done) | (simp [go_sem]; omega)))))).mono ?_); rintro _ _ hgets; obtain ⟨rfl, x4, rfl⟩ := hgets.get; clear hgets)))
  clear RW0 NB0
  have NO : ∀ W', Below w.heap.size w W' → ok = false → Gives w (.tuple #[.int .i64 sv, .bool ok]) (.returned (.tuple #[.int .i64 0, .bool false])) W' := fun W' hb e => by
    have h1 := VE.out
    rw [e] at h1
    rw [e, show sv = 0 from h1]
    exact ⟨rfl, hb⟩
  replace NO := Lib.hid NO
  generalize hdn : decide (0 ≤ n0) = dn at OE ⊢
  cases k1
  · go_wp2
    go_returns
    refine NO.out _ ?_ OE.out
    exact hBW.out _ (by (repeat' (first | (with_reducible exact Below.refl _ _) | (with_reducible refine Below.alloc ?_ ?_ _) | (with_reducible refine below_ext ?_ ?_ _) | (with_reducible refine Below.drew ?_) | (with_reducible refine below_drewN ?_ _) | (with_reducible refine Below.setCell ?_ ?_ _) | go_size | (simp only [go_sem]; omega) | (simp [go_sem]; done) | (simp [go_sem]; omega))))
  · cases dn
    · go_wp2
      go_returns
      refine NO.out _ ?_ OE.out
      exact hBW.out _ (by (repeat' (first | (with_reducible exact Below.refl _ _) | (with_reducible refine Below.alloc ?_ ?_ _) | (with_reducible refine below_ext ?_ ?_ _) | (with_reducible refine Below.drew ?_) | (with_reducible refine below_drewN ?_ _) | (with_reducible refine Below.setCell ?_ ?_ _) | go_size | (simp only [go_sem]; omega) | (simp [go_sem]; done) | (simp [go_sem]; omega))))
    · obtain rfl : ok = true := OE.out
      have hsv := Lib.hid (show sv = smI (smCells Ps ⟨qt, ql, qb, qr⟩) from VE.out)
      clear NO VE OE
      have hn0 : 0 ≤ n0 := by simpa using hdn
      clear hdn
      go_upto_if 43 with fail
      go_cut [13, 14] (fun v13 v14 wx => v13 = .int .i64 f ∧ v14 = .int .i64 ((f : Int) + cnt - 1) ∧ Below W1.heap.size W1 wx)
      case first =>
        by_cases h0 : n0 = 0
        · obtain ⟨e1, e2⟩ := hf5.out h0
          subst h0 e1 e2
          have hw1 : IntKind.i64.wrap ((S.pages.length : Int) - 1) = S.pages.length - 1 := wrap_i64 (by omega) (by omega)
          clear hf4 hf5 hf6 hf3 SN
          go_wp2_with (go_at_call 23; ((with_reducible refine (CT.out _ (hBW.out _ (by (repeat' (first | (with_reducible exact Below.refl _ _) | (with_reducible refine Below.alloc ?_ ?_ _) | (with_reducible refine below_ext ?_ ?_ _) | (with_reducible refine Below.drew ?_) | (with_reducible refine below_drewN ?_ _) | (with_reducible refine Below.setCell ?_ ?_ _) | go_size | (simp only [go_sem]; omega) | (simp [go_sem]; done) | (simp [go_sem]; omega)))))).mono ?_); rintro _ _ hgets; obtain ⟨rfl, x5, rfl⟩ := hgets.get; clear hgets))
          go_meet
          exact ⟨rfl, by simp, by (repeat' (first | (with_reducible exact Below.refl _ _) | (with_reducible refine Below.alloc ?_ ?_ _) | (with_reducible refine below_ext ?_ ?_ _) | (with_reducible refine Below.drew ?_) | (with_reducible refine below_drewN ?_ _) | (with_reducible refine Below.setCell ?_ ?_ _) | go_size | (simp only [go_sem]; omega) | (simp [go_sem]; done) | (simp [go_sem]; omega)))⟩
        · obtain ⟨e1, e2⟩ := hf6.out h0
          subst e2
          have hne : (n0 == 0) = false := by simp [h0]
          go_wp2
          go_meet
          exact ⟨by rw [e1], by rw [e1]; simp, by (repeat' (first | (with_reducible exact Below.refl _ _) | (with_reducible refine Below.alloc ?_ ?_ _) | (with_reducible refine below_ext ?_ ?_ _) | (with_reducible refine Below.drew ?_) | (with_reducible refine below_drewN ?_ _) | (with_reducible refine Below.setCell ?_ ?_ _) | go_size | (simp only [go_sem]; omega) | (simp [go_sem]; done) | (simp [go_sem]; omega)))⟩
      obtain ⟨rfl, rfl, hB2⟩ := hcut
      obtain ⟨W2, eW2⟩ : ∃ W2, W2 = wc := ⟨_, rfl⟩
      rw [← eW2] at hB2 ⊢
      clear eW2 wc
      have b82 := (hB2.block g8 hl8).trans b8
      have hl82 := Nat.lt_of_lt_of_le hl8 hB2.size
      have hBW2 := Lib.hid (fun w' (h : Below w.heap.size W2 w') => (hBW.out _ (hB2.mono (hBW.out _ (Below.refl _ _)).size)).trans h)
      have hwle : w.heap.size ≤ W2.heap.size := by omega
      clear b8 hl8 hBW hB2 hf5 hf6 hnb hn0
      have KS : ∀ w', Below W2.heap.size W2 w' → w'.cell? ⟨g8, 0, none⟩ = some (.int .i64 qt) ∧ w'.cell? ⟨g8, 1, none⟩ = some (.int .i64 ql) ∧ w'.cell? ⟨g8, 2, none⟩ = some (.int .i64 qb) ∧ w'.cell? ⟨g8, 3, none⟩ = some (.int .i64 qr) := fun w' h => ⟨by rw [cell_in ((h.block _ hl82).trans b82)]; rfl, by rw [cell_in ((h.block _ hl82).trans b82)]; rfl, by rw [cell_in ((h.block _ hl82).trans b82)]; rfl, by rw [cell_in ((h.block _ hl82).trans b82)]; rfl⟩
      replace KS := Lib.hid KS
      go_upto_region 11 with fail
      go_loopw [15, 16] (fun v i wr => ∃ (j : Nat) (A : Option Addr) (n C : Nat) (x : More) (rows : List (RowD × List Cl)), j ≤ cnt ∧ i = .int .i64 ((f : Int) + j) ∧ v = .slice A n C ∧ wr = ext W2 x ∧ Hid (CellsAt W2.heap.size (ext W2 x) (.slice A n C) rows) ∧ Hid (rows.map Prod.snd = smCells (Ps.take j) ⟨qt, ql, qb, qr⟩) ∧ rows.length ≤ 500 * j ∧ Hid (∀ s ∈ rows, s.2.length ≤ 500 ∧ ∀ y ∈ s.2, y.ok)) (fun _ i _ => (f + cnt - intOf i).toNat)
      case atStart => exact ⟨0, none, 0, 0, ⟨#[], W2.drawn⟩, [], by omega, by simp, rfl, by simp [ext], Lib.hid (CellsAt.nil _ _), Lib.hid (by simp [smCells]), by simp, Lib.hid (fun s hs => by simp at hs)⟩
      case round =>
        obtain ⟨j, A, n, C, x, rows, hj, rfl, rfl, rfl, hC, hv, hlen, hok⟩ := hrel
        by_cases hlt : j < cnt
        · have hd : decide ((f : Int) + j ≤ (f : Int) + cnt - 1) = true := by simp; omega
          obtain ⟨r, hr, -, hP⟩ := GT.out (f + j) (by omega)
          have hjl : j < Ps.length := by rw [hf3.out]; exact hlt
          have hPj : Ps[j] = S.pages[f + j] := by
            have := hf4.out j hlt
            rw [List.getElem?_eq_getElem hjl, List.getElem?_eq_getElem (by omega)] at this
            exact Option.some.inj this
          have sn := SN.out j hjl
          rw [hPj] at sn
          have okP := okp.out _ (List.getElem_mem (by omega : f + j < S.pages.length))
          generalize S.pages[f + j] = P at hP sn okP
          have PG1 := Lib.hid (fun w' hb => PG.out w' hb (f + j) r hr)
          have CE := Lib.hid (fun w' (hb : Below w.heap.size w w') => cells_p (hP.grow hb) okP ⟨qt, ql, qb, qr⟩)
          have hcl := cellsS_len okP ⟨qt, ql, qb, qr⟩
          have hco := cellsS_ok okP (onB P.rows.length P.cols ⟨qt, ql, qb, qr⟩)
          rw [show (((f + j : Nat)) : Int) = (f : Int) + j by omega] at PG1
          generalize cellsS P (onB P.rows.length P.cols ⟨qt, ql, qb, qr⟩) = cs at CE sn hcl hco
          simp only at CE
          replace sn := Lib.hid sn
          replace hco := Lib.hid hco
          clear hP okP hPj hr
          have hBx := Lib.hid (fun w' (h : Below W2.heap.size W2 w') => hBW2.out w' (h.mono hwle))
          go_upto_region 13 with fail
          (refine wp_region_F (S := (fun w' => w'.cell? ⟨g8, 0, none⟩ = some (.int .i64 qt) ∧ w'.cell? ⟨g8, 1, none⟩ = some (.int .i64 ql) ∧ w'.cell? ⟨g8, 2, none⟩ = some (.int .i64 qb) ∧ w'.cell? ⟨g8, 3, none⟩ = some (.int .i64 qr))) 7 [false, false, false, false, false, false, false, false] rfl rfl (by kernel_rfl) ?_ (fun hHeld => ?_); (focus ((try dsimp only); (exact KS.out _ (by (repeat' (first | (with_reducible exact Below.refl _ _) | (with_reducible refine Below.alloc ?_ ?_ _) | (with_reducible refine below_ext ?_ ?_ _) | (with_reducible refine Below.drew ?_) | (with_reducible refine below_drewN ?_ _) | (with_reducible refine Below.setCell ?_ ?_ _) | go_size | (simp only [go_sem]; omega) | (simp [go_sem]; done) | (simp [go_sem]; omega))))); done)))
          ((refine AtF.take (oi := ?_) (v := ?_) 0 ?_ ?_ ?_ ?_ (Or.inl ⟨?_, ?_⟩) (by assumption) ?_; rotate_left 2; rfl; kernel_rfl; kernel_rfl; exact (fun _ _ _ h => h); rfl; (focus (intro w hSw; (try dsimp only at hSw); go_simp; (try with_reducible rfl); done)); (try simp only [Act.put, List.setIfInBounds_toArray, List.set_cons_zero, List.set_cons_succ])); (refine AtF.take (oi := ?_) (v := ?_) 1 ?_ ?_ ?_ ?_ (Or.inl ⟨?_, ?_⟩) (by assumption) ?_; rotate_left 2; rfl; kernel_rfl; kernel_rfl; exact (fun _ _ _ h => h); rfl; (focus (intro w hSw; (try dsimp only at hSw); go_simp; (try with_reducible rfl); done)); (try simp only [Act.put, List.setIfInBounds_toArray, List.set_cons_zero, List.set_cons_succ])); (refine AtF.take (oi := ?_) (v := ?_) 2 ?_ ?_ ?_ ?_ (Or.inl ⟨?_, ?_⟩) (by assumption) ?_; rotate_left 2; rfl; kernel_rfl; kernel_rfl; exact (fun _ _ _ h => h); rfl; (focus (intro w hSw; (try dsimp only at hSw); go_simp; (try with_reducible rfl); done)); (try simp only [Act.put, List.setIfInBounds_toArray, List.set_cons_zero, List.set_cons_succ])); (refine AtF.take (oi := ?_) (v := ?_) 4 ?_ ?_ ?_ ?_ (Or.inl ⟨?_, ?_⟩) (by assumption) ?_; rotate_left 2; rfl; kernel_rfl; kernel_rfl; exact (fun _ _ _ h => h); rfl; (focus (intro w hSw; (try dsimp only at hSw); go_simp; (try with_reducible rfl); done)); (try simp only [Act.put, List.setIfInBounds_toArray, List.set_cons_zero, List.set_cons_succ])))
          (refine AtF.only (oi := ?_) 3 ?_ ?_ (fun K hK => ?_); rotate_left 1; rfl; kernel_rfl; (try go_simp); (go_at_call 17; ((with_reducible refine (PG1.out _ (hBx.out _ (by (repeat' (first | (with_reducible exact Below.refl _ _) | (with_reducible refine Below.alloc ?_ ?_ _) | (with_reducible refine below_ext ?_ ?_ _) | (with_reducible refine Below.drew ?_) | (with_reducible refine below_drewN ?_ _) | (with_reducible refine Below.setCell ?_ ?_ _) | go_size | (simp only [go_sem]; omega) | (simp [go_sem]; done) | (simp [go_sem]; omega)))))).mono ?_); rintro _ _ hgets; obtain ⟨rfl, x5, rfl⟩ := hgets.get; clear hgets)); (refine hK.out _ _ ?_ (fun hHeld => ?_)); (focus ((try dsimp only); (exact KS.out _ (by (repeat' (first | (with_reducible exact Below.refl _ _) | (with_reducible refine Below.alloc ?_ ?_ _) | (with_reducible refine below_ext ?_ ?_ _) | (with_reducible refine Below.drew ?_) | (with_reducible refine below_drewN ?_ _) | (with_reducible refine Below.setCell ?_ ?_ _) | go_size | (simp only [go_sem]; omega) | (simp [go_sem]; done) | (simp [go_sem]; omega))))); done)); clear hK K; (try simp only [Act.put, List.setIfInBounds_toArray, List.set_cons_zero, List.set_cons_succ]))
          (refine AtF.only (oi := ?_) 5 ?_ ?_ (fun K hK => ?_); rotate_left 1; rfl; kernel_rfl; (try go_simp); ((go_at_call 44); (with_reducible refine (CE.out _ (hBx.out _ (by (repeat' (first | (with_reducible exact Below.refl _ _) | (with_reducible refine Below.alloc ?_ ?_ _) | (with_reducible refine below_ext ?_ ?_ _) | (with_reducible refine Below.drew ?_) | (with_reducible refine below_drewN ?_ _) | (with_reducible refine Below.setCell ?_ ?_ _) | go_size | (simp only [go_sem]; omega) | (simp [go_sem]; done) | (simp [go_sem]; omega)))))).mono ?_); (rintro _ _ ⟨V2, ys, x6, rfl, rfl, hY, hYv⟩); (obtain ⟨A2, c2, rfl⟩ := hY.form); (have hyl : ys.length ≤ 500 := by have := congrArg List.length hYv; simp at this; omega); (replace hY := Lib.hid hY); (replace hYv := Lib.hid hYv)); (refine hK.out _ _ ?_ (fun hHeld => ?_)); (focus ((try dsimp only); (exact KS.out _ (by (repeat' (first | (with_reducible exact Below.refl _ _) | (with_reducible refine Below.alloc ?_ ?_ _) | (with_reducible refine below_ext ?_ ?_ _) | (with_reducible refine Below.drew ?_) | (with_reducible refine below_drewN ?_ _) | (with_reducible refine Below.setCell ?_ ?_ _) | go_size | (simp only [go_sem]; omega) | (simp [go_sem]; done) | (simp [go_sem]; omega))))); done)); clear hK K; (try simp only [Act.put, List.setIfInBounds_toArray, List.set_cons_zero, List.set_cons_succ]))
          (refine AtF.only (oi := ?_) 6 ?_ ?_ (fun K hK => ?_); rotate_left 1; rfl; kernel_rfl; (refine step_do rfl (cells_join (U := W2) (w0 := ext (ext W2 x) x5) (.tmp 53) (.tmp 58) rfl rfl rfl (by (repeat' (first | (with_reducible exact Below.refl _ _) | (with_reducible refine Below.alloc ?_ ?_ _) | (with_reducible refine below_ext ?_ ?_ _) | (with_reducible refine Below.drew ?_) | (with_reducible refine below_drewN ?_ _) | (with_reducible refine Below.setCell ?_ ?_ _) | go_size | (simp only [go_sem]; omega) | (simp [go_sem]; done) | (simp [go_sem]; omega)))) (by (repeat' (first | (with_reducible exact Below.refl _ _) | (with_reducible refine Below.alloc ?_ ?_ _) | (with_reducible refine below_ext ?_ ?_ _) | (with_reducible refine Below.drew ?_) | (with_reducible refine below_drewN ?_ _) | (with_reducible refine Below.setCell ?_ ?_ _) | go_size | (simp only [go_sem]; omega) | (simp [go_sem]; done) | (simp [go_sem]; omega)))) (hC.out.grow (by (repeat' (first | (with_reducible exact Below.refl _ _) | (with_reducible refine Below.alloc ?_ ?_ _) | (with_reducible refine below_ext ?_ ?_ _) | (with_reducible refine Below.drew ?_) | (with_reducible refine below_drewN ?_ _) | (with_reducible refine Below.setCell ?_ ?_ _) | go_size | (simp only [go_sem]; omega) | (simp [go_sem]; done) | (simp [go_sem]; omega))))) hY.out (by omega) ?_)); (intro A' n' c' x7 hJ); (replace hJ := Lib.hid hJ); (refine hK.out _ _ ?_ (fun hHeld => ?_)); (focus ((try dsimp only); (exact KS.out _ (by (repeat' (first | (with_reducible exact Below.refl _ _) | (with_reducible refine Below.alloc ?_ ?_ _) | (with_reducible refine below_ext ?_ ?_ _) | (with_reducible refine Below.drew ?_) | (with_reducible refine below_drewN ?_ _) | (with_reducible refine Below.setCell ?_ ?_ _) | go_size | (simp only [go_sem]; omega) | (simp [go_sem]; done) | (simp [go_sem]; omega))))); done)); clear hK K; (try simp only [Act.put, List.setIfInBounds_toArray, List.set_cons_zero, List.set_cons_succ]))
          (refine AtF.last (oi := ?_) ?_ ?_ (fun K hK => ?_); rotate_left 1; rfl; kernel_rfl; go_simp; skip; refine hK.out _ _ ?_; clear hK K; (try simp only [Act.put, List.setIfInBounds_toArray, List.set_cons_zero, List.set_cons_succ]))
          clear hHeld
          go_wp2
          go_roundw
          case rel => exact ⟨j + 1, A', n', c', x7, rows ++ ys, by omega, by go_num, rfl, rfl, hJ, Lib.hid (by rw [List.map_append, hv.out, hYv.out, sn.out]), by rw [List.length_append]; omega, Lib.hid (fun s hs => by
            rcases List.mem_append.1 hs with hs | hs
            · exact hok.out s hs
            · exact hco.out s.2 (by rw [← hYv.out]; exact List.mem_map.2 ⟨s, hs, rfl⟩))⟩
          case measure => simp [intOf]; omega
        · obtain rfl : j = cnt := by omega
          have hd : decide ((f : Int) + j ≤ (f : Int) + j - 1) = false := by simp; omega
          have hlen2 : rows.length ≤ 100000 := by omega
          have NG := Lib.hid (fun w' (hb : Below (ext W2 x).heap.size (ext W2 x) w') => neg_cells (hC.out.grow hb) hlen2 hok.out)
          rw [hv.out, List.take_of_length_le (by rw [hf3.out]; omega), ← hsv.out] at NG
          clear PG GT okp SN CT hv hok hC KS hf4
          go_wp2_with (go_at_call 45; ((with_reducible refine (NG.out _ (by (repeat' (first | (with_reducible exact Below.refl _ _) | (with_reducible refine Below.alloc ?_ ?_ _) | (with_reducible refine below_ext ?_ ?_ _) | (with_reducible refine Below.drew ?_) | (with_reducible refine below_drewN ?_ _) | (with_reducible refine Below.setCell ?_ ?_ _) | go_size | (simp only [go_sem]; omega) | (simp [go_sem]; done) | (simp [go_sem]; omega))))).mono ?_); rintro _ _ hgets; obtain ⟨rfl, x8, rfl⟩ := hgets.get; clear hgets))
          go_returns
          exact ⟨rfl, hBW2.out _ (by (repeat' (first | (with_reducible exact Below.refl _ _) | (with_reducible refine Below.alloc ?_ ?_ _) | (with_reducible refine below_ext ?_ ?_ _) | (with_reducible refine Below.drew ?_) | (with_reducible refine below_drewN ?_ _) | (with_reducible refine Below.setCell ?_ ?_ _) | go_size | (simp only [go_sem]; omega) | (simp [go_sem]; done) | (simp [go_sem]; omega))))⟩
end
end Go.Proofs.YtignkkejkknddaaGreat
/- phosphorlaw16: few, awake.  -/
namespace Go.Proofs.YtignkkejkknddaaGreat
open Go.RowKit
set_option linter.unusedVariables false
set_option linter.unusedSimpArgs false

theorem int_info16 : (Tryz.prog.info? 3).map (fun i => (i.zero, i.size, i.bytes)) = some (some (.int .i64 0), 1, 8) := by kernel_rfl
section
variable {w : World} {a : Option Addr} {c : Nat} {xs : List Int}
theorem own_num {B n C : Nat} {A : Option Addr} {w : World} {xs : List Int} (h : Own (encI .i64) 1 3 B w (.slice A n C) xs) (hi : ∀ z ∈ xs, z ≤ 9223372036854775807) : n = xs.length ∧ NumL w A C xs ∧ (0 < xs.length → ∀ q o, A = some ⟨q, o, none⟩ → B ≤ q) := by
  obtain ⟨A', c', e, h1, h2⟩ := h.form
  injection e with e1 e2 e3
  subst e1 e2 e3
  refine ⟨rfl, ⟨h.rd (encI_len _), h1, by simp [maxLen] at h2; omega, hi⟩, fun h0 q o e => ?_⟩
  obtain ⟨g, c2, e2, -, -⟩ := h.some_of h0
  injection e2 with e2
  have := h.lt g (by rw [e2]; rfl)
  rw [e] at e2
  injection e2 with e2
  injection e2 with e2
  omega
end
theorem cell16_f1 (g r : Int) (k : Bool) (w : World) : (Instr.field 60 (.agg #[.int .i32 g, .int .u8 r, .bool k]) 1).run Tryz.prog w = .ok (.int .u8 r) w := by kernel_rfl
attribute [local go_sem ↓] cell16_f1
end Go.Proofs.YtignkkejkknddaaGreat
/- a book while its pages are changed.  -/
namespace Go.Proofs.YtignkkejkknddaaGreat
open Go.RowKit
set_option linter.unusedVariables false
set_option linter.unusedSimpArgs false

section
variable {w w' : World} {F G : Nat → Prop} {b i : Nat} {S T : BkS} {V : Value} {ps ps' : List PgR} {st st' r r' : PgR}
theorem BkO.ptr (h : BkO w F b S V ps st) (h' : BkO w' G b T V ps' st') (h0 : 0 < S.pages.length) (hk : ∀ x, V.ownBlock = some x → w'.heap[x]? = w.heap[x]?) (hr : ps[i]? = some r) (hr' : ps'[i]? = some r') : r'.p = r.p := by
  obtain ⟨L, c, rfl, -, -⟩ := h.form1 h0
  have c1 := (h.cell hr).1
  have c2 := (h'.cell hr').1
  rw [cell_of_heap (hk L rfl), c1] at c2
  injection c2 with c2
  unfold PgR.v at c2
  injection c2 with c2
  injection c2 with c2
  injection c2 with c2 _
  exact c2.symm
end
/-- a book, since a world; its pages' places -/
structure BkM (w0 : World) (F : Nat → Prop) (b : Nat) (pp : Nat → Nat) (T : BkS) (wr : World) : Prop where
  keep : Keep F w0 wr
  ok : T.Ok
  ex : ∃ V ps st F', BkO wr F' b T V ps st ∧ (∀ x, F' x → F x ∨ w0.heap.size ≤ x) ∧ ∀ i r, ps[i]? = some r → r.p = pp i
section
variable {w0 wr wz w1 w2 : World} {F : Nat → Prop} {b i : Nat} {pp : Nat → Nat} {T : BkS}
theorem BkM.start {V : Value} {ps : List PgR} {st : PgR} (h : BkO w0 F b T V ps st) (hT : T.Ok) : ∃ pp, BkM w0 F b pp T w0 :=
  ⟨fun i => (ps[i]?.map PgR.p).getD 0, Keep.refl _ _, hT, V, ps, st, F, h, fun x hx => .inl hx, fun i r hr => by simp [hr]⟩
theorem BkM.grow (h : BkM w0 F b pp T wr) (hb : Below wr.heap.size wr wz) : BkM w0 F b pp T wz := by
  obtain ⟨k, ok, V, ps, st, F', h1, h2, h3⟩ := h
  exact ⟨k.trans (Keep.of_below (F := F) hb) (fun x hx => .inl hx), ok, V, ps, st, F', h1.grow hb, h2, h3⟩
theorem BkM.page (h : BkM w0 F b pp T wr) (i : Nat) (hi : i < T.pages.length) (w' : World) (hb : Below wr.heap.size wr w') : Calls Tryz.prog 17 #[ptrV b, .int .i64 i] w' (Gives w' (ptrV (pp i))) := by
  obtain ⟨k, ok, V, ps, st, F', h1, h2, h3⟩ := h
  obtain ⟨r, hr, -, -⟩ := h1.get hi
  rw [← h3 i r hr]
  exact page_b (h1.grow hb) ok hr
theorem BkM.deed (h : BkM w0 F b pp T wr) (i : Nat) (hi : i < T.pages.length) : ∃ G, PageAt wr G (pp i) T.pages[i] ∧ (∀ x, G x → F x ∨ w0.heap.size ≤ x) ∧
    ∀ w1 w2 P, P.Ok → Below wr.heap.size wr w1 → Did G (pp i) P w1 w2 → BkM w0 F b pp (T.set i P) w2 := by
  obtain ⟨k, ok, V, ps, st, F', h1, h2, h3⟩ := h
  obtain ⟨r, hr, hr', hP⟩ := h1.get hi
  have e := h3 i r hr
  refine ⟨r.F, by rw [← e]; exact hP, fun x hx => h2 x (h1.inF r (List.mem_of_getElem? hr') x hx), fun w1 w2 P hPk hb hD => ?_⟩
  rw [← e] at hD
  have hD' := Did.back hD hb hP.lt
  obtain ⟨hk, ps', st', h5⟩ := h1.act hr' hD'
  refine ⟨k.trans hk h2, ok.set i hPk, V, ps', st', _, h5, fun x hx => ?_, fun j q hq => ?_⟩
  · rcases hx with hx | hx
    · exact h2 x hx
    · exact .inr (Nat.le_trans k.size hx.1)
  · have hlen : ps'.length = ps.length := by rw [h5.len, h1.len, BkS.set_len]
    have hj : j < ps.length := by rw [← hlen]; exact (List.getElem?_eq_some_iff.1 hq).1
    have e2 := h1.ptr h5 (by omega) (fun x hx => hD'.1.block x (h1.lt x (h1.list x hx)) (h1.offV r (List.mem_of_getElem? hr') x hx)) (List.getElem?_eq_getElem hj) hq
    rw [e2]
    exact h3 j _ (List.getElem?_eq_getElem hj)
/-- a change of one of its pages -/
theorem BkM.change (h : BkM w0 F b pp T wr) (i : Nat) (hi : i < T.pages.length) {a : Option Addr} {c : Nat} {xs : List Int} (hx : NumL w0 a c xs) (hA : 0 < xs.length → ∀ q o, a = some ⟨q, o, none⟩ → ¬ F q) (x : BxI) (st fl : Bool) (w' : World) (hb : Below wr.heap.size wr w') :
    Calls Tryz.prog 27 #[ptrV (pp i), boxV x.t x.l x.b x.r, .slice a xs.length c, .bool st, .bool fl] w' (fun e w2 => e = .returned (.bool (chOk (arB T.pages[i] x) xs st)) ∧ BkM w0 F b pp (T.set i (chS T.pages[i] (chB (arB T.pages[i] x) xs st) (chF fl (xs.drop 4)))) w2) := by
  obtain ⟨G, h1, h2, h3⟩ := h.deed i hi
  have okP := h.ok.pg _ (List.getElem_mem hi)
  have hk := (h.grow hb).keep
  have hx' : NumL w' a c xs := ⟨Rd.keep' hx.rd hk hA, hx.lc, hx.cm, hx.hi⟩
  refine (change_rect (h1.grow hb) okP (fun q f => Nat.lt_of_lt_of_le (h1.lt q f) hb.size) hx' (fun h0 q o e f => ?_) x st fl).mono ?_
  · rcases h2 q f with g | g
    · exact hA h0 q o e g
    · obtain ⟨b', o', e', hlt, -⟩ := hx.rd h0
      rw [e] at e'
      injection e' with e'
      injection e' with e1 e2
      omega
  · rintro e w2 ⟨rfl, hD⟩
    exact ⟨rfl, h3 w' w2 _ (chS_ok okP (chF_ok _ _) _) hb hD⟩
theorem BkM.at (h : BkM w0 F b pp T wr) (i : Nat) (hi : i < T.pages.length) (r c : Int) (w' : World) (hb : Below wr.heap.size wr w') : Calls Tryz.prog 21 #[ptrV (pp i), .agg #[.int .i64 r, .int .i64 c]] w' (Gives w' (cellV (atS T.pages[i] r c))) := by
  obtain ⟨G, h1, -, -⟩ := h.deed i hi
  exact at_p (h1.grow hb) (h.ok.pg _ (List.getElem_mem hi)) r c
end
end Go.Proofs.YtignkkejkknddaaGreat
/- rect.Change, by place: plain.  -/
namespace Go.Proofs.YtignkkejkknddaaGreat
open Go.RowKit
set_option linter.unusedVariables false
set_option linter.unusedSimpArgs false

/-- is a place changed? -/
def chIn (y : BxI) (xs : List Int) (st : Bool) (i k : Nat) : Bool := if st = true then stOk y xs && inSt y xs i k else reOk y xs 0 && decide ((reB y xs 0).t ≤ i ∧ (i : Int) < (reB y xs 0).b ∧ (reB y xs 0).l ≤ k ∧ (k : Int) < (reB y xs 0).r)
theorem chS_str {S : PgS} (hS : S.Ok) (y : BxI) (xs : List Int) {f : Cl → Cl} (hf : ∀ c, c.ok → (f c).ok) : ∀ j : Nat, (j : Int) ≤ stB y xs - stT y xs → chS S ((List.range j).map fun i : Nat => stBox y xs (stT y xs + (i : Int))) f = strJ S y xs f j
  | 0, _ => by rw [strJ_zero]; rfl
  | j + 1, h => by
    rw [← stBoxes_take, chS_snoc, chS_str hS y xs hf j (by omega), strJ_len, show (strJ S y xs f j).cols = S.cols from rfl]
    exact strJ_step hS hf (by omega)
theorem chS_form {S : PgS} (hS : S.Ok) (y : BxI) (xs : List Int) (st : Bool) {f : Cl → Cl} (hf : ∀ c, c.ok → (f c).ok) : chS S (chB y xs st) f = mapS S (fun i k c => if chIn y xs st i k = true then f c else c) := by
  cases st
  · unfold chB chIn
    simp only [Bool.false_eq_true, if_false]
    by_cases h : reOk y xs 0 = true
    · rw [if_pos h]
      show eachS S (onB S.rows.length S.cols (reB y xs 0)) (fun zs l r => eachR zs l r f) = _
      rw [each_map hS]
      refine mapS_congr fun i hi k hk => ?_
      rw [h, Bool.true_and]
      by_cases q : (reB y xs 0).t ≤ i ∧ (i : Int) < (reB y xs 0).b ∧ (reB y xs 0).l ≤ k ∧ (k : Int) < (reB y xs 0).r
      · rw [if_pos q, if_pos (decide_eq_true q)]
      · rw [if_neg q, if_neg (by rw [decide_eq_false q]; decide)]
    · rw [if_neg h]
      have h' : reOk y xs 0 = false := by simpa using h
      show S = _
      exact (mapS_id fun i hi k hk => by rw [h']; simp).symm
  · unfold chB chIn flB
    simp only [if_true]
    by_cases h : stOk y xs = true
    · rw [if_pos h]
      have hp : stT y xs < stB y xs := by
        unfold stOk stPre at h
        simp only [Bool.and_eq_true, decide_eq_true_eq] at h
        exact h.1.2.2.2.2.2.2.1
      unfold stBoxes
      rw [chS_str hS y xs hf _ (by omega), strJ_end]
      unfold strS
      refine mapS_congr fun i hi k hk => ?_
      rw [h, Bool.true_and]
    · rw [if_neg h]
      have h' : stOk y xs = false := by simpa using h
      show S = _
      exact (mapS_id fun i hi k hk => by rw [h']; simp).symm
/-- the area of a whole page -/
def fullA (m n : Nat) : BxI := ⟨0, 0, m, n⟩
theorem ar_full {S : PgS} (hS : S.Ok) : arB S (fullA S.rows.length S.cols) = fullA S.rows.length S.cols := by
  have := hS.r1
  have := hS.c1
  unfold arB fullA onB meetI
  simp only
  rw [if_neg (by omega)]
  congr 1 <;> omega
end Go.Proofs.YtignkkejkknddaaGreat
/- phosphorref16: Area, page, Sum.  -/
namespace Go.Proofs.YtignkkejkknddaaGreat
open Go.RowKit
set_option linter.unusedVariables false
set_option linter.unusedSimpArgs false

section
variable {w : World} {P : PgS} {U : Value}
end
theorem arB_0 {S : BkS} (hS : S.Ok) (x : BxI) : arB (S.pages[0]'hS.p1) x = arK S x := by
  have := hS.p1
  have e : S.pages.getD 0 S.status = S.pages[0]'hS.p1 := by rw [List.getD_eq_getElem?_getD, List.getElem?_eq_getElem (by omega)]; rfl
  unfold arB arK BkS.rows BkS.cols
  rw [e]
section
variable {w : World} {F : Nat → Prop} {S : BkS} {U : Value} {a : Option Addr} {c : Nat} {xs : List Int}
end
end Go.Proofs.YtignkkejkknddaaGreat
/- Rectangles told by their own numbers; what is pasted has the same cells. Plain laws.  -/
namespace Go.Proofs.YtignkkejkknddaaGreat
open Go.RowKit
set_option linter.unusedVariables false
set_option linter.unusedSimpArgs false

theorem cutR_in {xs : List Cl} {f t : Int} (h0 : 0 ≤ f) (h1 : f ≤ t) (h2 : t ≤ xs.length) : cutR xs f t = (xs.drop f.toNat).take (t - f).toNat := by
  have hs : spanN xs.length f t = t - f := by unfold spanN; omega
  unfold cutR offN
  rw [hs]
  split
  · rename_i h; rw [h]; simp
  · rw [show spanA f = f by unfold spanA; omega]
theorem paste_cells {S T : PgS} (hS : S.Ok) (hT : T.Ok) {X : BxI} {pr pc : Int} (h1 : 0 ≤ X.t) (h2 : X.t ≤ X.b) (h3 : X.b ≤ T.rows.length) (h4 : 0 ≤ X.l) (h5 : X.l ≤ X.r) (h6 : X.r ≤ T.cols) (h7 : 0 ≤ pr) (h8 : pr + (X.b - X.t) ≤ S.rows.length) (h9 : 0 ≤ pc) (h10 : pc + (X.r - X.l) ≤ S.cols) :
    cellsS (pasteS S T X pr pc) ⟨pr, pc, pr + (X.b - X.t), pc + (X.r - X.l)⟩ = cellsS T X := by
  unfold cellsS
  simp only
  rw [show pr + (X.b - X.t) - pr = X.b - X.t by omega]
  apply List.map_congr_left
  intro i hi
  rw [List.mem_range] at hi
  have hq : pr.toNat + i < S.rows.length := by omega
  have hp : X.t.toNat + i < T.rows.length := by omega
  have hqw := hS.len hq
  have hpw := hT.len hp
  have hql : pr.toNat + i < (pasteS S T X pr pc).rows.length := by unfold pasteS; rw [pasteJ_len]; exact hq
  have eQ : ((pasteS S T X pr pc).rows.getD (pr.toNat + i) ([], 0)).1 = S.rows[pr.toNat + i].1.mapIdx (pasteG T X pr pc (X.b - X.t).toNat (pr.toNat + i)) := by
    rw [List.getD_eq_getElem?_getD, List.getElem?_eq_getElem hql]
    simp [pasteS, pasteJ, mapS]
  have eT : (T.rows.getD (X.t.toNat + i) ([], 0)).1 = T.rows[X.t.toNat + i].1 := by
    rw [List.getD_eq_getElem?_getD, List.getElem?_eq_getElem hp]
    rfl
  rw [eQ, eT, cutR_in h9 (by omega) (by rw [List.length_mapIdx]; omega), cutR_in h4 h5 (by omega)]
  rw [show pc + (X.r - X.l) - pc = X.r - X.l by omega]
  apply List.ext_getElem
  · simp; omega
  · intro j hj1 hj2
    simp only [List.length_take, List.length_drop, List.length_mapIdx] at hj1 hj2
    simp only [List.getElem_take, List.getElem_drop, List.getElem_mapIdx]
    unfold pasteG
    rw [if_pos (by omega)]
    rw [show (X.t + (((pr.toNat + i : Nat) : Int) - pr)).toNat = X.t.toNat + i by omega, show (X.l + (((pc.toNat + j : Nat) : Int) - pc)).toNat = X.l.toNat + j by omega, cellAt_in hp (by omega)]
/-- a rectangle told by its own numbers -/
theorem re_own {m n : Nat} {xs : List Int} {i t l b r : Int} (e0 : num0 xs i 0 = t + 1) (e1 : num0 xs i 1 = l + 1) (e2 : num0 xs i 2 = b) (e3 : num0 xs i 3 = r) (h1 : 0 ≤ t) (h2 : t < b) (h3 : b ≤ m) (h4 : 0 ≤ l) (h5 : l < r) (h6 : r ≤ n) :
    reOk (fullA m n) xs i = true ∧ reB (fullA m n) xs i = ⟨t, l, b, r⟩ := by
  have ok : rectOk 0 0 m n xs i = true := by
    unfold rectOk sideOk lastA
    rw [e0, e1, e2, e3]
    simp only [Bool.and_eq_true, decide_eq_true_eq]
    refine ⟨⟨⟨by omega, by omega⟩, by omega, by omega, ?_⟩, by omega, by omega, ?_⟩ <;> (rw [if_neg (by omega)]; omega)
  refine ⟨ok, ?_⟩
  unfold reB fullA rectT rectL rectB rectR
  simp only [if_pos ok]
  unfold sideF sideL lastA
  rw [e0, e1, e2, e3]
  simp only [BxI.mk.injEq]
  refine ⟨?_, ?_, ?_, ?_⟩ <;> (rw [if_neg (by omega)]; (try rw [if_neg (by omega)]); omega)
theorem onB_self {m n : Nat} {X : BxI} (h1 : 0 ≤ X.t) (h2 : X.t < X.b) (h3 : X.b ≤ m) (h4 : 0 ≤ X.l) (h5 : X.l < X.r) (h6 : X.r ≤ n) : onB m n X = X := by
  obtain ⟨t, l, b, r⟩ := X
  simp only at *
  unfold onB meetI
  simp only [BxI.mk.injEq]
  refine ⟨?_, ?_, ?_, ?_⟩ <;> (rw [if_neg (by omega)]; omega)
theorem sum_own {T : BkS} (h3 : T.pages.length = 3) {m n : Nat} (ha : arK T (fullA m n) = fullA m n) (k : Nat) (hk : k < 3) (z : Int) (hz : z = k + 1) (hd : (T.pages[k]'(by omega)).rows.length = m ∧ (T.pages[k]'(by omega)).cols = n) {t l b r : Int}
    (h1 : 0 ≤ t) (h2 : t < b) (h4 : b ≤ m) (h5 : 0 ≤ l) (h6 : l < r) (h7 : r ≤ n) :
    smOk (fullA m n) [z, t + 1, l + 1, b, r] = true ∧ smV T (fullA m n) [z, t + 1, l + 1, b, r] = smI (cellsS (T.pages[k]'(by omega)) ⟨t, l, b, r⟩) := by
  obtain ⟨r1, r2⟩ := re_own (xs := [z, t + 1, l + 1, b, r]) (i := 1) (m := m) (n := n) (t := t) (l := l) (b := b) (r := r) rfl rfl rfl rfl h1 h2 h4 h5 h6 h7
  have ok : smOk (fullA m n) [z, t + 1, l + 1, b, r] = true := by
    unfold smOk
    rw [r1, show at0 [z, t + 1, l + 1, b, r] 0 = z from rfl, decide_eq_true (by omega)]
    rfl
  refine ⟨ok, ?_⟩
  unfold smV
  rw [ha, if_pos ok, r2, show at0 [z, t + 1, l + 1, b, r] 0 = z from rfl]
  have n1 : nbI T z = k := by unfold nbI; rw [h3]; omega
  have p1 : T.pgAt k = T.pages[k]'(by omega) := by simp [BkS.pgAt, h3, hk]
  unfold smP
  rw [if_neg (by omega), n1, p1]
  unfold smCells
  rw [List.flatMap_singleton, hd.1, hd.2, onB_self h1 h2 h4 h5 h6 h7]
theorem bkset_same {S : BkS} {i : Nat} (hi : i < S.pages.length) (P : PgS) (h' : i < (S.set i P).pages.length) : (S.set i P).pages[i] = P := by
  unfold BkS.set
  simp [hi]
theorem bkset_else {S : BkS} {i j : Nat} (hj : j < S.pages.length) (hne : i ≠ j) (P : PgS) (h' : j < (S.set i P).pages.length) : (S.set i P).pages[j] = S.pages[j] := by
  unfold BkS.set
  split
  · simp [hne]
  · rfl
section
variable {w : World} {F : Nat → Prop} {b : Nat} {S : BkS} {V : Value} {ps : List PgR} {st : PgR}
end
end Go.Proofs.YtignkkejkknddaaGreat
/- phosphorref16: Do.  -/
namespace Go.Proofs.YtignkkejkknddaaGreat
open Go.RowKit
set_option linter.unusedVariables false
set_option linter.unusedSimpArgs false

section
variable {P : PgS} {G : Nat → Nat → Cl → Cl} {i0 k0 C0 C1 : Nat}
end
/-- one of the document's pages, and a truth -/
def NewPo (F : Nat → Prop) (P : PgS) (ok : Bool) (w : World) (e : Ending) (w' : World) : Prop := ∃ (r : RPg) (x : More), e = .returned (.tuple #[r.v, .bool ok]) ∧ w' = ext w x ∧ RefAt (ext w x) F r.v P
section
variable {w w' W a b : World} {F : Nat → Prop} {P : PgS} {r : RPg} {R : Nat} {ok : Bool}
theorem NewPo.at (h : RefAt W (fun x => F x ∨ x = R) r.v P) (hk : Keep (· = R) W w') (hb : Below w.heap.size w w') : NewPo F P ok w (.returned (.tuple #[r.v, .bool ok])) w' := by
  have h2 := (h.keep' hk (fun x hx e => hx (.inr e))).mono (G := F) (fun _ _ => .inl)
  obtain ⟨x, rfl⟩ := ext_of hb
  exact ⟨r, x, rfl, rfl, h2⟩
theorem NewPo.old (h : RefAt w F r.v P) (hb : Below w.heap.size w w') : NewPo F P ok w (.returned (.tuple #[r.v, .bool ok])) w' := by
  obtain ⟨x, rfl⟩ := ext_of hb
  exact ⟨r, x, rfl, rfl, h.grow hb⟩
theorem Keep.al {G : Nat → Prop} (h : Keep G a b) (hs : a.heap.size = b.heap.size) (o : Obj) : Keep G (a.alloc o) (b.alloc o) :=
  ⟨h.os, h.tape, h.output, by simp [hs], fun k hk hF => by
    rcases Nat.lt_or_ge k a.heap.size with hl | hl
    · rw [((Below.refl b.heap.size b).alloc (Nat.le_refl _) o).block k (by omega), ((Below.refl a.heap.size a).alloc (Nat.le_refl _) o).block k hl]
      exact h.block k hl hF
    · simp only [World.size_alloc] at hk
      obtain rfl : k = a.heap.size := by omega
      rw [heap_alloc_new a o, hs, heap_alloc_new b o]⟩
end
section
variable {w : World} {F : Nat → Prop} {P : PgS} {r : RPg} {a : Option Addr} {c : Nat} {xs : List Int}
end
section
variable {w : World} {F : Nat → Prop} {S : BkS} {U : Value} {a : Option Addr} {c : Nat} {xs : List Int}
end
end Go.Proofs.YtignkkejkknddaaGreat
