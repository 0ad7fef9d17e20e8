/- Books: what is read of one; Look, Turn, Step.  -/
import Derived.Test.YtignkkejkknddaaGreatBk
import Derived.Test.YtignkkejkknddaaGreatPgClone
import Derived.Test.YtignkkejkknddaaGreatRegionF
namespace Go.Proofs.YtignkkejkknddaaGreat
open Go.RowKit
set_option linter.unusedVariables false
set_option linter.unusedSimpArgs false

section
variable {w : World} {F : Nat → Prop} {b : Nat} {S : BkS} {V : Value} {ps : List PgR} {st r : PgR}
abbrev ptrV (b : Nat) : Value := .pointer (some ⟨b, 0, none⟩)
theorem count_b (h : BkO w F b S V ps st) : Calls Tryz.prog 23 #[ptrV b] w (Gives w (.int .i64 S.pages.length)) := by
  obtain ⟨A, c, rfl, -, -⟩ := h.form
  have c0 := h.c0
  have pl := h.plt
  clear h
  go_enter Tryz.func23, Tryz.ntmps23
  go_wp2
  go_returns
  exact ⟨rfl, by (repeat' (first | (with_reducible exact Below.refl _ _) | (with_reducible refine Below.alloc ?_ ?_ _) | (with_reducible refine below_ext ?_ ?_ _) | (with_reducible refine Below.drew ?_) | (with_reducible refine below_drewN ?_ _) | (with_reducible refine Below.setCell ?_ ?_ _) | go_size | (simp only [go_sem]; omega) | (simp [go_sem]; done) | (simp [go_sem]; omega)))⟩
theorem page_b (h : BkO w F b S V ps st) (hS : S.Ok) {i : Nat} (hr : ps[i]? = some r) : Calls Tryz.prog 17 #[ptrV b, .int .i64 i] w (Gives w (ptrV r.p)) := by
  obtain ⟨L, c, rfl, -, -⟩ := h.form1 (by have := hS.p1; omega)
  have hi : i < S.pages.length := by have := (List.getElem?_eq_some_iff.1 hr).1; rwa [h.len] at this
  have c0 := h.c0
  have pl := h.plt
  obtain ⟨d0, -, hL⟩ := h.cell hr
  simp only [PgR.v] at d0
  have hp2 := hS.p2
  clear h hr hS
  go_enter Tryz.func17, Tryz.ntmps17
  go_wp2
  go_returns
  exact ⟨rfl, by (repeat' (first | (with_reducible exact Below.refl _ _) | (with_reducible refine Below.alloc ?_ ?_ _) | (with_reducible refine below_ext ?_ ?_ _) | (with_reducible refine Below.drew ?_) | (with_reducible refine below_drewN ?_ _) | (with_reducible refine Below.setCell ?_ ?_ _) | go_size | (simp only [go_sem]; omega) | (simp [go_sem]; done) | (simp [go_sem]; omega)))⟩
theorem page_no (h : BkO w F b S V ps st) {i : Int} (hi : i < 0 ∨ (S.pages.length : Int) ≤ i) : Calls Tryz.prog 17 #[ptrV b, .int .i64 i] w (Gives w (.pointer none)) := by
  obtain ⟨A, c, rfl, -, -⟩ := h.form
  have c0 := h.c0
  have pl := h.plt
  clear h
  by_cases h0 : i < 0
  · go_enter Tryz.func17, Tryz.ntmps17
    go_wp2
    go_returns
    exact ⟨rfl, by (repeat' (first | (with_reducible exact Below.refl _ _) | (with_reducible refine Below.alloc ?_ ?_ _) | (with_reducible refine below_ext ?_ ?_ _) | (with_reducible refine Below.drew ?_) | (with_reducible refine below_drewN ?_ _) | (with_reducible refine Below.setCell ?_ ?_ _) | go_size | (simp only [go_sem]; omega) | (simp [go_sem]; done) | (simp [go_sem]; omega)))⟩
  · have h1 : (S.pages.length : Int) ≤ i := by omega
    clear hi
    go_enter Tryz.func17, Tryz.ntmps17
    go_wp2
    go_returns
    exact ⟨rfl, by (repeat' (first | (with_reducible exact Below.refl _ _) | (with_reducible refine Below.alloc ?_ ?_ _) | (with_reducible refine below_ext ?_ ?_ _) | (with_reducible refine Below.drew ?_) | (with_reducible refine below_drewN ?_ _) | (with_reducible refine Below.setCell ?_ ?_ _) | go_size | (simp only [go_sem]; omega) | (simp [go_sem]; done) | (simp [go_sem]; omega)))⟩
/-- which one one looks at, among the pages and, behind them, the status line -/
def BkS.at (S : BkS) : Nat := if S.below then S.pages.length else S.now
/-- how many rows and columns its pages have -/
def BkS.rows (S : BkS) : Nat := (S.pages.getD 0 S.status).rows.length
def BkS.cols (S : BkS) : Nat := (S.pages.getD 0 S.status).cols
theorem size_b (h : BkO w F b S V ps st) (hS : S.Ok) : Calls Tryz.prog 68 #[ptrV b] w (Gives w (.tuple #[.int .i64 S.rows, .int .i64 S.cols])) := by
  obtain ⟨L, c, rfl, -, -⟩ := h.form1 (by have := hS.p1; omega)
  have h0 : 0 < S.pages.length := by have := hS.p1; omega
  obtain ⟨r, hr, -, hP⟩ := h.get h0
  have e : S.pages.getD 0 S.status = S.pages[0] := by simp [List.getD_eq_getElem?_getD, h0]
  have c0 := h.c0
  have pl := h.plt
  obtain ⟨d0, -, hL⟩ := h.cell hr
  simp only [PgR.v] at d0
  have hne : ((S.pages.length : Int) == 0) = false := by rw [beq_eq_false_iff_ne]; omega
  unfold BkS.rows BkS.cols
  rw [e]
  generalize S.pages[0] = P at hP ⊢
  have RW := Lib.hid (fun w' (hb : Below w.heap.size w w') => rows_p (hP.grow hb))
  have CO := Lib.hid (fun w' (hb : Below w.heap.size w w') => cols_p (hP.grow hb))
  have hp1 := hS.p1
  clear h hr hS e hP
  go_enter Tryz.func68, Tryz.ntmps68
  go_wp2
  (refine wp_region_free (by kernel_rfl) (by kernel_rfl) ?_)
  repeat (go_big_quiet_step (first | ((go_at_call 28; with_reducible exact Calls.free (RW.out _ (by (repeat' (first | (with_reducible exact Below.refl _ _) | (with_reducible refine Below.alloc ?_ ?_ _) | (with_reducible refine below_ext ?_ ?_ _) | (with_reducible refine Below.drew ?_) | (with_reducible refine below_drewN ?_ _) | (with_reducible refine Below.setCell ?_ ?_ _) | go_size | (simp only [go_sem]; omega) | (simp [go_sem]; done) | (simp [go_sem]; omega))))))) | ((go_at_call 29; with_reducible exact Calls.free (CO.out _ (by (repeat' (first | (with_reducible exact Below.refl _ _) | (with_reducible refine Below.alloc ?_ ?_ _) | (with_reducible refine below_ext ?_ ?_ _) | (with_reducible refine Below.drew ?_) | (with_reducible refine below_drewN ?_ _) | (with_reducible refine Below.setCell ?_ ?_ _) | go_size | (simp only [go_sem]; omega) | (simp [go_sem]; done) | (simp [go_sem]; omega)))))))))
  refine wpQuiet_nil ?_; rintro _ ⟨x1, rfl⟩
  go_wp2
  go_returns
  exact ⟨rfl, by (repeat' (first | (with_reducible exact Below.refl _ _) | (with_reducible refine Below.alloc ?_ ?_ _) | (with_reducible refine below_ext ?_ ?_ _) | (with_reducible refine Below.drew ?_) | (with_reducible refine below_drewN ?_ _) | (with_reducible refine Below.setCell ?_ ?_ _) | go_size | (simp only [go_sem]; omega) | (simp [go_sem]; done) | (simp [go_sem]; omega)))⟩
def turnN (S : BkS) (n : Int) : Nat := (clampR n 0 (S.pages.length - 1)).toNat
def BkS.turn (S : BkS) (n : Int) : BkS := ⟨S.pages, S.status, turnN S n, S.below⟩
def BkS.step (S : BkS) (n : Int) : BkS := S.turn (S.now + clampR n (-100) 100)
end
end Go.Proofs.YtignkkejkknddaaGreat
/- Books: Copy, Resize, Erase.  -/
namespace Go.Proofs.YtignkkejkknddaaGreat
open Go.RowKit
set_option linter.unusedVariables false
set_option linter.unusedSimpArgs false

def BkS.inP (S : BkS) (i : Int) : Bool := decide (0 ≤ i) && decide (i < S.pages.length)
def BkS.pgAt (S : BkS) (i : Int) : PgS := S.pages.getD i.toNat S.status
def BkS.copied (S : BkS) (f : Int) (x : BxI) (t r c : Int) : BkS := S.set t.toNat (pasteS (S.pgAt t) (S.pgAt f) (onB (S.pgAt f).rows.length (S.pgAt f).cols x) r c)
def BkS.copy (S : BkS) (f : Int) (x : BxI) (t r c : Int) : BkS := if S.inP f && S.inP t then S.copied f x t r c else S
theorem BkS.inP_t {S : BkS} {i : Int} (h : S.inP i = true) : ∃ k : Nat, i = k ∧ k < S.pages.length := by
  simp only [BkS.inP, Bool.and_eq_true, decide_eq_true_eq] at h
  exact ⟨i.toNat, by omega, by omega⟩
theorem BkS.inP_f {S : BkS} {i : Int} (h : S.inP i = false) : i < 0 ∨ (S.pages.length : Int) ≤ i := by
  simp only [BkS.inP, Bool.and_eq_false_iff, decide_eq_false_iff_not] at h
  omega
theorem BkS.pgAt_ok {S : BkS} (hS : S.Ok) (i : Int) : (S.pgAt i).Ok := by
  unfold BkS.pgAt
  rw [List.getD_eq_getElem?_getD]
  cases h : S.pages[i.toNat]? with
  | none => exact hS.st
  | some P => exact hS.pg P (List.mem_of_getElem? h)
theorem BkS.copy_ok {S : BkS} (hS : S.Ok) (f : Int) (x : BxI) (t r c : Int) : (S.copy f x t r c).Ok := by
  unfold BkS.copy
  split
  · refine hS.set _ ?_
    unfold pasteS
    exact pasteJ_ok (S.pgAt_ok hS t) (S.pgAt_ok hS f)
  · exact hS
section
variable {w : World} {F : Nat → Prop} {b : Nat} {S : BkS} {V : Value} {ps : List PgR} {st r : PgR}
set_option maxRecDepth 100000 in
set_option maxHeartbeats 4000000 in
theorem copy_b (h : BkO w F b S V ps st) (hS : S.Ok) (f : Int) (x : BxI) (t rr cc : Int) (h1 : -9223372036854775808 ≤ rr) (h2 : -9223372036854775808 ≤ cc) :
    Calls Tryz.prog 54 #[ptrV b, .int .i64 f, boxV x.t x.l x.b x.r, .int .i64 t, .agg #[.int .i64 rr, .int .i64 cc]] w (fun e w' => e = .returned (.bool (S.inP f && S.inP t)) ∧ BDid F b (S.copy f x t rr cc) w w') := by
  have BR := Lib.hid (fun w' (hb : Below w.heap.size w w') => (BDid.refl ⟨_, _, _, h⟩ : BDid F b S w w).grow hb)
  have hlt := h.lt
  unfold BkS.copy
  cases hf : S.inP f
  · rw [Bool.false_and]
    have P1 := Lib.hid (fun w' (hb : Below w.heap.size w w') => page_no (h.grow hb) (BkS.inP_f hf))
    cases ht : S.inP t
    · have P2 := Lib.hid (fun w' (hb : Below w.heap.size w w') => page_no (h.grow hb) (BkS.inP_f ht))
      clear h
      go_enter Tryz.func54, Tryz.ntmps54
      go_wp2_with (first | (go_at_call 17; ((with_reducible refine (P1.out _ (by (repeat' (first | (with_reducible exact Below.refl _ _) | (with_reducible refine Below.alloc ?_ ?_ _) | (with_reducible refine below_ext ?_ ?_ _) | (with_reducible refine Below.drew ?_) | (with_reducible refine below_drewN ?_ _) | (with_reducible refine Below.setCell ?_ ?_ _) | go_size | (simp only [go_sem]; omega) | (simp [go_sem]; done) | (simp [go_sem]; omega))))).mono ?_); rintro _ _ hgets; obtain ⟨rfl, x1, rfl⟩ := hgets.get; clear hgets)) | (go_at_call 17; ((with_reducible refine (P2.out _ (by (repeat' (first | (with_reducible exact Below.refl _ _) | (with_reducible refine Below.alloc ?_ ?_ _) | (with_reducible refine below_ext ?_ ?_ _) | (with_reducible refine Below.drew ?_) | (with_reducible refine below_drewN ?_ _) | (with_reducible refine Below.setCell ?_ ?_ _) | go_size | (simp only [go_sem]; omega) | (simp [go_sem]; done) | (simp [go_sem]; omega))))).mono ?_); rintro _ _ hgets; obtain ⟨rfl, x2, rfl⟩ := hgets.get; clear hgets)))
      go_returns
      exact ⟨rfl, BR.out _ (by (repeat' (first | (with_reducible exact Below.refl _ _) | (with_reducible refine Below.alloc ?_ ?_ _) | (with_reducible refine below_ext ?_ ?_ _) | (with_reducible refine Below.drew ?_) | (with_reducible refine below_drewN ?_ _) | (with_reducible refine Below.setCell ?_ ?_ _) | go_size | (simp only [go_sem]; omega) | (simp [go_sem]; done) | (simp [go_sem]; omega))))⟩
    · obtain ⟨j, rfl, hj⟩ := BkS.inP_t ht
      obtain ⟨s, hs, -, -⟩ := h.get hj
      have P2 := Lib.hid (fun w' (hb : Below w.heap.size w w') => page_b (h.grow hb) hS hs)
      clear h hs
      go_enter Tryz.func54, Tryz.ntmps54
      go_wp2_with (first | (go_at_call 17; ((with_reducible refine (P1.out _ (by (repeat' (first | (with_reducible exact Below.refl _ _) | (with_reducible refine Below.alloc ?_ ?_ _) | (with_reducible refine below_ext ?_ ?_ _) | (with_reducible refine Below.drew ?_) | (with_reducible refine below_drewN ?_ _) | (with_reducible refine Below.setCell ?_ ?_ _) | go_size | (simp only [go_sem]; omega) | (simp [go_sem]; done) | (simp [go_sem]; omega))))).mono ?_); rintro _ _ hgets; obtain ⟨rfl, x1, rfl⟩ := hgets.get; clear hgets)) | (go_at_call 17; ((with_reducible refine (P2.out _ (by (repeat' (first | (with_reducible exact Below.refl _ _) | (with_reducible refine Below.alloc ?_ ?_ _) | (with_reducible refine below_ext ?_ ?_ _) | (with_reducible refine Below.drew ?_) | (with_reducible refine below_drewN ?_ _) | (with_reducible refine Below.setCell ?_ ?_ _) | go_size | (simp only [go_sem]; omega) | (simp [go_sem]; done) | (simp [go_sem]; omega))))).mono ?_); rintro _ _ hgets; obtain ⟨rfl, x2, rfl⟩ := hgets.get; clear hgets)))
      go_returns
      exact ⟨rfl, BR.out _ (by (repeat' (first | (with_reducible exact Below.refl _ _) | (with_reducible refine Below.alloc ?_ ?_ _) | (with_reducible refine below_ext ?_ ?_ _) | (with_reducible refine Below.drew ?_) | (with_reducible refine below_drewN ?_ _) | (with_reducible refine Below.setCell ?_ ?_ _) | go_size | (simp only [go_sem]; omega) | (simp [go_sem]; done) | (simp [go_sem]; omega))))⟩
  · obtain ⟨i, rfl, hi⟩ := BkS.inP_t hf
    obtain ⟨q, hq, hq', hQ⟩ := h.get hi
    have P1 := Lib.hid (fun w' (hb : Below w.heap.size w w') => page_b (h.grow hb) hS hq)
    rw [Bool.true_and]
    cases ht : S.inP t
    · have P2 := Lib.hid (fun w' (hb : Below w.heap.size w w') => page_no (h.grow hb) (BkS.inP_f ht))
      clear h hq hq' hQ
      go_enter Tryz.func54, Tryz.ntmps54
      go_wp2_with (first | (go_at_call 17; ((with_reducible refine (P1.out _ (by (repeat' (first | (with_reducible exact Below.refl _ _) | (with_reducible refine Below.alloc ?_ ?_ _) | (with_reducible refine below_ext ?_ ?_ _) | (with_reducible refine Below.drew ?_) | (with_reducible refine below_drewN ?_ _) | (with_reducible refine Below.setCell ?_ ?_ _) | go_size | (simp only [go_sem]; omega) | (simp [go_sem]; done) | (simp [go_sem]; omega))))).mono ?_); rintro _ _ hgets; obtain ⟨rfl, x1, rfl⟩ := hgets.get; clear hgets)) | (go_at_call 17; ((with_reducible refine (P2.out _ (by (repeat' (first | (with_reducible exact Below.refl _ _) | (with_reducible refine Below.alloc ?_ ?_ _) | (with_reducible refine below_ext ?_ ?_ _) | (with_reducible refine Below.drew ?_) | (with_reducible refine below_drewN ?_ _) | (with_reducible refine Below.setCell ?_ ?_ _) | go_size | (simp only [go_sem]; omega) | (simp [go_sem]; done) | (simp [go_sem]; omega))))).mono ?_); rintro _ _ hgets; obtain ⟨rfl, x2, rfl⟩ := hgets.get; clear hgets)))
      go_returns
      exact ⟨rfl, BR.out _ (by (repeat' (first | (with_reducible exact Below.refl _ _) | (with_reducible refine Below.alloc ?_ ?_ _) | (with_reducible refine below_ext ?_ ?_ _) | (with_reducible refine Below.drew ?_) | (with_reducible refine below_drewN ?_ _) | (with_reducible refine Below.setCell ?_ ?_ _) | go_size | (simp only [go_sem]; omega) | (simp [go_sem]; done) | (simp [go_sem]; omega))))⟩
    · obtain ⟨j, rfl, hj⟩ := BkS.inP_t ht
      obtain ⟨s, hs, hs', hT⟩ := h.get hj
      have P2 := Lib.hid (fun w' (hb : Below w.heap.size w w') => page_b (h.grow hb) hS hs)
      have e1 : S.pgAt (i : Int) = S.pages[i] := by simp [BkS.pgAt, hi]
      have e2 : S.pgAt (j : Int) = S.pages[j] := by simp [BkS.pgAt, hj]
      have CP := Lib.hid (fun w' (hb : Below w.heap.size w w') => copy_p (hT.grow hb) (hS.pg _ (List.getElem_mem hj)) (hQ.grow hb) (hS.pg _ (List.getElem_mem hi)) x rr cc h1 h2)
      rw [← e1, ← e2] at CP
      have BK := Lib.hid (fun w' (hb : Below w.heap.size w w') wz P (hD : Did s.F s.p P w' wz) => (h.act hs' (Did.back hD hb hT.lt)).did)
      have eC : S.copied i x j rr cc = S.set j (pasteS (S.pgAt j) (S.pgAt i) (onB (S.pgAt i).rows.length (S.pgAt i).cols x) rr cc) := rfl
      rw [if_pos rfl, eC]
      generalize pasteS (S.pgAt j) (S.pgAt i) (onB (S.pgAt i).rows.length (S.pgAt i).cols x) rr cc = P at CP ⊢
      obtain ⟨xt, xl, xb, xr⟩ := x
      simp only at CP ⊢
      clear h hs hs' hT hq hq' hQ eC e1 e2
      go_enter Tryz.func54, Tryz.ntmps54
      go_wp2_with (first
        | (go_at_call 17; ((with_reducible refine (P1.out _ (by (repeat' (first | (with_reducible exact Below.refl _ _) | (with_reducible refine Below.alloc ?_ ?_ _) | (with_reducible refine below_ext ?_ ?_ _) | (with_reducible refine Below.drew ?_) | (with_reducible refine below_drewN ?_ _) | (with_reducible refine Below.setCell ?_ ?_ _) | go_size | (simp only [go_sem]; omega) | (simp [go_sem]; done) | (simp [go_sem]; omega))))).mono ?_); rintro _ _ hgets; obtain ⟨rfl, x1, rfl⟩ := hgets.get; clear hgets))
        | (go_at_call 17; ((with_reducible refine (P2.out _ (by (repeat' (first | (with_reducible exact Below.refl _ _) | (with_reducible refine Below.alloc ?_ ?_ _) | (with_reducible refine below_ext ?_ ?_ _) | (with_reducible refine Below.drew ?_) | (with_reducible refine below_drewN ?_ _) | (with_reducible refine Below.setCell ?_ ?_ _) | go_size | (simp only [go_sem]; omega) | (simp [go_sem]; done) | (simp [go_sem]; omega))))).mono ?_); rintro _ _ hgets; obtain ⟨rfl, x2, rfl⟩ := hgets.get; clear hgets))
        | ((go_at_call 98); (with_reducible refine (CP.out _ (by (repeat' (first | (with_reducible exact Below.refl _ _) | (with_reducible refine Below.alloc ?_ ?_ _) | (with_reducible refine below_ext ?_ ?_ _) | (with_reducible refine Below.drew ?_) | (with_reducible refine below_drewN ?_ _) | (with_reducible refine Below.setCell ?_ ?_ _) | go_size | (simp only [go_sem]; omega) | (simp [go_sem]; done) | (simp [go_sem]; omega))))).mono ?_); (rintro _ w1 ⟨rfl, hD⟩); (have hE := BK.out _ (by (repeat' (first | (with_reducible exact Below.refl _ _) | (with_reducible refine Below.alloc ?_ ?_ _) | (with_reducible refine below_ext ?_ ?_ _) | (with_reducible refine Below.drew ?_) | (with_reducible refine below_drewN ?_ _) | (with_reducible refine Below.setCell ?_ ?_ _) | go_size | (simp only [go_sem]; omega) | (simp [go_sem]; done) | (simp [go_sem]; omega)))) _ _ hD); clear hD; replace hE := Lib.hid hE))
      go_returns
      exact ⟨rfl, hE.out⟩
end
section
variable {w : World} {F : Nat → Prop} {b : Nat} {S : BkS} {V : Value} {ps : List PgR} {st r : PgR}
end
end Go.Proofs.YtignkkejkknddaaGreat
/- Books: Erase, New, Clone.  -/
namespace Go.Proofs.YtignkkejkknddaaGreat
open Go.RowKit
set_option linter.unusedVariables false
set_option linter.unusedSimpArgs false

def newS (m n : Int) : PgS := resizeS ⟨[], 0⟩ m n
theorem newS_ok (m n : Int) : (newS m n).Ok := resizeS_ok _ _ _ (fun r hr => by cases hr)
/-- the first k pages are P -/
def BkS.filled (S : BkS) (P : PgS) (k : Nat) : BkS := ⟨S.pages.mapIdx fun i Q => if i < k then P else Q, S.status, S.now, S.below⟩
def BkS.erase (S : BkS) : BkS := ⟨S.pages.map fun _ => newS S.rows S.cols, newS 1 S.cols, S.now, S.below⟩
section
variable {w : World} {F : Nat → Prop} {b : Nat} {S : BkS} {V : Value} {ps : List PgR} {st r : PgR}
end
end Go.Proofs.YtignkkejkknddaaGreat
/- Books: New, Clone.  -/
namespace Go.Proofs.YtignkkejkknddaaGreat
open Go.RowKit
set_option linter.unusedVariables false
set_option linter.unusedSimpArgs false

/-- a book that is being made: its pages so far, all of them new -/
structure BMk (U wr : World) (b : Nat) (V sv : Value) (nw : Nat) (bl : Bool) (ps : List PgR) (Ps : List PgS) : Prop where
  below : Below U.heap.size U wr
  blk : wr.heap[b]? = some (.cells #[V, sv, .int .i64 nw, .bool bl] 110 (0, 0))
  own : Own encP 1 56 U.heap.size wr V ps
  len : ps.length = Ps.length
  pg : ∀ (i : Nat) (r : PgR) (P : PgS), ps[i]? = some r → Ps[i]? = some P → PageAt wr r.F r.p P
  sep : ∀ (i j : Nat) (r s : PgR), ps[i]? = some r → ps[j]? = some s → i ≠ j → ∀ x, r.F x → ¬ s.F x
  ge : ∀ r ∈ ps, ∀ x, r.F x → U.heap.size ≤ x
  offb : ∀ r ∈ ps, ¬ r.F b
  offV : ∀ r ∈ ps, ∀ x, V.ownBlock = some x → ¬ r.F x
  bge : U.heap.size ≤ b
section
variable {U w wr w' w2 : World} {F G : Nat → Prop} {b q B nw : Nat} {bl : Bool} {V sv : Value} {ps : List PgR} {Ps : List PgS} {P : PgS}
theorem BMk.plt (h : BMk U wr b V sv nw bl ps Ps) : b < wr.heap.size := heap_in h.blk
theorem BMk.c0 (h : BMk U wr b V sv nw bl ps Ps) : wr.cell? ⟨b, 0, none⟩ = some V := by rw [cell_in h.blk]; rfl
theorem BMk.c1 (h : BMk U wr b V sv nw bl ps Ps) : wr.cell? ⟨b, 1, none⟩ = some sv := by rw [cell_in h.blk]; rfl
theorem BMk.fz (h : BMk U wr b V sv nw bl ps Ps) (i : Nat) : wr.frozen? ⟨b, i, none⟩ = false := frozen_in h.blk
theorem BMk.form (h : BMk U wr b V sv nw bl ps Ps) : ∃ A c, V = .slice A ps.length c := by
  obtain ⟨A, c, e, _, _⟩ := h.own.form
  exact ⟨A, c, e⟩
theorem BMk.start (U : World) (sv : Value) (nw : Nat) (bl : Bool) : BMk U (U.alloc (.cells #[.slice none 0 0, sv, .int .i64 nw, .bool bl] 110)) U.heap.size (.slice none 0 0) sv nw bl [] [] :=
  ⟨(Below.refl _ _).alloc (Nat.le_refl _) _, heap_alloc_new _ _, Own.nil _ _ _ _ _, rfl, fun i r P h => by simp at h, fun i j r s h => by simp at h, fun r h => by simp at h, fun r h => by simp at h, fun r h => by simp at h, Nat.le_refl _⟩
theorem BMk.base {U' : World} (h : BMk U wr b V sv nw bl ps Ps) (hb : Below U'.heap.size U' U) (hs : U'.heap.size = U.heap.size) : BMk U' wr b V sv nw bl ps Ps :=
  ⟨hb.trans (by rw [hs]; exact h.below), h.blk, by rw [hs]; exact h.own, h.len, h.pg, h.sep, by rw [hs]; exact h.ge, h.offb, h.offV, by rw [hs]; exact h.bge⟩
/-- a page is appended -/
theorem b_append {w : World} {o : Oper} {a : Act} {K : Act → World → Prop} {Q : Exit → Act → World → Prop} {A : Option Addr} {n c : Nat} (s xo : Operand) (h : BMk U wr b (.slice A n c) sv nw bl ps Ps)
    (ho : o.op = .call { callee := .builtin .append, args := #[s, xo], argTypes := #[108, 108] }) (M : Nat) (hs : a.eval s = .slice A n c) (hx : a.eval xo = .slice (some ⟨M, 0, none⟩) 1 1)
    (hb : Below wr.heap.size wr w) (hP : PageAt w G q P) (hG : ∀ x, G x → wr.heap.size ≤ x) (hM : w.cell? ⟨M, 0, none⟩ = some (.pointer (some ⟨q, 0, none⟩))) (hMb : wr.heap.size ≤ M) (hn : ps.length ≤ 1000)
    (hK : ∀ A' n' c' x', Hid (∃ ps', BMk U ((ext U x').setCell ⟨b, 0, none⟩ (.slice A' n' c')) b (.slice A' n' c') sv nw bl ps' (Ps ++ [P])) → (ext U x').cell? ⟨b, 0, none⟩ = some (.slice A n c) → (ext U x').frozen? ⟨b, 0, none⟩ = false → b < (ext U x').heap.size → K (a.put o.dst (.slice A' n' c')) (ext U x')) : Oper.wp Tryz.prog o a w K Q := by
  have hUw : Below U.heap.size U w := h.below.trans (hb.mono h.below.size)
  have hrd : Rd encP 1 w (some ⟨M, 0, none⟩) [(⟨q, G⟩ : PgR)] := fun _ => by
    refine ⟨M, 0, rfl, World.block_lt_of_cell? _ _ hM, fun i hi j v hv => ?_⟩
    obtain rfl : i = 0 := by simpa using hi
    match j, hv with
    | 0, hv => simp [encP, PgR.v] at hv; subst hv; simpa using hM
  have hlow := h.own.below hb
  obtain ⟨A', c', x', hrun, hO, hF, hGG⟩ := run_append_far2 (P := Tryz.prog) U w 108 o.type 56 _ 8 Tryz.underlying108 ptr_info rfl (by omega) encP_len encP_one ps [(⟨q, G⟩ : PgR)] _ (some ⟨M, 0, none⟩) 1 hUw hlow hrd (by simp [maxLen]; omega) (by simp; omega)
  unfold Oper.wp execOp
  simp only [List.length_singleton] at hrun
  simp only [ho, resolve, invoke, builtin, Sem.run_bind, Sem.run_pure, Result.andThen_ok, List.map_toArray, List.map_cons, List.map_nil, hs, hx, hrun]
  have hVb : ∀ x, (Value.slice A n c).ownBlock = some x → x ≠ b := fun x hv => by
    rintro rfl
    obtain ⟨c1, h1⟩ := Own.blk (h.own.mono (Nat.zero_le _)) hv
    rw [h.blk] at h1
    injection h1 with h1
    injection h1 with _ e _
    exact absurd e (by decide)
  have hbw : w.heap[b]? = some (.cells #[.slice A n c, sv, .int .i64 nw, .bool bl] 110 (0, 0)) := (hb.block b h.plt).trans h.blk
  have hbx : (ext U x').heap[b]? = some (.cells #[.slice A n c, sv, .int .i64 nw, .bool bl] 110 (0, 0)) := (hGG b (heap_in hbw) (fun e => hVb b e rfl)).trans hbw
  have hV' : ∀ x, (Value.slice A' (ps ++ [(⟨q, G⟩ : PgR)]).length c').ownBlock = some x → (Value.slice A n c).ownBlock = some x ∨ w.heap.size ≤ x := fun x hv => by
    by_cases e : (Value.slice A n c).ownBlock = some x
    · exact .inl e
    · rcases Nat.lt_or_ge x w.heap.size with hl | hl
      · exact absurd hv (hF.block x hl e)
      · exact .inr hl
  have hfar : ∀ x, x ≠ b → ((ext U x').setCell ⟨b, 0, none⟩ (.slice A' (ps ++ [(⟨q, G⟩ : PgR)]).length c')).heap[x]? = (ext U x').heap[x]? := fun x hx => Below.heap_setCell _ _ _ _ hx
  have hkp : ∀ (r : PgR) (T : PgS), PageAt w r.F r.p T → ¬ r.F b → (∀ x, (Value.slice A n c).ownBlock = some x → ¬ r.F x) → PageAt ((ext U x').setCell ⟨b, 0, none⟩ (.slice A' (ps ++ [(⟨q, G⟩ : PgR)]).length c')) r.F r.p T := fun r T hT h1 h2 => by
    refine hT.keep (F := fun x => x = b ∨ (Value.slice A n c).ownBlock = some x) ⟨?_, ?_, ?_, ?_, fun k hk hne => ?_⟩ (fun x hx e => e.elim (fun e => h1 (e ▸ hx)) (fun e => h2 x e hx))
    · simp [ext, World.setCell, hUw.os]
    · simp [ext, World.setCell, hUw.tape]
    · simp [ext, World.setCell, hUw.output]
    · simpa [World.setCell] using hF.size
    · rw [hfar k (fun e => hne (.inl e))]
      exact hGG k hk (fun e => hne (.inr e))
  have hget : ∀ (k : Nat) (r : PgR), (ps ++ [(⟨q, G⟩ : PgR)])[k]? = some r → (k < ps.length ∧ ps[k]? = some r) ∨ (k = ps.length ∧ r = ⟨q, G⟩) := fun k r hr => by
    rcases Nat.lt_or_ge k ps.length with h1 | h1
    · rw [List.getElem?_append_left h1] at hr
      exact .inl ⟨h1, hr⟩
    · have h2 := (List.getElem?_eq_some_iff.1 hr).1
      simp only [List.length_append, List.length_singleton] at h2
      obtain rfl : k = ps.length := by omega
      simp at hr
      exact .inr ⟨rfl, hr.symm⟩
  have hlt : ∀ r ∈ ps, ∀ x, r.F x → x < wr.heap.size := fun r hr x hx => by
    obtain ⟨k, hk⟩ := List.getElem?_of_mem hr
    have hk2 := (List.getElem?_eq_some_iff.1 hk).1
    rw [h.len] at hk2
    exact (h.pg k r _ hk (List.getElem?_eq_getElem hk2)).lt x hx
  have hws := hb.size
  refine hK A' _ c' x' (Lib.hid ⟨ps ++ [⟨q, G⟩], below_set (below_of_ext U x') _ _ (by exact h.bge), set_cell4 0 _ hbx, hO.keep (fun x hx => hfar x (fun e => ?_)), by simp [h.len], fun k r T hr hT => ?_, fun k m r s hr hs hkm x hx hx' => ?_, fun r hr x hx => ?_, fun r hr hx => ?_, fun r hr x hv hx => ?_, h.bge⟩)
    (by rw [cell_in hbx]; rfl) (frozen_in hbx) (heap_in hbx)
  · rcases hV' x hx with hv | hv
    · exact hVb x hv e
    · have := h.plt; omega
  · rcases hget k r hr with ⟨hk, hr'⟩ | ⟨hk, rfl⟩
    · rw [List.getElem?_append_left (by rw [← h.len]; exact hk)] at hT
      have hrm := List.mem_of_getElem? hr'
      exact hkp r T ((h.pg k r T hr' hT).grow hb) (h.offb r hrm) (h.offV r hrm)
    · rw [hk, h.len] at hT
      simp at hT
      subst hT
      exact hkp ⟨q, G⟩ P hP (fun e => by have := hG b e; have := h.plt; omega) (fun x hv e => by have := hG x e; have := (h.own.lt x hv).2; omega)
  · rcases hget k r hr with ⟨hk, hr'⟩ | ⟨hk, rfl⟩ <;> rcases hget m s hs with ⟨hm, hs'⟩ | ⟨hm, rfl⟩
    · exact h.sep k m r s hr' hs' hkm x hx hx'
    · have := hlt r (List.mem_of_getElem? hr') x hx
      have := hG x hx'
      omega
    · have := hlt s (List.mem_of_getElem? hs') x hx'
      have := hG x hx
      omega
    · omega
  · rcases List.mem_append.1 hr with hr | hr
    · exact h.ge r hr x hx
    · rw [List.mem_singleton.1 hr] at hx
      have := hG x hx
      have := h.below.size
      omega
  · rcases List.mem_append.1 hr with hr | hr
    · exact h.offb r hr hx
    · rw [List.mem_singleton.1 hr] at hx
      have := hG b hx
      have := h.plt
      omega
  · rcases List.mem_append.1 hr with hr | hr
    · rcases hV' x hv with hv | hv
      · exact h.offV r hr x hv hx
      · have := hlt r hr x hx
        omega
    · rw [List.mem_singleton.1 hr] at hx
      rcases hV' x hv with hv | hv
      · have := hG x hx
        have := (h.own.lt x hv).2
        omega
      · have := hP.lt x hx
        omega
/-- it is done: the status line is there, too -/
theorem BMk.fin (h : BMk U wr b V sv nw bl ps Ps) (hk : Keep (· = b) wr w2) (hb2 : w2.heap[b]? = some (.cells #[V, .pointer (some ⟨q, 0, none⟩), .int .i64 nw, .bool bl] 110 (0, 0))) (hP : PageAt w2 G q P)
    (h1 : ∀ x, G x → x < U.heap.size ∨ wr.heap.size ≤ x) (h2 : ∀ x, G x → B ≤ x) (hB : B ≤ U.heap.size) : BkAt w2 (fun x => B ≤ x ∧ x < w2.heap.size) b ⟨Ps, P, nw, bl⟩ := by
  have hs := h.below.size
  have hplt := h.plt
  have hget : ∀ (k : Nat) (r : PgR), (ps ++ [(⟨q, G⟩ : PgR)])[k]? = some r → (k < ps.length ∧ ps[k]? = some r) ∨ (k = ps.length ∧ r = ⟨q, G⟩) := fun k r hr => by
    rcases Nat.lt_or_ge k ps.length with h1 | h1
    · rw [List.getElem?_append_left h1] at hr
      exact .inl ⟨h1, hr⟩
    · have h2 := (List.getElem?_eq_some_iff.1 hr).1
      simp only [List.length_append, List.length_singleton] at h2
      obtain rfl : k = ps.length := by omega
      simp at hr
      exact .inr ⟨rfl, hr.symm⟩
  have hpl : ∀ r ∈ ps, ∀ x, r.F x → U.heap.size ≤ x ∧ x < wr.heap.size := fun r hr x hx => by
    obtain ⟨k, hk⟩ := List.getElem?_of_mem hr
    have hk2 := (List.getElem?_eq_some_iff.1 hk).1
    rw [h.len] at hk2
    exact ⟨h.ge r hr x hx, (h.pg k r _ hk (List.getElem?_eq_getElem hk2)).lt x hx⟩
  have hVb : ∀ x, V.ownBlock = some x → x ≠ b := fun x hv => by
    rintro rfl
    obtain ⟨c1, h1⟩ := Own.blk (h.own.mono (Nat.zero_le _)) hv
    rw [h.blk] at h1
    injection h1 with h1
    injection h1 with _ e _
    exact absurd e (by decide)
  have hsz := hk.size
  have hbge := h.bge
  refine ⟨V, ps, ⟨q, G⟩, hb2, (h.own.keep (fun x hx => hk.block x (h.own.lt x hx).2 (hVb x hx))).mono (Nat.zero_le _), h.len, fun k r T hr hT => ?_, fun k m r s hr hs' hkm x hx hx' => ?_, fun r hr x hx => ?_, fun r hr hx => ?_, fun r hr x hv hx => ?_, ⟨by omega, by omega⟩, fun x hx => ?_, fun x hx => hx.2⟩
  · rcases hget k r hr with ⟨hk1, hr'⟩ | ⟨hk1, rfl⟩
    · simp only [BkS.all] at hT
      rw [List.getElem?_append_left (by rw [← h.len]; exact hk1)] at hT
      exact (h.pg k r T hr' hT).keep hk (fun x hx e => h.offb r (List.mem_of_getElem? hr') (e ▸ hx))
    · simp only [BkS.all] at hT
      rw [hk1, h.len] at hT
      simp at hT
      subst hT
      exact hP
  · rcases hget k r hr with ⟨hk1, hr'⟩ | ⟨hk1, rfl⟩ <;> rcases hget m s hs' with ⟨hm, hs''⟩ | ⟨hm, rfl⟩
    · exact h.sep k m r s hr' hs'' hkm x hx hx'
    · have := hpl r (List.mem_of_getElem? hr') x hx
      have := h1 x hx'
      omega
    · have := hpl s (List.mem_of_getElem? hs'') x hx'
      have := h1 x hx
      omega
    · omega
  · rcases List.mem_append.1 hr with hr | hr
    · have := hpl r hr x hx
      exact ⟨by omega, by omega⟩
    · rw [List.mem_singleton.1 hr] at hx
      exact ⟨h2 x hx, hP.lt x hx⟩
  · rcases List.mem_append.1 hr with hr | hr
    · exact h.offb r hr hx
    · rw [List.mem_singleton.1 hr] at hx
      have := h1 b hx
      omega
  · rcases List.mem_append.1 hr with hr | hr
    · exact h.offV r hr x hv hx
    · rw [List.mem_singleton.1 hr] at hx
      have := h1 x hx
      have := h.own.lt x hv
      omega
  · have := h.own.lt x hx
    exact ⟨by omega, by omega⟩
end
/-- a call that answers a book of its own -/
def NewBk (S : BkS) (w : World) (e : Ending) (w' : World) : Prop := ∃ (b : Nat) (F : Nat → Prop) (x : More), e = .returned (ptrV b) ∧ w' = ext w x ∧ (∀ y, F y → w.heap.size ≤ y) ∧ BkAt (ext w x) F b S
def newB (k m n : Int) : BkS := ⟨List.replicate (max 1 (min k 16)).toNat (newS m n), newS 1 n, 0, false⟩
set_option maxRecDepth 100000 in
set_option maxHeartbeats 4000000 in
theorem new_b (k m n : Int) (w : World) : Calls Tryz.prog 35 #[.int .i64 k, .int .i64 m, .int .i64 n] w (NewBk (newB k m n) w) := by
  have NS := Lib.hid (fun w' => (by exact new_p 1 n w' : Calls Tryz.prog 31 #[.int .i64 1, .int .i64 n] w' (NewPg (newS 1 n) w')))
  have NP := Lib.hid (fun w' => (by exact new_p m n w' : Calls Tryz.prog 31 #[.int .i64 m, .int .i64 n] w' (NewPg (newS m n) w')))
  unfold newB
  generalize newS 1 n = P1 at NS ⊢
  generalize newS m n = P0 at NP ⊢
  obtain ⟨j, hj⟩ : ∃ j : Nat, max 1 (min k 16) = j := ⟨(max 1 (min k 16)).toNat, by omega⟩
  have hj16 : j ≤ 16 := by omega
  rw [hj, Int.toNat_natCast]
  go_enter Tryz.func35, Tryz.ntmps35
  go_upto_region 2 with ((go_at_call 31); (with_reducible refine (NS.out _).mono ?_); (rintro _ _ ⟨q, G, x1, rfl, rfl, hG, hP⟩); replace hG := Lib.hid hG; replace hP := Lib.hid hP)
  obtain ⟨U, hU⟩ : ∃ U, U = ext w x1 := ⟨_, rfl⟩
  have hbU : Below w.heap.size w U := by rw [hU]; exact below_of_ext w x1
  have hM0 := BMk.start U (.pointer (some ⟨q, 0, none⟩)) 0 false
  have hsU : w.heap.size + x1.sz = U.heap.size := by rw [hU, size_ext]
  rw [← hU] at hP ⊢
  rw [hsU]
  clear hU hsU
  generalize U.alloc (.cells #[.slice none 0 0, .pointer (some ⟨q, 0, none⟩), .int .i64 (0 : Nat), .bool false] 110) = W0 at hM0
  obtain ⟨H, hH⟩ : ∃ H, H = U.heap.size := ⟨_, rfl⟩
  rw [← hH] at hM0 ⊢
  replace hH := Lib.hid hH
  replace hM0 := Lib.hid hM0
  go_wp2
  go_loopw [15] (fun iv wr => ∃ (i : Nat) (A : Option Addr) (a c : Nat) (ps : List PgR), i ≤ j ∧ iv = .int .i64 i ∧ Hid (BMk U wr H (.slice A a c) (.pointer (some ⟨q, 0, none⟩)) 0 false ps (List.replicate i P0))) (fun iv _ => j - (intOf iv).toNat)
  case atStart => exact ⟨0, none, 0, 0, [], by omega, rfl, hM0⟩
  case round =>
    obtain ⟨i, A, a, c, ps, hi, rfl, hM⟩ := hrel
    by_cases hlt : i < j
    · have q0 := hM.out.c0
      have pl := hM.out.plt
      have qf := hM.out.fz 0
      have hpl := Lib.hid (show ps.length ≤ 1000 by have := hM.out.len; simp at this; omega)
      have ne1 : ¬ H = wr.heap.size := by omega
      go_upto_region 4 with fail
      (refine wp_region_F (S := (fun w' => w'.cell? ⟨H, 0, none⟩ = some (.slice A a c))) 12 [false, false, false, false, false, false, false, false, false, false, false, false, false] rfl rfl (by kernel_rfl) ?_ (fun hHeld => ?_); (focus ((try dsimp only); (simp [go_sem, q0, pl]; done); done)))
      ((refine AtF.take (oi := ?_) (v := ?_) 0 ?_ ?_ ?_ ?_ (Or.inl ⟨?_, ?_⟩) (by assumption) ?_; rotate_left 2; rfl; kernel_rfl; kernel_rfl; exact (fun _ _ _ h => h); rfl; (focus (intro w hSw; (try dsimp only at hSw); go_simp; (try with_reducible rfl); done)); (try simp only [Act.put, List.setIfInBounds_toArray, List.set_cons_zero, List.set_cons_succ])); (refine AtF.take (oi := ?_) (v := ?_) 1 ?_ ?_ ?_ ?_ (Or.inl ⟨?_, ?_⟩) (by assumption) ?_; rotate_left 2; rfl; kernel_rfl; kernel_rfl; exact (fun _ _ _ h => h); rfl; (focus (intro w hSw; (try dsimp only at hSw); go_simp; (try with_reducible rfl); done)); (try simp only [Act.put, List.setIfInBounds_toArray, List.set_cons_zero, List.set_cons_succ])); (refine AtF.take (oi := ?_) (v := ?_) 2 ?_ ?_ ?_ ?_ (Or.inl ⟨?_, ?_⟩) (by assumption) ?_; rotate_left 2; rfl; kernel_rfl; kernel_rfl; exact (fun _ _ _ h => h); rfl; (focus (intro w hSw; (try dsimp only at hSw); go_simp; (try with_reducible rfl); done)); (try simp only [Act.put, List.setIfInBounds_toArray, List.set_cons_zero, List.set_cons_succ])); (refine AtF.take (oi := ?_) (v := ?_) 3 ?_ ?_ ?_ ?_ (Or.inl ⟨?_, ?_⟩) (by assumption) ?_; rotate_left 2; rfl; kernel_rfl; kernel_rfl; exact (fun _ _ _ h => h); rfl; (focus (intro w hSw; (try dsimp only at hSw); go_simp; (try with_reducible rfl); done)); (try simp only [Act.put, List.setIfInBounds_toArray, List.set_cons_zero, List.set_cons_succ])); (refine AtF.take (oi := ?_) (v := ?_) 4 ?_ ?_ ?_ ?_ (Or.inl ⟨?_, ?_⟩) (by assumption) ?_; rotate_left 2; rfl; kernel_rfl; kernel_rfl; exact (fun _ _ _ h => h); rfl; (focus (intro w hSw; (try dsimp only at hSw); go_simp; (try with_reducible rfl); done)); (try simp only [Act.put, List.setIfInBounds_toArray, List.set_cons_zero, List.set_cons_succ])); (refine AtF.take (oi := ?_) (v := ?_) 5 ?_ ?_ ?_ ?_ (Or.inl ⟨?_, ?_⟩) (by assumption) ?_; rotate_left 2; rfl; kernel_rfl; kernel_rfl; exact (fun _ _ _ h => h); rfl; (focus (intro w hSw; (try dsimp only at hSw); go_simp; (try with_reducible rfl); done)); (try simp only [Act.put, List.setIfInBounds_toArray, List.set_cons_zero, List.set_cons_succ])); (refine AtF.take (oi := ?_) (v := ?_) 6 ?_ ?_ ?_ ?_ (Or.inl ⟨?_, ?_⟩) (by assumption) ?_; rotate_left 2; rfl; kernel_rfl; kernel_rfl; exact (fun _ _ _ h => h); rfl; (focus (intro w hSw; (try dsimp only at hSw); go_simp; (try with_reducible rfl); done)); (try simp only [Act.put, List.setIfInBounds_toArray, List.set_cons_zero, List.set_cons_succ])))
      (refine AtF.only (oi := ?_) 7 ?_ ?_ (fun K hK => ?_); rotate_left 1; rfl; kernel_rfl; (try go_simp); ((go_at_call 31); (with_reducible refine (NP.out _).mono ?_); (rintro _ _ ⟨q2, G2, x2, rfl, rfl, hG2, hP2⟩); (try simp only [ext_drew] at hP2); replace hG2 := Lib.hid hG2; replace hP2 := Lib.hid hP2); (refine hK.out _ _ ?_ (fun hHeld => ?_)); (focus ((try dsimp only); (simp [go_sem, q0, pl]; done); done)); clear hK K; (try simp only [Act.put, List.setIfInBounds_toArray, List.set_cons_zero, List.set_cons_succ]))
      (refine AtF.only (oi := ?_) 8 ?_ ?_ (fun K hK => ?_); rotate_left 1; rfl; kernel_rfl; (try go_simp); skip; (refine hK.out _ _ ?_ (fun hHeld => ?_)); (focus ((try dsimp only); (simp [go_sem, q0, pl]; done); done)); clear hK K; (try simp only [Act.put, List.setIfInBounds_toArray, List.set_cons_zero, List.set_cons_succ]))
      (refine AtF.only (oi := ?_) 9 ?_ ?_ (fun K hK => ?_); rotate_left 1; rfl; kernel_rfl; refine step_do rfl (b_append (.tmp 21) (.tmp 25) hM.out rfl _ rfl rfl (by (repeat' (first | (with_reducible exact Below.refl _ _) | (with_reducible refine Below.alloc ?_ ?_ _) | (with_reducible refine below_ext ?_ ?_ _) | (with_reducible refine Below.drew ?_) | (with_reducible refine below_drewN ?_ _) | (with_reducible refine Below.setCell ?_ ?_ _) | go_size | (simp only [go_sem]; omega) | (simp [go_sem]; done) | (simp [go_sem]; omega)))) (hP2.out.grow (by (repeat' (first | (with_reducible exact Below.refl _ _) | (with_reducible refine Below.alloc ?_ ?_ _) | (with_reducible refine below_ext ?_ ?_ _) | (with_reducible refine Below.drew ?_) | (with_reducible refine below_drewN ?_ _) | (with_reducible refine Below.setCell ?_ ?_ _) | go_size | (simp only [go_sem]; omega) | (simp [go_sem]; done) | (simp [go_sem]; omega))))) (fun x hx => by have := hG2.out x hx; simpa using this) (by simp [go_sem]) (by simp [go_sem]) hpl.out ?_); intro A2 n2 c2 x3 hM2 y0 yf yl; (refine hK.out _ _ ?_ (fun hHeld => ?_)); (focus ((try dsimp only); (exact y0); done)); clear hK K; (try simp only [Act.put, List.setIfInBounds_toArray, List.set_cons_zero, List.set_cons_succ]))
      ((refine AtF.take (oi := ?_) (v := ?_) 10 ?_ ?_ ?_ ?_ (Or.inl ⟨?_, ?_⟩) (by assumption) ?_; rotate_left 2; rfl; kernel_rfl; kernel_rfl; exact (fun _ _ _ h => h); rfl; (focus (intro w hSw; (try dsimp only at hSw); go_simp; (try with_reducible rfl); done)); (try simp only [Act.put, List.setIfInBounds_toArray, List.set_cons_zero, List.set_cons_succ])); (refine AtF.take (oi := ?_) (v := ?_) 11 ?_ ?_ ?_ ?_ (Or.inl ⟨?_, ?_⟩) (by assumption) ?_; rotate_left 2; rfl; kernel_rfl; kernel_rfl; exact (fun _ _ _ h => h); rfl; (focus (intro w hSw; (try dsimp only at hSw); go_simp; (try with_reducible rfl); done)); (try simp only [Act.put, List.setIfInBounds_toArray, List.set_cons_zero, List.set_cons_succ])))
      (refine AtF.last (oi := ?_) ?_ ?_ (fun K hK => ?_); rotate_left 1; rfl; kernel_rfl; go_simp; skip; refine hK.out _ _ ?_; clear hK K; (try simp only [Act.put, List.setIfInBounds_toArray, List.set_cons_zero, List.set_cons_succ]))
      go_wp2
      obtain ⟨ps2, hM2⟩ := hM2.out
      rw [← List.replicate_succ'] at hM2
      exact ⟨⟨i + 1, A2, n2, c2, ps2, by omega, by go_num, Lib.hid hM2⟩, by simp [intOf]; omega⟩
    · obtain rfl : i = j := by omega
      have hb9 := Lib.hid hM.out.below
      have hF := hM.out.fin (w2 := wr) (B := w.heap.size) (Keep.refl _ _) hM.out.blk (hP.out.grow hM.out.below) (fun x hx => .inl (hP.out.lt x hx)) hG.out hbU.size
      replace hF := Lib.hid hF
      clear hM
      go_wp2
      go_returns
      obtain ⟨x9, rfl⟩ := ext_of (hbU.trans (hb9.out.mono hbU.size))
      exact ⟨H, _, x9, rfl, rfl, fun y hy => hy.1, hF.out⟩
section
variable {w : World} {F : Nat → Prop} {b : Nat} {S : BkS} {V : Value} {ps : List PgR} {st : PgR}
set_option maxRecDepth 100000 in
set_option maxHeartbeats 4000000 in
theorem clone_b (h : BkO w F b S V ps st) (hS : S.Ok) : Calls Tryz.prog 26 #[ptrV b] w (NewBk S w) := by
  obtain ⟨L, c, rfl, -, -⟩ := h.form1 (by have := hS.p1; omega)
  have c0 := h.c0
  have c1 := h.c1
  have c2 := h.c2
  have c3 := h.c3
  have pl := h.plt
  have p1 := hS.p1
  have p2 := hS.p2
  have HG := Lib.hid h
  have CL := Lib.hid (fun (i : Nat) (hi : i < S.pages.length) (r : PgR) (hP : PageAt w r.F r.p S.pages[i]) w' (hb : Below w.heap.size w w') => clone_p (hP.grow hb) (hS.pg _ (List.getElem_mem hi)))
  have CS := Lib.hid (fun w' (hb : Below w.heap.size w w') => clone_p (h.stat.grow hb) hS.st)
  clear h
  go_enter Tryz.func26, Tryz.ntmps26
  go_upto_region 1 with fail
  (refine wp_region_F (S := (fun w' => w'.cell? ⟨b, 2, none⟩ = some (.int .i64 S.now) ∧ w'.cell? ⟨b, 3, none⟩ = some (.bool S.below))) 10 [false, false, false, false, false, false, false, false, false, false, false] rfl rfl (by kernel_rfl) ?_ (fun hHeld => ?_); (focus ((try dsimp only); (refine ⟨?_, ?_⟩ <;> simp [go_sem, c2, c3, pl]); done)))
  ((refine AtF.take (oi := ?_) (v := ?_) 0 ?_ ?_ ?_ ?_ (Or.inl ⟨?_, ?_⟩) (by assumption) ?_; rotate_left 2; rfl; kernel_rfl; kernel_rfl; exact (fun _ _ _ h => h); rfl; (focus (intro w hSw; (try dsimp only at hSw); go_simp; (try with_reducible rfl); done)); (try simp only [Act.put, List.setIfInBounds_toArray, List.set_cons_zero, List.set_cons_succ])); (refine AtF.take (oi := ?_) (v := ?_) 1 ?_ ?_ ?_ ?_ (Or.inl ⟨?_, ?_⟩) (by assumption) ?_; rotate_left 2; rfl; kernel_rfl; kernel_rfl; exact (fun _ _ _ h => h); rfl; (focus (intro w hSw; (try dsimp only at hSw); go_simp; (try with_reducible rfl); done)); (try simp only [Act.put, List.setIfInBounds_toArray, List.set_cons_zero, List.set_cons_succ])); (refine AtF.take (oi := ?_) (v := ?_) 2 ?_ ?_ ?_ ?_ (Or.inl ⟨?_, ?_⟩) (by assumption) ?_; rotate_left 2; rfl; kernel_rfl; kernel_rfl; exact (fun _ _ _ h => h); rfl; (focus (intro w hSw; (try dsimp only at hSw); go_simp; (try with_reducible rfl); done)); (try simp only [Act.put, List.setIfInBounds_toArray, List.set_cons_zero, List.set_cons_succ])); (refine AtF.take (oi := ?_) (v := ?_) 3 ?_ ?_ ?_ ?_ (Or.inl ⟨?_, ?_⟩) (by assumption) ?_; rotate_left 2; rfl; kernel_rfl; kernel_rfl; exact (fun _ _ _ h => h); rfl; (focus (intro w hSw; (try dsimp only at hSw); go_simp; (try with_reducible rfl); done)); (try simp only [Act.put, List.setIfInBounds_toArray, List.set_cons_zero, List.set_cons_succ])); (refine AtF.take (oi := ?_) (v := ?_) 4 ?_ ?_ ?_ ?_ (Or.inl ⟨?_, ?_⟩) (by assumption) ?_; rotate_left 2; rfl; kernel_rfl; kernel_rfl; exact (fun _ _ _ h => h); rfl; (focus (intro w hSw; (try dsimp only at hSw); go_simp; (try with_reducible rfl); done)); (try simp only [Act.put, List.setIfInBounds_toArray, List.set_cons_zero, List.set_cons_succ])); (refine AtF.take (oi := ?_) (v := ?_) 5 ?_ ?_ ?_ ?_ (Or.inl ⟨?_, ?_⟩) (by assumption) ?_; rotate_left 2; rfl; kernel_rfl; kernel_rfl; exact (fun _ _ _ h => h); rfl; (focus (intro w hSw; (try dsimp only at hSw); go_simp; (try with_reducible rfl); done)); (try simp only [Act.put, List.setIfInBounds_toArray, List.set_cons_zero, List.set_cons_succ])); (refine AtF.take (oi := ?_) (v := ?_) 6 ?_ ?_ ?_ ?_ (Or.inl ⟨?_, ?_⟩) (by assumption) ?_; rotate_left 2; rfl; kernel_rfl; kernel_rfl; exact (fun _ _ _ h => h); rfl; (focus (intro w hSw; (try dsimp only at hSw); go_simp; (try with_reducible rfl); done)); (try simp only [Act.put, List.setIfInBounds_toArray, List.set_cons_zero, List.set_cons_succ])); (refine AtF.take (oi := ?_) (v := ?_) 7 ?_ ?_ ?_ ?_ (Or.inl ⟨?_, ?_⟩) (by assumption) ?_; rotate_left 2; rfl; kernel_rfl; kernel_rfl; exact (fun _ _ _ h => h); rfl; (focus (intro w hSw; (try dsimp only at hSw); go_simp; (try with_reducible rfl); done)); (try simp only [Act.put, List.setIfInBounds_toArray, List.set_cons_zero, List.set_cons_succ])); (refine AtF.take (oi := ?_) (v := ?_) 8 ?_ ?_ ?_ ?_ (Or.inl ⟨?_, ?_⟩) (by assumption) ?_; rotate_left 2; rfl; kernel_rfl; kernel_rfl; exact (fun _ _ _ h => h); rfl; (focus (intro w hSw; (try dsimp only at hSw); go_simp; (try with_reducible rfl); done)); (try simp only [Act.put, List.setIfInBounds_toArray, List.set_cons_zero, List.set_cons_succ])))
  (refine AtF.only (oi := ?_) 9 ?_ ?_ (fun K hK => ?_); rotate_left 1; rfl; kernel_rfl; (try go_simp); skip; (refine hK.out _ _ ?_ (fun hHeld => ?_)); (focus ((try dsimp only); (refine ⟨?_, ?_⟩ <;> simp [go_sem, c2, c3, pl]); done)); clear hK K; (try simp only [Act.put, List.setIfInBounds_toArray, List.set_cons_zero, List.set_cons_succ]))
  (refine AtF.last (oi := ?_) ?_ ?_ (fun K hK => ?_); rotate_left 1; rfl; kernel_rfl; go_simp; skip; refine hK.out _ _ ?_; clear hK K; (try simp only [Act.put, List.setIfInBounds_toArray, List.set_cons_zero, List.set_cons_succ]))
  obtain ⟨W0, hW0⟩ : ∃ W0, W0 = (w.alloc (.cells #[.slice none 0 0, .pointer none, .int .i64 S.now, .bool S.below] 110)).drew := ⟨_, rfl⟩
  have hM0 : BMk w W0 w.heap.size (.slice none 0 0) (.pointer none) S.now S.below [] [] := by rw [hW0]; exact (BMk.start w.drew (.pointer none) S.now S.below).base (by (repeat' (first | (with_reducible exact Below.refl _ _) | (with_reducible refine Below.alloc ?_ ?_ _) | (with_reducible refine below_ext ?_ ?_ _) | (with_reducible refine Below.drew ?_) | (with_reducible refine below_drewN ?_ _) | (with_reducible refine Below.setCell ?_ ?_ _) | go_size | (simp only [go_sem]; omega) | (simp [go_sem]; done) | (simp [go_sem]; omega)))) rfl
  rw [← hW0]
  clear hW0
  obtain ⟨H, hH⟩ : ∃ H, H = w.heap.size := ⟨_, rfl⟩
  rw [← hH] at hM0 ⊢
  replace hH := Lib.hid hH
  replace hM0 := Lib.hid hM0
  have c0' := (hM0.out.below.cell (p := ⟨b, 0, none⟩) pl).trans c0
  go_wp2
  go_loopw [21] (fun iv wr => ∃ (i : Nat) (A : Option Addr) (a c' : Nat) (ps' : List PgR), i ≤ S.pages.length ∧ iv = .int .i64 i ∧ Hid (BMk w wr H (.slice A a c') (.pointer none) S.now S.below ps' (S.pages.take i))) (fun iv _ => S.pages.length - (intOf iv).toNat)
  case atStart => exact ⟨0, none, 0, 0, [], by omega, rfl, hM0⟩
  case round =>
    obtain ⟨i, A, a, c', ps', hi, rfl, hM⟩ := hrel
    have q0 := hM.out.c0
    have pl' := hM.out.plt
    by_cases hlt : i < S.pages.length
    · obtain ⟨r, hr, -, hP⟩ := HG.out.get hlt
      obtain ⟨d0, -, hL⟩ := HG.out.cell hr
      simp only [PgR.v] at d0
      have d1 := (hM.out.below.cell (p := ⟨L, i, none⟩) hL).trans d0
      have CP := Lib.hid (CL.out i hlt r hP)
      have hbr : Below w.heap.size w wr := hM.out.below
      have hpl := Lib.hid (show ps'.length ≤ 1000 by have := hM.out.len; simp at this; omega)
      have hLr : L < wr.heap.size := Nat.lt_of_lt_of_le hL hbr.size
      have hnx := Lib.hid (show S.pages.take i ++ [S.pages[i]] = S.pages.take (i + 1) by rw [List.take_add_one, List.getElem?_eq_getElem hlt]; rfl)
      have ne1 : ¬ H = wr.heap.size := by omega
      clear hr hP d0 c0 c0' c1 c2 c3 pl
      go_upto_region 5 with fail
      (refine wp_region_F (S := (fun w' => w'.cell? ⟨H, 0, none⟩ = some (.slice A a c'))) 11 [false, false, false, false, false, false, false, false, false, false, false, false] rfl rfl (by kernel_rfl) ?_ (fun hHeld => ?_); (focus ((try dsimp only); (simp [go_sem, q0, pl']; done); done)))
      ((refine AtF.take (oi := ?_) (v := ?_) 0 ?_ ?_ ?_ ?_ (Or.inl ⟨?_, ?_⟩) (by assumption) ?_; rotate_left 2; rfl; kernel_rfl; kernel_rfl; exact (fun _ _ _ h => h); rfl; (focus (intro w hSw; (try dsimp only at hSw); go_simp; (try with_reducible rfl); done)); (try simp only [Act.put, List.setIfInBounds_toArray, List.set_cons_zero, List.set_cons_succ])); (refine AtF.take (oi := ?_) (v := ?_) 1 ?_ ?_ ?_ ?_ (Or.inl ⟨?_, ?_⟩) (by assumption) ?_; rotate_left 2; rfl; kernel_rfl; kernel_rfl; exact (fun _ _ _ h => h); rfl; (focus (intro w hSw; (try dsimp only at hSw); go_simp; (try with_reducible rfl); done)); (try simp only [Act.put, List.setIfInBounds_toArray, List.set_cons_zero, List.set_cons_succ])); (refine AtF.take (oi := ?_) (v := ?_) 2 ?_ ?_ ?_ ?_ (Or.inl ⟨?_, ?_⟩) (by assumption) ?_; rotate_left 2; rfl; kernel_rfl; kernel_rfl; exact (fun _ _ _ h => h); rfl; (focus (intro w hSw; (try dsimp only at hSw); go_simp; (try with_reducible rfl); done)); (try simp only [Act.put, List.setIfInBounds_toArray, List.set_cons_zero, List.set_cons_succ])); (refine AtF.take (oi := ?_) (v := ?_) 3 ?_ ?_ ?_ ?_ (Or.inl ⟨?_, ?_⟩) (by assumption) ?_; rotate_left 2; rfl; kernel_rfl; kernel_rfl; exact (fun _ _ _ h => h); rfl; (focus (intro w hSw; (try dsimp only at hSw); go_simp; (try with_reducible rfl); done)); (try simp only [Act.put, List.setIfInBounds_toArray, List.set_cons_zero, List.set_cons_succ])); (refine AtF.take (oi := ?_) (v := ?_) 4 ?_ ?_ ?_ ?_ (Or.inl ⟨?_, ?_⟩) (by assumption) ?_; rotate_left 2; rfl; kernel_rfl; kernel_rfl; exact (fun _ _ _ h => h); rfl; (focus (intro w hSw; (try dsimp only at hSw); go_simp; (try with_reducible rfl); done)); (try simp only [Act.put, List.setIfInBounds_toArray, List.set_cons_zero, List.set_cons_succ])); (refine AtF.take (oi := ?_) (v := ?_) 5 ?_ ?_ ?_ ?_ (Or.inl ⟨?_, ?_⟩) (by assumption) ?_; rotate_left 2; rfl; kernel_rfl; kernel_rfl; exact (fun _ _ _ h => h); rfl; (focus (intro w hSw; (try dsimp only at hSw); go_simp; (try with_reducible rfl); done)); (try simp only [Act.put, List.setIfInBounds_toArray, List.set_cons_zero, List.set_cons_succ])))
      (refine AtF.only (oi := ?_) 6 ?_ ?_ (fun K hK => ?_); rotate_left 1; rfl; kernel_rfl; (try go_simp); ((go_at_call 74); (with_reducible refine (CP.out _ (hbr.trans (Below.mono (B := wr.heap.size) (by (repeat' (first | (with_reducible exact Below.refl _ _) | (with_reducible refine Below.alloc ?_ ?_ _) | (with_reducible refine below_ext ?_ ?_ _) | (with_reducible refine Below.drew ?_) | (with_reducible refine below_drewN ?_ _) | (with_reducible refine Below.setCell ?_ ?_ _) | go_size | (simp only [go_sem]; omega) | (simp [go_sem]; done) | (simp [go_sem]; omega)))) hbr.size))).mono ?_); (rintro _ _ ⟨q2, G2, x2, rfl, rfl, hG2, hP2⟩); (try simp only [ext_drew] at hP2); replace hG2 := Lib.hid hG2; replace hP2 := Lib.hid hP2); (refine hK.out _ _ ?_ (fun hHeld => ?_)); (focus ((try dsimp only); (simp [go_sem, q0, pl']; done); done)); clear hK K; (try simp only [Act.put, List.setIfInBounds_toArray, List.set_cons_zero, List.set_cons_succ]))
      (refine AtF.only (oi := ?_) 7 ?_ ?_ (fun K hK => ?_); rotate_left 1; rfl; kernel_rfl; (try go_simp); skip; (refine hK.out _ _ ?_ (fun hHeld => ?_)); (focus ((try dsimp only); (simp [go_sem, q0, pl']; done); done)); clear hK K; (try simp only [Act.put, List.setIfInBounds_toArray, List.set_cons_zero, List.set_cons_succ]))
      (refine AtF.only (oi := ?_) 8 ?_ ?_ (fun K hK => ?_); rotate_left 1; rfl; kernel_rfl; refine step_do rfl (b_append (.tmp 29) (.tmp 32) hM.out rfl _ rfl rfl (by (repeat' (first | (with_reducible exact Below.refl _ _) | (with_reducible refine Below.alloc ?_ ?_ _) | (with_reducible refine below_ext ?_ ?_ _) | (with_reducible refine Below.drew ?_) | (with_reducible refine below_drewN ?_ _) | (with_reducible refine Below.setCell ?_ ?_ _) | go_size | (simp only [go_sem]; omega) | (simp [go_sem]; done) | (simp [go_sem]; omega)))) (hP2.out.grow (by (repeat' (first | (with_reducible exact Below.refl _ _) | (with_reducible refine Below.alloc ?_ ?_ _) | (with_reducible refine below_ext ?_ ?_ _) | (with_reducible refine Below.drew ?_) | (with_reducible refine below_drewN ?_ _) | (with_reducible refine Below.setCell ?_ ?_ _) | go_size | (simp only [go_sem]; omega) | (simp [go_sem]; done) | (simp [go_sem]; omega))))) (fun x hx => by have := hG2.out x hx; simpa using this) (by simp [go_sem]) (by simp [go_sem]) hpl.out ?_); intro A2 n2 c2 x3 hM2 y0 yf yl; (refine hK.out _ _ ?_ (fun hHeld => ?_)); (focus ((try dsimp only); (exact y0); done)); clear hK K; (try simp only [Act.put, List.setIfInBounds_toArray, List.set_cons_zero, List.set_cons_succ]))
      ((refine AtF.take (oi := ?_) (v := ?_) 9 ?_ ?_ ?_ ?_ (Or.inl ⟨?_, ?_⟩) (by assumption) ?_; rotate_left 2; rfl; kernel_rfl; kernel_rfl; exact (fun _ _ _ h => h); rfl; (focus (intro w hSw; (try dsimp only at hSw); go_simp; (try with_reducible rfl); done)); (try simp only [Act.put, List.setIfInBounds_toArray, List.set_cons_zero, List.set_cons_succ])); (refine AtF.take (oi := ?_) (v := ?_) 10 ?_ ?_ ?_ ?_ (Or.inl ⟨?_, ?_⟩) (by assumption) ?_; rotate_left 2; rfl; kernel_rfl; kernel_rfl; exact (fun _ _ _ h => h); rfl; (focus (intro w hSw; (try dsimp only at hSw); go_simp; (try with_reducible rfl); done)); (try simp only [Act.put, List.setIfInBounds_toArray, List.set_cons_zero, List.set_cons_succ])))
      (refine AtF.last (oi := ?_) ?_ ?_ (fun K hK => ?_); rotate_left 1; rfl; kernel_rfl; go_simp; skip; refine hK.out _ _ ?_; clear hK K; (try simp only [Act.put, List.setIfInBounds_toArray, List.set_cons_zero, List.set_cons_succ]))
      go_wp2
      obtain ⟨ps2, hM2⟩ := hM2.out
      rw [hnx.out] at hM2
      exact ⟨⟨i + 1, A2, n2, c2, ps2, by omega, by go_num, Lib.hid hM2⟩, by simp [intOf]; omega⟩
    · obtain rfl : i = S.pages.length := by omega
      rw [List.take_of_length_le (Nat.le_refl _)] at hM
      have hbr : Below w.heap.size w wr := hM.out.below
      have d1 := (hM.out.below.cell (p := ⟨b, 1, none⟩) pl).trans c1
      have q1 := hM.out.c1
      have qf := hM.out.fz 1
      have plr : b < wr.heap.size := Nat.lt_of_lt_of_le pl hbr.size
      have hne : ¬ b = H := by have := hH.out; omega
      clear c0 c0' c1 c2 c3 q0
      go_wp2_with ((go_at_call 74); (with_reducible refine (CS.out _ hbr).mono ?_); (rintro _ _ ⟨q2, G2, x2, rfl, rfl, hG2, hP2⟩); replace hG2 := Lib.hid hG2; replace hP2 := Lib.hid hP2)
      go_returns
      have hF := hM.out.fin (w2 := (ext wr x2).setCell ⟨H, 1, none⟩ (.pointer (some ⟨q2, 0, none⟩))) (q := q2) (G := G2) (P := S.status) (B := w.heap.size) ((Keep.of_below (F := (· = H)) (below_of_ext wr x2)).set (p := ⟨H, 1, none⟩) (.inl rfl) _) (by exact set_cell4 1 _ ((block_ext wr x2 pl').trans hM.out.blk)) (hP2.out.keep (F := (· = H)) (keep_set _ H 1 _) (fun x hx e => by have := hG2.out x hx; omega)) (fun x hx => .inr (hG2.out x hx)) (fun x hx => Nat.le_trans hbr.size (hG2.out x hx)) (Nat.le_refl _)
      rw [setCell_ext _ _ _ _ _ pl'] at hF
      obtain ⟨x9, e9⟩ := ext_of (show Below w.heap.size w (ext (wr.setCell ⟨H, 1, none⟩ (.pointer (some ⟨q2, 0, none⟩))) x2) from (below_set hbr _ _ (by have := hH.out; exact Nat.le_of_eq this.symm)).trans ((below_of_ext _ _).mono (by simpa using hbr.size)))
      rw [e9] at hF ⊢
      exact ⟨H, _, x9, rfl, rfl, fun y hy => hy.1, hF⟩
end
end Go.Proofs.YtignkkejkknddaaGreat
/- Books: Same.  -/
namespace Go.Proofs.YtignkkejkknddaaGreat
open Go.RowKit
set_option linter.unusedVariables false
set_option linter.unusedSimpArgs false

section
variable {w : World} {F G : Nat → Prop} {b d : Nat} {S T : BkS} {V V' : Value} {ps ps' : List PgR} {st st' : PgR}
end
end Go.Proofs.YtignkkejkknddaaGreat
