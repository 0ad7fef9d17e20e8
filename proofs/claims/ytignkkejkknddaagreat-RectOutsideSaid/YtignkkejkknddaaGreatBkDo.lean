/- Books: is a book the document's?  -/
import Derived.Test.YtignkkejkknddaaGreatRbkB
import Derived.Test.YtignkkejkknddaaGreatPgIs
import Derived.Test.YtignkkejkknddaaGreatBkB
import Derived.Test.YtignkkejkknddaaGreatRegionF
namespace Go.Proofs.YtignkkejkknddaaGreat
open Go.RowKit
set_option linter.unusedVariables false
set_option linter.unusedSimpArgs false

section
variable {w : World} {F G : Nat → Prop} {b : Nat} {S : BkS} {V U : Value} {ps : List PgR} {st : PgR}
/-- the page that Sheet answers -/
theorem rsheet_v (h : RBk w G U S) (hS : S.Ok) : ∃ r : RPg, RefAt w G r.v S.sheet ∧ ∀ w', Below w.heap.size w w' → Calls Tryz.prog 70 #[U] w' (Gives w' r.v) := by
  obtain ⟨A, c, us, ⟨sA, sm, sc, sn⟩, rfl, H⟩ := h
  simp only [RPg.V]
  cases hb : S.below
  · obtain ⟨⟨rA, rm, rc, rn⟩, L, o, -, rfl, hr, d0, d1, hL⟩ := H.ps.get hS.nw
    simp only [RPg.V] at d0 d1
    have e : S.sheet = S.pages[S.now]'hS.nw := by unfold BkS.sheet; rw [hb]; simp [hS.nw]
    rw [e]
    have hnw := hS.nw
    have p2 := hS.p2
    refine ⟨⟨rA, rm, rc, rn⟩, hr, fun w' hb' => ?_⟩
    have e0 := (hb'.cell (p := ⟨L, _, none⟩) hL).trans d0
    have e1 := (hb'.cell (p := ⟨L, _, none⟩) hL).trans d1
    have hL' : L < w'.heap.size := Nat.lt_of_lt_of_le hL hb'.size
    clear H e hr d0 d1 hL hb'
    go_enter Tryz.func70, Tryz.ntmps70
    go_wp2
    go_returns
    exact ⟨rfl, by (repeat' (first | (with_reducible exact Below.refl _ _) | (with_reducible refine Below.alloc ?_ ?_ _) | (with_reducible refine below_ext ?_ ?_ _) | (with_reducible refine Below.drew ?_) | (with_reducible refine below_drewN ?_ _) | (with_reducible refine Below.setCell ?_ ?_ _) | go_size | (simp only [go_sem]; omega) | (simp [go_sem]; done) | (simp [go_sem]; omega)))⟩
  · have e : S.sheet = S.status := by unfold BkS.sheet; rw [hb]; rfl
    rw [e]
    refine ⟨⟨sA, sm, sc, sn⟩, H.st, fun w' hb' => ?_⟩
    clear H e hb'
    go_enter Tryz.func70, Tryz.ntmps70
    go_wp2
    go_returns
    exact ⟨rfl, by (repeat' (first | (with_reducible exact Below.refl _ _) | (with_reducible refine Below.alloc ?_ ?_ _) | (with_reducible refine below_ext ?_ ?_ _) | (with_reducible refine Below.drew ?_) | (with_reducible refine below_drewN ?_ _) | (with_reducible refine Below.setCell ?_ ?_ _) | go_size | (simp only [go_sem]; omega) | (simp [go_sem]; done) | (simp [go_sem]; omega)))⟩
set_option maxRecDepth 100000 in
set_option maxHeartbeats 8000000 in
theorem bis_c (h : BkO w F b S V ps st) (hS : S.Ok) (hR : RBk w G U S) : Calls Tryz.prog 22 #[ptrV b, U] w (Gives w (.bool true)) := by
  obtain ⟨rs, hrs, RSH⟩ := rsheet_v hR hS
  obtain ⟨A, c, us, ⟨sA, sm, sc, sn⟩, rfl, H⟩ := hR
  have p1 := hS.p1
  have p2 := hS.p2
  have h0 : 0 < S.pages.length := by omega
  have CN := Lib.hid (fun w' (hb : Below w.heap.size w w') => count_b (h.grow hb))
  have NW := Lib.hid (fun w' (hb : Below w.heap.size w w') => now_b (h.grow hb))
  have ON := Lib.hid (fun w' (hb : Below w.heap.size w w') => on_b (h.grow hb))
  have ST := Lib.hid (fun w' (hb : Below w.heap.size w w') => status_b (h.grow hb))
  have N1 := Lib.hid (fun w' (hb : Below w.heap.size w w') => page_no (h.grow hb) (i := (S.pages.length : Int)) (.inr (Int.le_refl _)))
  have N2 := Lib.hid (fun w' (hb : Below w.heap.size w w') => page_no (h.grow hb) (i := -1) (.inl (by omega)))
  have SZ := Lib.hid (fun w' (hb : Below w.heap.size w w') => size_b (h.grow hb) hS)
  have IS0 := Lib.hid (fun w' (hb : Below w.heap.size w w') => is_c _ (h.stat.grow hb) hS.st (H.st.grow hb).v)
  obtain ⟨rb, hrb, hPb⟩ := h.sheet hS
  have SH := Lib.hid (fun w' (hb : Below w.heap.size w w') => sheet_b (h.grow hb) hS hrb)
  have IS9 := Lib.hid (fun w' (hb : Below w.heap.size w w') => is_c _ (hPb.grow hb) (BkS.sheet_ok hS) (hrs.grow hb).v)
  have PG := Lib.hid (fun i (hi : i < S.pages.length) => (by
    obtain ⟨r, hr, -, hP⟩ := h.get hi
    obtain ⟨q, L, o, -, hA, hq, d0, d1, hL⟩ := H.ps.get hi
    exact ⟨r.p, q, L, o, hA, d0, d1, hL, fun w' hb => page_b (h.grow hb) hS hr, fun w' hb => is_c _ (hP.grow hb) (hS.pg _ (List.getElem_mem hi)) (hq.grow hb).v, hq.form⟩ :
      ∃ (p : Nat) (q : RPg) (L o : Nat), A = some ⟨L, o, none⟩ ∧ w.cell? ⟨L, o + i * 2, none⟩ = some q.V ∧ w.cell? ⟨L, o + i * 2 + 1, none⟩ = some (.int .i64 q.n) ∧ L < w.heap.size ∧
        (∀ w', Below w.heap.size w w' → Calls Tryz.prog 17 #[ptrV b, .int .i64 i] w' (Gives w' (ptrV p))) ∧ (∀ w', Below w.heap.size w w' → Calls Tryz.prog 16 #[ptrV p, q.v] w' (Gives w' (.bool true))) ∧ q.m = S.pages[i].rows.length ∧ q.n = S.pages[i].cols))
  replace RSH := Lib.hid RSH
  clear h H hrb hPb hrs
  obtain ⟨rA, rm, rc, rn⟩ := rs
  simp only [RPg.v, RPg.V] at IS0 IS9 RSH PG ⊢
  generalize hbl : S.below = bl at *
  go_enter Tryz.func22, Tryz.ntmps22
  go_upto_region 1 with fail
  (refine wp_region_free (by kernel_rfl) (by kernel_rfl) ?_)
  repeat (go_big_quiet_step (first | ((go_at_call 23; with_reducible exact Calls.free (CN.out _ (by (repeat' (first | (with_reducible exact Below.refl _ _) | (with_reducible refine Below.alloc ?_ ?_ _) | (with_reducible refine below_ext ?_ ?_ _) | (with_reducible refine Below.drew ?_) | (with_reducible refine below_drewN ?_ _) | (with_reducible refine Below.setCell ?_ ?_ _) | go_size | (simp only [go_sem]; omega) | (simp [go_sem]; done) | (simp [go_sem]; omega))))))) | ((go_at_call 65; with_reducible exact Calls.free (NW.out _ (by (repeat' (first | (with_reducible exact Below.refl _ _) | (with_reducible refine Below.alloc ?_ ?_ _) | (with_reducible refine below_ext ?_ ?_ _) | (with_reducible refine Below.drew ?_) | (with_reducible refine below_drewN ?_ _) | (with_reducible refine Below.setCell ?_ ?_ _) | go_size | (simp only [go_sem]; omega) | (simp [go_sem]; done) | (simp [go_sem]; omega))))))) | ((go_at_call 66; with_reducible exact Calls.free (ON.out _ (by (repeat' (first | (with_reducible exact Below.refl _ _) | (with_reducible refine Below.alloc ?_ ?_ _) | (with_reducible refine below_ext ?_ ?_ _) | (with_reducible refine Below.drew ?_) | (with_reducible refine below_drewN ?_ _) | (with_reducible refine Below.setCell ?_ ?_ _) | go_size | (simp only [go_sem]; omega) | (simp [go_sem]; done) | (simp [go_sem]; omega))))))) | ((go_at_call 67; with_reducible exact Calls.free (ST.out _ (by (repeat' (first | (with_reducible exact Below.refl _ _) | (with_reducible refine Below.alloc ?_ ?_ _) | (with_reducible refine below_ext ?_ ?_ _) | (with_reducible refine Below.drew ?_) | (with_reducible refine below_drewN ?_ _) | (with_reducible refine Below.setCell ?_ ?_ _) | go_size | (simp only [go_sem]; omega) | (simp [go_sem]; done) | (simp [go_sem]; omega))))))) | ((go_at_call 16; with_reducible exact Calls.free (IS0.out _ (by (repeat' (first | (with_reducible exact Below.refl _ _) | (with_reducible refine Below.alloc ?_ ?_ _) | (with_reducible refine below_ext ?_ ?_ _) | (with_reducible refine Below.drew ?_) | (with_reducible refine below_drewN ?_ _) | (with_reducible refine Below.setCell ?_ ?_ _) | go_size | (simp only [go_sem]; omega) | (simp [go_sem]; done) | (simp [go_sem]; omega))))))) | ((go_at_call 17; with_reducible exact Calls.free (N1.out _ (by (repeat' (first | (with_reducible exact Below.refl _ _) | (with_reducible refine Below.alloc ?_ ?_ _) | (with_reducible refine below_ext ?_ ?_ _) | (with_reducible refine Below.drew ?_) | (with_reducible refine below_drewN ?_ _) | (with_reducible refine Below.setCell ?_ ?_ _) | go_size | (simp only [go_sem]; omega) | (simp [go_sem]; done) | (simp [go_sem]; omega))))))) | ((go_at_call 17; with_reducible exact Calls.free (N2.out _ (by (repeat' (first | (with_reducible exact Below.refl _ _) | (with_reducible refine Below.alloc ?_ ?_ _) | (with_reducible refine below_ext ?_ ?_ _) | (with_reducible refine Below.drew ?_) | (with_reducible refine below_drewN ?_ _) | (with_reducible refine Below.setCell ?_ ?_ _) | go_size | (simp only [go_sem]; omega) | (simp [go_sem]; done) | (simp [go_sem]; omega)))))))))
  refine wpQuiet_nil ?_; rintro _ ⟨x1, rfl⟩
  go_wp2
  obtain ⟨W, hW⟩ : ∃ W, W = ext (w.alloc (.cells #[.slice A S.pages.length c, .slice sA sm sc, .int .i64 sn, .int .i64 S.now, .bool bl] 41)) x1 := ⟨_, rfl⟩
  have hbW : Below w.heap.size w W := by rw [hW]; (repeat' (first | (with_reducible exact Below.refl _ _) | (with_reducible refine Below.alloc ?_ ?_ _) | (with_reducible refine below_ext ?_ ?_ _) | (with_reducible refine Below.drew ?_) | (with_reducible refine below_drewN ?_ _) | (with_reducible refine Below.setCell ?_ ?_ _) | go_size | (simp only [go_sem]; omega) | (simp [go_sem]; done) | (simp [go_sem]; omega)))
  have a0 : W.cell? ⟨w.heap.size, 0, none⟩ = some (.slice A S.pages.length c) ∧ W.cell? ⟨w.heap.size, 1, none⟩ = some (.slice sA sm sc) ∧ W.cell? ⟨w.heap.size, 2, none⟩ = some (.int .i64 sn) ∧ W.cell? ⟨w.heap.size, 3, none⟩ = some (.int .i64 S.now) ∧ W.cell? ⟨w.heap.size, 4, none⟩ = some (.bool bl) := by rw [hW]; refine ⟨?_, ?_, ?_, ?_, ?_⟩ <;> simp [go_sem]
  have hs0 : w.heap.size < W.heap.size := by rw [hW]; simp; omega
  rw [← hW]
  clear hW CN NW ON ST N1 N2 IS0
  obtain ⟨c0, c1, c2, c3, c4⟩ := a0
  replace hbW := Lib.hid hbW
  go_loopw [57] (fun iv wr => ∃ (j : Nat) (x : More), j ≤ S.pages.length ∧ iv = .int .i64 j ∧ wr = ext W x) (fun iv _ => S.pages.length - (intOf iv).toNat)
  case atStart => exact ⟨0, ⟨#[], W.drawn⟩, by omega, rfl, by simp [ext]⟩
  case round =>
    obtain ⟨j, x, hj, rfl, rfl⟩ := hrel
    have hbx := Lib.hid (below_ext hbW.out hbW.out.size x)
    by_cases hlt : j < S.pages.length
    · obtain ⟨p, ⟨qA, qm, qc, qn⟩, L, o, rfl, d0, d1, hL, PGj, ISj, -, -⟩ := PG.out j hlt
      simp only [RPg.v, RPg.V] at d0 d1 ISj
      replace PGj := Lib.hid PGj
      replace ISj := Lib.hid ISj
      have e0 := (hbW.out.cell (p := ⟨L, _, none⟩) hL).trans d0
      have e1 := (hbW.out.cell (p := ⟨L, _, none⟩) hL).trans d1
      have hL' : L < W.heap.size := Nat.lt_of_lt_of_le hL hbW.out.size
      clear d0 d1 hL
      go_wp2
      (refine wp_region_free (by kernel_rfl) (by kernel_rfl) ?_)
      repeat (go_big_quiet_step (first | ((go_at_call 17; with_reducible exact Calls.free (PGj.out _ (hbx.out.trans (Below.mono (B := (ext W x).heap.size) (by (repeat' (first | (with_reducible exact Below.refl _ _) | (with_reducible refine Below.alloc ?_ ?_ _) | (with_reducible refine below_ext ?_ ?_ _) | (with_reducible refine Below.drew ?_) | (with_reducible refine below_drewN ?_ _) | (with_reducible refine Below.setCell ?_ ?_ _) | go_size | (simp only [go_sem]; omega) | (simp [go_sem]; done) | (simp [go_sem]; omega)))) hbx.out.size))))) | ((go_at_call 16; with_reducible exact Calls.free (ISj.out _ (hbx.out.trans (Below.mono (B := (ext W x).heap.size) (by (repeat' (first | (with_reducible exact Below.refl _ _) | (with_reducible refine Below.alloc ?_ ?_ _) | (with_reducible refine below_ext ?_ ?_ _) | (with_reducible refine Below.drew ?_) | (with_reducible refine below_drewN ?_ _) | (with_reducible refine Below.setCell ?_ ?_ _) | go_size | (simp only [go_sem]; omega) | (simp [go_sem]; done) | (simp [go_sem]; omega)))) hbx.out.size)))))))
      refine wpQuiet_nil ?_; rintro _ ⟨x3, rfl⟩
      go_wp2
      obtain ⟨x9, e9⟩ := ext_of (show Below W.heap.size W (ext ((ext W x).alloc (.cells #[.slice qA qm qc, .int .i64 qn] 39)) x3) by (repeat' (first | (with_reducible exact Below.refl _ _) | (with_reducible refine Below.alloc ?_ ?_ _) | (with_reducible refine below_ext ?_ ?_ _) | (with_reducible refine Below.drew ?_) | (with_reducible refine below_drewN ?_ _) | (with_reducible refine Below.setCell ?_ ?_ _) | go_size | (simp only [go_sem]; omega) | (simp [go_sem]; done) | (simp [go_sem]; omega))))
      exact ⟨⟨j + 1, x9, by omega, by go_num, e9⟩, by simp [intOf]; omega⟩
    · obtain rfl : j = S.pages.length := by omega
      obtain ⟨p, ⟨qA, qm, qc, qn⟩, L, o, rfl, d0, d1, hL, -, -, g1, g2⟩ := PG.out 0 h0
      have e : S.pages.getD 0 S.status = S.pages[0] := by simp [List.getD_eq_getElem?_getD, h0]
      have h1 : qm = S.rows := by unfold BkS.rows; rw [e]; exact g1
      have h2 : qn = S.cols := by unfold BkS.cols; rw [e]; exact g2
      subst h1 h2
      simp only [RPg.V, Nat.zero_mul, Nat.add_zero] at d0 d1
      have e0 := (hbW.out.cell (p := ⟨L, _, none⟩) hL).trans d0
      have e1 := (hbW.out.cell (p := ⟨L, _, none⟩) hL).trans d1
      have hL' : L < W.heap.size := Nat.lt_of_lt_of_le hL hbW.out.size
      clear d0 d1 hL g1 g2 e PG
      go_upto_region 10 with (go_at_call 68; ((with_reducible refine (SZ.out _ (hbx.out.trans (Below.mono (B := (ext W x).heap.size) (by (repeat' (first | (with_reducible exact Below.refl _ _) | (with_reducible refine Below.alloc ?_ ?_ _) | (with_reducible refine below_ext ?_ ?_ _) | (with_reducible refine Below.drew ?_) | (with_reducible refine below_drewN ?_ _) | (with_reducible refine Below.setCell ?_ ?_ _) | go_size | (simp only [go_sem]; omega) | (simp [go_sem]; done) | (simp [go_sem]; omega)))) hbx.out.size))).mono ?_); rintro _ _ hgets; obtain ⟨rfl, x4, rfl⟩ := hgets.get; clear hgets))
      (refine wp_region_free (by kernel_rfl) (by kernel_rfl) ?_)
      repeat (go_big_quiet_step (first | ((go_at_call 69; with_reducible exact Calls.free (SH.out _ (hbx.out.trans (Below.mono (B := (ext W x).heap.size) (by (repeat' (first | (with_reducible exact Below.refl _ _) | (with_reducible refine Below.alloc ?_ ?_ _) | (with_reducible refine below_ext ?_ ?_ _) | (with_reducible refine Below.drew ?_) | (with_reducible refine below_drewN ?_ _) | (with_reducible refine Below.setCell ?_ ?_ _) | go_size | (simp only [go_sem]; omega) | (simp [go_sem]; done) | (simp [go_sem]; omega)))) hbx.out.size))))) | ((go_at_call 70; with_reducible exact Calls.free (RSH.out _ (hbx.out.trans (Below.mono (B := (ext W x).heap.size) (by (repeat' (first | (with_reducible exact Below.refl _ _) | (with_reducible refine Below.alloc ?_ ?_ _) | (with_reducible refine below_ext ?_ ?_ _) | (with_reducible refine Below.drew ?_) | (with_reducible refine below_drewN ?_ _) | (with_reducible refine Below.setCell ?_ ?_ _) | go_size | (simp only [go_sem]; omega) | (simp [go_sem]; done) | (simp [go_sem]; omega)))) hbx.out.size))))) | ((go_at_call 16; with_reducible exact Calls.free (IS9.out _ (hbx.out.trans (Below.mono (B := (ext W x).heap.size) (by (repeat' (first | (with_reducible exact Below.refl _ _) | (with_reducible refine Below.alloc ?_ ?_ _) | (with_reducible refine below_ext ?_ ?_ _) | (with_reducible refine Below.drew ?_) | (with_reducible refine below_drewN ?_ _) | (with_reducible refine Below.setCell ?_ ?_ _) | go_size | (simp only [go_sem]; omega) | (simp [go_sem]; done) | (simp [go_sem]; omega)))) hbx.out.size)))))))
      refine wpQuiet_nil ?_; rintro _ ⟨x5, rfl⟩
      go_wp2
      go_returns
      exact ⟨rfl, hbx.out.trans (Below.mono (B := (ext W x).heap.size) (by (repeat' (first | (with_reducible exact Below.refl _ _) | (with_reducible refine Below.alloc ?_ ?_ _) | (with_reducible refine below_ext ?_ ?_ _) | (with_reducible refine Below.drew ?_) | (with_reducible refine below_drewN ?_ _) | (with_reducible refine Below.setCell ?_ ?_ _) | go_size | (simp only [go_sem]; omega) | (simp [go_sem]; done) | (simp [go_sem]; omega)))) hbx.out.size)⟩
end
end Go.Proofs.YtignkkejkknddaaGreat
/- Books: an act of the laws; what both sides of an act come to.  -/
namespace Go.Proofs.YtignkkejkknddaaGreat
open Go.RowKit
set_option linter.unusedVariables false
set_option linter.unusedSimpArgs false

/-- an act: its numbers, its box, its place, its cell -/
structure ActB where
  kd : Int
  n : Int
  tt : Int
  b : BxI
  r : Int
  c : Int
  y : Cl
def ActB.cells (a : ActB) : List Value := [.int .i64 a.kd, .int .i64 a.n, .int .i64 a.tt, .int .i64 a.b.t, .int .i64 a.b.l, .int .i64 a.b.b, .int .i64 a.b.r, .int .i64 a.r, .int .i64 a.c, .int .i32 a.y.g, .int .u8 a.y.r, .bool a.y.k]
def ActB.v (a : ActB) : Value := .agg a.cells.toArray
structure ActB.Ok (a : ActB) : Prop where
  r1 : -9223372036854775808 ≤ a.r
  c1 : -9223372036854775808 ≤ a.c
  y : a.y.ok
/-- how an act of both ends: the document's book lies off the blocks G, too -/
def BDoR (F : Nat → Prop) (b : Nat) (G : Nat → Prop) (T : BkS) (w : World) (e : Ending) (w' : World) : Prop :=
  ∃ U' F', e = .returned (.tuple #[U', .bool true]) ∧ Keep F w w' ∧ BkAt w' F' b T ∧ RBk w' (fun x => F' x ∨ G x) U' T ∧ ∀ x, F' x → F x ∨ w.heap.size ≤ x
/-- the blocks that a document's book made behind the program's act lies off -/
def offs (F G : Nat → Prop) (w w1 : World) (x : Nat) : Prop := (F x ∨ G x ∨ w.heap.size ≤ x) ∧ x < w1.heap.size
section
variable {w w0 w1 w2 w3 : World} {F G : Nat → Prop} {b : Nat} {S T : BkS} {U U' : Value}
theorem offs_old (hR : RBk w (fun x => F x ∨ G x) U S) (hb0 : Below w.heap.size w w0) (hk : Keep F w0 w1) : RBk w1 (offs F G w w1) U S := by
  have h1 : RBk w (fun x => F x ∨ G x ∨ w.heap.size ≤ x) U S := hR.mono (fun x hx g => by rcases g with g | g | g; exact .inl g; exact .inr g; omega)
  have h2 : RBk w1 (fun x => F x ∨ G x ∨ w.heap.size ≤ x) U S := (h1.grow hb0).keep hk (fun x hx f => hx (.inl f))
  exact h2.mono (fun x _ g => g.1)
theorem store5e {b : Nat} {u0 u1 u2 u3 u4 : Value} {t : TypeId} (x : More) (h : w.heap[b]? = some (.cells #[u0, u1, u2, u3, u4] t (0, 0))) (v0 v1 v2 v3 v4 : Value) :
    ∃ W', ext (((((w.setCell ⟨b, 0, none⟩ v0).setCell ⟨b, 1, none⟩ v1).setCell ⟨b, 2, none⟩ v2).setCell ⟨b, 3, none⟩ v3).setCell ⟨b, 4, none⟩ v4) x = W' ∧ Keep (· = b) (ext w x) W' ∧ W'.heap[b]? = some (.cells #[v0, v1, v2, v3, v4] t (0, 0)) := by
  have hl := heap_in h
  obtain ⟨W', e, hk, hh⟩ := store5 ((block_ext w x hl).trans h) v0 v1 v2 v3 v4
  refine ⟨W', ?_, hk, hh⟩
  rw [← e, setCell_ext _ _ _ _ _ hl, setCell_ext _ _ _ _ _ (by simpa using hl), setCell_ext _ _ _ _ _ (by simpa using hl), setCell_ext _ _ _ _ _ (by simpa using hl), setCell_ext _ _ _ _ _ (by simpa using hl)]
end
end Go.Proofs.YtignkkejkknddaaGreat
/- Books: do, act by act (Turn, Step, Erase).  -/
namespace Go.Proofs.YtignkkejkknddaaGreat
open Go.RowKit
set_option linter.unusedVariables false
set_option linter.unusedSimpArgs false

section
variable {w : World} {F G : Nat → Prop} {b : Nat} {S : BkS} {U : Value}
end
end Go.Proofs.YtignkkejkknddaaGreat
/- Books: do, act by act (Look, Copy, none).  -/
namespace Go.Proofs.YtignkkejkknddaaGreat
open Go.RowKit
set_option linter.unusedVariables false
set_option linter.unusedSimpArgs false

section
variable {w : World} {F G : Nat → Prop} {b : Nat} {S : BkS} {U : Value}
end
end Go.Proofs.YtignkkejkknddaaGreat
/- Books: do, act by act (Resize, Put).  -/
namespace Go.Proofs.YtignkkejkknddaaGreat
open Go.RowKit
set_option linter.unusedVariables false
set_option linter.unusedSimpArgs false

section
variable {w : World} {F G : Nat → Prop} {b : Nat} {S : BkS} {U : Value}
end
end Go.Proofs.YtignkkejkknddaaGreat
/- Books: do, whole; what a law holds while acts go on; played.  -/
namespace Go.Proofs.YtignkkejkknddaaGreat
open Go.RowKit
set_option linter.unusedVariables false
set_option linter.unusedSimpArgs false

section
variable {w : World} {F G : Nat → Prop} {b : Nat} {S : BkS} {U : Value}
end
abbrev rbC (A : Option Addr) (n c : Nat) (sA : Option Addr) (sm sc : Nat) (sn nw : Int) (bl : Bool) : Array Value := #[.slice A n c, .slice sA sm sc, .int .i64 sn, .int .i64 nw, .bool bl]
/-- the book b, and the document's book in the variable Vb, which is one of the blocks G that both lie off -/
structure BPl (G : Nat → Prop) (wr : World) (F : Nat → Prop) (b Vb : Nat) (A : Option Addr) (n c : Nat) (sA : Option Addr) (sm sc : Nat) (sn nw : Int) (bl : Bool) (S : BkS) : Prop where
  bk : BkAt wr F b S
  ref : RBk wr (fun x => F x ∨ G x) (.agg (rbC A n c sA sm sc sn nw bl)) S
  var : wr.heap[Vb]? = some (.cells (rbC A n c sA sm sc sn nw bl) 41 (0, 0))
  off : ∀ x, F x → ¬ G x
  gv : G Vb
  gl : ∀ x, G x → x < wr.heap.size
section
variable {G G1 F F' : Nat → Prop} {w wr w1 w2 w3 : World} {b Vb Nb n c sm sc : Nat} {A sA : Option Addr} {sn nw : Int} {bl : Bool} {S T : BkS} {e : Ending} {U' : Value}
theorem BPl.grow (h : BPl G wr F b Vb A n c sA sm sc sn nw bl S) (hb : Below wr.heap.size wr w1) : BPl G w1 F b Vb A n c sA sm sc sn nw bl S :=
  ⟨h.bk.grow hb, h.ref.grow hb, (hb.block Vb (heap_in h.var)).trans h.var, h.off, h.gv, fun x hx => Nat.lt_of_lt_of_le (h.gl x hx) hb.size⟩
/-- what do left behind, with nothing stored yet; Nb is a block that its answer lies off, too -/
structure BMid (G : Nat → Prop) (wr w2 : World) (F F' : Nat → Prop) (b Vb Nb : Nat) (A : Option Addr) (n c : Nat) (sA : Option Addr) (sm sc : Nat) (sn nw : Int) (bl : Bool) (T : BkS) : Prop where
  keep : Keep F wr w2
  bk : BkAt w2 F' b T
  ref : RBk w2 (fun x => F' x ∨ (G x ∨ x = Nb)) (.agg (rbC A n c sA sm sc sn nw bl)) T
  new : ∀ x, F' x → F x ∨ wr.heap.size ≤ x
  offn : ¬ F' Nb
theorem BPl.fin {A' sA' : Option Addr} {n' c' sm' sc' : Nat} {sn' nw' : Int} {bl' : Bool} (h : BPl G wr F b Vb A n c sA sm sc sn nw bl S) (hm : BMid G wr w2 F F' b Vb Nb A' n' c' sA' sm' sc' sn' nw' bl' T) (hk : Keep (fun x => x = Nb ∨ x = Vb) w2 w3)
    (hv : w3.heap[Vb]? = some (.cells (rbC A' n' c' sA' sm' sc' sn' nw' bl') 41 (0, 0))) : BPl G w3 F' b Vb A' n' c' sA' sm' sc' sn' nw' bl' T := by
  have hoff : ∀ x, F' x → ¬ G x := fun x hx g => (hm.new x hx).elim (fun f => h.off x f g) (fun e => by have := h.gl x g; omega)
  refine ⟨hm.bk.keep hk (fun x hx g => g.elim (fun e => hm.offn (e ▸ hx)) (fun e => hoff x hx (e ▸ h.gv))), ?_, hv, hoff, h.gv, fun x hx => Nat.lt_of_lt_of_le (h.gl x hx) (Nat.le_trans hm.keep.size hk.size)⟩
  refine (hm.ref.keep hk (fun x hx g => hx (.inr (g.elim .inr (fun e => .inl (e ▸ h.gv)))))).mono (fun x _ g => g.elim .inl (fun g => .inr (.inl g)))
theorem BPl.mid (h : BPl G wr F b Vb A n c sA sm sc sn nw bl S) (hb : Below wr.heap.size wr w1) (hN : Nb < w1.heap.size) (hNF : ¬ F Nb) (hd : BDoR F b (fun x => G x ∨ x = Nb) T w1 e w2) :
    ∃ F' A' n' c' sA' sm' sc' sn' nw' bl', e = .returned (.tuple #[.agg (rbC A' n' c' sA' sm' sc' sn' nw' bl'), .bool true]) ∧ BMid G wr w2 F F' b Vb Nb A' n' c' sA' sm' sc' sn' nw' bl' T := by
  obtain ⟨U', F', rfl, hk, hbk, hr, hn⟩ := hd
  have hr2 := hr
  obtain ⟨A', c', us', ⟨tA, tm, tc, tn⟩, rfl, -⟩ := hr
  refine ⟨F', A', _, c', tA, tm, tc, tn, _, _, rfl, ⟨(Keep.of_below (F := F) hb).trans hk (fun x hx => .inl hx), hbk, hr2, fun x hx => (hn x hx).imp_right (fun e => Nat.le_trans hb.size e), fun f => ?_⟩⟩
  rcases hn Nb f with f | f
  · exact hNF f
  · omega
end
theorem BDoR.keep {F G : Nat → Prop} {b : Nat} {T : BkS} {w w' : World} {e : Ending} (h : BDoR F b G T w e w') : Keep F w w' := by
  obtain ⟨U', F', -, hk, -⟩ := h
  exact hk
end Go.Proofs.YtignkkejkknddaaGreat
