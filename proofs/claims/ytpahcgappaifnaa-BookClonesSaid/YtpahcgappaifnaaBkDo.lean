/- Books: is a book the document's?  -/
import Derived.Test.YtpahcgappaifnaaRbkB
import Derived.Test.YtpahcgappaifnaaPgIs
import Derived.Test.YtpahcgappaifnaaBkB
import Derived.Test.YtpahcgappaifnaaRegionE
namespace Go.Proofs.Ytpahcgappaifnaa
open Go.RowKit
set_option linter.unusedVariables false
set_option linter.unusedSimpArgs false

section
variable {w : World} {F G : Nat → Prop} {b : Nat} {S : BkS} {V U : Value} {ps : List PgR} {st : PgR}
/-- the page that Sheet answers -/
theorem rsheet_v (h : RBk w G U S) (hS : S.Ok) : ∃ r : RPg, RefAt w G r.v S.sheet ∧ ∀ w', Below w.heap.size w w' → Calls Try.prog 45 #[U] w' (Gives w' r.v) := by
  obtain ⟨A, c, us, ⟨sA, sm, sc, sn⟩, rfl, H⟩ := h
  simp only [RPg.V]
  cases hb : S.below
  · obtain ⟨⟨rA, rm, rc, rn⟩, L, o, -, rfl, hr, d0, d1, hL⟩ := H.ps.get hS.nw
    simp only [RPg.V] at d0 d1
    have e : S.sheet = S.pages[S.now]'hS.nw := by unfold BkS.sheet; rw [hb]; simp [hS.nw]
    rw [e]
    have hnw := hS.nw
    have p2 := hS.p2
    refine ⟨⟨rA, rm, rc, rn⟩, hr, fun w' hb' => ?_⟩
    have e0 := (hb'.cell (p := ⟨L, _, none⟩) hL).trans d0
    have e1 := (hb'.cell (p := ⟨L, _, none⟩) hL).trans d1
    have hL' : L < w'.heap.size := Nat.lt_of_lt_of_le hL hb'.size
    clear H e hr d0 d1 hL hb'
    go_enter Try.func45, Try.ntmps45
    go_wp2
    go_returns
    exact ⟨rfl, by (repeat' (first | (with_reducible exact Below.refl _ _) | (with_reducible refine Below.alloc ?_ ?_ _) | (with_reducible refine below_ext ?_ ?_ _) | (with_reducible refine Below.drew ?_) | (with_reducible refine below_drewN ?_ _) | (with_reducible refine Below.setCell ?_ ?_ _) | go_size | (simp only [go_sem]; omega) | (simp [go_sem]; done) | (simp [go_sem]; omega)))⟩
  · have e : S.sheet = S.status := by unfold BkS.sheet; rw [hb]; rfl
    rw [e]
    refine ⟨⟨sA, sm, sc, sn⟩, H.st, fun w' hb' => ?_⟩
    clear H e hb'
    go_enter Try.func45, Try.ntmps45
    go_wp2
    go_returns
    exact ⟨rfl, by (repeat' (first | (with_reducible exact Below.refl _ _) | (with_reducible refine Below.alloc ?_ ?_ _) | (with_reducible refine below_ext ?_ ?_ _) | (with_reducible refine Below.drew ?_) | (with_reducible refine below_drewN ?_ _) | (with_reducible refine Below.setCell ?_ ?_ _) | go_size | (simp only [go_sem]; omega) | (simp [go_sem]; done) | (simp [go_sem]; omega)))⟩
set_option maxRecDepth 100000 in
set_option maxHeartbeats 8000000 in
theorem bis_c (h : BkO w F b S V ps st) (hS : S.Ok) (hR : RBk w G U S) : Calls Try.prog 9 #[ptrV b, U] w (Gives w (.bool true)) := by
  obtain ⟨rs, hrs, RSH⟩ := rsheet_v hR hS
  obtain ⟨A, c, us, ⟨sA, sm, sc, sn⟩, rfl, H⟩ := hR
  have p1 := hS.p1
  have p2 := hS.p2
  have h0 : 0 < S.pages.length := by omega
  have CN := Lib.hid (fun w' (hb : Below w.heap.size w w') => count_b (h.grow hb))
  have NW := Lib.hid (fun w' (hb : Below w.heap.size w w') => now_b (h.grow hb))
  have ON := Lib.hid (fun w' (hb : Below w.heap.size w w') => on_b (h.grow hb))
  have ST := Lib.hid (fun w' (hb : Below w.heap.size w w') => status_b (h.grow hb))
  have N1 := Lib.hid (fun w' (hb : Below w.heap.size w w') => page_no (h.grow hb) (i := (S.pages.length : Int)) (.inr (Int.le_refl _)))
  have N2 := Lib.hid (fun w' (hb : Below w.heap.size w w') => page_no (h.grow hb) (i := -1) (.inl (by omega)))
  have SZ := Lib.hid (fun w' (hb : Below w.heap.size w w') => size_b (h.grow hb) hS)
  have IS0 := Lib.hid (fun w' (hb : Below w.heap.size w w') => is_c _ (h.stat.grow hb) hS.st (H.st.grow hb).v)
  obtain ⟨rb, hrb, hPb⟩ := h.sheet hS
  have SH := Lib.hid (fun w' (hb : Below w.heap.size w w') => sheet_b (h.grow hb) hS hrb)
  have IS9 := Lib.hid (fun w' (hb : Below w.heap.size w w') => is_c _ (hPb.grow hb) (BkS.sheet_ok hS) (hrs.grow hb).v)
  have PG := Lib.hid (fun i (hi : i < S.pages.length) => (by
    obtain ⟨r, hr, -, hP⟩ := h.get hi
    obtain ⟨q, L, o, -, hA, hq, d0, d1, hL⟩ := H.ps.get hi
    exact ⟨r.p, q, L, o, hA, d0, d1, hL, fun w' hb => page_b (h.grow hb) hS hr, fun w' hb => is_c _ (hP.grow hb) (hS.pg _ (List.getElem_mem hi)) (hq.grow hb).v, hq.form⟩ :
      ∃ (p : Nat) (q : RPg) (L o : Nat), A = some ⟨L, o, none⟩ ∧ w.cell? ⟨L, o + i * 2, none⟩ = some q.V ∧ w.cell? ⟨L, o + i * 2 + 1, none⟩ = some (.int .i64 q.n) ∧ L < w.heap.size ∧
        (∀ w', Below w.heap.size w w' → Calls Try.prog 18 #[ptrV b, .int .i64 i] w' (Gives w' (ptrV p))) ∧ (∀ w', Below w.heap.size w w' → Calls Try.prog 17 #[ptrV p, q.v] w' (Gives w' (.bool true))) ∧ q.m = S.pages[i].rows.length ∧ q.n = S.pages[i].cols))
  replace RSH := Lib.hid RSH
  clear h H hrb hPb hrs
  obtain ⟨rA, rm, rc, rn⟩ := rs
  simp only [RPg.v, RPg.V] at IS0 IS9 RSH PG ⊢
  generalize hbl : S.below = bl at *
  go_enter Try.func9, Try.ntmps9
  go_upto_region 1 with fail
  (refine wp_region_free (by kernel_rfl) (by kernel_rfl) ?_)
  repeat (go_big_quiet_step (first | ((go_at_call 40; with_reducible exact Calls.free (CN.out _ (by (repeat' (first | (with_reducible exact Below.refl _ _) | (with_reducible refine Below.alloc ?_ ?_ _) | (with_reducible refine below_ext ?_ ?_ _) | (with_reducible refine Below.drew ?_) | (with_reducible refine below_drewN ?_ _) | (with_reducible refine Below.setCell ?_ ?_ _) | go_size | (simp only [go_sem]; omega) | (simp [go_sem]; done) | (simp [go_sem]; omega))))))) | ((go_at_call 12; with_reducible exact Calls.free (NW.out _ (by (repeat' (first | (with_reducible exact Below.refl _ _) | (with_reducible refine Below.alloc ?_ ?_ _) | (with_reducible refine below_ext ?_ ?_ _) | (with_reducible refine Below.drew ?_) | (with_reducible refine below_drewN ?_ _) | (with_reducible refine Below.setCell ?_ ?_ _) | go_size | (simp only [go_sem]; omega) | (simp [go_sem]; done) | (simp [go_sem]; omega))))))) | ((go_at_call 13; with_reducible exact Calls.free (ON.out _ (by (repeat' (first | (with_reducible exact Below.refl _ _) | (with_reducible refine Below.alloc ?_ ?_ _) | (with_reducible refine below_ext ?_ ?_ _) | (with_reducible refine Below.drew ?_) | (with_reducible refine below_drewN ?_ _) | (with_reducible refine Below.setCell ?_ ?_ _) | go_size | (simp only [go_sem]; omega) | (simp [go_sem]; done) | (simp [go_sem]; omega))))))) | ((go_at_call 19; with_reducible exact Calls.free (ST.out _ (by (repeat' (first | (with_reducible exact Below.refl _ _) | (with_reducible refine Below.alloc ?_ ?_ _) | (with_reducible refine below_ext ?_ ?_ _) | (with_reducible refine Below.drew ?_) | (with_reducible refine below_drewN ?_ _) | (with_reducible refine Below.setCell ?_ ?_ _) | go_size | (simp only [go_sem]; omega) | (simp [go_sem]; done) | (simp [go_sem]; omega))))))) | ((go_at_call 17; with_reducible exact Calls.free (IS0.out _ (by (repeat' (first | (with_reducible exact Below.refl _ _) | (with_reducible refine Below.alloc ?_ ?_ _) | (with_reducible refine below_ext ?_ ?_ _) | (with_reducible refine Below.drew ?_) | (with_reducible refine below_drewN ?_ _) | (with_reducible refine Below.setCell ?_ ?_ _) | go_size | (simp only [go_sem]; omega) | (simp [go_sem]; done) | (simp [go_sem]; omega))))))) | ((go_at_call 18; with_reducible exact Calls.free (N1.out _ (by (repeat' (first | (with_reducible exact Below.refl _ _) | (with_reducible refine Below.alloc ?_ ?_ _) | (with_reducible refine below_ext ?_ ?_ _) | (with_reducible refine Below.drew ?_) | (with_reducible refine below_drewN ?_ _) | (with_reducible refine Below.setCell ?_ ?_ _) | go_size | (simp only [go_sem]; omega) | (simp [go_sem]; done) | (simp [go_sem]; omega))))))) | ((go_at_call 18; with_reducible exact Calls.free (N2.out _ (by (repeat' (first | (with_reducible exact Below.refl _ _) | (with_reducible refine Below.alloc ?_ ?_ _) | (with_reducible refine below_ext ?_ ?_ _) | (with_reducible refine Below.drew ?_) | (with_reducible refine below_drewN ?_ _) | (with_reducible refine Below.setCell ?_ ?_ _) | go_size | (simp only [go_sem]; omega) | (simp [go_sem]; done) | (simp [go_sem]; omega)))))))))
  refine wpQuiet_nil ?_; rintro _ ⟨x1, rfl⟩
  go_wp2
  obtain ⟨W, hW⟩ : ∃ W, W = ext (w.alloc (.cells #[.slice A S.pages.length c, .slice sA sm sc, .int .i64 sn, .int .i64 S.now, .bool bl] 30)) x1 := ⟨_, rfl⟩
  have hbW : Below w.heap.size w W := by rw [hW]; (repeat' (first | (with_reducible exact Below.refl _ _) | (with_reducible refine Below.alloc ?_ ?_ _) | (with_reducible refine below_ext ?_ ?_ _) | (with_reducible refine Below.drew ?_) | (with_reducible refine below_drewN ?_ _) | (with_reducible refine Below.setCell ?_ ?_ _) | go_size | (simp only [go_sem]; omega) | (simp [go_sem]; done) | (simp [go_sem]; omega)))
  have a0 : W.cell? ⟨w.heap.size, 0, none⟩ = some (.slice A S.pages.length c) ∧ W.cell? ⟨w.heap.size, 1, none⟩ = some (.slice sA sm sc) ∧ W.cell? ⟨w.heap.size, 2, none⟩ = some (.int .i64 sn) ∧ W.cell? ⟨w.heap.size, 3, none⟩ = some (.int .i64 S.now) ∧ W.cell? ⟨w.heap.size, 4, none⟩ = some (.bool bl) := by rw [hW]; refine ⟨?_, ?_, ?_, ?_, ?_⟩ <;> simp [go_sem]
  have hs0 : w.heap.size < W.heap.size := by rw [hW]; simp; omega
  rw [← hW]
  clear hW CN NW ON ST N1 N2 IS0
  obtain ⟨c0, c1, c2, c3, c4⟩ := a0
  replace hbW := Lib.hid hbW
  go_loopw [57] (fun iv wr => ∃ (j : Nat) (x : More), j ≤ S.pages.length ∧ iv = .int .i64 j ∧ wr = ext W x) (fun iv _ => S.pages.length - (intOf iv).toNat)
  case atStart => exact ⟨0, ⟨#[], W.drawn⟩, by omega, rfl, by simp [ext]⟩
  case round =>
    obtain ⟨j, x, hj, rfl, rfl⟩ := hrel
    have hbx := Lib.hid (below_ext hbW.out hbW.out.size x)
    by_cases hlt : j < S.pages.length
    · obtain ⟨p, ⟨qA, qm, qc, qn⟩, L, o, rfl, d0, d1, hL, PGj, ISj, -, -⟩ := PG.out j hlt
      simp only [RPg.v, RPg.V] at d0 d1 ISj
      replace PGj := Lib.hid PGj
      replace ISj := Lib.hid ISj
      have e0 := (hbW.out.cell (p := ⟨L, _, none⟩) hL).trans d0
      have e1 := (hbW.out.cell (p := ⟨L, _, none⟩) hL).trans d1
      have hL' : L < W.heap.size := Nat.lt_of_lt_of_le hL hbW.out.size
      clear d0 d1 hL
      go_wp2
      (refine wp_region_free (by kernel_rfl) (by kernel_rfl) ?_)
      repeat (go_big_quiet_step (first | ((go_at_call 18; with_reducible exact Calls.free (PGj.out _ (hbx.out.trans (Below.mono (B := (ext W x).heap.size) (by (repeat' (first | (with_reducible exact Below.refl _ _) | (with_reducible refine Below.alloc ?_ ?_ _) | (with_reducible refine below_ext ?_ ?_ _) | (with_reducible refine Below.drew ?_) | (with_reducible refine below_drewN ?_ _) | (with_reducible refine Below.setCell ?_ ?_ _) | go_size | (simp only [go_sem]; omega) | (simp [go_sem]; done) | (simp [go_sem]; omega)))) hbx.out.size))))) | ((go_at_call 17; with_reducible exact Calls.free (ISj.out _ (hbx.out.trans (Below.mono (B := (ext W x).heap.size) (by (repeat' (first | (with_reducible exact Below.refl _ _) | (with_reducible refine Below.alloc ?_ ?_ _) | (with_reducible refine below_ext ?_ ?_ _) | (with_reducible refine Below.drew ?_) | (with_reducible refine below_drewN ?_ _) | (with_reducible refine Below.setCell ?_ ?_ _) | go_size | (simp only [go_sem]; omega) | (simp [go_sem]; done) | (simp [go_sem]; omega)))) hbx.out.size)))))))
      refine wpQuiet_nil ?_; rintro _ ⟨x3, rfl⟩
      go_wp2
      obtain ⟨x9, e9⟩ := ext_of (show Below W.heap.size W (ext ((ext W x).alloc (.cells #[.slice qA qm qc, .int .i64 qn] 28)) x3) by (repeat' (first | (with_reducible exact Below.refl _ _) | (with_reducible refine Below.alloc ?_ ?_ _) | (with_reducible refine below_ext ?_ ?_ _) | (with_reducible refine Below.drew ?_) | (with_reducible refine below_drewN ?_ _) | (with_reducible refine Below.setCell ?_ ?_ _) | go_size | (simp only [go_sem]; omega) | (simp [go_sem]; done) | (simp [go_sem]; omega))))
      exact ⟨⟨j + 1, x9, by omega, by go_num, e9⟩, by simp [intOf]; omega⟩
    · obtain rfl : j = S.pages.length := by omega
      obtain ⟨p, ⟨qA, qm, qc, qn⟩, L, o, rfl, d0, d1, hL, -, -, g1, g2⟩ := PG.out 0 h0
      have e : S.pages.getD 0 S.status = S.pages[0] := by simp [List.getD_eq_getElem?_getD, h0]
      have h1 : qm = S.rows := by unfold BkS.rows; rw [e]; exact g1
      have h2 : qn = S.cols := by unfold BkS.cols; rw [e]; exact g2
      subst h1 h2
      simp only [RPg.V, Nat.zero_mul, Nat.add_zero] at d0 d1
      have e0 := (hbW.out.cell (p := ⟨L, _, none⟩) hL).trans d0
      have e1 := (hbW.out.cell (p := ⟨L, _, none⟩) hL).trans d1
      have hL' : L < W.heap.size := Nat.lt_of_lt_of_le hL hbW.out.size
      clear d0 d1 hL g1 g2 e PG
      go_upto_region 10 with (go_at_call 44; ((with_reducible refine (SZ.out _ (hbx.out.trans (Below.mono (B := (ext W x).heap.size) (by (repeat' (first | (with_reducible exact Below.refl _ _) | (with_reducible refine Below.alloc ?_ ?_ _) | (with_reducible refine below_ext ?_ ?_ _) | (with_reducible refine Below.drew ?_) | (with_reducible refine below_drewN ?_ _) | (with_reducible refine Below.setCell ?_ ?_ _) | go_size | (simp only [go_sem]; omega) | (simp [go_sem]; done) | (simp [go_sem]; omega)))) hbx.out.size))).mono ?_); rintro _ _ hgets; obtain ⟨rfl, x4, rfl⟩ := hgets.get; clear hgets))
      (refine wp_region_free (by kernel_rfl) (by kernel_rfl) ?_)
      repeat (go_big_quiet_step (first | ((go_at_call 14; with_reducible exact Calls.free (SH.out _ (hbx.out.trans (Below.mono (B := (ext W x).heap.size) (by (repeat' (first | (with_reducible exact Below.refl _ _) | (with_reducible refine Below.alloc ?_ ?_ _) | (with_reducible refine below_ext ?_ ?_ _) | (with_reducible refine Below.drew ?_) | (with_reducible refine below_drewN ?_ _) | (with_reducible refine Below.setCell ?_ ?_ _) | go_size | (simp only [go_sem]; omega) | (simp [go_sem]; done) | (simp [go_sem]; omega)))) hbx.out.size))))) | ((go_at_call 45; with_reducible exact Calls.free (RSH.out _ (hbx.out.trans (Below.mono (B := (ext W x).heap.size) (by (repeat' (first | (with_reducible exact Below.refl _ _) | (with_reducible refine Below.alloc ?_ ?_ _) | (with_reducible refine below_ext ?_ ?_ _) | (with_reducible refine Below.drew ?_) | (with_reducible refine below_drewN ?_ _) | (with_reducible refine Below.setCell ?_ ?_ _) | go_size | (simp only [go_sem]; omega) | (simp [go_sem]; done) | (simp [go_sem]; omega)))) hbx.out.size))))) | ((go_at_call 17; with_reducible exact Calls.free (IS9.out _ (hbx.out.trans (Below.mono (B := (ext W x).heap.size) (by (repeat' (first | (with_reducible exact Below.refl _ _) | (with_reducible refine Below.alloc ?_ ?_ _) | (with_reducible refine below_ext ?_ ?_ _) | (with_reducible refine Below.drew ?_) | (with_reducible refine below_drewN ?_ _) | (with_reducible refine Below.setCell ?_ ?_ _) | go_size | (simp only [go_sem]; omega) | (simp [go_sem]; done) | (simp [go_sem]; omega)))) hbx.out.size)))))))
      refine wpQuiet_nil ?_; rintro _ ⟨x5, rfl⟩
      go_wp2
      go_returns
      exact ⟨rfl, hbx.out.trans (Below.mono (B := (ext W x).heap.size) (by (repeat' (first | (with_reducible exact Below.refl _ _) | (with_reducible refine Below.alloc ?_ ?_ _) | (with_reducible refine below_ext ?_ ?_ _) | (with_reducible refine Below.drew ?_) | (with_reducible refine below_drewN ?_ _) | (with_reducible refine Below.setCell ?_ ?_ _) | go_size | (simp only [go_sem]; omega) | (simp [go_sem]; done) | (simp [go_sem]; omega)))) hbx.out.size)⟩
end
end Go.Proofs.Ytpahcgappaifnaa
/- Books: an act of the laws; what both sides of an act come to.  -/
namespace Go.Proofs.Ytpahcgappaifnaa
open Go.RowKit
set_option linter.unusedVariables false
set_option linter.unusedSimpArgs false

/-- an act: its numbers, its box, its place, its cell -/
structure ActB where
  kd : Int
  n : Int
  tt : Int
  b : BxI
  r : Int
  c : Int
  y : Cl
def ActB.cells (a : ActB) : List Value := [.int .i64 a.kd, .int .i64 a.n, .int .i64 a.tt, .int .i64 a.b.t, .int .i64 a.b.l, .int .i64 a.b.b, .int .i64 a.b.r, .int .i64 a.r, .int .i64 a.c, .int .i32 a.y.g, .int .u8 a.y.r, .bool a.y.k]
def ActB.v (a : ActB) : Value := .agg a.cells.toArray
structure ActB.Ok (a : ActB) : Prop where
  r1 : -9223372036854775808 ≤ a.r
  c1 : -9223372036854775808 ≤ a.c
  y : a.y.ok
/-- is a number odd, as Go's % says -/
abbrev oddI (n : Int) : Bool := n.tmod 2 != 0
def BkS.lookAt (S : BkS) (x : Bool) : BkS := ⟨S.pages, S.status, S.now, x⟩
/-- an act on the plain book -/
def bdoS (S : BkS) (a : ActB) : BkS :=
  if a.kd = 1 then S.turn a.n
  else if a.kd = 2 then S.step a.n
  else if a.kd = 3 then S.lookAt (oddI a.n)
  else if a.kd = 4 then S.copy a.n a.b a.tt a.r a.c
  else if a.kd = 5 then S.resize (clampR a.n (-1) 20) (clampR a.tt (-1) 20)
  else if a.kd = 6 then S.erase
  else if a.kd = 7 then S.set S.at (putS S.sheet a.r a.c a.y)
  else S
theorem bdo_ok {S : BkS} (hS : S.Ok) {a : ActB} (ha : a.Ok) : (bdoS S a).Ok := by
  unfold bdoS
  split
  · exact turn_ok hS _
  split
  · exact turn_ok hS _
  split
  · exact ⟨hS.p1, hS.p2, hS.nw, hS.pg, hS.st⟩
  split
  · exact S.copy_ok hS _ _ _ _ _
  split
  · exact S.resize_ok hS _ _
  split
  · exact BkS.erase_ok hS
  split
  · exact hS.set _ (putS_ok (BkS.sheet_ok hS) _ _ ha.y)
  · exact hS
/-- how an act of both ends: the document's book lies off the blocks G, too -/
def BDoR (F : Nat → Prop) (b : Nat) (G : Nat → Prop) (T : BkS) (w : World) (e : Ending) (w' : World) : Prop :=
  ∃ U' F', e = .returned (.tuple #[U', .bool true]) ∧ Keep F w w' ∧ BkAt w' F' b T ∧ RBk w' (fun x => F' x ∨ G x) U' T ∧ ∀ x, F' x → F x ∨ w.heap.size ≤ x
/-- the blocks that a document's book made behind the program's act lies off -/
def offs (F G : Nat → Prop) (w w1 : World) (x : Nat) : Prop := (F x ∨ G x ∨ w.heap.size ≤ x) ∧ x < w1.heap.size
section
variable {w w0 w1 w2 w3 : World} {F G : Nat → Prop} {b : Nat} {S T : BkS} {U U' : Value}
theorem offs_old (hR : RBk w (fun x => F x ∨ G x) U S) (hb0 : Below w.heap.size w w0) (hk : Keep F w0 w1) : RBk w1 (offs F G w w1) U S := by
  have h1 : RBk w (fun x => F x ∨ G x ∨ w.heap.size ≤ x) U S := hR.mono (fun x hx g => by rcases g with g | g | g; exact .inl g; exact .inr g; omega)
  have h2 : RBk w1 (fun x => F x ∨ G x ∨ w.heap.size ≤ x) U S := (h1.grow hb0).keep hk (fun x hx f => hx (.inl f))
  exact h2.mono (fun x _ g => g.1)
theorem bdo_fin (hD : BDid F b T w0 w1) (hb0 : Below w.heap.size w w0) (hF : ∀ x, F x → x < w.heap.size) (hR2 : RBk w2 (offs F G w w1) U' T) (hb2 : Below w1.heap.size w1 w2) (hk3 : Keep (fun x => w.heap.size ≤ x ∧ x < w0.heap.size) w2 w3) (hG : ∀ x, G x → x < w.heap.size) :
    BDoR F b G T w (.returned (.tuple #[U', .bool true])) w3 := by
  have s0 := hb0.size
  have s1 := hD.1.size
  have hk : Keep F w w1 := (Keep.of_below (F := F) hb0).trans hD.1 (fun x hx => .inl hx)
  have hk2 : Keep F w w2 := hk.trans (Keep.of_below (F := fun _ => False) hb2) (fun _ f => f.elim)
  refine ⟨U', more F w0 w1, rfl, hk2.trans hk3 (fun x hx => .inr hx.1), (hD.2.grow hb2).keep hk3 (fun x hx g => ?_), ?_, fun x hx => hx.imp_right (fun e => by omega)⟩
  · rcases hx with hx | hx
    · have := hF x hx; omega
    · omega
  · refine (hR2.keep hk3 (fun x hx g => hx ⟨.inr (.inr g.1), by omega⟩)).mono (fun x _ g => ?_)
    rcases g with (g | g) | g
    · exact ⟨.inl g, by have := hF x g; omega⟩
    · exact ⟨.inr (.inr (by omega)), g.2⟩
    · exact ⟨.inr (.inl g), by have := hG x g; omega⟩
theorem thr_0 (w : World) (o1 o2 o3 : Obj) : (((w.alloc o1).alloc o2).alloc o3).heap[w.heap.size]? = some o1 := by
  have hb : Below (w.alloc o1).heap.size (w.alloc o1) (((w.alloc o1).alloc o2).alloc o3) := by (repeat' (first | (with_reducible exact Below.refl _ _) | (with_reducible refine Below.alloc ?_ ?_ _) | (with_reducible refine below_ext ?_ ?_ _) | (with_reducible refine Below.drew ?_) | (with_reducible refine below_drewN ?_ _) | (with_reducible refine Below.setCell ?_ ?_ _) | go_size | (simp only [go_sem]; omega) | (simp [go_sem]; done) | (simp [go_sem]; omega)))
  exact (hb.block w.heap.size (by simp)).trans (heap_alloc_new w o1)
theorem thr_1 (w : World) (o1 o2 o3 : Obj) : (((w.alloc o1).alloc o2).alloc o3).heap[w.heap.size + 1]? = some o2 := by
  have hb : Below ((w.alloc o1).alloc o2).heap.size ((w.alloc o1).alloc o2) (((w.alloc o1).alloc o2).alloc o3) := by (repeat' (first | (with_reducible exact Below.refl _ _) | (with_reducible refine Below.alloc ?_ ?_ _) | (with_reducible refine below_ext ?_ ?_ _) | (with_reducible refine Below.drew ?_) | (with_reducible refine below_drewN ?_ _) | (with_reducible refine Below.setCell ?_ ?_ _) | go_size | (simp only [go_sem]; omega) | (simp [go_sem]; done) | (simp [go_sem]; omega)))
  have := heap_alloc_new (w.alloc o1) o2
  rw [World.size_alloc] at this
  exact (hb.block (w.heap.size + 1) (by simp)).trans this
theorem thr_2 (w : World) (o1 o2 o3 : Obj) : (((w.alloc o1).alloc o2).alloc o3).heap[w.heap.size + 1 + 1]? = some o3 := by
  have := heap_alloc_new ((w.alloc o1).alloc o2) o3
  rwa [World.size_alloc, World.size_alloc] at this
theorem store5e {b : Nat} {u0 u1 u2 u3 u4 : Value} {t : TypeId} (x : More) (h : w.heap[b]? = some (.cells #[u0, u1, u2, u3, u4] t (0, 0))) (v0 v1 v2 v3 v4 : Value) :
    ∃ W', ext (((((w.setCell ⟨b, 0, none⟩ v0).setCell ⟨b, 1, none⟩ v1).setCell ⟨b, 2, none⟩ v2).setCell ⟨b, 3, none⟩ v3).setCell ⟨b, 4, none⟩ v4) x = W' ∧ Keep (· = b) (ext w x) W' ∧ W'.heap[b]? = some (.cells #[v0, v1, v2, v3, v4] t (0, 0)) := by
  have hl := heap_in h
  obtain ⟨W', e, hk, hh⟩ := store5 ((block_ext w x hl).trans h) v0 v1 v2 v3 v4
  refine ⟨W', ?_, hk, hh⟩
  rw [← e, setCell_ext _ _ _ _ _ hl, setCell_ext _ _ _ _ _ (by simpa using hl), setCell_ext _ _ _ _ _ (by simpa using hl), setCell_ext _ _ _ _ _ (by simpa using hl), setCell_ext _ _ _ _ _ (by simpa using hl)]
end
end Go.Proofs.Ytpahcgappaifnaa
/- Books: do, act by act (Turn, Step, Erase).  -/
namespace Go.Proofs.Ytpahcgappaifnaa
open Go.RowKit
set_option linter.unusedVariables false
set_option linter.unusedSimpArgs false

section
variable {w : World} {F G : Nat → Prop} {b : Nat} {S : BkS} {U : Value}
set_option maxRecDepth 100000 in
set_option maxHeartbeats 8000000 in
theorem bdo1 (h : BkAt w F b S) (hS : S.Ok) (hR : RBk w (fun x => F x ∨ G x) U S) (hG : ∀ x, G x → x < w.heap.size) (n tt xt xl xb xr pr pc yg yr : Int) (yk : Bool) (h1 : -9223372036854775808 ≤ pr) (h2 : -9223372036854775808 ≤ pc) :
    Calls Try.prog 37 #[ptrV b, U, .agg #[.int .i64 1, .int .i64 n, .int .i64 tt, .int .i64 xt, .int .i64 xl, .int .i64 xb, .int .i64 xr, .int .i64 pr, .int .i64 pc, .int .i32 yg, .int .u8 yr, .bool yk]] w (BDoR F b G (S.turn n) w) := by
  obtain ⟨V, ps, st, h⟩ := h
  have hF := h.lt
  have hR' := Lib.hid hR
  obtain ⟨A, c, us, ⟨sA, sm, sc, sn⟩, rfl, -⟩ := hR
  simp only [RPg.V] at hR' ⊢
  have p2 := hS.p2
  have PB := Lib.hid (fun w' (hb : Below w.heap.size w w') => turn_b (h.grow hb) hS n)
  have hB := Lib.hid (fun w0 (hb : Below w.heap.size w w0) => h.grow hb)
  clear h
  have RC := Lib.hid (fun w1 (hR1 : RBk w1 (offs F G w w1) (rbV A S.pages.length c (.slice sA sm sc) sn S.now S.below) S) (hF1 : ∀ x, offs F G w w1 x → x < w1.heap.size) => (rturn_c n hR1 hS : Calls Try.prog 69 #[rbV A S.pages.length c (.slice sA sm sc) sn S.now S.below, .int .i64 n] w1 (NewRB (offs F G w w1) (S.turn n) w1)))
  generalize S.turn n = T at PB RC ⊢
  go_enter Try.func37, Try.ntmps37
  go_upto_region 4 with ((go_at_call 11); (with_reducible refine (PB.out _ (by (repeat' (first | (with_reducible exact Below.refl _ _) | (with_reducible refine Below.alloc ?_ ?_ _) | (with_reducible refine below_ext ?_ ?_ _) | (with_reducible refine Below.drew ?_) | (with_reducible refine below_drewN ?_ _) | (with_reducible refine Below.setCell ?_ ?_ _) | go_size | (simp only [go_sem]; omega) | (simp [go_sem]; done) | (simp [go_sem]; omega))))).mono ?_); (rintro _ w1 ⟨rfl, hD⟩); replace hD := Lib.hid hD)
  obtain ⟨w0, hw0⟩ : ∃ w0, w0 = ((w.alloc (.cells #[.slice A S.pages.length c, .slice sA sm sc, .int .i64 sn, .int .i64 S.now, .bool S.below] 30)).alloc (.cells #[.int .i64 1, .int .i64 n, .int .i64 tt, .int .i64 xt, .int .i64 xl, .int .i64 xb, .int .i64 xr, .int .i64 pr, .int .i64 pc, .int .i32 yg, .int .u8 yr, .bool yk] 43)).alloc (.cells #[.slice none 0 0, .slice none 0 0, .int .i64 0, .int .i64 0, .bool false] 30) := ⟨_, rfl⟩
  have hb0 : Below w.heap.size w w0 := by rw [hw0]; (repeat' (first | (with_reducible exact Below.refl _ _) | (with_reducible refine Below.alloc ?_ ?_ _) | (with_reducible refine below_ext ?_ ?_ _) | (with_reducible refine Below.drew ?_) | (with_reducible refine below_drewN ?_ _) | (with_reducible refine Below.setCell ?_ ?_ _) | go_size | (simp only [go_sem]; omega) | (simp [go_sem]; done) | (simp [go_sem]; omega)))
  have hs0 : w.heap.size + 1 + 1 < w0.heap.size := by rw [hw0]; simp
  have b0 : w0.heap[w.heap.size]? = some (.cells #[.slice A S.pages.length c, .slice sA sm sc, .int .i64 sn, .int .i64 S.now, .bool S.below] 30 (0, 0)) := by rw [hw0]; exact thr_0 _ _ _ _
  have b1 : w0.heap[w.heap.size + 1]? = some (.cells #[.int .i64 1, .int .i64 n, .int .i64 tt, .int .i64 xt, .int .i64 xl, .int .i64 xb, .int .i64 xr, .int .i64 pr, .int .i64 pc, .int .i32 yg, .int .u8 yr, .bool yk] 43 (0, 0)) := by rw [hw0]; exact thr_1 _ _ _ _
  have b2 : w0.heap[w.heap.size + 1 + 1]? = some (.cells #[.slice none 0 0, .slice none 0 0, .int .i64 0, .int .i64 0, .bool false] 30 (0, 0)) := by rw [hw0]; exact thr_2 _ _ _ _
  rw [← hw0] at hD
  clear hw0
  replace b0 := (hD.out.1.block _ (by omega) (fun f => by have := hF _ f; omega)).trans b0
  replace b1 := (hD.out.1.block _ (by omega) (fun f => by have := hF _ f; omega)).trans b1
  replace b2 := (hD.out.1.block _ (by omega) (fun f => by have := hF _ f; omega)).trans b2
  have hs1 : w.heap.size + 1 + 1 < w1.heap.size := heap_in b2
  have HR1 := Lib.hid (offs_old hR'.out hb0 hD.out.1)
  have hF1 : ∀ x, offs F G w w1 x → x < w1.heap.size := fun x hx => hx.2
  have FIN := Lib.hid (fun w2 w3 U' (hR2 : RBk w2 (offs F G w w1) U' (T)) (hb2 : Below w1.heap.size w1 w2) (hk3 : Keep (fun x => w.heap.size ≤ x ∧ x < w0.heap.size) w2 w3) => bdo_fin hD.out hb0 hF hR2 hb2 hk3 hG)
  clear hD hb0 hR'
  obtain ⟨e0, e1, e2, e3, e4, el, -⟩ := five b0
  obtain ⟨v0, v1, v2, v3, v4, vl, vf⟩ := five b2
  have vf0 := vf 0
  have vf1 := vf 1
  have vf2 := vf 2
  have vf3 := vf 3
  have vf4 := vf 4
  clear vf b0
  replace b2 := Lib.hid b2
  have k1 : w1.cell? ⟨w.heap.size + 1, 1, none⟩ = some (.int .i64 n) := by rw [cell_in b1]; rfl
  have kl := heap_in b1
  clear b1
  go_wp2_with ((go_at_call 69); (with_reducible refine (RC.out _ HR1.out hF1).mono ?_); (rintro _ _ ⟨U', x2, rfl, rfl, hB⟩); (obtain ⟨A2, c2, us2, ⟨tA, tm, tc, tn⟩, rfl, H2⟩ := hB); (try simp only [RPg.V]); replace H2 := Lib.hid H2)
  have H3 : RBk (ext w1 x2) (offs F G w w1) (rbV A2 (T).pages.length c2 (.slice tA tm tc) tn (T).now (T).below) (T) := ⟨A2, c2, us2, ⟨tA, tm, tc, tn⟩, rfl, H2.out⟩
  obtain ⟨W3, h3, hk3, hs3⟩ := store5e x2 b2.out (.slice A2 (T).pages.length c2) (.slice tA tm tc) (.int .i64 tn) (.int .i64 (T).now) (.bool (T).below)
  rw [h3]
  obtain ⟨s0, s1, s2, s3, s4, sl, -⟩ := five hs3
  have FN2 := Lib.hid (FIN.out _ _ _ H3 (below_of_ext w1 x2) (hk3.mono (fun x hx => by omega)))
  clear hs3 b2 h3 FIN
  simp [bodyPost, go_sem, s0, s1, s2, s3, s4]
  exact ⟨_, by simp [results, Try.f37, go_sem, s0, s1, s2, s3, s4] <;> rfl, FN2.out⟩
set_option maxRecDepth 100000 in
set_option maxHeartbeats 8000000 in
theorem bdo2 (h : BkAt w F b S) (hS : S.Ok) (hR : RBk w (fun x => F x ∨ G x) U S) (hG : ∀ x, G x → x < w.heap.size) (n tt xt xl xb xr pr pc yg yr : Int) (yk : Bool) (h1 : -9223372036854775808 ≤ pr) (h2 : -9223372036854775808 ≤ pc) :
    Calls Try.prog 37 #[ptrV b, U, .agg #[.int .i64 2, .int .i64 n, .int .i64 tt, .int .i64 xt, .int .i64 xl, .int .i64 xb, .int .i64 xr, .int .i64 pr, .int .i64 pc, .int .i32 yg, .int .u8 yr, .bool yk]] w (BDoR F b G (S.step n) w) := by
  obtain ⟨V, ps, st, h⟩ := h
  have hF := h.lt
  have hR' := Lib.hid hR
  obtain ⟨A, c, us, ⟨sA, sm, sc, sn⟩, rfl, -⟩ := hR
  simp only [RPg.V] at hR' ⊢
  have p2 := hS.p2
  have PB := Lib.hid (fun w' (hb : Below w.heap.size w w') => step_b (h.grow hb) hS n)
  have hB := Lib.hid (fun w0 (hb : Below w.heap.size w w0) => h.grow hb)
  clear h
  have RC := Lib.hid (fun w1 (hR1 : RBk w1 (offs F G w w1) (rbV A S.pages.length c (.slice sA sm sc) sn S.now S.below) S) (hF1 : ∀ x, offs F G w w1 x → x < w1.heap.size) => (rstep_c n hR1 hS : Calls Try.prog 70 #[rbV A S.pages.length c (.slice sA sm sc) sn S.now S.below, .int .i64 n] w1 (NewRB (offs F G w w1) (S.step n) w1)))
  generalize S.step n = T at PB RC ⊢
  go_enter Try.func37, Try.ntmps37
  go_upto_region 7 with ((go_at_call 41); (with_reducible refine (PB.out _ (by (repeat' (first | (with_reducible exact Below.refl _ _) | (with_reducible refine Below.alloc ?_ ?_ _) | (with_reducible refine below_ext ?_ ?_ _) | (with_reducible refine Below.drew ?_) | (with_reducible refine below_drewN ?_ _) | (with_reducible refine Below.setCell ?_ ?_ _) | go_size | (simp only [go_sem]; omega) | (simp [go_sem]; done) | (simp [go_sem]; omega))))).mono ?_); (rintro _ w1 ⟨rfl, hD⟩); replace hD := Lib.hid hD)
  obtain ⟨w0, hw0⟩ : ∃ w0, w0 = ((w.alloc (.cells #[.slice A S.pages.length c, .slice sA sm sc, .int .i64 sn, .int .i64 S.now, .bool S.below] 30)).alloc (.cells #[.int .i64 2, .int .i64 n, .int .i64 tt, .int .i64 xt, .int .i64 xl, .int .i64 xb, .int .i64 xr, .int .i64 pr, .int .i64 pc, .int .i32 yg, .int .u8 yr, .bool yk] 43)).alloc (.cells #[.slice none 0 0, .slice none 0 0, .int .i64 0, .int .i64 0, .bool false] 30) := ⟨_, rfl⟩
  have hb0 : Below w.heap.size w w0 := by rw [hw0]; (repeat' (first | (with_reducible exact Below.refl _ _) | (with_reducible refine Below.alloc ?_ ?_ _) | (with_reducible refine below_ext ?_ ?_ _) | (with_reducible refine Below.drew ?_) | (with_reducible refine below_drewN ?_ _) | (with_reducible refine Below.setCell ?_ ?_ _) | go_size | (simp only [go_sem]; omega) | (simp [go_sem]; done) | (simp [go_sem]; omega)))
  have hs0 : w.heap.size + 1 + 1 < w0.heap.size := by rw [hw0]; simp
  have b0 : w0.heap[w.heap.size]? = some (.cells #[.slice A S.pages.length c, .slice sA sm sc, .int .i64 sn, .int .i64 S.now, .bool S.below] 30 (0, 0)) := by rw [hw0]; exact thr_0 _ _ _ _
  have b1 : w0.heap[w.heap.size + 1]? = some (.cells #[.int .i64 2, .int .i64 n, .int .i64 tt, .int .i64 xt, .int .i64 xl, .int .i64 xb, .int .i64 xr, .int .i64 pr, .int .i64 pc, .int .i32 yg, .int .u8 yr, .bool yk] 43 (0, 0)) := by rw [hw0]; exact thr_1 _ _ _ _
  have b2 : w0.heap[w.heap.size + 1 + 1]? = some (.cells #[.slice none 0 0, .slice none 0 0, .int .i64 0, .int .i64 0, .bool false] 30 (0, 0)) := by rw [hw0]; exact thr_2 _ _ _ _
  rw [← hw0] at hD
  clear hw0
  replace b0 := (hD.out.1.block _ (by omega) (fun f => by have := hF _ f; omega)).trans b0
  replace b1 := (hD.out.1.block _ (by omega) (fun f => by have := hF _ f; omega)).trans b1
  replace b2 := (hD.out.1.block _ (by omega) (fun f => by have := hF _ f; omega)).trans b2
  have hs1 : w.heap.size + 1 + 1 < w1.heap.size := heap_in b2
  have HR1 := Lib.hid (offs_old hR'.out hb0 hD.out.1)
  have hF1 : ∀ x, offs F G w w1 x → x < w1.heap.size := fun x hx => hx.2
  have FIN := Lib.hid (fun w2 w3 U' (hR2 : RBk w2 (offs F G w w1) U' (T)) (hb2 : Below w1.heap.size w1 w2) (hk3 : Keep (fun x => w.heap.size ≤ x ∧ x < w0.heap.size) w2 w3) => bdo_fin hD.out hb0 hF hR2 hb2 hk3 hG)
  clear hD hb0 hR'
  obtain ⟨e0, e1, e2, e3, e4, el, -⟩ := five b0
  obtain ⟨v0, v1, v2, v3, v4, vl, vf⟩ := five b2
  have vf0 := vf 0
  have vf1 := vf 1
  have vf2 := vf 2
  have vf3 := vf 3
  have vf4 := vf 4
  clear vf b0
  replace b2 := Lib.hid b2
  have k1 : w1.cell? ⟨w.heap.size + 1, 1, none⟩ = some (.int .i64 n) := by rw [cell_in b1]; rfl
  have kl := heap_in b1
  clear b1
  go_wp2_with ((go_at_call 70); (with_reducible refine (RC.out _ HR1.out hF1).mono ?_); (rintro _ _ ⟨U', x2, rfl, rfl, hB⟩); (obtain ⟨A2, c2, us2, ⟨tA, tm, tc, tn⟩, rfl, H2⟩ := hB); (try simp only [RPg.V]); replace H2 := Lib.hid H2)
  have H3 : RBk (ext w1 x2) (offs F G w w1) (rbV A2 (T).pages.length c2 (.slice tA tm tc) tn (T).now (T).below) (T) := ⟨A2, c2, us2, ⟨tA, tm, tc, tn⟩, rfl, H2.out⟩
  obtain ⟨W3, h3, hk3, hs3⟩ := store5e x2 b2.out (.slice A2 (T).pages.length c2) (.slice tA tm tc) (.int .i64 tn) (.int .i64 (T).now) (.bool (T).below)
  rw [h3]
  obtain ⟨s0, s1, s2, s3, s4, sl, -⟩ := five hs3
  have FN2 := Lib.hid (FIN.out _ _ _ H3 (below_of_ext w1 x2) (hk3.mono (fun x hx => by omega)))
  clear hs3 b2 h3 FIN
  simp [bodyPost, go_sem, s0, s1, s2, s3, s4]
  exact ⟨_, by simp [results, Try.f37, go_sem, s0, s1, s2, s3, s4] <;> rfl, FN2.out⟩
set_option maxRecDepth 100000 in
set_option maxHeartbeats 8000000 in
theorem bdo6 (h : BkAt w F b S) (hS : S.Ok) (hR : RBk w (fun x => F x ∨ G x) U S) (hG : ∀ x, G x → x < w.heap.size) (n tt xt xl xb xr pr pc yg yr : Int) (yk : Bool) (h1 : -9223372036854775808 ≤ pr) (h2 : -9223372036854775808 ≤ pc) :
    Calls Try.prog 37 #[ptrV b, U, .agg #[.int .i64 6, .int .i64 n, .int .i64 tt, .int .i64 xt, .int .i64 xl, .int .i64 xb, .int .i64 xr, .int .i64 pr, .int .i64 pc, .int .i32 yg, .int .u8 yr, .bool yk]] w (BDoR F b G (S.erase) w) := by
  obtain ⟨V, ps, st, h⟩ := h
  have hF := h.lt
  have hR' := Lib.hid hR
  obtain ⟨A, c, us, ⟨sA, sm, sc, sn⟩, rfl, -⟩ := hR
  simp only [RPg.V] at hR' ⊢
  have p2 := hS.p2
  have PB := Lib.hid (fun w' (hb : Below w.heap.size w w') => erase_b (h.grow hb) hS)
  have hB := Lib.hid (fun w0 (hb : Below w.heap.size w w0) => h.grow hb)
  clear h
  have RC := Lib.hid (fun w1 (hR1 : RBk w1 (offs F G w w1) (rbV A S.pages.length c (.slice sA sm sc) sn S.now S.below) S) (hF1 : ∀ x, offs F G w w1 x → x < w1.heap.size) => (rerase_c hR1 hS hF1 : Calls Try.prog 76 #[rbV A S.pages.length c (.slice sA sm sc) sn S.now S.below] w1 (NewRB (offs F G w w1) (S.erase) w1)))
  generalize S.erase = T at PB RC ⊢
  go_enter Try.func37, Try.ntmps37
  go_upto_region 20 with ((go_at_call 75); (with_reducible refine (PB.out _ (by (repeat' (first | (with_reducible exact Below.refl _ _) | (with_reducible refine Below.alloc ?_ ?_ _) | (with_reducible refine below_ext ?_ ?_ _) | (with_reducible refine Below.drew ?_) | (with_reducible refine below_drewN ?_ _) | (with_reducible refine Below.setCell ?_ ?_ _) | go_size | (simp only [go_sem]; omega) | (simp [go_sem]; done) | (simp [go_sem]; omega))))).mono ?_); (rintro _ w1 ⟨rfl, hD⟩); replace hD := Lib.hid hD)
  obtain ⟨w0, hw0⟩ : ∃ w0, w0 = ((w.alloc (.cells #[.slice A S.pages.length c, .slice sA sm sc, .int .i64 sn, .int .i64 S.now, .bool S.below] 30)).alloc (.cells #[.int .i64 6, .int .i64 n, .int .i64 tt, .int .i64 xt, .int .i64 xl, .int .i64 xb, .int .i64 xr, .int .i64 pr, .int .i64 pc, .int .i32 yg, .int .u8 yr, .bool yk] 43)).alloc (.cells #[.slice none 0 0, .slice none 0 0, .int .i64 0, .int .i64 0, .bool false] 30) := ⟨_, rfl⟩
  have hb0 : Below w.heap.size w w0 := by rw [hw0]; (repeat' (first | (with_reducible exact Below.refl _ _) | (with_reducible refine Below.alloc ?_ ?_ _) | (with_reducible refine below_ext ?_ ?_ _) | (with_reducible refine Below.drew ?_) | (with_reducible refine below_drewN ?_ _) | (with_reducible refine Below.setCell ?_ ?_ _) | go_size | (simp only [go_sem]; omega) | (simp [go_sem]; done) | (simp [go_sem]; omega)))
  have hs0 : w.heap.size + 1 + 1 < w0.heap.size := by rw [hw0]; simp
  have b0 : w0.heap[w.heap.size]? = some (.cells #[.slice A S.pages.length c, .slice sA sm sc, .int .i64 sn, .int .i64 S.now, .bool S.below] 30 (0, 0)) := by rw [hw0]; exact thr_0 _ _ _ _
  have b1 : w0.heap[w.heap.size + 1]? = some (.cells #[.int .i64 6, .int .i64 n, .int .i64 tt, .int .i64 xt, .int .i64 xl, .int .i64 xb, .int .i64 xr, .int .i64 pr, .int .i64 pc, .int .i32 yg, .int .u8 yr, .bool yk] 43 (0, 0)) := by rw [hw0]; exact thr_1 _ _ _ _
  have b2 : w0.heap[w.heap.size + 1 + 1]? = some (.cells #[.slice none 0 0, .slice none 0 0, .int .i64 0, .int .i64 0, .bool false] 30 (0, 0)) := by rw [hw0]; exact thr_2 _ _ _ _
  rw [← hw0] at hD
  clear hw0
  replace b0 := (hD.out.1.block _ (by omega) (fun f => by have := hF _ f; omega)).trans b0
  replace b1 := (hD.out.1.block _ (by omega) (fun f => by have := hF _ f; omega)).trans b1
  replace b2 := (hD.out.1.block _ (by omega) (fun f => by have := hF _ f; omega)).trans b2
  have hs1 : w.heap.size + 1 + 1 < w1.heap.size := heap_in b2
  have HR1 := Lib.hid (offs_old hR'.out hb0 hD.out.1)
  have hF1 : ∀ x, offs F G w w1 x → x < w1.heap.size := fun x hx => hx.2
  have FIN := Lib.hid (fun w2 w3 U' (hR2 : RBk w2 (offs F G w w1) U' (T)) (hb2 : Below w1.heap.size w1 w2) (hk3 : Keep (fun x => w.heap.size ≤ x ∧ x < w0.heap.size) w2 w3) => bdo_fin hD.out hb0 hF hR2 hb2 hk3 hG)
  clear hD hb0 hR'
  obtain ⟨e0, e1, e2, e3, e4, el, -⟩ := five b0
  obtain ⟨v0, v1, v2, v3, v4, vl, vf⟩ := five b2
  have vf0 := vf 0
  have vf1 := vf 1
  have vf2 := vf 2
  have vf3 := vf 3
  have vf4 := vf 4
  clear vf b0
  replace b2 := Lib.hid b2
  have kl := heap_in b1
  clear b1
  go_wp2_with ((go_at_call 76); (with_reducible refine (RC.out _ HR1.out hF1).mono ?_); (rintro _ _ ⟨U', x2, rfl, rfl, hB⟩); (obtain ⟨A2, c2, us2, ⟨tA, tm, tc, tn⟩, rfl, H2⟩ := hB); (try simp only [RPg.V]); replace H2 := Lib.hid H2)
  have H3 : RBk (ext w1 x2) (offs F G w w1) (rbV A2 (T).pages.length c2 (.slice tA tm tc) tn (T).now (T).below) (T) := ⟨A2, c2, us2, ⟨tA, tm, tc, tn⟩, rfl, H2.out⟩
  obtain ⟨W3, h3, hk3, hs3⟩ := store5e x2 b2.out (.slice A2 (T).pages.length c2) (.slice tA tm tc) (.int .i64 tn) (.int .i64 (T).now) (.bool (T).below)
  rw [h3]
  obtain ⟨s0, s1, s2, s3, s4, sl, -⟩ := five hs3
  have FN2 := Lib.hid (FIN.out _ _ _ H3 (below_of_ext w1 x2) (hk3.mono (fun x hx => by omega)))
  clear hs3 b2 h3 FIN
  simp [bodyPost, go_sem, s0, s1, s2, s3, s4]
  exact ⟨_, by simp [results, Try.f37, go_sem, s0, s1, s2, s3, s4] <;> rfl, FN2.out⟩
end
end Go.Proofs.Ytpahcgappaifnaa
/- Books: do, act by act (Look, Copy, none).  -/
namespace Go.Proofs.Ytpahcgappaifnaa
open Go.RowKit
set_option linter.unusedVariables false
set_option linter.unusedSimpArgs false

section
variable {w : World} {F G : Nat → Prop} {b : Nat} {S : BkS} {U : Value}
set_option maxRecDepth 100000 in
set_option maxHeartbeats 8000000 in
theorem bdo3 (h : BkAt w F b S) (hS : S.Ok) (hR : RBk w (fun x => F x ∨ G x) U S) (hG : ∀ x, G x → x < w.heap.size) (n tt xt xl xb xr pr pc yg yr : Int) (yk : Bool) (h1 : -9223372036854775808 ≤ pr) (h2 : -9223372036854775808 ≤ pc) :
    Calls Try.prog 37 #[ptrV b, U, .agg #[.int .i64 3, .int .i64 n, .int .i64 tt, .int .i64 xt, .int .i64 xl, .int .i64 xb, .int .i64 xr, .int .i64 pr, .int .i64 pc, .int .i32 yg, .int .u8 yr, .bool yk]] w (BDoR F b G (S.lookAt (oddI n)) w) := by
  obtain ⟨V, ps, st, h⟩ := h
  have hF := h.lt
  have hR' := Lib.hid hR
  obtain ⟨A, c, us, ⟨sA, sm, sc, sn⟩, rfl, -⟩ := hR
  simp only [RPg.V] at hR' ⊢
  have p2 := hS.p2
  have PB := Lib.hid (fun x w' (hb : Below w.heap.size w w') => look_b (h.grow hb) x)
  clear h
  go_enter Try.func37, Try.ntmps37
  go_upto_region 10 with ((go_at_call 10); (with_reducible refine (PB.out _ _ (by (repeat' (first | (with_reducible exact Below.refl _ _) | (with_reducible refine Below.alloc ?_ ?_ _) | (with_reducible refine below_ext ?_ ?_ _) | (with_reducible refine Below.drew ?_) | (with_reducible refine below_drewN ?_ _) | (with_reducible refine Below.setCell ?_ ?_ _) | go_size | (simp only [go_sem]; omega) | (simp [go_sem]; done) | (simp [go_sem]; omega))))).mono ?_); (rintro _ w1 ⟨rfl, hD⟩); replace hD := Lib.hid hD)
  obtain ⟨w0, hw0⟩ : ∃ w0, w0 = ((w.alloc (.cells #[.slice A S.pages.length c, .slice sA sm sc, .int .i64 sn, .int .i64 S.now, .bool S.below] 30)).alloc (.cells #[.int .i64 3, .int .i64 n, .int .i64 tt, .int .i64 xt, .int .i64 xl, .int .i64 xb, .int .i64 xr, .int .i64 pr, .int .i64 pc, .int .i32 yg, .int .u8 yr, .bool yk] 43)).alloc (.cells #[.slice none 0 0, .slice none 0 0, .int .i64 0, .int .i64 0, .bool false] 30) := ⟨_, rfl⟩
  have hb0 : Below w.heap.size w w0 := by rw [hw0]; (repeat' (first | (with_reducible exact Below.refl _ _) | (with_reducible refine Below.alloc ?_ ?_ _) | (with_reducible refine below_ext ?_ ?_ _) | (with_reducible refine Below.drew ?_) | (with_reducible refine below_drewN ?_ _) | (with_reducible refine Below.setCell ?_ ?_ _) | go_size | (simp only [go_sem]; omega) | (simp [go_sem]; done) | (simp [go_sem]; omega)))
  have hs0 : w.heap.size + 1 + 1 < w0.heap.size := by rw [hw0]; simp
  have b0 : w0.heap[w.heap.size]? = some (.cells #[.slice A S.pages.length c, .slice sA sm sc, .int .i64 sn, .int .i64 S.now, .bool S.below] 30 (0, 0)) := by rw [hw0]; exact thr_0 _ _ _ _
  have b1 : w0.heap[w.heap.size + 1]? = some (.cells #[.int .i64 3, .int .i64 n, .int .i64 tt, .int .i64 xt, .int .i64 xl, .int .i64 xb, .int .i64 xr, .int .i64 pr, .int .i64 pc, .int .i32 yg, .int .u8 yr, .bool yk] 43 (0, 0)) := by rw [hw0]; exact thr_1 _ _ _ _
  have b2 : w0.heap[w.heap.size + 1 + 1]? = some (.cells #[.slice none 0 0, .slice none 0 0, .int .i64 0, .int .i64 0, .bool false] 30 (0, 0)) := by rw [hw0]; exact thr_2 _ _ _ _
  rw [← hw0] at hD
  clear hw0
  replace b0 := (hD.out.1.block _ (by omega) (fun f => by have := hF _ f; omega)).trans b0
  replace b1 := (hD.out.1.block _ (by omega) (fun f => by have := hF _ f; omega)).trans b1
  replace b2 := (hD.out.1.block _ (by omega) (fun f => by have := hF _ f; omega)).trans b2
  have hs1 : w.heap.size + 1 + 1 < w1.heap.size := heap_in b2
  have HR1 := Lib.hid (offs_old hR'.out hb0 hD.out.1)
  have hF1 : ∀ x, offs F G w w1 x → x < w1.heap.size := fun x hx => hx.2
  have FIN := Lib.hid (fun w2 w3 U' (hR2 : RBk w2 (offs F G w w1) U' (S.lookAt (oddI n))) (hb2 : Below w1.heap.size w1 w2) (hk3 : Keep (fun x => w.heap.size ≤ x ∧ x < w0.heap.size) w2 w3) => bdo_fin hD.out hb0 hF hR2 hb2 hk3 hG)
  clear hD hb0 hR'
  obtain ⟨e0, e1, e2, e3, e4, el, -⟩ := five b0
  obtain ⟨v0, v1, v2, v3, v4, vl, vf⟩ := five b2
  have vf0 := vf 0
  have vf1 := vf 1
  have vf2 := vf 2
  have vf3 := vf 3
  have vf4 := vf 4
  clear vf
  have b0' := b0
  clear b0
  replace b2 := Lib.hid b2
  have k1 : w1.cell? ⟨w.heap.size + 1, 1, none⟩ = some (.int .i64 n) := by rw [cell_in b1]; rfl
  have kl := heap_in b1
  clear b1
  have ef : w1.frozen? ⟨w.heap.size, 4, none⟩ = false := frozen_in b0'
  have d0 := set_cellA (k := 4) (.bool (oddI n)) b0'
  have d2 : (w1.setCell ⟨w.heap.size, 4, none⟩ (.bool (oddI n))).heap[w.heap.size + 1 + 1]? = _ := (Below.heap_setCell _ _ _ _ (by simp only; omega)).trans b2.out
  have hkA := keep_set w1 w.heap.size 4 (.bool (oddI n))
  go_upto_region 24 with fail
  generalize w1.setCell ⟨w.heap.size, 4, none⟩ (.bool (oddI n)) = w4 at d0 d2 hkA ⊢
  replace d0 : w4.heap[w.heap.size]? = some (.cells #[.slice A S.pages.length c, .slice sA sm sc, .int .i64 sn, .int .i64 S.now, .bool (oddI n)] 30 (0, 0)) := d0
  clear e0 e1 e2 e3 e4 el v0 v1 v2 v3 v4 vl vf0 vf1 vf2 vf3 vf4 k1 kl ef b0'
  obtain ⟨e0, e1, e2, e3, e4, el, -⟩ := five d0
  obtain ⟨v0, v1, v2, v3, v4, vl, vf⟩ := five d2
  have vf0 := vf 0
  have vf1 := vf 1
  have vf2 := vf 2
  have vf3 := vf 3
  have vf4 := vf 4
  clear vf d0
  replace d2 := Lib.hid d2
  go_wp2
  obtain ⟨W3, h3, hk3, hs3⟩ := store5 d2.out (.slice A S.pages.length c) (.slice sA sm sc) (.int .i64 sn) (.int .i64 S.now) (.bool (oddI n))
  rw [h3]
  obtain ⟨s0, s1, s2, s3, s4, sl, -⟩ := five hs3
  have H3 : RBk w1 (offs F G w w1) (rbV A S.pages.length c (.slice sA sm sc) sn S.now (oddI n)) (S.lookAt (oddI n)) := by
    obtain ⟨A2, c2, us2, t2, e, H⟩ := HR1.out
    injection e with e
    have f0 := congrArg (fun a : Array Value => a[0]?) e
    have f1 := congrArg (fun a : Array Value => a[1]?) e
    have f2 := congrArg (fun a : Array Value => a[2]?) e
    simp at f0 f1 f2
    exact ⟨A2, c2, us2, t2, by rw [f0.1, f0.2, f1, f2]; rfl, H.ps, H.st⟩
  have FN2 := Lib.hid (FIN.out _ _ _ H3 (Below.refl _ _) (((hkA.mono (fun x hx => by omega)).trans hk3 (fun x hx => .inl (by omega)))))
  clear hs3 d2 h3 FIN
  simp [bodyPost, go_sem, s0, s1, s2, s3, s4]
  exact ⟨_, by simp [results, Try.f37, go_sem, s0, s1, s2, s3, s4] <;> rfl, FN2.out⟩
set_option maxRecDepth 100000 in
set_option maxHeartbeats 8000000 in
theorem bdo4 (h : BkAt w F b S) (hS : S.Ok) (hR : RBk w (fun x => F x ∨ G x) U S) (hG : ∀ x, G x → x < w.heap.size) (n tt xt xl xb xr pr pc yg yr : Int) (yk : Bool) (h1 : -9223372036854775808 ≤ pr) (h2 : -9223372036854775808 ≤ pc) :
    Calls Try.prog 37 #[ptrV b, U, .agg #[.int .i64 4, .int .i64 n, .int .i64 tt, .int .i64 xt, .int .i64 xl, .int .i64 xb, .int .i64 xr, .int .i64 pr, .int .i64 pc, .int .i32 yg, .int .u8 yr, .bool yk]] w (BDoR F b G (S.copy n ⟨xt, xl, xb, xr⟩ tt pr pc) w) := by
  obtain ⟨V, ps, st, h⟩ := h
  have hF := h.lt
  have hR' := Lib.hid hR
  obtain ⟨A, c, us, ⟨sA, sm, sc, sn⟩, rfl, -⟩ := hR
  simp only [RPg.V] at hR' ⊢
  have p2 := hS.p2
  have PB := Lib.hid (fun w' (hb : Below w.heap.size w w') => copy_b (h.grow hb) hS n ⟨xt, xl, xb, xr⟩ tt pr pc h1 h2)
  clear h
  have RC := Lib.hid (fun w1 (hR1 : RBk w1 (offs F G w w1) (rbV A S.pages.length c (.slice sA sm sc) sn S.now S.below) S) (hF1 : ∀ x, offs F G w w1 x → x < w1.heap.size) => rcopy_c hR1 hS n ⟨xt, xl, xb, xr⟩ tt pr pc h1 h2 hF1)
  generalize S.copy n ⟨xt, xl, xb, xr⟩ tt pr pc = T at PB RC ⊢
  generalize (S.inP n && S.inP tt) = ok at PB RC
  simp only at PB RC
  go_enter Try.func37, Try.ntmps37
  go_upto_region 13 with ((go_at_call 42); (with_reducible refine (PB.out _ (by (repeat' (first | (with_reducible exact Below.refl _ _) | (with_reducible refine Below.alloc ?_ ?_ _) | (with_reducible refine below_ext ?_ ?_ _) | (with_reducible refine Below.drew ?_) | (with_reducible refine below_drewN ?_ _) | (with_reducible refine Below.setCell ?_ ?_ _) | go_size | (simp only [go_sem]; omega) | (simp [go_sem]; done) | (simp [go_sem]; omega))))).mono ?_); (rintro _ w1 ⟨rfl, hD⟩); replace hD := Lib.hid hD)
  obtain ⟨w0, hw0⟩ : ∃ w0, w0 = ((w.alloc (.cells #[.slice A S.pages.length c, .slice sA sm sc, .int .i64 sn, .int .i64 S.now, .bool S.below] 30)).alloc (.cells #[.int .i64 4, .int .i64 n, .int .i64 tt, .int .i64 xt, .int .i64 xl, .int .i64 xb, .int .i64 xr, .int .i64 pr, .int .i64 pc, .int .i32 yg, .int .u8 yr, .bool yk] 43)).alloc (.cells #[.slice none 0 0, .slice none 0 0, .int .i64 0, .int .i64 0, .bool false] 30) := ⟨_, rfl⟩
  have hb0 : Below w.heap.size w w0 := by rw [hw0]; (repeat' (first | (with_reducible exact Below.refl _ _) | (with_reducible refine Below.alloc ?_ ?_ _) | (with_reducible refine below_ext ?_ ?_ _) | (with_reducible refine Below.drew ?_) | (with_reducible refine below_drewN ?_ _) | (with_reducible refine Below.setCell ?_ ?_ _) | go_size | (simp only [go_sem]; omega) | (simp [go_sem]; done) | (simp [go_sem]; omega)))
  have hs0 : w.heap.size + 1 + 1 < w0.heap.size := by rw [hw0]; simp
  have b0 : w0.heap[w.heap.size]? = some (.cells #[.slice A S.pages.length c, .slice sA sm sc, .int .i64 sn, .int .i64 S.now, .bool S.below] 30 (0, 0)) := by rw [hw0]; exact thr_0 _ _ _ _
  have b1 : w0.heap[w.heap.size + 1]? = some (.cells #[.int .i64 4, .int .i64 n, .int .i64 tt, .int .i64 xt, .int .i64 xl, .int .i64 xb, .int .i64 xr, .int .i64 pr, .int .i64 pc, .int .i32 yg, .int .u8 yr, .bool yk] 43 (0, 0)) := by rw [hw0]; exact thr_1 _ _ _ _
  have b2 : w0.heap[w.heap.size + 1 + 1]? = some (.cells #[.slice none 0 0, .slice none 0 0, .int .i64 0, .int .i64 0, .bool false] 30 (0, 0)) := by rw [hw0]; exact thr_2 _ _ _ _
  rw [← hw0] at hD
  clear hw0
  replace b0 := (hD.out.1.block _ (by omega) (fun f => by have := hF _ f; omega)).trans b0
  replace b1 := (hD.out.1.block _ (by omega) (fun f => by have := hF _ f; omega)).trans b1
  replace b2 := (hD.out.1.block _ (by omega) (fun f => by have := hF _ f; omega)).trans b2
  have hs1 : w.heap.size + 1 + 1 < w1.heap.size := heap_in b2
  have HR1 := Lib.hid (offs_old hR'.out hb0 hD.out.1)
  have hF1 : ∀ x, offs F G w w1 x → x < w1.heap.size := fun x hx => hx.2
  have FIN := Lib.hid (fun w2 w3 U' (hR2 : RBk w2 (offs F G w w1) U' (T)) (hb2 : Below w1.heap.size w1 w2) (hk3 : Keep (fun x => w.heap.size ≤ x ∧ x < w0.heap.size) w2 w3) => bdo_fin hD.out hb0 hF hR2 hb2 hk3 hG)
  clear hD hb0 hR'
  obtain ⟨e0, e1, e2, e3, e4, el, -⟩ := five b0
  obtain ⟨v0, v1, v2, v3, v4, vl, vf⟩ := five b2
  have vf0 := vf 0
  have vf1 := vf 1
  have vf2 := vf 2
  have vf3 := vf 3
  have vf4 := vf 4
  clear vf b0
  replace b2 := Lib.hid b2
  have k1 : w1.cell? ⟨w.heap.size + 1, 1, none⟩ = some (.int .i64 n) := by rw [cell_in b1]; rfl
  have k2 : w1.cell? ⟨w.heap.size + 1, 2, none⟩ = some (.int .i64 tt) := by rw [cell_in b1]; rfl
  have k3 : w1.cell? ⟨w.heap.size + 1, 3, none⟩ = some (.int .i64 xt) := by rw [cell_in b1]; rfl
  have k4 : w1.cell? ⟨w.heap.size + 1, 4, none⟩ = some (.int .i64 xl) := by rw [cell_in b1]; rfl
  have k5 : w1.cell? ⟨w.heap.size + 1, 5, none⟩ = some (.int .i64 xb) := by rw [cell_in b1]; rfl
  have k6 : w1.cell? ⟨w.heap.size + 1, 6, none⟩ = some (.int .i64 xr) := by rw [cell_in b1]; rfl
  have k7 : w1.cell? ⟨w.heap.size + 1, 7, none⟩ = some (.int .i64 pr) := by rw [cell_in b1]; rfl
  have k8 : w1.cell? ⟨w.heap.size + 1, 8, none⟩ = some (.int .i64 pc) := by rw [cell_in b1]; rfl
  have kl := heap_in b1
  clear b1
  go_wp2_with ((go_at_call 71); (with_reducible refine (RC.out _ HR1.out hF1).mono ?_); (rintro _ _ ⟨U', x2, rfl, rfl, hB⟩); (obtain ⟨A2, c2, us2, ⟨tA, tm, tc, tn⟩, rfl, H2⟩ := hB); (try simp only [RPg.V]); replace H2 := Lib.hid H2)
  have H3 : RBk (ext w1 x2) (offs F G w w1) (rbV A2 T.pages.length c2 (.slice tA tm tc) tn T.now T.below) T := ⟨A2, c2, us2, ⟨tA, tm, tc, tn⟩, rfl, H2.out⟩
  obtain ⟨W3, h3, hk3, hs3⟩ := store5e x2 b2.out (.slice A2 T.pages.length c2) (.slice tA tm tc) (.int .i64 tn) (.int .i64 T.now) (.bool T.below)
  rw [h3]
  obtain ⟨W4, hW4⟩ : ∃ W4, W4 = W3.alloc (.cells #[.slice A2 T.pages.length c2, .slice tA tm tc, .int .i64 tn, .int .i64 T.now, .bool T.below] 30) := ⟨_, rfl⟩
  have hb4 : Below W3.heap.size W3 W4 := by rw [hW4]; (repeat' (first | (with_reducible exact Below.refl _ _) | (with_reducible refine Below.alloc ?_ ?_ _) | (with_reducible refine below_ext ?_ ?_ _) | (with_reducible refine Below.drew ?_) | (with_reducible refine below_drewN ?_ _) | (with_reducible refine Below.setCell ?_ ?_ _) | go_size | (simp only [go_sem]; omega) | (simp [go_sem]; done) | (simp [go_sem]; omega)))
  rw [← hW4]
  clear hW4
  obtain ⟨s0, s1, s2, s3, s4, sl, -⟩ := five ((hb4.block _ (heap_in hs3)).trans hs3)
  have FN2 := Lib.hid (FIN.out _ _ _ H3 (below_of_ext w1 x2) (((hk3.mono (fun x hx => by omega)).trans (Keep.of_below (F := fun _ => False) hb4) (fun _ f => f.elim))))
  clear hs3 b2 h3 FIN
  simp [bodyPost, go_sem, s0, s1, s2, s3, s4]
  exact ⟨_, by simp [results, Try.f37, go_sem, s0, s1, s2, s3, s4] <;> rfl, FN2.out⟩
set_option maxRecDepth 100000 in
set_option maxHeartbeats 8000000 in
theorem bdo0 (h : BkAt w F b S) (hS : S.Ok) (hR : RBk w (fun x => F x ∨ G x) U S) (hG : ∀ x, G x → x < w.heap.size) (n tt xt xl xb xr pr pc yg yr : Int) (yk : Bool) (h1 : -9223372036854775808 ≤ pr) (h2 : -9223372036854775808 ≤ pc) (kd : Int) (n1 : (kd == 1) = false) (n2 : (kd == 2) = false) (n3 : (kd == 3) = false) (n4 : (kd == 4) = false) (n5 : (kd == 5) = false) (n6 : (kd == 6) = false) (n7 : (kd == 7) = false) :
    Calls Try.prog 37 #[ptrV b, U, .agg #[.int .i64 kd, .int .i64 n, .int .i64 tt, .int .i64 xt, .int .i64 xl, .int .i64 xb, .int .i64 xr, .int .i64 pr, .int .i64 pc, .int .i32 yg, .int .u8 yr, .bool yk]] w (BDoR F b G (S) w) := by
  obtain ⟨V, ps, st, h⟩ := h
  have hF := h.lt
  have hR' := Lib.hid hR
  obtain ⟨A, c, us, ⟨sA, sm, sc, sn⟩, rfl, -⟩ := hR
  simp only [RPg.V] at hR' ⊢
  have p2 := hS.p2
  have hB := Lib.hid (⟨_, _, _, h⟩ : BkAt w F b S)
  clear h
  go_enter Try.func37, Try.ntmps37
  go_wp2
  go_returns
  refine bdo_fin (BDid.refl (BkAt.grow hB.out ?_)) ?_ hF (offs_old hR'.out ?_ (Keep.refl _ _)) (Below.refl _ _) (Keep.refl _ _) hG <;> (repeat' (first | (with_reducible exact Below.refl _ _) | (with_reducible refine Below.alloc ?_ ?_ _) | (with_reducible refine below_ext ?_ ?_ _) | (with_reducible refine Below.drew ?_) | (with_reducible refine below_drewN ?_ _) | (with_reducible refine Below.setCell ?_ ?_ _) | go_size | (simp only [go_sem]; omega) | (simp [go_sem]; done) | (simp [go_sem]; omega)))
end
end Go.Proofs.Ytpahcgappaifnaa
/- Books: do, act by act (Resize, Put).  -/
namespace Go.Proofs.Ytpahcgappaifnaa
open Go.RowKit
set_option linter.unusedVariables false
set_option linter.unusedSimpArgs false

theorem small_c (n : Int) (w : World) : Calls Try.prog 73 #[.int .i64 n] w (Gives w (.int .i64 (clampR n (-1) 20))) := by
  have CL := Lib.hid (fun w' => clamp_l n (-1) 20 w')
  go_enter Try.func73, Try.ntmps73
  go_wp2_with (go_at_call 82; ((with_reducible refine (CL.out _).mono ?_); rintro _ _ hgets; obtain ⟨rfl, x1, rfl⟩ := hgets.get; clear hgets))
  go_returns
  exact ⟨rfl, by (repeat' (first | (with_reducible exact Below.refl _ _) | (with_reducible refine Below.alloc ?_ ?_ _) | (with_reducible refine below_ext ?_ ?_ _) | (with_reducible refine Below.drew ?_) | (with_reducible refine below_drewN ?_ _) | (with_reducible refine Below.setCell ?_ ?_ _) | go_size | (simp only [go_sem]; omega) | (simp [go_sem]; done) | (simp [go_sem]; omega)))⟩
section
variable {w : World} {F G : Nat → Prop} {b : Nat} {S : BkS} {U : Value}
set_option maxRecDepth 100000 in
set_option maxHeartbeats 8000000 in
theorem bdo5 (h : BkAt w F b S) (hS : S.Ok) (hR : RBk w (fun x => F x ∨ G x) U S) (hG : ∀ x, G x → x < w.heap.size) (n tt xt xl xb xr pr pc yg yr : Int) (yk : Bool) (h1 : -9223372036854775808 ≤ pr) (h2 : -9223372036854775808 ≤ pc) :
    Calls Try.prog 37 #[ptrV b, U, .agg #[.int .i64 5, .int .i64 n, .int .i64 tt, .int .i64 xt, .int .i64 xl, .int .i64 xb, .int .i64 xr, .int .i64 pr, .int .i64 pc, .int .i32 yg, .int .u8 yr, .bool yk]] w (BDoR F b G (S.resize (clampR n (-1) 20) (clampR tt (-1) 20)) w) := by
  obtain ⟨V, ps, st, h⟩ := h
  have hF := h.lt
  have hR' := Lib.hid hR
  obtain ⟨A, c, us, ⟨sA, sm, sc, sn⟩, rfl, -⟩ := hR
  simp only [RPg.V] at hR' ⊢
  have p2 := hS.p2
  have PB := Lib.hid (fun w' (hb : Below w.heap.size w w') => resize_b (h.grow hb) hS (clampR n (-1) 20) (clampR tt (-1) 20))
  clear h
  have RC := Lib.hid (fun w1 w' (hb : Below w1.heap.size w1 w') (hR1 : RBk w1 (offs F G w w1) (rbV A S.pages.length c (.slice sA sm sc) sn S.now S.below) S) (hF1 : ∀ x, offs F G w w1 x → x < w1.heap.size) => rresize_c (clampR n (-1) 20) (clampR tt (-1) 20) (hR1.grow hb) hS (fun x hx => Nat.lt_of_lt_of_le (hF1 x hx) hb.size))
  have SN := Lib.hid (fun w' => small_c n w')
  have SM := Lib.hid (fun w' => small_c tt w')
  generalize S.resize (clampR n (-1) 20) (clampR tt (-1) 20) = T at PB RC ⊢
  generalize clampR n (-1) 20 = m1 at PB RC SN
  generalize clampR tt (-1) 20 = m2 at PB RC SM
  go_enter Try.func37, Try.ntmps37
  go_upto_region 16 with fail
  obtain ⟨w0, hw0⟩ : ∃ w0, w0 = ((w.alloc (.cells #[.slice A S.pages.length c, .slice sA sm sc, .int .i64 sn, .int .i64 S.now, .bool S.below] 30)).alloc (.cells #[.int .i64 5, .int .i64 n, .int .i64 tt, .int .i64 xt, .int .i64 xl, .int .i64 xb, .int .i64 xr, .int .i64 pr, .int .i64 pc, .int .i32 yg, .int .u8 yr, .bool yk] 43)).alloc (.cells #[.slice none 0 0, .slice none 0 0, .int .i64 0, .int .i64 0, .bool false] 30) := ⟨_, rfl⟩
  have hb0 : Below w.heap.size w w0 := by rw [hw0]; (repeat' (first | (with_reducible exact Below.refl _ _) | (with_reducible refine Below.alloc ?_ ?_ _) | (with_reducible refine below_ext ?_ ?_ _) | (with_reducible refine Below.drew ?_) | (with_reducible refine below_drewN ?_ _) | (with_reducible refine Below.setCell ?_ ?_ _) | go_size | (simp only [go_sem]; omega) | (simp [go_sem]; done) | (simp [go_sem]; omega)))
  have hs0 : w.heap.size + 1 + 1 < w0.heap.size := by rw [hw0]; simp
  have b0 : w0.heap[w.heap.size]? = some (.cells #[.slice A S.pages.length c, .slice sA sm sc, .int .i64 sn, .int .i64 S.now, .bool S.below] 30 (0, 0)) := by rw [hw0]; exact thr_0 _ _ _ _
  have b1 : w0.heap[w.heap.size + 1]? = some (.cells #[.int .i64 5, .int .i64 n, .int .i64 tt, .int .i64 xt, .int .i64 xl, .int .i64 xb, .int .i64 xr, .int .i64 pr, .int .i64 pc, .int .i32 yg, .int .u8 yr, .bool yk] 43 (0, 0)) := by rw [hw0]; exact thr_1 _ _ _ _
  have b2 : w0.heap[w.heap.size + 1 + 1]? = some (.cells #[.slice none 0 0, .slice none 0 0, .int .i64 0, .int .i64 0, .bool false] 30 (0, 0)) := by rw [hw0]; exact thr_2 _ _ _ _
  rw [← hw0]
  clear hw0
  have k1 : w0.cell? ⟨w.heap.size + 1, 1, none⟩ = some (.int .i64 n) := by rw [cell_in b1]; rfl
  have k2 : w0.cell? ⟨w.heap.size + 1, 2, none⟩ = some (.int .i64 tt) := by rw [cell_in b1]; rfl
  have kl := heap_in b1
  (refine wp_region_tail 7 (by kernel_rfl) (by kernel_rfl) ?_; simp only [List.take_succ_cons, List.take_zero, List.drop_succ_cons, List.drop_zero])
  repeat (go_big_quiet_step (first | ((go_at_call 73; with_reducible exact Calls.free (SN.out _))) | ((go_at_call 73; with_reducible exact Calls.free (SM.out _)))))
  refine wpQuiet_nil ?_; rintro _ ⟨y1, rfl⟩
  have hb1 := Lib.hid (below_ext hb0 hb0.size y1)
  go_upto_region 17 with ((go_at_call 72); (with_reducible refine (PB.out _ hb1.out).mono ?_); (rintro _ w1 ⟨rfl, hD⟩); replace hD := Lib.hid hD)
  clear k1 k2 kl
  replace hD := Lib.hid (BDid.back hD.out (below_of_ext w0 y1) (fun x hx => by have := hF x hx; have := hb0.size; omega))
  replace b0 := (hD.out.1.block _ (by omega) (fun f => by have := hF _ f; omega)).trans b0
  replace b1 := (hD.out.1.block _ (by omega) (fun f => by have := hF _ f; omega)).trans b1
  replace b2 := (hD.out.1.block _ (by omega) (fun f => by have := hF _ f; omega)).trans b2
  have hs1 : w.heap.size + 1 + 1 < w1.heap.size := heap_in b2
  have HR1 := Lib.hid (offs_old hR'.out hb0 hD.out.1)
  have hF1 : ∀ x, offs F G w w1 x → x < w1.heap.size := fun x hx => hx.2
  have FIN := Lib.hid (fun w2 w3 U' (hR2 : RBk w2 (offs F G w w1) U' (T)) (hb2 : Below w1.heap.size w1 w2) (hk3 : Keep (fun x => w.heap.size ≤ x ∧ x < w0.heap.size) w2 w3) => bdo_fin hD.out hb0 hF hR2 hb2 hk3 hG)
  clear hD hb0 hR'
  obtain ⟨e0, e1, e2, e3, e4, el, -⟩ := five b0
  obtain ⟨v0, v1, v2, v3, v4, vl, vf⟩ := five b2
  have vf0 := vf 0
  have vf1 := vf 1
  have vf2 := vf 2
  have vf3 := vf 3
  have vf4 := vf 4
  clear vf b0
  replace b2 := Lib.hid b2
  have k1 : w1.cell? ⟨w.heap.size + 1, 1, none⟩ = some (.int .i64 n) := by rw [cell_in b1]; rfl
  have k2 : w1.cell? ⟨w.heap.size + 1, 2, none⟩ = some (.int .i64 tt) := by rw [cell_in b1]; rfl
  have kl := heap_in b1
  clear b1
  (refine wp_region_tail 7 (by kernel_rfl) (by kernel_rfl) ?_; simp only [List.take_succ_cons, List.take_zero, List.drop_succ_cons, List.drop_zero])
  repeat (go_big_quiet_step (first | ((go_at_call 73; with_reducible exact Calls.free (SN.out _))) | ((go_at_call 73; with_reducible exact Calls.free (SM.out _)))))
  refine wpQuiet_nil ?_; rintro _ ⟨y2, rfl⟩
  go_wp2_with ((go_at_call 74); (with_reducible refine (RC.out w1 _ (by (repeat' (first | (with_reducible exact Below.refl _ _) | (with_reducible refine Below.alloc ?_ ?_ _) | (with_reducible refine below_ext ?_ ?_ _) | (with_reducible refine Below.drew ?_) | (with_reducible refine below_drewN ?_ _) | (with_reducible refine Below.setCell ?_ ?_ _) | go_size | (simp only [go_sem]; omega) | (simp [go_sem]; done) | (simp [go_sem]; omega)))) HR1.out hF1).mono ?_); (rintro _ _ ⟨U', x2, rfl, rfl, hB⟩); (obtain ⟨A2, c2, us2, ⟨tA, tm, tc, tn⟩, rfl, H2⟩ := hB); (try simp only [RPg.V]); replace H2 := Lib.hid H2)
  rw [ext_ext] at H2 ⊢
  generalize (⟨y2.objs ++ x2.objs, x2.drawn⟩ : More) = x2 at H2 ⊢
  have H3 : RBk (ext w1 x2) (offs F G w w1) (rbV A2 (T).pages.length c2 (.slice tA tm tc) tn (T).now (T).below) (T) := ⟨A2, c2, us2, ⟨tA, tm, tc, tn⟩, rfl, H2.out⟩
  obtain ⟨W3, h3, hk3, hs3⟩ := store5e x2 b2.out (.slice A2 (T).pages.length c2) (.slice tA tm tc) (.int .i64 tn) (.int .i64 (T).now) (.bool (T).below)
  rw [h3]
  obtain ⟨s0, s1, s2, s3, s4, sl, -⟩ := five hs3
  have FN2 := Lib.hid (FIN.out _ _ _ H3 (below_of_ext w1 x2) (hk3.mono (fun x hx => by omega)))
  clear hs3 b2 h3 FIN
  simp [bodyPost, go_sem, s0, s1, s2, s3, s4]
  exact ⟨_, by simp [results, Try.f37, go_sem, s0, s1, s2, s3, s4] <;> rfl, FN2.out⟩
set_option maxRecDepth 100000 in
set_option maxHeartbeats 8000000 in
theorem bdo7 (h : BkAt w F b S) (hS : S.Ok) (hR : RBk w (fun x => F x ∨ G x) U S) (hG : ∀ x, G x → x < w.heap.size) (n tt xt xl xb xr pr pc yg yr : Int) (yk : Bool) (h1 : -9223372036854775808 ≤ pr) (h2 : -9223372036854775808 ≤ pc) :
    Calls Try.prog 37 #[ptrV b, U, .agg #[.int .i64 7, .int .i64 n, .int .i64 tt, .int .i64 xt, .int .i64 xl, .int .i64 xb, .int .i64 xr, .int .i64 pr, .int .i64 pc, .int .i32 yg, .int .u8 yr, .bool yk]] w (BDoR F b G (S.set S.at (putS S.sheet pr pc ⟨yg, yr, yk⟩)) w) := by
  obtain ⟨V, ps, st, h⟩ := h
  have hF := h.lt
  have hR' := Lib.hid hR
  obtain ⟨A, c, us, ⟨sA, sm, sc, sn⟩, rfl, -⟩ := hR
  simp only [RPg.V] at hR' ⊢
  have p2 := hS.p2
  obtain ⟨rb, hrb, hPb⟩ := h.sheet hS
  have SH := Lib.hid (fun w' (hb : Below w.heap.size w w') => sheet_b (h.grow hb) hS hrb)
  have PU := Lib.hid (fun w' (hb : Below w.heap.size w w') => put_p (hPb.grow hb) (BkS.sheet_ok hS) pr pc ⟨yg, yr, yk⟩)
  have BK := Lib.hid (fun w0 (hb0 : Below w.heap.size w w0) a c P (hb : Below w0.heap.size w0 a) (hD : Did rb.F rb.p P a c) => ((h.grow hb0).act hrb (Did.back hD hb (hPb.grow hb0).lt)).did)
  clear h hrb hPb
  obtain ⟨rs, -, RSH0⟩ := rsheet_v hR'.out hS
  have RSH1 := Lib.hid (fun w1 (hR1 : RBk w1 (offs F G w w1) (rbV A S.pages.length c (.slice sA sm sc) sn S.now S.below) S) => rsheet_v hR1 hS)
  have RP := Lib.hid (fun w1 w' (hb : Below w1.heap.size w1 w') (q : RPg) (hq : RefAt w1 (offs F G w w1) q.v S.sheet) => refput_c _ S.sheet pr pc ⟨yg, yr, yk⟩ w' (hq.grow hb).v (BkS.sheet_ok hS))
  have RC := Lib.hid (fun w1 w' (hb : Below w1.heap.size w1 w') (hR1 : RBk w1 (offs F G w w1) (rbV A S.pages.length c (.slice sA sm sc) sn S.now S.below) S) (hF1 : ∀ x, offs F G w w1 x → x < w1.heap.size) p P (hp : RefAt w' (offs F G w w1) p.v P) => setsheet_c (P := P) (hR1.grow hb) hS p hp (fun x hx => Nat.lt_of_lt_of_le (hF1 x hx) hb.size))
  clear RSH0
  generalize putS S.sheet pr pc ⟨yg, yr, yk⟩ = P at PU RP ⊢
  go_enter Try.func37, Try.ntmps37
  go_upto_region 22 with fail
  obtain ⟨w0, hw0⟩ : ∃ w0, w0 = ((w.alloc (.cells #[.slice A S.pages.length c, .slice sA sm sc, .int .i64 sn, .int .i64 S.now, .bool S.below] 30)).alloc (.cells #[.int .i64 7, .int .i64 n, .int .i64 tt, .int .i64 xt, .int .i64 xl, .int .i64 xb, .int .i64 xr, .int .i64 pr, .int .i64 pc, .int .i32 yg, .int .u8 yr, .bool yk] 43)).alloc (.cells #[.slice none 0 0, .slice none 0 0, .int .i64 0, .int .i64 0, .bool false] 30) := ⟨_, rfl⟩
  have hb0 : Below w.heap.size w w0 := by rw [hw0]; (repeat' (first | (with_reducible exact Below.refl _ _) | (with_reducible refine Below.alloc ?_ ?_ _) | (with_reducible refine below_ext ?_ ?_ _) | (with_reducible refine Below.drew ?_) | (with_reducible refine below_drewN ?_ _) | (with_reducible refine Below.setCell ?_ ?_ _) | go_size | (simp only [go_sem]; omega) | (simp [go_sem]; done) | (simp [go_sem]; omega)))
  have hs0 : w.heap.size + 1 + 1 < w0.heap.size := by rw [hw0]; simp
  have b0 : w0.heap[w.heap.size]? = some (.cells #[.slice A S.pages.length c, .slice sA sm sc, .int .i64 sn, .int .i64 S.now, .bool S.below] 30 (0, 0)) := by rw [hw0]; exact thr_0 _ _ _ _
  have b1 : w0.heap[w.heap.size + 1]? = some (.cells #[.int .i64 7, .int .i64 n, .int .i64 tt, .int .i64 xt, .int .i64 xl, .int .i64 xb, .int .i64 xr, .int .i64 pr, .int .i64 pc, .int .i32 yg, .int .u8 yr, .bool yk] 43 (0, 0)) := by rw [hw0]; exact thr_1 _ _ _ _
  have b2 : w0.heap[w.heap.size + 1 + 1]? = some (.cells #[.slice none 0 0, .slice none 0 0, .int .i64 0, .int .i64 0, .bool false] 30 (0, 0)) := by rw [hw0]; exact thr_2 _ _ _ _
  rw [← hw0]
  clear hw0
  have k7 : w0.cell? ⟨w.heap.size + 1, 7, none⟩ = some (.int .i64 pr) := by rw [cell_in b1]; rfl
  have k8 : w0.cell? ⟨w.heap.size + 1, 8, none⟩ = some (.int .i64 pc) := by rw [cell_in b1]; rfl
  have k9 : w0.cell? ⟨w.heap.size + 1, 9, none⟩ = some (.int .i32 yg) := by rw [cell_in b1]; rfl
  have k10 : w0.cell? ⟨w.heap.size + 1, 10, none⟩ = some (.int .u8 yr) := by rw [cell_in b1]; rfl
  have k11 : w0.cell? ⟨w.heap.size + 1, 11, none⟩ = some (.bool yk) := by rw [cell_in b1]; rfl
  have kl := heap_in b1
  (refine wp_region_tail 6 (by kernel_rfl) (by kernel_rfl) ?_; simp only [List.take_succ_cons, List.take_zero, List.drop_succ_cons, List.drop_zero])
  repeat (go_big_quiet_step (first | ((go_at_call 14; with_reducible exact Calls.free (SH.out _ (hb0.trans (Below.mono (B := w0.heap.size) (by (repeat' (first | (with_reducible exact Below.refl _ _) | (with_reducible refine Below.alloc ?_ ?_ _) | (with_reducible refine below_ext ?_ ?_ _) | (with_reducible refine Below.drew ?_) | (with_reducible refine below_drewN ?_ _) | (with_reducible refine Below.setCell ?_ ?_ _) | go_size | (simp only [go_sem]; omega) | (simp [go_sem]; done) | (simp [go_sem]; omega)))) hb0.size)))))))
  refine wpQuiet_nil ?_; rintro _ ⟨y1, rfl⟩
  have hb1 := Lib.hid (below_ext hb0 hb0.size y1)
  go_upto_region 23 with ((go_at_call 77); (with_reducible refine (PU.out _ hb1.out).mono ?_); (rintro _ w1 ⟨rfl, hDp⟩); replace hDp := Lib.hid hDp)
  clear k7 k8 k9 k10 k11 kl
  have hD := Lib.hid (BK.out w0 hb0 _ _ _ (below_of_ext w0 y1) hDp.out)
  clear hDp
  replace b0 := (hD.out.1.block _ (by omega) (fun f => by have := hF _ f; omega)).trans b0
  replace b1 := (hD.out.1.block _ (by omega) (fun f => by have := hF _ f; omega)).trans b1
  replace b2 := (hD.out.1.block _ (by omega) (fun f => by have := hF _ f; omega)).trans b2
  have hs1 : w.heap.size + 1 + 1 < w1.heap.size := heap_in b2
  have HR1 := Lib.hid (offs_old hR'.out hb0 hD.out.1)
  have hF1 : ∀ x, offs F G w w1 x → x < w1.heap.size := fun x hx => hx.2
  have FIN := Lib.hid (fun w2 w3 U' (hR2 : RBk w2 (offs F G w w1) U' (S.set S.at P)) (hb2 : Below w1.heap.size w1 w2) (hk3 : Keep (fun x => w.heap.size ≤ x ∧ x < w0.heap.size) w2 w3) => bdo_fin hD.out hb0 hF hR2 hb2 hk3 hG)
  clear hD hb0 hR'
  obtain ⟨e0, e1, e2, e3, e4, el, -⟩ := five b0
  obtain ⟨v0, v1, v2, v3, v4, vl, vf⟩ := five b2
  have vf0 := vf 0
  have vf1 := vf 1
  have vf2 := vf 2
  have vf3 := vf 3
  have vf4 := vf 4
  clear vf b0
  replace b2 := Lib.hid b2
  have k7 : w1.cell? ⟨w.heap.size + 1, 7, none⟩ = some (.int .i64 pr) := by rw [cell_in b1]; rfl
  have k8 : w1.cell? ⟨w.heap.size + 1, 8, none⟩ = some (.int .i64 pc) := by rw [cell_in b1]; rfl
  have k9 : w1.cell? ⟨w.heap.size + 1, 9, none⟩ = some (.int .i32 yg) := by rw [cell_in b1]; rfl
  have k10 : w1.cell? ⟨w.heap.size + 1, 10, none⟩ = some (.int .u8 yr) := by rw [cell_in b1]; rfl
  have k11 : w1.cell? ⟨w.heap.size + 1, 11, none⟩ = some (.bool yk) := by rw [cell_in b1]; rfl
  have kl := heap_in b1
  clear b1
  obtain ⟨q, hq, RSH2⟩ := RSH1.out w1 HR1.out
  obtain ⟨qA, qm, qc, qn⟩ := q
  replace hq := Lib.hid hq
  replace RSH2 := Lib.hid RSH2
  clear RSH1
  simp only [RPg.v, RPg.V] at RSH2
  have RP2 := Lib.hid (fun w' hb => RP.out w1 w' hb ⟨qA, qm, qc, qn⟩ hq.out)
  simp only [RPg.v, RPg.V] at RP2
  (refine wp_region_F (S := (fun w' => w'.cell? ⟨w.heap.size, 0, none⟩ = some (.slice A S.pages.length c) ∧ w'.cell? ⟨w.heap.size, 1, none⟩ = some (.slice sA sm sc) ∧ w'.cell? ⟨w.heap.size, 2, none⟩ = some (.int .i64 sn) ∧ w'.cell? ⟨w.heap.size, 3, none⟩ = some (.int .i64 S.now) ∧ w'.cell? ⟨w.heap.size, 4, none⟩ = some (.bool S.below) ∧ w'.cell? ⟨w.heap.size + 1, 7, none⟩ = some (.int .i64 pr) ∧ w'.cell? ⟨w.heap.size + 1, 8, none⟩ = some (.int .i64 pc) ∧ w'.cell? ⟨w.heap.size + 1, 9, none⟩ = some (.int .i32 yg) ∧ w'.cell? ⟨w.heap.size + 1, 10, none⟩ = some (.int .u8 yr) ∧ w'.cell? ⟨w.heap.size + 1, 11, none⟩ = some (.bool yk))) 14 [false, false, false, false, false, false, false, false, false, false, false, false, false, false, false] rfl rfl (by kernel_rfl) ?_ (fun hHeld => ?_); (focus ((try dsimp only); (refine ⟨?_, ?_, ?_, ?_, ?_, ?_, ?_, ?_, ?_, ?_⟩ <;> simp [go_sem, e0, e1, e2, e3, e4, el, k7, k8, k9, k10, k11, kl]); done)))
  ((refine AtF.take (oi := ?_) (v := ?_) 0 ?_ ?_ ?_ ?_ (Or.inl ⟨?_, ?_⟩) (by assumption) ?_; rotate_left 2; rfl; kernel_rfl; kernel_rfl; exact (fun _ _ _ h => h); rfl; (focus (intro w hSw; (try dsimp only at hSw); go_simp; (try with_reducible rfl); done)); (try simp only [Act.put, List.setIfInBounds_toArray, List.set_cons_zero, List.set_cons_succ])); (refine AtF.take (oi := ?_) (v := ?_) 1 ?_ ?_ ?_ ?_ (Or.inl ⟨?_, ?_⟩) (by assumption) ?_; rotate_left 2; rfl; kernel_rfl; kernel_rfl; exact (fun _ _ _ h => h); rfl; (focus (intro w hSw; (try dsimp only at hSw); go_simp; (try with_reducible rfl); done)); (try simp only [Act.put, List.setIfInBounds_toArray, List.set_cons_zero, List.set_cons_succ])); (refine AtF.take (oi := ?_) (v := ?_) 3 ?_ ?_ ?_ ?_ (Or.inl ⟨?_, ?_⟩) (by assumption) ?_; rotate_left 2; rfl; kernel_rfl; kernel_rfl; exact (fun _ _ _ h => h); rfl; (focus (intro w hSw; (try dsimp only at hSw); go_simp; (try with_reducible rfl); done)); (try simp only [Act.put, List.setIfInBounds_toArray, List.set_cons_zero, List.set_cons_succ])); (refine AtF.take (oi := ?_) (v := ?_) 4 ?_ ?_ ?_ ?_ (Or.inl ⟨?_, ?_⟩) (by assumption) ?_; rotate_left 2; rfl; kernel_rfl; kernel_rfl; exact (fun _ _ _ h => h); rfl; (focus (intro w hSw; (try dsimp only at hSw); go_simp; (try with_reducible rfl); done)); (try simp only [Act.put, List.setIfInBounds_toArray, List.set_cons_zero, List.set_cons_succ])); (refine AtF.take (oi := ?_) (v := ?_) 5 ?_ ?_ ?_ ?_ (Or.inl ⟨?_, ?_⟩) (by assumption) ?_; rotate_left 2; rfl; kernel_rfl; kernel_rfl; exact (fun _ _ _ h => h); rfl; (focus (intro w hSw; (try dsimp only at hSw); go_simp; (try with_reducible rfl); done)); (try simp only [Act.put, List.setIfInBounds_toArray, List.set_cons_zero, List.set_cons_succ])); (refine AtF.take (oi := ?_) (v := ?_) 6 ?_ ?_ ?_ ?_ (Or.inl ⟨?_, ?_⟩) (by assumption) ?_; rotate_left 2; rfl; kernel_rfl; kernel_rfl; exact (fun _ _ _ h => h); rfl; (focus (intro w hSw; (try dsimp only at hSw); go_simp; (try with_reducible rfl); done)); (try simp only [Act.put, List.setIfInBounds_toArray, List.set_cons_zero, List.set_cons_succ])); (refine AtF.take (oi := ?_) (v := ?_) 7 ?_ ?_ ?_ ?_ (Or.inl ⟨?_, ?_⟩) (by assumption) ?_; rotate_left 2; rfl; kernel_rfl; kernel_rfl; exact (fun _ _ _ h => h); rfl; (focus (intro w hSw; (try dsimp only at hSw); go_simp; (try with_reducible rfl); done)); (try simp only [Act.put, List.setIfInBounds_toArray, List.set_cons_zero, List.set_cons_succ])); (refine AtF.take (oi := ?_) (v := ?_) 8 ?_ ?_ ?_ ?_ (Or.inl ⟨?_, ?_⟩) (by assumption) ?_; rotate_left 2; rfl; kernel_rfl; kernel_rfl; exact (fun _ _ _ h => h); rfl; (focus (intro w hSw; (try dsimp only at hSw); go_simp; (try with_reducible rfl); done)); (try simp only [Act.put, List.setIfInBounds_toArray, List.set_cons_zero, List.set_cons_succ])); (refine AtF.take (oi := ?_) (v := ?_) 9 ?_ ?_ ?_ ?_ (Or.inl ⟨?_, ?_⟩) (by assumption) ?_; rotate_left 2; rfl; kernel_rfl; kernel_rfl; exact (fun _ _ _ h => h); rfl; (focus (intro w hSw; (try dsimp only at hSw); go_simp; (try with_reducible rfl); done)); (try simp only [Act.put, List.setIfInBounds_toArray, List.set_cons_zero, List.set_cons_succ])); (refine AtF.take (oi := ?_) (v := ?_) 10 ?_ ?_ ?_ ?_ (Or.inl ⟨?_, ?_⟩) (by assumption) ?_; rotate_left 2; rfl; kernel_rfl; kernel_rfl; exact (fun _ _ _ h => h); rfl; (focus (intro w hSw; (try dsimp only at hSw); go_simp; (try with_reducible rfl); done)); (try simp only [Act.put, List.setIfInBounds_toArray, List.set_cons_zero, List.set_cons_succ])))
  (refine AtF.only (oi := ?_) 2 ?_ ?_ (fun K hK => ?_); rotate_left 1; rfl; kernel_rfl; (try go_simp); (go_at_call 45; ((with_reducible refine (RSH2.out _ (by (repeat' (first | (with_reducible exact Below.refl _ _) | (with_reducible refine Below.alloc ?_ ?_ _) | (with_reducible refine below_ext ?_ ?_ _) | (with_reducible refine Below.drew ?_) | (with_reducible refine below_drewN ?_ _) | (with_reducible refine Below.setCell ?_ ?_ _) | go_size | (simp only [go_sem]; omega) | (simp [go_sem]; done) | (simp [go_sem]; omega))))).mono ?_); rintro _ _ hgets; obtain ⟨rfl, y2, rfl⟩ := hgets.get; clear hgets)); (refine hK.out _ _ ?_ (fun hHeld => ?_)); (focus ((try dsimp only); (refine ⟨?_, ?_, ?_, ?_, ?_, ?_, ?_, ?_, ?_, ?_⟩ <;> simp [go_sem, e0, e1, e2, e3, e4, el, k7, k8, k9, k10, k11, kl]); done)); clear hK K; (try simp only [Act.put, List.setIfInBounds_toArray, List.set_cons_zero, List.set_cons_succ]))
  (refine AtF.only (oi := ?_) 11 ?_ ?_ (fun K hK => ?_); rotate_left 1; rfl; kernel_rfl; (try go_simp); ((go_at_call 79); (with_reducible refine (RP2.out _ (by (repeat' (first | (with_reducible exact Below.refl _ _) | (with_reducible refine Below.alloc ?_ ?_ _) | (with_reducible refine below_ext ?_ ?_ _) | (with_reducible refine Below.drew ?_) | (with_reducible refine below_drewN ?_ _) | (with_reducible refine Below.setCell ?_ ?_ _) | go_size | (simp only [go_sem]; omega) | (simp [go_sem]; done) | (simp [go_sem]; omega))))).mono ?_); (intro e' w'' hN); (obtain ⟨⟨pA, pm, pq, pn⟩, y3, rfl, rfl, hp⟩ := hN.at (F := offs F G w w1) (fun x hx => by have := hF1 x hx; simp; omega); clear hN); (try simp only [RPg.v, RPg.V]); (try simp only [ext_drew] at hp); replace hp := Lib.hid hp); (refine hK.out _ _ ?_ (fun hHeld => ?_)); (focus ((try dsimp only); (refine ⟨?_, ?_, ?_, ?_, ?_, ?_, ?_, ?_, ?_, ?_⟩ <;> simp [go_sem, e0, e1, e2, e3, e4, el, k7, k8, k9, k10, k11, kl]); done)); clear hK K; (try simp only [Act.put, List.setIfInBounds_toArray, List.set_cons_zero, List.set_cons_succ]))
  (refine AtF.only (oi := ?_) 12 ?_ ?_ (fun K hK => ?_); rotate_left 1; rfl; kernel_rfl; (try go_simp); ((go_at_call 78); (have RC2 := RC.out w1 _ (show Below w1.heap.size w1 (ext (ext w1 y2) y3) by (repeat' (first | (with_reducible exact Below.refl _ _) | (with_reducible refine Below.alloc ?_ ?_ _) | (with_reducible refine below_ext ?_ ?_ _) | (with_reducible refine Below.drew ?_) | (with_reducible refine below_drewN ?_ _) | (with_reducible refine Below.setCell ?_ ?_ _) | go_size | (simp only [go_sem]; omega) | (simp [go_sem]; done) | (simp [go_sem]; omega)))) HR1.out hF1 ⟨pA, pm, pq, pn⟩ _ hp.out); (simp only [RPg.v, RPg.V] at RC2); (with_reducible refine RC2.mono ?_); clear RC2; (rintro _ _ ⟨U', x2, rfl, rfl, hB⟩); (obtain ⟨A2, c2, us2, ⟨tA, tm, tc, tn⟩, rfl, H2⟩ := hB); (try simp only [RPg.V]); replace H2 := Lib.hid H2); (refine hK.out _ _ ?_ (fun hHeld => ?_)); (focus ((try dsimp only); (refine ⟨?_, ?_, ?_, ?_, ?_, ?_, ?_, ?_, ?_, ?_⟩ <;> simp [go_sem, e0, e1, e2, e3, e4, el, k7, k8, k9, k10, k11, kl]); done)); clear hK K; (try simp only [Act.put, List.setIfInBounds_toArray, List.set_cons_zero, List.set_cons_succ]))
  (refine AtF.only (oi := ?_) 13 ?_ ?_ (fun K hK => ?_); rotate_left 1; rfl; kernel_rfl; (try go_simp); skip; (refine hK.out _ _ ?_ (fun hHeld => ?_)); (focus ((try dsimp only); (refine ⟨?_, ?_, ?_, ?_, ?_, ?_, ?_, ?_, ?_, ?_⟩ <;> simp [go_sem, e0, e1, e2, e3, e4, el, k7, k8, k9, k10, k11, kl]); done)); clear hK K; (try simp only [Act.put, List.setIfInBounds_toArray, List.set_cons_zero, List.set_cons_succ]))
  (refine AtF.last (oi := ?_) ?_ ?_ (fun K hK => ?_); rotate_left 1; rfl; kernel_rfl; go_simp; skip; refine hK.out _ _ ?_; clear hK K; (try simp only [Act.put, List.setIfInBounds_toArray, List.set_cons_zero, List.set_cons_succ]))
  go_wp2
  obtain ⟨z9, hz⟩ : ∃ z : More, ∀ w : World, ext (ext (ext w y2) y3) x2 = ext w z := ⟨⟨y2.objs ++ (y3.objs ++ x2.objs), x2.drawn⟩, fun w => by rw [ext_ext, ext_ext]⟩
  rw [hz] at H2 ⊢
  clear hz
  have H3 : RBk (ext w1 z9) (offs F G w w1) (rbV A2 (S.set S.at P).pages.length c2 (.slice tA tm tc) tn (S.set S.at P).now (S.set S.at P).below) (S.set S.at P) := ⟨A2, c2, us2, ⟨tA, tm, tc, tn⟩, rfl, H2.out⟩
  obtain ⟨W3, h3, hk3, hs3⟩ := store5e z9 b2.out (.slice A2 (S.set S.at P).pages.length c2) (.slice tA tm tc) (.int .i64 tn) (.int .i64 (S.set S.at P).now) (.bool (S.set S.at P).below)
  rw [h3]
  obtain ⟨s0, s1, s2, s3, s4, sl, -⟩ := five hs3
  have FN2 := Lib.hid (FIN.out _ _ _ H3 (below_of_ext w1 z9) (hk3.mono (fun x hx => by omega)))
  clear hs3 b2 h3 FIN
  simp [bodyPost, go_sem, s0, s1, s2, s3, s4]
  exact ⟨_, by simp [results, Try.f37, go_sem, s0, s1, s2, s3, s4] <;> rfl, FN2.out⟩
end
end Go.Proofs.Ytpahcgappaifnaa
