/- The document's books: what they are in memory; Turn, Step, Sheet, SetPage, SetSheet, Copy.  -/
import Derived.Test.YtpahcgappaifnaaBkB
import Derived.Test.YtpahcgappaifnaaRegionF
import Derived.Test.YtpahcgappaifnaaRegionE
namespace Go.Proofs.Ytpahcgappaifnaa
open Go.RowKit
set_option linter.unusedVariables false
set_option linter.unusedSimpArgs false

/-- a page of the document's, as it stands in a list or in a struct -/
structure RPg where
  A : Option Addr
  m : Nat
  c : Nat
  n : Nat
def RPg.V (r : RPg) : Value := .slice r.A r.m r.c
def RPg.v (r : RPg) : Value := .agg #[r.V, .int .i64 r.n]
def encU (r : RPg) : List Value := [r.V, .int .i64 r.n]
theorem encU_len (r : RPg) : (encU r).length = 2 := rfl
theorem encU_one (r : RPg) : ∀ u ∈ encU r, u.oneCell' = true := by
  intro u hu
  simp [encU] at hu
  rcases hu with rfl | rfl <;> rfl
theorem pageR_info : (Try.prog.info? 28).map (fun i => (i.zero, i.size, i.bytes)) = some (some (.agg #[.slice none 0 0, .int .i64 0]), 2, 32) := by kernel_rfl
/-- a list of the document's pages, off the blocks F -/
structure RPs (w : World) (F : Nat → Prop) (A : Option Addr) (us : List RPg) (Ps : List PgS) : Prop where
  rd : Rd encU 2 w A us
  off : 0 < us.length → ∀ q o, A = some ⟨q, o, none⟩ → ¬ F q
  len : us.length = Ps.length
  pg : ∀ (i : Nat) (r : RPg) (P : PgS), us[i]? = some r → Ps[i]? = some P → RefAt w F r.v P
/-- a book of the document's, opened -/
structure RBo (w : World) (F : Nat → Prop) (S : BkS) (A : Option Addr) (us : List RPg) (s : RPg) : Prop where
  ps : RPs w F A us S.pages
  st : RefAt w F s.v S.status
abbrev rbV (A : Option Addr) (n c : Nat) (V : Value) (m : Int) (nw : Int) (bl : Bool) : Value := .agg #[.slice A n c, V, .int .i64 m, .int .i64 nw, .bool bl]
def RBk (w : World) (F : Nat → Prop) (U : Value) (S : BkS) : Prop := ∃ A c us s, U = rbV A S.pages.length c s.V s.n S.now S.below ∧ RBo w F S A us s
/-- a call that answers a book of the document's, off the blocks F -/
def NewRB (F : Nat → Prop) (S : BkS) (w : World) (e : Ending) (w' : World) : Prop := ∃ U x, e = .returned U ∧ w' = ext w x ∧ RBk (ext w x) F U S
section
variable {w w' : World} {F G : Nat → Prop} {S : BkS} {A : Option Addr} {us : List RPg} {s r : RPg} {Ps : List PgS} {P : PgS} {U : Value} {i : Nat}
theorem RefAt.keep' (h : RefAt w F U P) (hk : Keep G w w') (hd : ∀ x, ¬ F x → ¬ G x) : RefAt w' F U P := by
  obtain ⟨V, rows, h1, h2, h3, h4⟩ := h
  exact ⟨V, rows, h1, h2.keep hk (fun b hb => hd b (h4 b hb)), h3, h4⟩
theorem RefAt.rp (h : RefAt w F U P) : ∃ r : RPg, U = r.v ∧ r.n = P.cols := by
  obtain ⟨V, rows, rfl, h2, h3, h4⟩ := h
  obtain ⟨A, c, rfl, _, _⟩ := h2.form
  exact ⟨⟨A, rows.length, c, P.cols⟩, rfl, rfl⟩
theorem RefAt.cols (h : RefAt w F r.v P) : r.n = P.cols := by
  obtain ⟨V, rows, h1, h2, h3, h4⟩ := h
  simp only [RPg.v] at h1
  injection h1 with h1
  have := congrArg (fun a : Array Value => a[1]?) h1
  simp at this
  omega
theorem RPs.keep (h : RPs w F A us Ps) (hk : Keep G w w') (hd : ∀ x, ¬ F x → ¬ G x) : RPs w' F A us Ps :=
  ⟨h.rd.keep' hk (fun h0 q o e => hd q (h.off h0 q o e)), h.off, h.len, fun i r P hr hP => (h.pg i r P hr hP).keep' hk hd⟩
theorem RPs.grow (h : RPs w F A us Ps) (hb : Below w.heap.size w w') : RPs w' F A us Ps := ⟨h.rd.below hb, h.off, h.len, fun i r P hr hP => (h.pg i r P hr hP).grow hb⟩
theorem RPs.mono (h : RPs w F A us Ps) (hF : ∀ x, x < w.heap.size → G x → F x) : RPs w G A us Ps :=
  ⟨h.rd, fun h0 q o e g => (by
    obtain ⟨b, off, e2, hlt, _⟩ := h.rd h0
    rw [e] at e2
    injection e2 with e2
    injection e2 with e2
    subst e2
    exact h.off h0 q o e (hF q hlt g)), h.len, fun i r P hr hP => (h.pg i r P hr hP).mono hF⟩
theorem RPs.get (h : RPs w F A us Ps) (hi : i < Ps.length) : ∃ r L o, us[i]? = some r ∧ A = some ⟨L, o, none⟩ ∧ RefAt w F r.v Ps[i] ∧ w.cell? ⟨L, o + i * 2, none⟩ = some r.V ∧ w.cell? ⟨L, o + i * 2 + 1, none⟩ = some (.int .i64 r.n) ∧ L < w.heap.size := by
  have h1 : i < us.length := by rw [h.len]; exact hi
  obtain ⟨b, off, e, hlt, hc⟩ := h.rd (by omega)
  refine ⟨us[i], b, off, List.getElem?_eq_getElem h1, e, h.pg i _ _ (List.getElem?_eq_getElem h1) (List.getElem?_eq_getElem hi), ?_, ?_, hlt⟩
  · have := hc i h1 0 _ (by rfl : (encU us[i])[0]? = some us[i].V)
    simpa using this
  · have := hc i h1 1 _ (by rfl : (encU us[i])[1]? = some (.int .i64 us[i].n))
    rw [← this]
    rfl
theorem RBo.keep (h : RBo w F S A us s) (hk : Keep G w w') (hd : ∀ x, ¬ F x → ¬ G x) : RBo w' F S A us s := ⟨h.ps.keep hk hd, h.st.keep' hk hd⟩
theorem RBo.grow (h : RBo w F S A us s) (hb : Below w.heap.size w w') : RBo w' F S A us s := ⟨h.ps.grow hb, h.st.grow hb⟩
theorem RBk.keep (h : RBk w F U S) (hk : Keep G w w') (hd : ∀ x, ¬ F x → ¬ G x) : RBk w' F U S := by
  obtain ⟨A, c, us, s, e, h⟩ := h
  exact ⟨A, c, us, s, e, h.keep hk hd⟩
theorem RBk.grow (h : RBk w F U S) (hb : Below w.heap.size w w') : RBk w' F U S := by
  obtain ⟨A, c, us, s, e, h⟩ := h
  exact ⟨A, c, us, s, e, h.grow hb⟩
theorem RBk.mono (h : RBk w F U S) (hF : ∀ x, x < w.heap.size → G x → F x) : RBk w G U S := by
  obtain ⟨A, c, us, s, e, h⟩ := h
  exact ⟨A, c, us, s, e, h.ps.mono hF, h.st.mono hF⟩
theorem NewRB.of {c n : Nat} (h : RBo w F S A us s) (hb : Below w.heap.size w w') (hn : n = S.pages.length) : NewRB F S w (.returned (rbV A n c s.V s.n S.now S.below)) w' := by
  subst hn
  obtain ⟨x, rfl⟩ := ext_of hb
  exact ⟨_, x, rfl, rfl, A, c, us, s, rfl, h.grow hb⟩
theorem Keep.ext {a b : World} (h : Keep F a b) (hs : a.heap.size = b.heap.size) (x : More) : Keep F (ext a x) (ext b x) :=
  ⟨h.os, h.tape, h.output, by simp [hs], fun k hk hF => by
    rcases Nat.lt_or_ge k a.heap.size with hl | hl
    · rw [block_ext _ _ hl, block_ext _ _ (by omega)]
      exact h.block k hl hF
    · simp only [Go.Proofs.Ytpahcgappaifnaa.ext]
      rw [Array.getElem?_append_right (by omega), Array.getElem?_append_right (by omega), hs]⟩
theorem keep_swap (w0 : World) (o o' : Obj) {R : Nat} (hR : R = w0.heap.size) : Keep (· = R) (w0.alloc o) (w0.alloc o') := by
  subst hR
  refine ⟨rfl, rfl, rfl, by simp, fun k hk hne => ?_⟩
  simp only [World.size_alloc] at hk
  have hlt : k < w0.heap.size := by omega
  exact (((Below.refl w0.heap.size w0).alloc (Nat.le_refl _) o').block k hlt).trans (((Below.refl w0.heap.size w0).alloc (Nat.le_refl _) o).block k hlt).symm
theorem NewRB.at {W : World} {R c n : Nat} (h : RBo W (fun x => F x ∨ x = R) S A us s) (hk : Keep (· = R) W w') (hb : Below w.heap.size w w') (hn : n = S.pages.length) : NewRB F S w (.returned (rbV A n c s.V s.n S.now S.below)) w' := by
  subst hn
  have h2 := h.keep hk (fun x hx e => hx (.inr e))
  obtain ⟨x, rfl⟩ := ext_of hb
  exact ⟨_, x, rfl, rfl, A, c, us, s, rfl, h2.ps.mono (fun _ _ => .inl), h2.st.mono (fun _ _ => .inl)⟩
theorem RBk.off {R : Nat} (h : RBk w F U S) (hR : w.heap.size ≤ R) : RBk w (fun x => F x ∨ x = R) U S := h.mono (fun x hx g => g.elim id (fun e => by omega))
set_option maxRecDepth 100000 in
theorem rturn_c (n : Int) (h : RBk w F U S) (hS : S.Ok) : Calls Try.prog 69 #[U, .int .i64 n] w (NewRB F (S.turn n) w) := by
  obtain ⟨A, c, us, ⟨sA, sm, sc, sn⟩, rfl, H⟩ := h
  have p1 := hS.p1
  have p2 := hS.p2
  have CL := Lib.hid (fun w' => clamp_l n 0 ((S.pages.length : Int) - 1) w')
  have e1 := Lib.hid (turnN_eq hS n).1
  have FIN := Lib.hid (fun w' (hb : Below w.heap.size w w') => NewRB.of (S := S.turn n) (c := c) (w' := w') (by exact ⟨H.ps, H.st⟩ : RBo w F (S.turn n) A us ⟨sA, sm, sc, sn⟩) hb rfl)
  clear H
  simp only [RPg.V] at FIN ⊢
  go_enter Try.func69, Try.ntmps69
  go_wp2_with (go_at_call 82; ((with_reducible refine (CL.out _).mono ?_); rintro _ _ hgets; obtain ⟨rfl, x1, rfl⟩ := hgets.get; clear hgets))
  go_returns
  rw [← e1.out]
  refine FIN.out _ ?_
  (repeat' (first | (with_reducible exact Below.refl _ _) | (with_reducible refine Below.alloc ?_ ?_ _) | (with_reducible refine below_ext ?_ ?_ _) | (with_reducible refine Below.drew ?_) | (with_reducible refine below_drewN ?_ _) | (with_reducible refine Below.setCell ?_ ?_ _) | go_size | (simp only [go_sem]; omega) | (simp [go_sem]; done) | (simp [go_sem]; omega)))
set_option maxRecDepth 100000 in
theorem rstep_c (n : Int) (h : RBk w F U S) (hS : S.Ok) : Calls Try.prog 70 #[U, .int .i64 n] w (NewRB F (S.step n) w) := by
  have h' := Lib.hid h
  obtain ⟨A, c, us, ⟨sA, sm, sc, sn⟩, rfl, H⟩ := h
  have p2 := hS.p2
  have nw := hS.nw
  have CL := Lib.hid (fun w' => clamp_l n (-100) 100 w')
  have hin := clampR_in n (show (-100 : Int) ≤ 100 by omega)
  have TU := Lib.hid (fun w' (hb : Below w.heap.size w w') => rturn_c (S.now + clampR n (-100) 100) ((h'.out.off (R := w.heap.size + 1) (by omega)).grow hb) hS)
  have eS : S.turn (S.now + clampR n (-100) 100) = S.step n := rfl
  rw [eS] at TU
  generalize clampR n (-100) 100 = k at CL hin TU
  generalize S.step n = T at TU ⊢
  clear H h' eS
  simp only [RPg.V] at TU ⊢
  have hw : IntKind.i64.wrap ((S.now : Int) + k) = S.now + k := wrap_i64 (by omega) (by omega)
  go_enter Try.func70, Try.ntmps70
  go_upto_region 1 with fail
  (refine wp_region_F (S := (fun w' => w'.cell? ⟨w.heap.size, 0, none⟩ = some (.slice A S.pages.length c) ∧ w'.cell? ⟨w.heap.size, 1, none⟩ = some (.slice sA sm sc) ∧ w'.cell? ⟨w.heap.size, 2, none⟩ = some (.int .i64 sn) ∧ w'.cell? ⟨w.heap.size, 3, none⟩ = some (.int .i64 S.now) ∧ w'.cell? ⟨w.heap.size, 4, none⟩ = some (.bool S.below))) 7 [false, false, false, false, false, false, false, false] rfl rfl (by kernel_rfl) ?_ (fun hHeld => ?_); (focus ((try dsimp only); (refine ⟨?_, ?_, ?_, ?_, ?_⟩ <;> simp [go_sem]); done)))
  ((refine AtF.take (oi := ?_) (v := ?_) 0 ?_ ?_ ?_ ?_ (Or.inl ⟨?_, ?_⟩) (by assumption) ?_; rotate_left 2; rfl; kernel_rfl; kernel_rfl; exact (fun _ _ _ h => h); rfl; (focus (intro w hSw; (try dsimp only at hSw); go_simp; (try with_reducible rfl); done)); (try simp only [Act.put, List.setIfInBounds_toArray, List.set_cons_zero, List.set_cons_succ])); (refine AtF.take (oi := ?_) (v := ?_) 1 ?_ ?_ ?_ ?_ (Or.inl ⟨?_, ?_⟩) (by assumption) ?_; rotate_left 2; rfl; kernel_rfl; kernel_rfl; exact (fun _ _ _ h => h); rfl; (focus (intro w hSw; (try dsimp only at hSw); go_simp; (try with_reducible rfl); done)); (try simp only [Act.put, List.setIfInBounds_toArray, List.set_cons_zero, List.set_cons_succ])); (refine AtF.take (oi := ?_) (v := ?_) 2 ?_ ?_ ?_ ?_ (Or.inl ⟨?_, ?_⟩) (by assumption) ?_; rotate_left 2; rfl; kernel_rfl; kernel_rfl; exact (fun _ _ _ h => h); rfl; (focus (intro w hSw; (try dsimp only at hSw); go_simp; (try with_reducible rfl); done)); (try simp only [Act.put, List.setIfInBounds_toArray, List.set_cons_zero, List.set_cons_succ])); (refine AtF.take (oi := ?_) (v := ?_) 3 ?_ ?_ ?_ ?_ (Or.inl ⟨?_, ?_⟩) (by assumption) ?_; rotate_left 2; rfl; kernel_rfl; kernel_rfl; exact (fun _ _ _ h => h); rfl; (focus (intro w hSw; (try dsimp only at hSw); go_simp; (try with_reducible rfl); done)); (try simp only [Act.put, List.setIfInBounds_toArray, List.set_cons_zero, List.set_cons_succ])))
  (refine AtF.only (oi := ?_) 4 ?_ ?_ (fun K hK => ?_); rotate_left 1; rfl; kernel_rfl; (try go_simp); (go_at_call 82; ((with_reducible refine (CL.out _).mono ?_); rintro _ _ hgets; obtain ⟨rfl, x1, rfl⟩ := hgets.get; clear hgets)); (refine hK.out _ _ ?_ (fun hHeld => ?_)); (focus ((try dsimp only); (refine ⟨?_, ?_, ?_, ?_, ?_⟩ <;> simp [go_sem]); done)); clear hK K; (try simp only [Act.put, List.setIfInBounds_toArray, List.set_cons_zero, List.set_cons_succ]))
  ((refine AtF.take (oi := ?_) (v := ?_) 5 ?_ ?_ ?_ ?_ (Or.inl ⟨?_, ?_⟩) (by assumption) ?_; rotate_left 2; rfl; kernel_rfl; kernel_rfl; exact (fun _ _ _ h => h); rfl; (focus (intro w hSw; (try dsimp only at hSw); go_simp; (try with_reducible rfl); done)); (try simp only [Act.put, List.setIfInBounds_toArray, List.set_cons_zero, List.set_cons_succ])))
  (refine AtF.only (oi := ?_) 6 ?_ ?_ (fun K hK => ?_); rotate_left 1; rfl; kernel_rfl; (try go_simp); ((go_at_call 69); (try rw [hw]); (with_reducible refine (TU.out _ (by (repeat' (first | (with_reducible exact Below.refl _ _) | (with_reducible refine Below.alloc ?_ ?_ _) | (with_reducible refine below_ext ?_ ?_ _) | (with_reducible refine Below.drew ?_) | (with_reducible refine below_drewN ?_ _) | (with_reducible refine Below.setCell ?_ ?_ _) | go_size | (simp only [go_sem]; omega) | (simp [go_sem]; done) | (simp [go_sem]; omega))))).mono ?_); (rintro _ _ ⟨U', x2, rfl, rfl, hB⟩); (obtain ⟨A2, c2, us2, ⟨tA, tm, tc, tn⟩, rfl, H2⟩ := hB); (try simp only [RPg.V]); replace H2 := Lib.hid H2); (refine hK.out _ _ ?_ (fun hHeld => ?_)); (focus ((try dsimp only); (refine ⟨?_, ?_, ?_, ?_, ?_⟩ <;> simp [go_sem]); done)); clear hK K; (try simp only [Act.put, List.setIfInBounds_toArray, List.set_cons_zero, List.set_cons_succ]))
  (refine AtF.last (oi := ?_) ?_ ?_ (fun K hK => ?_); rotate_left 1; rfl; kernel_rfl; go_simp; skip; refine hK.out _ _ ?_; clear hK K; (try simp only [Act.put, List.setIfInBounds_toArray, List.set_cons_zero, List.set_cons_succ]))
  go_wp2
  go_returns
  exact NewRB.at (n := T.pages.length) (s := ⟨tA, tm, tc, tn⟩) H2.out (((keep_swap _ _ _ (by simp)).ext (by simp) _).ext (by simp) _) (by (repeat' (first | (with_reducible exact Below.refl _ _) | (with_reducible refine Below.alloc ?_ ?_ _) | (with_reducible refine below_ext ?_ ?_ _) | (with_reducible refine Below.drew ?_) | (with_reducible refine below_drewN ?_ _) | (with_reducible refine Below.setCell ?_ ?_ _) | go_size | (simp only [go_sem]; omega) | (simp [go_sem]; done) | (simp [go_sem]; omega)))) rfl
/-- a call that answers one of the document's pages that are there -/
def OldP (F : Nat → Prop) (P : PgS) (w : World) (e : Ending) (w' : World) : Prop := ∃ r : RPg, e = .returned r.v ∧ Below w.heap.size w w' ∧ RefAt w F r.v P
set_option maxRecDepth 100000 in
theorem rsheet_c (h : RBk w F U S) (hS : S.Ok) : Calls Try.prog 45 #[U] w (OldP F S.sheet w) := by
  obtain ⟨A, c, us, ⟨sA, sm, sc, sn⟩, rfl, H⟩ := h
  simp only [RPg.V]
  cases hb : S.below
  · obtain ⟨⟨rA, rm, rc, rn⟩, L, o, -, rfl, hr, d0, d1, hL⟩ := H.ps.get hS.nw
    simp only [RPg.V] at d0 d1
    have e : S.sheet = S.pages[S.now]'hS.nw := by unfold BkS.sheet; rw [hb]; simp [hS.nw]
    rw [e]
    have hnw := hS.nw
    have p2 := hS.p2
    replace hr := Lib.hid hr
    clear H e
    generalize S.pages[S.now] = P at hr ⊢
    go_enter Try.func45, Try.ntmps45
    go_wp2
    go_returns
    exact ⟨⟨rA, rm, rc, rn⟩, rfl, by (repeat' (first | (with_reducible exact Below.refl _ _) | (with_reducible refine Below.alloc ?_ ?_ _) | (with_reducible refine below_ext ?_ ?_ _) | (with_reducible refine Below.drew ?_) | (with_reducible refine below_drewN ?_ _) | (with_reducible refine Below.setCell ?_ ?_ _) | go_size | (simp only [go_sem]; omega) | (simp [go_sem]; done) | (simp [go_sem]; omega))), hr.out⟩
  · have hr := Lib.hid H.st
    have e : S.sheet = S.status := by unfold BkS.sheet; rw [hb]; rfl
    rw [e]
    clear H e
    go_enter Try.func45, Try.ntmps45
    go_wp2
    go_returns
    exact ⟨⟨sA, sm, sc, sn⟩, rfl, by (repeat' (first | (with_reducible exact Below.refl _ _) | (with_reducible refine Below.alloc ?_ ?_ _) | (with_reducible refine below_ext ?_ ?_ _) | (with_reducible refine Below.drew ?_) | (with_reducible refine below_drewN ?_ _) | (with_reducible refine Below.setCell ?_ ?_ _) | go_size | (simp only [go_sem]; omega) | (simp [go_sem]; done) | (simp [go_sem]; omega))), hr.out⟩
theorem flat_setU (y : RPg) : ∀ (xs : List RPg) (i : Nat), i < xs.length → (((xs.flatMap encU).set (i * 2) y.V).set (i * 2 + 1) (.int .i64 y.n)) = (xs.set i y).flatMap encU
  | [], i, h => by simp at h
  | x :: xs, 0, h => by simp [encU]
  | x :: xs, i + 1, h => by
    have ih := flat_setU y xs i (by simpa using h)
    rw [show (i + 1) * 2 = i * 2 + 2 by omega, show i * 2 + 2 + 1 = i * 2 + 1 + 2 by omega]
    simp only [List.flatMap_cons, List.set_cons_succ]
    rw [← ih]
    simp [encU]
/-- a page of the new list is another one -/
theorem setpage_fin {W W3 : World} {L c c' n : Nat} {p : RPg} (hU : w.heap.size ≤ L) (hF : ¬ F L) (hO : Own encU 2 28 w.heap.size W (.slice (some ⟨L, 0, none⟩) us.length c) us) (hi : i < us.length)
    (hW : W3 = (W.setCell ⟨L, i * 2, none⟩ p.V).setCell ⟨L, i * 2 + 1, none⟩ (.int .i64 p.n)) (h : RPs w F A us Ps) (hp : RefAt w F p.v P) (hB : Below w.heap.size w W) : RPs W3 F (some ⟨L, 0, none⟩) (us.set i p) (Ps.set i P) ∧ Below w.heap.size w W3 := by
  have hB3 : Below w.heap.size w W3 := by rw [hW]; exact below_set (below_set hB _ _ hU) _ _ hU
  refine ⟨⟨?_, fun _ q o e f => ?_, by simp [h.len], fun k r Q hr hQ => ?_⟩, hB3⟩
  · have h0 : W.ownsRow w.heap.size 28 2 (.slice (some ⟨L, 0, none⟩) us.length c) us.length (us.flatMap encU) := hO
    have h3 := ((h0.stored (i * 2) p.V).1.stored (i * 2 + 1) (.int .i64 p.n)).1
    rw [flat_setU p us i hi] at h3
    have hO3 : Own encU 2 28 w.heap.size W3 (.slice (some ⟨L, 0, none⟩) us.length c) (us.set i p) := by
      rw [hW]
      unfold Own
      rw [List.length_set]
      exact h3
    exact hO3.rd encU_len
  · injection e with e
    injection e with e
    subst e
    exact hF f
  · rw [List.getElem?_set] at hr hQ
    by_cases e : i = k
    · subst e
      rw [if_pos rfl, if_pos hi] at hr
      rw [if_pos rfl, if_pos (by rw [← h.len]; exact hi)] at hQ
      injection hr with hr
      injection hQ with hQ
      subst hr hQ
      exact hp.grow hB3
    · rw [if_neg e] at hr hQ
      exact (h.pg k r Q hr hQ).grow hB3
theorem three_0 (w : World) (o1 o2 o3 : Obj) (x : More) : (ext (((w.alloc o1).alloc o2).alloc o3) x).heap[w.heap.size]? = some o1 := by
  have hb : Below (w.alloc o1).heap.size (w.alloc o1) (ext (((w.alloc o1).alloc o2).alloc o3) x) := by (repeat' (first | (with_reducible exact Below.refl _ _) | (with_reducible refine Below.alloc ?_ ?_ _) | (with_reducible refine below_ext ?_ ?_ _) | (with_reducible refine Below.drew ?_) | (with_reducible refine below_drewN ?_ _) | (with_reducible refine Below.setCell ?_ ?_ _) | go_size | (simp only [go_sem]; omega) | (simp [go_sem]; done) | (simp [go_sem]; omega)))
  exact (hb.block w.heap.size (by simp)).trans (heap_alloc_new w o1)
theorem three_1 (w : World) (o1 o2 o3 : Obj) (x : More) : (ext (((w.alloc o1).alloc o2).alloc o3) x).heap[w.heap.size + 1]? = some o2 := by
  have hb : Below ((w.alloc o1).alloc o2).heap.size ((w.alloc o1).alloc o2) (ext (((w.alloc o1).alloc o2).alloc o3) x) := by (repeat' (first | (with_reducible exact Below.refl _ _) | (with_reducible refine Below.alloc ?_ ?_ _) | (with_reducible refine below_ext ?_ ?_ _) | (with_reducible refine Below.drew ?_) | (with_reducible refine below_drewN ?_ _) | (with_reducible refine Below.setCell ?_ ?_ _) | go_size | (simp only [go_sem]; omega) | (simp [go_sem]; done) | (simp [go_sem]; omega)))
  have := heap_alloc_new (w.alloc o1) o2
  rw [World.size_alloc] at this
  exact (hb.block (w.heap.size + 1) (by simp)).trans this
theorem three_2 (w : World) (o1 o2 o3 : Obj) (x : More) : (ext (((w.alloc o1).alloc o2).alloc o3) x).heap[w.heap.size + 1 + 1]? = some o3 := by
  have hb : Below (((w.alloc o1).alloc o2).alloc o3).heap.size (((w.alloc o1).alloc o2).alloc o3) (ext (((w.alloc o1).alloc o2).alloc o3) x) := by (repeat' (first | (with_reducible exact Below.refl _ _) | (with_reducible refine Below.alloc ?_ ?_ _) | (with_reducible refine below_ext ?_ ?_ _) | (with_reducible refine Below.drew ?_) | (with_reducible refine below_drewN ?_ _) | (with_reducible refine Below.setCell ?_ ?_ _) | go_size | (simp only [go_sem]; omega) | (simp [go_sem]; done) | (simp [go_sem]; omega)))
  have := heap_alloc_new ((w.alloc o1).alloc o2) o3
  rw [World.size_alloc, World.size_alloc] at this
  exact (hb.block (w.heap.size + 1 + 1) (by simp)).trans this
theorem set_cellA {b k : Nat} {cur : Array Value} {t : TypeId} (v : Value) (h : w.heap[b]? = some (.cells cur t (0, 0))) : (w.setCell ⟨b, k, none⟩ v).heap[b]? = some (.cells (cur.setIfInBounds k v) t (0, 0)) := by
  simp [World.setCell, Array.getElem?_modify, h]
/-- a struct of five cells is read off, is stored -/
theorem five {b : Nat} {v0 v1 v2 v3 v4 : Value} {t : TypeId} (h : w.heap[b]? = some (.cells #[v0, v1, v2, v3, v4] t (0, 0))) : w.cell? ⟨b, 0, none⟩ = some v0 ∧ w.cell? ⟨b, 1, none⟩ = some v1 ∧ w.cell? ⟨b, 2, none⟩ = some v2 ∧ w.cell? ⟨b, 3, none⟩ = some v3 ∧ w.cell? ⟨b, 4, none⟩ = some v4 ∧ b < w.heap.size ∧ ∀ q, w.frozen? ⟨b, q, none⟩ = false := by
  refine ⟨?_, ?_, ?_, ?_, ?_, heap_in h, fun q => frozen_in h⟩ <;> (rw [cell_in h]; rfl)
theorem store5 {b : Nat} {u0 u1 u2 u3 u4 : Value} {t : TypeId} (h : w.heap[b]? = some (.cells #[u0, u1, u2, u3, u4] t (0, 0))) (v0 v1 v2 v3 v4 : Value) :
    ∃ W', ((((w.setCell ⟨b, 0, none⟩ v0).setCell ⟨b, 1, none⟩ v1).setCell ⟨b, 2, none⟩ v2).setCell ⟨b, 3, none⟩ v3).setCell ⟨b, 4, none⟩ v4 = W' ∧ Keep (· = b) w W' ∧ W'.heap[b]? = some (.cells #[v0, v1, v2, v3, v4] t (0, 0)) := by
  refine ⟨_, rfl, ((((keep_set w b 0 v0).set (F := (· = b)) (p := ⟨b, 1, none⟩) (.inl rfl) v1).set (F := (· = b)) (p := ⟨b, 2, none⟩) (.inl rfl) v2).set (F := (· = b)) (p := ⟨b, 3, none⟩) (.inl rfl) v3).set (F := (· = b)) (p := ⟨b, 4, none⟩) (.inl rfl) v4, ?_⟩
  have := set_cellA (k := 4) v4 (set_cellA (k := 3) v3 (set_cellA (k := 2) v2 (set_cellA (k := 1) v1 (set_cellA (k := 0) v0 h))))
  simpa using this
theorem keep5 (w : World) (b : Nat) (v0 v1 v2 v3 v4 : Value) : Keep (· = b) w (((((w.setCell ⟨b, 0, none⟩ v0).setCell ⟨b, 1, none⟩ v1).setCell ⟨b, 2, none⟩ v2).setCell ⟨b, 3, none⟩ v3).setCell ⟨b, 4, none⟩ v4) :=
  ((((keep_set w b 0 v0).set (F := (· = b)) (p := ⟨b, 1, none⟩) (.inl rfl) v1).set (F := (· = b)) (p := ⟨b, 2, none⟩) (.inl rfl) v2).set (F := (· = b)) (p := ⟨b, 3, none⟩) (.inl rfl) v3).set (F := (· = b)) (p := ⟨b, 4, none⟩) (.inl rfl) v4
set_option maxRecDepth 100000 in
set_option maxHeartbeats 2000000 in
theorem setpage_c (i : Nat) (hi : i < S.pages.length) (h : RBk w F U S) (hS : S.Ok) (p : RPg) (hp : RefAt w F p.v P) (hF : ∀ x, F x → x < w.heap.size) : Calls Try.prog 102 #[U, .int .i64 i, p.v] w (NewRB F (S.set i P) w) := by
  obtain ⟨A, c, us, ⟨sA, sm, sc, sn⟩, rfl, H⟩ := h
  obtain ⟨pA, pm, pc, pn⟩ := p
  have hus : us.length = S.pages.length := H.ps.len
  have p1 := hS.p1
  have p2 := hS.p2
  have HR := Lib.hid H.ps.rd
  obtain ⟨F', hF'⟩ : ∃ F' : Nat → Prop, F' = fun x => F x ∨ x = w.heap.size ∨ x = w.heap.size + 1 + 1 := ⟨_, rfl⟩
  have H1 : RPs w F' A us S.pages := H.ps.mono (fun x hx g => by rw [hF'] at g; rcases g with g | g | g; exact g; omega; omega)
  have hp1 : RefAt w F' (RPg.v ⟨pA, pm, pc, pn⟩) P := hp.mono (fun x hx g => by rw [hF'] at g; rcases g with g | g | g; exact g; omega; omega)
  have FIN := Lib.hid (fun W L c' W3 (hU : w.heap.size + 1 + 1 < L) (hO : Own encU 2 28 w.heap.size W (.slice (some ⟨L, 0, none⟩) us.length c') us) (hW : W3 = (W.setCell ⟨L, i * 2, none⟩ (.slice pA pm pc)).setCell ⟨L, i * 2 + 1, none⟩ (.int .i64 pn)) (hB : Below w.heap.size w W) =>
    setpage_fin (p := ⟨pA, pm, pc, pn⟩) (c' := c') (n := 0) (by omega) (by rw [hF']; rintro (f | f | f); have := hF _ f; omega; omega; omega) hO (by rw [hus]; exact hi) hW H1 hp1 hB)
  have eS : S.set i P = ⟨S.pages.set i P, S.status, S.now, S.below⟩ := by unfold BkS.set; rw [if_pos hi]
  rw [eS]
  have HS := Lib.hid (fun W3 L us' c' (hR : RPs W3 F' (some ⟨L, 0, none⟩) us' (S.pages.set i P)) W4 (hk : Keep (fun x => x = w.heap.size ∨ x = w.heap.size + 1 + 1) W3 W4) (hB4 : Below w.heap.size w W4) => (by
    obtain ⟨x, e⟩ := ext_of hB4
    have hR4 : RPs W4 F (some ⟨L, 0, none⟩) us' (S.pages.set i P) := (hR.keep hk (fun x hx g => hx (by rw [hF']; exact .inr g))).mono (fun x _ f => by rw [hF']; exact .inl f)
    exact ⟨_, x, rfl, e, some ⟨L, 0, none⟩, c', us', ⟨sA, sm, sc, sn⟩, by simp only [List.length_set, hus]; rfl, by rw [← e]; exact hR4, by rw [← e]; exact H.st.grow hB4⟩ :
      NewRB F ⟨S.pages.set i P, S.status, S.now, S.below⟩ w (.returned (rbV (some ⟨L, 0, none⟩) us.length c' (.slice sA sm sc) sn S.now S.below)) W4))
  rw [← hus] at p1 p2 hi ⊢
  clear hus
  simp only [RPg.V, RPg.v]
  clear H hp eS H1 hp1
  go_enter Try.func102, Try.ntmps102
  go_upto_region 1 with fail
  go_upto_region 2 with
    (at_builtin
     refine append_rd (U := ((w.alloc (.cells #[.slice A us.length c, .slice sA sm sc, .int .i64 sn, .int .i64 S.now, .bool S.below] 30)).alloc (.cells #[.slice pA pm pc, .int .i64 pn] 28)).alloc (.cells #[.slice none 0 0, .slice none 0 0, .int .i64 0, .int .i64 0, .bool false] 30)) (.tmp 8) (.tmp 10) _ 28 _ 32 rfl rfl Try.underlying25 pageR_info rfl (by omega) encU_len encU_one [] us _ A c rfl rfl ?_ (Own.new encU_len (by simp) rfl #[] rfl (Nat.le_refl _) (by simp [maxLen])) (by repeat (first | exact HR.out | exact HR | refine Rd.ext ?_ _ | refine Rd.alloc ?_ _ | refine Rd.drew ?_)) (by simp [maxLen]; omega) (by simp; omega) ?_
     · (repeat' (first | (with_reducible exact Below.refl _ _) | (with_reducible refine Below.alloc ?_ ?_ _) | (with_reducible refine below_ext ?_ ?_ _) | (with_reducible refine Below.drew ?_) | (with_reducible refine below_drewN ?_ _) | (with_reducible refine Below.setCell ?_ ?_ _) | go_size | (simp only [go_sem]; omega) | (simp [go_sem]; done) | (simp [go_sem]; omega)))
     intro A4 c4 x4 zs hz hN)
  rw [List.nil_append] at hz
  subst hz
  obtain ⟨g4, c4', e4, -, -⟩ := hN.some_of (by omega)
  injection e4 with e4 _ e5
  subst e4 e5
  have hg4 : w.heap.size + 1 + 1 + 1 ≤ g4 := by have := (hN.lt g4 rfl).1; simpa using this
  have hO : Own encU 2 28 w.heap.size _ (.slice (some ⟨g4, 0, none⟩) zs.length c4) zs := hN.mono (by simp; omega)
  obtain ⟨cur, hcur⟩ := Own.blk (hO.mono (Nat.zero_le _)) rfl
  obtain ⟨b9, o9, e9, hlt9, hc9⟩ := hO.rd encU_len (by omega)
  injection e9 with e9
  injection e9 with e9 e10
  subst e9 e10
  have d0 := hc9 i hi 0 _ rfl
  have d1 := hc9 i hi 1 _ rfl
  simp only [RPg.V, Nat.zero_add, Nat.add_zero] at d0 d1
  have hfz : ∀ q, World.frozen? _ ⟨g4, q, none⟩ = false := fun q => frozen_in hcur
  obtain ⟨W1, hW1⟩ : ∃ W1, W1 = ext (((w.alloc (.cells #[.slice A zs.length c, .slice sA sm sc, .int .i64 sn, .int .i64 S.now, .bool S.below] 30)).alloc (.cells #[.slice pA pm pc, .int .i64 pn] 28)).alloc (.cells #[.slice none 0 0, .slice none 0 0, .int .i64 0, .int .i64 0, .bool false] 30)) x4 := ⟨_, rfl⟩
  have hB1 : Below w.heap.size w W1 := by rw [hW1]; (repeat' (first | (with_reducible exact Below.refl _ _) | (with_reducible refine Below.alloc ?_ ?_ _) | (with_reducible refine below_ext ?_ ?_ _) | (with_reducible refine Below.drew ?_) | (with_reducible refine below_drewN ?_ _) | (with_reducible refine Below.setCell ?_ ?_ _) | go_size | (simp only [go_sem]; omega) | (simp [go_sem]; done) | (simp [go_sem]; omega)))
  have a0 : W1.heap[w.heap.size]? = some (.cells #[.slice A zs.length c, .slice sA sm sc, .int .i64 sn, .int .i64 S.now, .bool S.below] 30 (0, 0)) := by rw [hW1]; exact three_0 _ _ _ _ _
  have a1 : W1.heap[w.heap.size + 1]? = some (.cells #[.slice pA pm pc, .int .i64 pn] 28 (0, 0)) := by rw [hW1]; exact three_1 _ _ _ _ _
  have a2 : W1.heap[w.heap.size + 1 + 1]? = some (.cells #[.slice none 0 0, .slice none 0 0, .int .i64 0, .int .i64 0, .bool false] 30 (0, 0)) := by rw [hW1]; exact three_2 _ _ _ _ _
  rw [← hW1] at hO hfz d0 d1 hlt9 ⊢
  clear hW1 hcur hc9 hN
  have p0 : W1.cell? ⟨w.heap.size + 1, 0, none⟩ = some (.slice pA pm pc) := by rw [cell_in a1]; rfl
  have p1 : W1.cell? ⟨w.heap.size + 1, 1, none⟩ = some (.int .i64 pn) := by rw [cell_in a1]; rfl
  have hl1 := heap_in a1
  have g0 := hfz (i * 2)
  have g1 := hfz (i * 2 + 1)
  have FN := Lib.hid (FIN.out W1 g4 c4 _ (by omega) hO rfl hB1)
  replace hO := Lib.hid hO
  clear hfz a1
  go_upto_region 3 with fail
  have h0 : ((W1.setCell ⟨g4, i * 2, none⟩ (.slice pA pm pc)).setCell ⟨g4, i * 2 + 1, none⟩ (.int .i64 pn)).heap[w.heap.size]? = some (.cells #[.slice A zs.length c, .slice sA sm sc, .int .i64 sn, .int .i64 S.now, .bool S.below] 30 (0, 0)) := by
    rw [Below.heap_setCell _ _ _ _ (by simp only; omega), Below.heap_setCell _ _ _ _ (by simp only; omega)]; exact a0
  have h2 : ((W1.setCell ⟨g4, i * 2, none⟩ (.slice pA pm pc)).setCell ⟨g4, i * 2 + 1, none⟩ (.int .i64 pn)).heap[w.heap.size + 1 + 1]? = some (.cells #[.slice none 0 0, .slice none 0 0, .int .i64 0, .int .i64 0, .bool false] 30 (0, 0)) := by
    rw [Below.heap_setCell _ _ _ _ (by simp only; omega), Below.heap_setCell _ _ _ _ (by simp only; omega)]; exact a2
  generalize (W1.setCell ⟨g4, i * 2, none⟩ (.slice pA pm pc)).setCell ⟨g4, i * 2 + 1, none⟩ (.int .i64 pn) = W2 at FN h0 h2 ⊢
  have hs0 := set_cellA (k := 0) (.slice (some ⟨g4, 0, none⟩) zs.length c4) h0
  have hs2 : (W2.setCell ⟨w.heap.size, 0, none⟩ (.slice (some ⟨g4, 0, none⟩) zs.length c4)).heap[w.heap.size + 1 + 1]? = _ := (Below.heap_setCell _ _ _ _ (by simp only; omega)).trans h2
  have hk5 := keep_set W2 w.heap.size 0 (.slice (some ⟨g4, 0, none⟩) zs.length c4)
  obtain ⟨r0, -, -, -, -, rl, rf⟩ := five h0
  have rf0 := rf 0
  have hB2 := FN.out.2
  clear rf h0 h2 a0 a2 p0 p1 d0 d1 g0 g1 hO
  go_upto_region 4 with fail
  generalize W2.setCell ⟨w.heap.size, 0, none⟩ (.slice (some ⟨g4, 0, none⟩) zs.length c4) = W5 at hk5 hs0 hs2 ⊢
  replace hs0 : W5.heap[w.heap.size]? = some (.cells #[.slice (some ⟨g4, 0, none⟩) zs.length c4, .slice sA sm sc, .int .i64 sn, .int .i64 S.now, .bool S.below] 30 (0, 0)) := hs0
  obtain ⟨e0, e1, e2, e3, e4, el, -⟩ := five hs0
  obtain ⟨R, hR⟩ : ∃ R, R = w.heap.size + 1 + 1 := ⟨_, rfl⟩
  rw [← hR] at hs2 HS ⊢
  have hRw : w.heap.size ≤ R := by omega
  replace hR := Lib.hid hR
  obtain ⟨q0, q1, q2, q3, q4, ql, qf⟩ := five hs2
  have qf0 := qf 0
  have qf1 := qf 1
  have qf2 := qf 2
  have qf3 := qf 3
  have qf4 := qf 4
  replace hs2 := Lib.hid hs2
  clear qf hs0 r0 rl rf0 hl1 hlt9
  go_wp2
  obtain ⟨W6, h6, hk6, hs6⟩ := store5 hs2.out (.slice (some ⟨g4, 0, none⟩) zs.length c4) (.slice sA sm sc) (.int .i64 sn) (.int .i64 S.now) (.bool S.below)
  rw [h6]
  obtain ⟨s0, s1, s2, s3, s4, sl, -⟩ := five hs6
  clear hs6 hs2
  have hk7 := (hk5.mono (G := fun x => x = w.heap.size ∨ x = R) (fun x hx => .inl hx)).trans hk6 (fun x hx => .inl (.inr hx))
  have FN2 := Lib.hid (HS.out _ _ _ c4 FN.out.1 _ hk7 (hB2.trans (hk7.below (fun x hx => by omega) hB2.size)))
  simp [bodyPost, go_sem, s0, s1, s2, s3, s4]
  exact ⟨_, by simp [results, Try.f102, go_sem, s0, s1, s2, s3, s4] <;> rfl, FN2.out⟩
theorem NewRef.at {e : Ending} (h : NewRef P w e w') (hF : ∀ x, F x → x < w.heap.size) : ∃ (r : RPg) (x : More), e = .returned r.v ∧ w' = ext w x ∧ RefAt (ext w x) F r.v P := by
  obtain ⟨V, rows, x, rfl, rfl, hl, hv, hf⟩ := h
  obtain ⟨A, c, rfl, _, _⟩ := hl.form
  exact ⟨⟨A, rows.length, c, P.cols⟩, x, rfl, rfl, _, rows, rfl, hl, hv, fun b hb f => by have := hF b f; have := hf b hb; omega⟩
set_option maxRecDepth 100000 in
set_option maxHeartbeats 2000000 in
theorem setsheet_c (h : RBk w F U S) (hS : S.Ok) (p : RPg) (hp : RefAt w F p.v P) (hF : ∀ x, F x → x < w.heap.size) : Calls Try.prog 78 #[U, p.v] w (NewRB F (S.set S.at P) w) := by
  have h' := Lib.hid h
  have hp' := Lib.hid hp
  obtain ⟨A, c, us, ⟨sA, sm, sc, sn⟩, rfl, H⟩ := h
  have hlt := hS.nw
  have p2 := hS.p2
  cases hb : S.below
  · have e : S.at = S.now := by unfold BkS.at; rw [hb]; rfl
    rw [e]
    have SP := Lib.hid (fun w' (hb' : Below w.heap.size w w') => setpage_c (F := fun x => F x ∨ x = w.heap.size + 1 + 1) (p := p) S.now hlt ((h'.out.off (R := w.heap.size + 1 + 1) (by omega)).grow hb') hS ((hp'.out.mono (fun x hx g => g.elim id (fun e => by omega))).grow hb'))
    rw [hb] at SP
    generalize S.set S.now P = T at SP ⊢
    obtain ⟨pA, pm, pc, pn⟩ := p
    simp only [RPg.V, RPg.v] at SP ⊢
    clear H h' hp' hp
    go_enter Try.func78, Try.ntmps78
    go_wp2_with ((go_at_call 102); (with_reducible refine (SP.out _ (by (repeat' (first | (with_reducible exact Below.refl _ _) | (with_reducible refine Below.alloc ?_ ?_ _) | (with_reducible refine below_ext ?_ ?_ _) | (with_reducible refine Below.drew ?_) | (with_reducible refine below_drewN ?_ _) | (with_reducible refine Below.setCell ?_ ?_ _) | go_size | (simp only [go_sem]; omega) | (simp [go_sem]; done) | (simp [go_sem]; omega)))) (fun x hx => ?_)).mono ?_); (focus (rcases hx with hx | hx; have := hF x hx; simp; omega; subst hx; (simp <;> omega))); (rintro _ _ ⟨U', x2, rfl, rfl, hB⟩); (obtain ⟨A2, c2, us2, ⟨tA, tm, tc, tn⟩, rfl, H2⟩ := hB); (try simp only [RPg.V]); replace H2 := Lib.hid H2)
    go_returns
    exact NewRB.at (n := T.pages.length) (s := ⟨tA, tm, tc, tn⟩) H2.out ((keep_swap _ _ _ (by simp)).ext (by simp) _) (by (repeat' (first | (with_reducible exact Below.refl _ _) | (with_reducible refine Below.alloc ?_ ?_ _) | (with_reducible refine below_ext ?_ ?_ _) | (with_reducible refine Below.drew ?_) | (with_reducible refine below_drewN ?_ _) | (with_reducible refine Below.setCell ?_ ?_ _) | go_size | (simp only [go_sem]; omega) | (simp [go_sem]; done) | (simp [go_sem]; omega)))) rfl
  · have e : S.set S.at P = ⟨S.pages, P, S.now, S.below⟩ := by unfold BkS.at BkS.set; rw [hb]; simp
    rw [e]
    have FN := Lib.hid (fun w' (hb : Below w.heap.size w w') => NewRB.of (S := ⟨S.pages, P, S.now, S.below⟩) (c := c) (s := p) (w' := w') (⟨H.ps, hp⟩ : RBo w F ⟨S.pages, P, S.now, S.below⟩ A us p) hb rfl)
    rw [hb] at FN ⊢
    obtain ⟨pA, pm, pc, pn⟩ := p
    simp only [RPg.V, RPg.v] at FN ⊢
    clear H h' hp' hp e
    go_enter Try.func78, Try.ntmps78
    go_wp2
    go_returns
    exact FN.out _ (by (repeat' (first | (with_reducible exact Below.refl _ _) | (with_reducible refine Below.alloc ?_ ?_ _) | (with_reducible refine below_ext ?_ ?_ _) | (with_reducible refine Below.drew ?_) | (with_reducible refine below_drewN ?_ _) | (with_reducible refine Below.setCell ?_ ?_ _) | go_size | (simp only [go_sem]; omega) | (simp [go_sem]; done) | (simp [go_sem]; omega))))
/-- a call that answers a book of the document's, and whether it could -/
def NewRBo (F : Nat → Prop) (S : BkS) (ok : Bool) (w : World) (e : Ending) (w' : World) : Prop := ∃ U x, e = .returned (.tuple #[U, .bool ok]) ∧ w' = ext w x ∧ RBk (ext w x) F U S
theorem NewRBo.of {c n : Nat} {ok : Bool} (h : RBo w F S A us s) (hb : Below w.heap.size w w') (hn : n = S.pages.length) : NewRBo F S ok w (.returned (.tuple #[rbV A n c s.V s.n S.now S.below, .bool ok])) w' := by
  subst hn
  obtain ⟨x, rfl⟩ := ext_of hb
  exact ⟨_, x, rfl, rfl, A, c, us, s, rfl, h.grow hb⟩
theorem NewRBo.at {W : World} {R c n : Nat} {ok : Bool} (h : RBo W (fun x => F x ∨ x = R) S A us s) (hk : Keep (· = R) W w') (hb : Below w.heap.size w w') (hn : n = S.pages.length) : NewRBo F S ok w (.returned (.tuple #[rbV A n c s.V s.n S.now S.below, .bool ok])) w' := by
  subst hn
  have h2 := h.keep hk (fun x hx e => hx (.inr e))
  obtain ⟨x, rfl⟩ := ext_of hb
  exact ⟨_, x, rfl, rfl, A, c, us, s, rfl, h2.ps.mono (fun _ _ => .inl), h2.st.mono (fun _ _ => .inl)⟩
set_option maxRecDepth 100000 in
set_option maxHeartbeats 4000000 in
theorem rcopy_c (h : RBk w F U S) (hS : S.Ok) (f : Int) (x : BxI) (t rr cc : Int) (h1 : -9223372036854775808 ≤ rr) (h2 : -9223372036854775808 ≤ cc) (hF : ∀ x, F x → x < w.heap.size) :
    Calls Try.prog 71 #[U, .int .i64 f, boxV x.t x.l x.b x.r, .int .i64 t, .agg #[.int .i64 rr, .int .i64 cc]] w (NewRBo F (S.copy f x t rr cc) (S.inP f && S.inP t) w) := by
  have h' := Lib.hid h
  obtain ⟨A, c, us, ⟨sA, sm, sc, sn⟩, rfl, H⟩ := h
  have p2 := hS.p2
  obtain ⟨xt, xl, xb, xr⟩ := x
  have FN := Lib.hid (fun w' (hb : Below w.heap.size w w') => NewRBo.of (S := S) (ok := false) (c := c) (w' := w') H hb rfl)
  unfold BkS.copy
  cases hf : S.inP f
  · rw [Bool.false_and]
    simp only [RPg.V] at FN ⊢
    rcases BkS.inP_f hf with hf | hf
    · clear H h'
      go_enter Try.func71, Try.ntmps71
      go_wp2
      go_returns
      exact FN.out _ (by (repeat' (first | (with_reducible exact Below.refl _ _) | (with_reducible refine Below.alloc ?_ ?_ _) | (with_reducible refine below_ext ?_ ?_ _) | (with_reducible refine Below.drew ?_) | (with_reducible refine below_drewN ?_ _) | (with_reducible refine Below.setCell ?_ ?_ _) | go_size | (simp only [go_sem]; omega) | (simp [go_sem]; done) | (simp [go_sem]; omega))))
    · have hf0 : ¬ f < 0 := by omega
      clear H h'
      go_enter Try.func71, Try.ntmps71
      go_wp2
      go_returns
      exact FN.out _ (by (repeat' (first | (with_reducible exact Below.refl _ _) | (with_reducible refine Below.alloc ?_ ?_ _) | (with_reducible refine below_ext ?_ ?_ _) | (with_reducible refine Below.drew ?_) | (with_reducible refine below_drewN ?_ _) | (with_reducible refine Below.setCell ?_ ?_ _) | go_size | (simp only [go_sem]; omega) | (simp [go_sem]; done) | (simp [go_sem]; omega))))
  · rw [Bool.true_and]
    obtain ⟨i, rfl, hi⟩ := BkS.inP_t hf
    cases ht : S.inP t
    · simp only [RPg.V] at FN ⊢
      rcases BkS.inP_f ht with ht | ht
      · clear H h' hf
        go_enter Try.func71, Try.ntmps71
        go_wp2
        go_returns
        exact FN.out _ (by (repeat' (first | (with_reducible exact Below.refl _ _) | (with_reducible refine Below.alloc ?_ ?_ _) | (with_reducible refine below_ext ?_ ?_ _) | (with_reducible refine Below.drew ?_) | (with_reducible refine below_drewN ?_ _) | (with_reducible refine Below.setCell ?_ ?_ _) | go_size | (simp only [go_sem]; omega) | (simp [go_sem]; done) | (simp [go_sem]; omega))))
      · have hf0 : ¬ t < 0 := by omega
        clear H h' hf
        go_enter Try.func71, Try.ntmps71
        go_wp2
        go_returns
        exact FN.out _ (by (repeat' (first | (with_reducible exact Below.refl _ _) | (with_reducible refine Below.alloc ?_ ?_ _) | (with_reducible refine below_ext ?_ ?_ _) | (with_reducible refine Below.drew ?_) | (with_reducible refine below_drewN ?_ _) | (with_reducible refine Below.setCell ?_ ?_ _) | go_size | (simp only [go_sem]; omega) | (simp [go_sem]; done) | (simp [go_sem]; omega))))
    · obtain ⟨j, rfl, hj⟩ := BkS.inP_t ht
      obtain ⟨⟨rA, rm, rc, rn⟩, L, o, -, rfl, hr, d0, d1, hL⟩ := H.ps.get hi
      obtain ⟨⟨qA, qm, qc, qn⟩, L2, o2, -, eL, hq, e0, e1, hL2⟩ := H.ps.get hj
      injection eL with eL
      injection eL with eL eo
      subst eL eo
      have e1' : S.pgAt (i : Int) = S.pages[i] := by simp [BkS.pgAt, hi]
      have e2' : S.pgAt (j : Int) = S.pages[j] := by simp [BkS.pgAt, hj]
      have eC : S.copied i ⟨xt, xl, xb, xr⟩ j rr cc = S.set j (pasteS S.pages[j] S.pages[i] (onB S.pages[i].rows.length S.pages[i].cols ⟨xt, xl, xb, xr⟩) rr cc) := by unfold BkS.copied; rw [e1', e2']; rfl
      rw [if_pos rfl, eC]
      have PA := Lib.hid (fun w' (hb : Below w.heap.size w w') => refpaste_c _ _ ⟨xt, xl, xb, xr⟩ rr cc h1 h2 (hq.grow hb).v (hS.pg _ (List.getElem_mem hj)) (hr.grow hb).v (hS.pg _ (List.getElem_mem hi)))
      generalize pasteS S.pages[j] S.pages[i] (onB S.pages[i].rows.length S.pages[i].cols ⟨xt, xl, xb, xr⟩) rr cc = P at PA ⊢
      have SP := Lib.hid (fun p w' (hb' : Below w.heap.size w w') => setpage_c (F := fun x => F x ∨ x = w.heap.size + 1 + 1 + 1) (P := P) (p := p) (w := w') j hj ((h'.out.off (R := w.heap.size + 1 + 1 + 1) (by omega)).grow hb') hS)
      generalize S.set j P = T at SP ⊢
      simp only [RPg.V, RPg.v] at d0 d1 e0 e1 PA SP ⊢
      clear H h' hq hr eC e1' e2'
      have m2 : 0 < S.pages.length := by omega
      have hL4 : L < w.heap.size + 1 + 1 + 1 + 1 := by omega
      go_enter Try.func71, Try.ntmps71
      go_upto_region 3 with fail
      (refine wp_region_F (S := (fun w' => w'.cell? ⟨w.heap.size, 0, none⟩ = some (.slice (some ⟨L, o, none⟩) S.pages.length c) ∧ w'.cell? ⟨w.heap.size, 1, none⟩ = some (.slice sA sm sc) ∧ w'.cell? ⟨w.heap.size, 2, none⟩ = some (.int .i64 sn) ∧ w'.cell? ⟨w.heap.size, 3, none⟩ = some (.int .i64 S.now) ∧ w'.cell? ⟨w.heap.size, 4, none⟩ = some (.bool S.below) ∧ w'.cell? ⟨L, o + i * 2, none⟩ = some (.slice rA rm rc) ∧ w'.cell? ⟨L, o + i * 2 + 1, none⟩ = some (.int .i64 rn) ∧ w'.cell? ⟨L, o + j * 2, none⟩ = some (.slice qA qm qc) ∧ w'.cell? ⟨L, o + j * 2 + 1, none⟩ = some (.int .i64 qn) ∧ w'.cell? ⟨w.heap.size + 1, 0, none⟩ = some (.int .i64 xt) ∧ w'.cell? ⟨w.heap.size + 1, 1, none⟩ = some (.int .i64 xl) ∧ w'.cell? ⟨w.heap.size + 1, 2, none⟩ = some (.int .i64 xb) ∧ w'.cell? ⟨w.heap.size + 1, 3, none⟩ = some (.int .i64 xr) ∧ w'.cell? ⟨w.heap.size + 1 + 1, 0, none⟩ = some (.int .i64 rr) ∧ w'.cell? ⟨w.heap.size + 1 + 1, 1, none⟩ = some (.int .i64 cc))) 17 [false, false, false, false, false, false, false, false, false, false, false, false, false, false, false, false, false, false] rfl rfl (by kernel_rfl) ?_ (fun hHeld => ?_); (focus ((try dsimp only); (refine ⟨?_, ?_, ?_, ?_, ?_, ?_, ?_, ?_, ?_, ?_, ?_, ?_, ?_, ?_, ?_⟩ <;> simp [go_sem, d0, d1, e0, e1, hL, hL4]); done)))
      ((refine AtF.take (oi := ?_) (v := ?_) 0 ?_ ?_ ?_ ?_ (Or.inl ⟨?_, ?_⟩) (by assumption) ?_; rotate_left 2; rfl; kernel_rfl; kernel_rfl; exact (fun _ _ _ h => h); rfl; (focus (intro w hSw; (try dsimp only at hSw); go_simp; (try with_reducible rfl); done)); (try simp only [Act.put, List.setIfInBounds_toArray, List.set_cons_zero, List.set_cons_succ])); (refine AtF.take (oi := ?_) (v := ?_) 1 ?_ ?_ ?_ ?_ (Or.inl ⟨?_, ?_⟩) (by assumption) ?_; rotate_left 2; rfl; kernel_rfl; kernel_rfl; exact (fun _ _ _ h => h); rfl; (focus (intro w hSw; (try dsimp only at hSw); go_simp; (try with_reducible rfl); done)); (try simp only [Act.put, List.setIfInBounds_toArray, List.set_cons_zero, List.set_cons_succ])); (refine AtF.take (oi := ?_) (v := ?_) 2 ?_ ?_ ?_ ?_ (Or.inl ⟨?_, ?_⟩) (by assumption) ?_; rotate_left 2; rfl; kernel_rfl; kernel_rfl; exact (fun _ _ _ h => h); rfl; (focus (intro w hSw; (try dsimp only at hSw); go_simp; (try with_reducible rfl); done)); (try simp only [Act.put, List.setIfInBounds_toArray, List.set_cons_zero, List.set_cons_succ])); (refine AtF.take (oi := ?_) (v := ?_) 3 ?_ ?_ ?_ ?_ (Or.inl ⟨?_, ?_⟩) (by assumption) ?_; rotate_left 2; rfl; kernel_rfl; kernel_rfl; exact (fun _ _ _ h => h); rfl; (focus (intro w hSw; (try dsimp only at hSw); go_simp; (try with_reducible rfl); done)); (try simp only [Act.put, List.setIfInBounds_toArray, List.set_cons_zero, List.set_cons_succ])); (refine AtF.take (oi := ?_) (v := ?_) 4 ?_ ?_ ?_ ?_ (Or.inl ⟨?_, ?_⟩) (by assumption) ?_; rotate_left 2; rfl; kernel_rfl; kernel_rfl; exact (fun _ _ _ h => h); rfl; (focus (intro w hSw; (try dsimp only at hSw); go_simp; (try with_reducible rfl); done)); (try simp only [Act.put, List.setIfInBounds_toArray, List.set_cons_zero, List.set_cons_succ])); (refine AtF.take (oi := ?_) (v := ?_) 5 ?_ ?_ ?_ ?_ (Or.inl ⟨?_, ?_⟩) (by assumption) ?_; rotate_left 2; rfl; kernel_rfl; kernel_rfl; exact (fun _ _ _ h => h); rfl; (focus (intro w hSw; (try dsimp only at hSw); go_simp; (try with_reducible rfl); done)); (try simp only [Act.put, List.setIfInBounds_toArray, List.set_cons_zero, List.set_cons_succ])); (refine AtF.take (oi := ?_) (v := ?_) 6 ?_ ?_ ?_ ?_ (Or.inl ⟨?_, ?_⟩) (by assumption) ?_; rotate_left 2; rfl; kernel_rfl; kernel_rfl; exact (fun _ _ _ h => h); rfl; (focus (intro w hSw; (try dsimp only at hSw); go_simp; (try with_reducible rfl); done)); (try simp only [Act.put, List.setIfInBounds_toArray, List.set_cons_zero, List.set_cons_succ])); (refine AtF.take (oi := ?_) (v := ?_) 7 ?_ ?_ ?_ ?_ (Or.inl ⟨?_, ?_⟩) (by assumption) ?_; rotate_left 2; rfl; kernel_rfl; kernel_rfl; exact (fun _ _ _ h => h); rfl; (focus (intro w hSw; (try dsimp only at hSw); go_simp; (try with_reducible rfl); done)); (try simp only [Act.put, List.setIfInBounds_toArray, List.set_cons_zero, List.set_cons_succ])); (refine AtF.take (oi := ?_) (v := ?_) 8 ?_ ?_ ?_ ?_ (Or.inl ⟨?_, ?_⟩) (by assumption) ?_; rotate_left 2; rfl; kernel_rfl; kernel_rfl; exact (fun _ _ _ h => h); rfl; (focus (intro w hSw; (try dsimp only at hSw); go_simp; (try with_reducible rfl); done)); (try simp only [Act.put, List.setIfInBounds_toArray, List.set_cons_zero, List.set_cons_succ])); (refine AtF.take (oi := ?_) (v := ?_) 9 ?_ ?_ ?_ ?_ (Or.inl ⟨?_, ?_⟩) (by assumption) ?_; rotate_left 2; rfl; kernel_rfl; kernel_rfl; exact (fun _ _ _ h => h); rfl; (focus (intro w hSw; (try dsimp only at hSw); go_simp; (try with_reducible rfl); done)); (try simp only [Act.put, List.setIfInBounds_toArray, List.set_cons_zero, List.set_cons_succ])); (refine AtF.take (oi := ?_) (v := ?_) 10 ?_ ?_ ?_ ?_ (Or.inl ⟨?_, ?_⟩) (by assumption) ?_; rotate_left 2; rfl; kernel_rfl; kernel_rfl; exact (fun _ _ _ h => h); rfl; (focus (intro w hSw; (try dsimp only at hSw); go_simp; (try with_reducible rfl); done)); (try simp only [Act.put, List.setIfInBounds_toArray, List.set_cons_zero, List.set_cons_succ])); (refine AtF.take (oi := ?_) (v := ?_) 11 ?_ ?_ ?_ ?_ (Or.inl ⟨?_, ?_⟩) (by assumption) ?_; rotate_left 2; rfl; kernel_rfl; kernel_rfl; exact (fun _ _ _ h => h); rfl; (focus (intro w hSw; (try dsimp only at hSw); go_simp; (try with_reducible rfl); done)); (try simp only [Act.put, List.setIfInBounds_toArray, List.set_cons_zero, List.set_cons_succ])); (refine AtF.take (oi := ?_) (v := ?_) 12 ?_ ?_ ?_ ?_ (Or.inl ⟨?_, ?_⟩) (by assumption) ?_; rotate_left 2; rfl; kernel_rfl; kernel_rfl; exact (fun _ _ _ h => h); rfl; (focus (intro w hSw; (try dsimp only at hSw); go_simp; (try with_reducible rfl); done)); (try simp only [Act.put, List.setIfInBounds_toArray, List.set_cons_zero, List.set_cons_succ])); (refine AtF.take (oi := ?_) (v := ?_) 13 ?_ ?_ ?_ ?_ (Or.inl ⟨?_, ?_⟩) (by assumption) ?_; rotate_left 2; rfl; kernel_rfl; kernel_rfl; exact (fun _ _ _ h => h); rfl; (focus (intro w hSw; (try dsimp only at hSw); go_simp; (try with_reducible rfl); done)); (try simp only [Act.put, List.setIfInBounds_toArray, List.set_cons_zero, List.set_cons_succ])))
      (refine AtF.only (oi := ?_) 14 ?_ ?_ (fun K hK => ?_); rotate_left 1; rfl; kernel_rfl; (try go_simp); ((go_at_call 103); (with_reducible refine (PA.out _ (by (repeat' (first | (with_reducible exact Below.refl _ _) | (with_reducible refine Below.alloc ?_ ?_ _) | (with_reducible refine below_ext ?_ ?_ _) | (with_reducible refine Below.drew ?_) | (with_reducible refine below_drewN ?_ _) | (with_reducible refine Below.setCell ?_ ?_ _) | go_size | (simp only [go_sem]; omega) | (simp [go_sem]; done) | (simp [go_sem]; omega))))).mono ?_); (intro e' w'' hN); (obtain ⟨⟨pA, pm, pc, pn⟩, x1, rfl, rfl, hp⟩ := hN.at (F := fun x => F x ∨ x = w.heap.size + 1 + 1 + 1) (fun x hx => by rcases hx with hx | hx; have := hF x hx; simp; omega; subst hx; (simp <;> omega)); clear hN); (try simp only [RPg.v, RPg.V]); (try simp only [ext_drew] at hp); replace hp := Lib.hid hp); (refine hK.out _ _ ?_ (fun hHeld => ?_)); (focus ((try dsimp only); (refine ⟨?_, ?_, ?_, ?_, ?_, ?_, ?_, ?_, ?_, ?_, ?_, ?_, ?_, ?_, ?_⟩ <;> simp [go_sem, d0, d1, e0, e1, hL, hL4]); done)); clear hK K; (try simp only [Act.put, List.setIfInBounds_toArray, List.set_cons_zero, List.set_cons_succ]))
      (refine AtF.only (oi := ?_) 15 ?_ ?_ (fun K hK => ?_); rotate_left 1; rfl; kernel_rfl; (try go_simp); ((go_at_call 102); (with_reducible refine (SP.out ⟨pA, pm, pc, pn⟩ _ (by (repeat' (first | (with_reducible exact Below.refl _ _) | (with_reducible refine Below.alloc ?_ ?_ _) | (with_reducible refine below_ext ?_ ?_ _) | (with_reducible refine Below.drew ?_) | (with_reducible refine below_drewN ?_ _) | (with_reducible refine Below.setCell ?_ ?_ _) | go_size | (simp only [go_sem]; omega) | (simp [go_sem]; done) | (simp [go_sem]; omega)))) hp.out (fun x hx => ?_)).mono ?_); (focus (rcases hx with hx | hx; have := hF x hx; simp; omega; subst hx; (simp <;> omega))); (rintro _ _ ⟨U', x2, rfl, rfl, hB⟩); (obtain ⟨A2, c2, us2, ⟨tA, tm, tc, tn⟩, rfl, H2⟩ := hB); (try simp only [RPg.V]); replace H2 := Lib.hid H2); (refine hK.out _ _ ?_ (fun hHeld => ?_)); (focus ((try dsimp only); (refine ⟨?_, ?_, ?_, ?_, ?_, ?_, ?_, ?_, ?_, ?_, ?_, ?_, ?_, ?_, ?_⟩ <;> simp [go_sem, d0, d1, e0, e1, hL, hL4]); done)); clear hK K; (try simp only [Act.put, List.setIfInBounds_toArray, List.set_cons_zero, List.set_cons_succ]))
      (refine AtF.only (oi := ?_) 16 ?_ ?_ (fun K hK => ?_); rotate_left 1; rfl; kernel_rfl; (try go_simp); skip; (refine hK.out _ _ ?_ (fun hHeld => ?_)); (focus ((try dsimp only); (refine ⟨?_, ?_, ?_, ?_, ?_, ?_, ?_, ?_, ?_, ?_, ?_, ?_, ?_, ?_, ?_⟩ <;> simp [go_sem, d0, d1, e0, e1, hL, hL4]); done)); clear hK K; (try simp only [Act.put, List.setIfInBounds_toArray, List.set_cons_zero, List.set_cons_succ]))
      (refine AtF.last (oi := ?_) ?_ ?_ (fun K hK => ?_); rotate_left 1; rfl; kernel_rfl; go_simp; skip; refine hK.out _ _ ?_; clear hK K; (try simp only [Act.put, List.setIfInBounds_toArray, List.set_cons_zero, List.set_cons_succ]))
      go_wp2
      go_returns
      exact NewRBo.at (n := T.pages.length) (s := ⟨tA, tm, tc, tn⟩) H2.out (((keep_swap _ _ _ (by simp)).ext (by simp) _).ext (by simp) _) (by (repeat' (first | (with_reducible exact Below.refl _ _) | (with_reducible refine Below.alloc ?_ ?_ _) | (with_reducible refine below_ext ?_ ?_ _) | (with_reducible refine Below.drew ?_) | (with_reducible refine below_drewN ?_ _) | (with_reducible refine Below.setCell ?_ ?_ _) | go_size | (simp only [go_sem]; omega) | (simp [go_sem]; done) | (simp [go_sem]; omega)))) rfl
end
end Go.Proofs.Ytpahcgappaifnaa
/- The document's books: New, Erase, Resize.  -/
namespace Go.Proofs.Ytpahcgappaifnaa
open Go.RowKit
set_option linter.unusedVariables false
set_option linter.unusedSimpArgs false

/-- a list of the document's pages that is being made -/
structure RMk (U wr : World) (V : Value) (us : List RPg) (Ps : List PgS) : Prop where
  own : Own encU 2 28 U.heap.size wr V us
  len : us.length = Ps.length
  pg : ∀ (i : Nat) (r : RPg) (P : PgS), us[i]? = some r → Ps[i]? = some P → RefAt wr (fun x => x < U.heap.size) r.v P
section
variable {U w wr w' : World} {F : Nat → Prop} {V : Value} {us : List RPg} {Ps : List PgS} {P : PgS} {r : RPg} {X : Value} {g : Nat}
theorem RefAt.far (h : RefAt w F X P) (hg : ∀ b, b < w.heap.size → V.ownBlock ≠ some b → w'.heap[b]? = w.heap[b]?) (ho : Own encU 2 28 0 w V us) : RefAt w' F X P := by
  obtain ⟨V2, rows, h1, h2, h3, h4⟩ := h
  refine ⟨V2, rows, h1, h2.same (fun b hb => hg b (h2.lt hb) (fun e => ?_)), h3, h4⟩
  obtain ⟨cur, hc⟩ := Own.blk ho e
  exact h2.off hc (by decide) (by decide) b hb rfl
theorem RMk.grow (h : RMk U wr V us Ps) (hb : Below wr.heap.size wr w') : RMk U w' V us Ps := ⟨h.own.below hb, h.len, fun i r P hr hP => (h.pg i r P hr hP).grow hb⟩
theorem RMk.keep {G : Nat → Prop} (h : RMk U wr V us Ps) (hk : Keep G wr w') (hG : ∀ x, G x → ∃ cur t, wr.heap[x]? = some (.cells cur t (0, 0)) ∧ t ≠ 61 ∧ t ≠ 41 ∧ t ≠ 28) : RMk U w' V us Ps := by
  refine ⟨h.own.keep fun x hx => hk.block x (h.own.lt x hx).2 (fun g => ?_), h.len, fun i r P hr hP => ?_⟩
  · obtain ⟨cur, t, h1, _, _, h4⟩ := hG x g
    obtain ⟨c2, h2⟩ := Own.blk (h.own.mono (Nat.zero_le _)) hx
    rw [h1] at h2
    injection h2 with h2
    injection h2 with _ e _
    exact h4 e
  · obtain ⟨V2, rows, h1, h2, h3, h4⟩ := h.pg i r P hr hP
    refine ⟨V2, rows, h1, h2.keep hk (fun b hb g => ?_), h3, h4⟩
    obtain ⟨cur, t, e1, e2, e3, _⟩ := hG b g
    exact h2.off e1 e2 e3 b hb rfl
theorem RefAt.keepT {G : Nat → Prop} (h : RefAt w F X P) (hk : Keep G w w') (hG : ∀ x, G x → ∃ cur t, w.heap[x]? = some (.cells cur t (0, 0)) ∧ t ≠ 61 ∧ t ≠ 41) : RefAt w' F X P := by
  obtain ⟨V2, rows, h1, h2, h3, h4⟩ := h
  refine ⟨V2, rows, h1, h2.keep hk (fun b hb g => ?_), h3, h4⟩
  obtain ⟨cur, t, e1, e2, e3⟩ := hG b g
  exact h2.off e1 e2 e3 b hb rfl
/-- a page is appended to such a list -/
theorem run_append_u (hU : Below U.heap.size U wr) (h : RMk U wr V us Ps) (hb : Below wr.heap.size wr w) (hr : RefAt w (fun x => x < U.heap.size) r.v P) {M : Nat} (h0 : w.cell? ⟨M, 0, none⟩ = some r.V) (h1 : w.cell? ⟨M, 1, none⟩ = some (.int .i64 r.n)) (hn : us.length ≤ 1000) (ty : TypeId) :
    ∃ A' n' c' x', (Builtin.append_ #[25, 25] ty #[V, .slice (some ⟨M, 0, none⟩) 1 1]).run Try.prog w = .ok (.slice A' n' c') (ext U x') ∧ RMk U (ext U x') (.slice A' n' c') (us ++ [r]) (Ps ++ [P]) ∧ n' = us.length + 1 ∧
      (∀ b, b < w.heap.size → V.ownBlock ≠ some b → (ext U x').heap[b]? = w.heap[b]?) := by
  have hUw : Below U.heap.size U w := hU.trans (hb.mono hU.size)
  have hrd : Rd encU 2 w (some ⟨M, 0, none⟩) [r] := fun _ => by
    refine ⟨M, 0, rfl, World.block_lt_of_cell? _ _ h0, fun i hi j v hv => ?_⟩
    obtain rfl : i = 0 := by simpa using hi
    match j, hv with
    | 0, hv => simp [encU] at hv; subst hv; simpa using h0
    | 1, hv => simp [encU] at hv; subst hv; simpa using h1
  have ho := h.own.below hb
  obtain ⟨A', c', x', hrun, hO, hF, hG⟩ := run_append_far2 (P := Try.prog) U w 25 ty 28 _ 32 Try.underlying25 pageR_info rfl (by omega) encU_len encU_one us [r] _ (some ⟨M, 0, none⟩) 1 hUw ho hrd (by simp [maxLen]; omega) (by simp; omega)
  refine ⟨A', _, c', x', by simpa using hrun, ⟨hO, by simp [h.len], fun i s Q hs hQ => ?_⟩, by simp, hG⟩
  rcases Nat.lt_or_ge i us.length with hi | hi
  · rw [List.getElem?_append_left hi] at hs
    rw [List.getElem?_append_left (by rw [← h.len]; exact hi)] at hQ
    exact ((h.pg i s Q hs hQ).grow hb).far hG (ho.mono (Nat.zero_le _))
  · have h2 := (List.getElem?_eq_some_iff.1 hs).1
    simp only [List.length_append, List.length_singleton] at h2
    obtain rfl : i = us.length := by omega
    simp at hs
    rw [h.len] at hQ
    simp at hQ
    subst hs hQ
    exact hr.far hG (ho.mono (Nat.zero_le _))
end
/-- a variable of the document's books, whose list is being made -/
structure RNew (w wr : World) (H : Nat) (V : Value) (us : List RPg) (Ps : List PgS) : Prop where
  below : Below w.heap.size w wr
  blk : wr.heap[H]? = some (.cells #[V, .slice none 0 0, .int .i64 0, .int .i64 0, .bool false] 30 (0, 0))
  lst : RMk w wr V us Ps
  ge : w.heap.size ≤ H
section
variable {w wr : World} {us : List RPg} {Ps : List PgS} {P : PgS} {r : RPg} {H n c : Nat} {A : Option Addr}
theorem r_append {U : World} {o : Oper} {a : Act} {K : Act → World → Prop} {Q : Exit → Act → World → Prop} (s xo : Operand) (h : RNew w wr H (.slice A n c) us Ps)
    (ho : o.op = .call { callee := .builtin .append, args := #[s, xo], argTypes := #[25, 25] }) (M : Nat) (hs : a.eval s = .slice A n c) (hx : a.eval xo = .slice (some ⟨M, 0, none⟩) 1 1)
    (hb : Below wr.heap.size wr U) (r : RPg) (hP : RefAt U (fun x => x < w.heap.size) r.v P) (h0 : U.cell? ⟨M, 0, none⟩ = some r.V) (h1 : U.cell? ⟨M, 1, none⟩ = some (.int .i64 r.n)) (hn : us.length ≤ 1000)
    (hK : ∀ A' n' c' x', Hid (RNew w ((ext w x').setCell ⟨H, 0, none⟩ (.slice A' n' c')) H (.slice A' n' c') (us ++ [r]) (Ps ++ [P])) → (ext w x').cell? ⟨H, 0, none⟩ = some (.slice A n c) → (ext w x').frozen? ⟨H, 0, none⟩ = false → H < (ext w x').heap.size → (∀ b, b < wr.heap.size → (Value.slice A n c).ownBlock ≠ some b → (ext w x').heap[b]? = wr.heap[b]?) → K (a.put o.dst (.slice A' n' c')) (ext w x')) : Oper.wp Try.prog o a U K Q := by
  obtain ⟨A', n', c', x', hrun, hM, hn', hG⟩ := run_append_u h.below h.lst hb hP h0 h1 hn o.type
  unfold Oper.wp execOp
  simp only [ho, resolve, invoke, builtin, Sem.run_bind, Sem.run_pure, Result.andThen_ok, List.map_toArray, List.map_cons, List.map_nil, hs, hx, hrun]
  have hVH : (Value.slice A n c).ownBlock ≠ some H := fun e => by
    obtain ⟨c1, h1⟩ := Own.blk (h.lst.own.mono (Nat.zero_le _)) e
    rw [h.blk] at h1
    injection h1 with h1
    injection h1 with _ e _
    exact absurd e (by decide)
  have hHw : U.heap[H]? = _ := (hb.block H (heap_in h.blk)).trans h.blk
  have hHx : (ext w x').heap[H]? = _ := (hG H (heap_in hHw) hVH).trans hHw
  refine hK A' n' c' x' (Lib.hid ⟨below_set (below_of_ext w x') _ _ (by exact h.ge), by exact set_cellA _ hHx, hM.keep (G := (· = H)) (keep_set _ H 0 _) (fun x hx => ?_), h.ge⟩) (by rw [cell_in hHx]; rfl) (frozen_in hHx) (heap_in hHx)
    (fun b hb' hne => (hG b (Nat.lt_of_lt_of_le hb' hb.size) hne).trans (hb.block b hb'))
  subst hx
  exact ⟨_, _, hHx, by decide, by decide, by decide⟩
theorem RMk.rps {F : Nat → Prop} {A : Option Addr} {n c : Nat} (h : RMk w wr (.slice A n c) us Ps) (hF : ∀ x, F x → x < w.heap.size) : RPs wr F A us Ps ∧ n = Ps.length :=
  ⟨⟨h.own.rd encU_len, fun h0 q o e f => by
    subst e
    have h1 := hF q f
    have h2 := (h.own.lt q rfl).1
    omega, h.len, fun i r P hr hP => (h.pg i r P hr hP).mono (fun x _ f => hF x f)⟩, by
    obtain ⟨A2, c2, e, _, _⟩ := h.own.form
    injection e with _ e2 _
    rw [e2, h.len]⟩
set_option maxRecDepth 100000 in
set_option maxHeartbeats 4000000 in
theorem rnew_c (F : Nat → Prop) (k m n : Int) (w : World) (hF : ∀ x, F x → x < w.heap.size) : Calls Try.prog 43 #[.int .i64 k, .int .i64 m, .int .i64 n] w (NewRB F (newB k m n) w) := by
  have NS := Lib.hid (fun w' => (by exact refnew_c 1 n w' : Calls Try.prog 29 #[.int .i64 1, .int .i64 n] w' (NewRef (newS 1 n) w')))
  have NP := Lib.hid (fun w' => (by exact refnew_c m n w' : Calls Try.prog 29 #[.int .i64 m, .int .i64 n] w' (NewRef (newS m n) w')))
  unfold newB
  generalize newS 1 n = P1 at NS ⊢
  generalize newS m n = P0 at NP ⊢
  obtain ⟨j, hj⟩ : ∃ j : Nat, max 1 (min k 16) = j := ⟨(max 1 (min k 16)).toNat, by omega⟩
  have hj16 : j ≤ 16 := by omega
  have CL := Lib.hid (fun w' => (by
    have := clamp_l k 1 16 w'
    rwa [show clampR k 1 16 = j by unfold clampR; split <;> (try split) <;> omega] at this : Calls Try.prog 82 #[.int .i64 k, .int .i64 1, .int .i64 16] w' (Gives w' (.int .i64 j))))
  rw [hj, Int.toNat_natCast]
  go_enter Try.func43, Try.ntmps43
  go_wp2
  have hN0 : RNew w ((w.alloc (.cells #[.slice none 0 0, .slice none 0 0, .int .i64 0, .int .i64 0, .bool false] 30)).alloc (.cells #[.slice none 0 0, .slice none 0 0, .int .i64 0, .int .i64 0, .bool false] 30)) (w.heap.size + 1) (.slice none 0 0) [] [] := by
    refine ⟨by (repeat' (first | (with_reducible exact Below.refl _ _) | (with_reducible refine Below.alloc ?_ ?_ _) | (with_reducible refine below_ext ?_ ?_ _) | (with_reducible refine Below.drew ?_) | (with_reducible refine below_drewN ?_ _) | (with_reducible refine Below.setCell ?_ ?_ _) | go_size | (simp only [go_sem]; omega) | (simp [go_sem]; done) | (simp [go_sem]; omega))), ?_, ⟨Own.nil _ _ _ _ _, rfl, fun i r P h => by simp at h⟩, by omega⟩
    have := heap_alloc_new (w.alloc (.cells #[.slice none 0 0, .slice none 0 0, .int .i64 0, .int .i64 0, .bool false] 30)) (.cells #[.slice none 0 0, .slice none 0 0, .int .i64 0, .int .i64 0, .bool false] 30)
    rwa [World.size_alloc] at this
  have hR0 : ((w.alloc (.cells #[.slice none 0 0, .slice none 0 0, .int .i64 0, .int .i64 0, .bool false] 30)).alloc (.cells #[.slice none 0 0, .slice none 0 0, .int .i64 0, .int .i64 0, .bool false] 30)).heap[w.heap.size]? = some (.cells #[.slice none 0 0, .slice none 0 0, .int .i64 0, .int .i64 0, .bool false] 30 (0, 0)) := by
    have hb : Below (w.alloc (.cells #[.slice none 0 0, .slice none 0 0, .int .i64 0, .int .i64 0, .bool false] 30)).heap.size (w.alloc (.cells #[.slice none 0 0, .slice none 0 0, .int .i64 0, .int .i64 0, .bool false] 30)) ((w.alloc (.cells #[.slice none 0 0, .slice none 0 0, .int .i64 0, .int .i64 0, .bool false] 30)).alloc (.cells #[.slice none 0 0, .slice none 0 0, .int .i64 0, .int .i64 0, .bool false] 30)) := by (repeat' (first | (with_reducible exact Below.refl _ _) | (with_reducible refine Below.alloc ?_ ?_ _) | (with_reducible refine below_ext ?_ ?_ _) | (with_reducible refine Below.drew ?_) | (with_reducible refine below_drewN ?_ _) | (with_reducible refine Below.setCell ?_ ?_ _) | go_size | (simp only [go_sem]; omega) | (simp [go_sem]; done) | (simp [go_sem]; omega)))
    exact (hb.block w.heap.size (by simp)).trans (heap_alloc_new w _)
  generalize (w.alloc (.cells #[.slice none 0 0, .slice none 0 0, .int .i64 0, .int .i64 0, .bool false] 30)).alloc (.cells #[.slice none 0 0, .slice none 0 0, .int .i64 0, .int .i64 0, .bool false] 30) = W0 at hN0 hR0 ⊢
  obtain ⟨R, hR⟩ : ∃ R, R = w.heap.size := ⟨_, rfl⟩
  obtain ⟨H, hH⟩ : ∃ H, H = w.heap.size + 1 := ⟨_, rfl⟩
  rw [← hH] at hN0 ⊢
  rw [← hR] at hR0 ⊢
  have hHR := Lib.hid (show H = w.heap.size + 1 ∧ R = w.heap.size from ⟨hH, hR⟩)
  replace hN0 := Lib.hid hN0
  replace hR0 := Lib.hid hR0
  clear hH hR
  go_loopw [8] (fun iv wr => ∃ (i : Nat) (A : Option Addr) (a c : Nat) (us : List RPg), i ≤ j ∧ iv = .int .i64 i ∧ Hid (RNew w wr H (.slice A a c) us (List.replicate i P0)) ∧ Hid (wr.heap[R]? = some (.cells #[.slice none 0 0, .slice none 0 0, .int .i64 0, .int .i64 0, .bool false] 30 (0, 0)))) (fun iv _ => j - (intOf iv).toNat)
  case atStart => exact ⟨0, none, 0, 0, [], by omega, rfl, hN0, hR0⟩
  case round =>
    obtain ⟨i, A, a, c, us, hi, rfl, hM, hRb⟩ := hrel
    by_cases hlt : i < j
    · have q0 : wr.cell? ⟨H, 0, none⟩ = some (.slice A a c) := by rw [cell_in hM.out.blk]; rfl
      have pl := heap_in hM.out.blk
      have qf : wr.frozen? ⟨H, 0, none⟩ = false := frozen_in hM.out.blk
      have hul := Lib.hid (show us.length ≤ 1000 by have := hM.out.lst.len; simp at this; omega)
      have hRo := Lib.hid (show (Value.slice A a c).ownBlock ≠ some R from fun e => by
        obtain ⟨c1, h1⟩ := Own.blk (hM.out.lst.own.mono (Nat.zero_le _)) e
        rw [hRb.out] at h1
        injection h1 with h1
        injection h1 with _ e _
        exact absurd e (by decide))
      have hRl := heap_in hRb.out
      have hsz := hM.out.below.size
      have ne1 : ¬ H = wr.heap.size := by omega
      go_upto_region 5 with (go_at_call 82; ((with_reducible refine (CL.out _).mono ?_); rintro _ _ hgets; obtain ⟨rfl, y0, rfl⟩ := hgets.get; clear hgets))
      (refine wp_region_F (S := (fun w' => w'.cell? ⟨H, 0, none⟩ = some (.slice A a c))) 8 [false, false, false, false, false, false, false, false, false] rfl rfl (by kernel_rfl) ?_ (fun hHeld => ?_); (focus ((try dsimp only); (simp [go_sem, q0, pl]; done); done)))
      ((refine AtF.take (oi := ?_) (v := ?_) 0 ?_ ?_ ?_ ?_ (Or.inl ⟨?_, ?_⟩) (by assumption) ?_; rotate_left 2; rfl; kernel_rfl; kernel_rfl; exact (fun _ _ _ h => h); rfl; (focus (intro w hSw; (try dsimp only at hSw); go_simp; (try with_reducible rfl); done)); (try simp only [Act.put, List.setIfInBounds_toArray, List.set_cons_zero, List.set_cons_succ])); (refine AtF.take (oi := ?_) (v := ?_) 1 ?_ ?_ ?_ ?_ (Or.inl ⟨?_, ?_⟩) (by assumption) ?_; rotate_left 2; rfl; kernel_rfl; kernel_rfl; exact (fun _ _ _ h => h); rfl; (focus (intro w hSw; (try dsimp only at hSw); go_simp; (try with_reducible rfl); done)); (try simp only [Act.put, List.setIfInBounds_toArray, List.set_cons_zero, List.set_cons_succ])); (refine AtF.take (oi := ?_) (v := ?_) 2 ?_ ?_ ?_ ?_ (Or.inl ⟨?_, ?_⟩) (by assumption) ?_; rotate_left 2; rfl; kernel_rfl; kernel_rfl; exact (fun _ _ _ h => h); rfl; (focus (intro w hSw; (try dsimp only at hSw); go_simp; (try with_reducible rfl); done)); (try simp only [Act.put, List.setIfInBounds_toArray, List.set_cons_zero, List.set_cons_succ])); (refine AtF.take (oi := ?_) (v := ?_) 3 ?_ ?_ ?_ ?_ (Or.inl ⟨?_, ?_⟩) (by assumption) ?_; rotate_left 2; rfl; kernel_rfl; kernel_rfl; exact (fun _ _ _ h => h); rfl; (focus (intro w hSw; (try dsimp only at hSw); go_simp; (try with_reducible rfl); done)); (try simp only [Act.put, List.setIfInBounds_toArray, List.set_cons_zero, List.set_cons_succ])))
      (refine AtF.only (oi := ?_) 4 ?_ ?_ (fun K hK => ?_); rotate_left 1; rfl; kernel_rfl; (try go_simp); ((go_at_call 29); (with_reducible refine (NP.out _).mono ?_); (intro e' w'' hN); (obtain ⟨⟨pA, pm, pc, pn⟩, x1, rfl, rfl, hp⟩ := hN.at (F := fun x => x < w.heap.size) (fun x hx => by simp; omega); clear hN); (try simp only [RPg.v, RPg.V]); (try simp only [ext_drew] at hp); replace hp := Lib.hid hp); (refine hK.out _ _ ?_ (fun hHeld => ?_)); (focus ((try dsimp only); (simp [go_sem, q0, pl]; done); done)); clear hK K; (try simp only [Act.put, List.setIfInBounds_toArray, List.set_cons_zero, List.set_cons_succ]))
      (refine AtF.only (oi := ?_) 5 ?_ ?_ (fun K hK => ?_); rotate_left 1; rfl; kernel_rfl; (try go_simp); skip; (refine hK.out _ _ ?_ (fun hHeld => ?_)); (focus ((try dsimp only); (simp [go_sem, q0, pl]; done); done)); clear hK K; (try simp only [Act.put, List.setIfInBounds_toArray, List.set_cons_zero, List.set_cons_succ]))
      (refine AtF.only (oi := ?_) 6 ?_ ?_ (fun K hK => ?_); rotate_left 1; rfl; kernel_rfl; refine step_do rfl (r_append (.tmp 16) (.tmp 20) hM.out rfl _ rfl rfl (by (repeat' (first | (with_reducible exact Below.refl _ _) | (with_reducible refine Below.alloc ?_ ?_ _) | (with_reducible refine below_ext ?_ ?_ _) | (with_reducible refine Below.drew ?_) | (with_reducible refine below_drewN ?_ _) | (with_reducible refine Below.setCell ?_ ?_ _) | go_size | (simp only [go_sem]; omega) | (simp [go_sem]; done) | (simp [go_sem]; omega)))) ⟨pA, pm, pc, pn⟩ (hp.out.grow (by (repeat' (first | (with_reducible exact Below.refl _ _) | (with_reducible refine Below.alloc ?_ ?_ _) | (with_reducible refine below_ext ?_ ?_ _) | (with_reducible refine Below.drew ?_) | (with_reducible refine below_drewN ?_ _) | (with_reducible refine Below.setCell ?_ ?_ _) | go_size | (simp only [go_sem]; omega) | (simp [go_sem]; done) | (simp [go_sem]; omega))))) (by simp [go_sem, RPg.V]) (by simp [go_sem]) hul.out ?_); intro A2 n2 c2 x3 hM2 z0 zf zl zg; (refine hK.out _ _ ?_ (fun hHeld => ?_)); (focus ((try dsimp only); (exact z0); done)); clear hK K; (try simp only [Act.put, List.setIfInBounds_toArray, List.set_cons_zero, List.set_cons_succ]))
      ((refine AtF.take (oi := ?_) (v := ?_) 7 ?_ ?_ ?_ ?_ (Or.inl ⟨?_, ?_⟩) (by assumption) ?_; rotate_left 2; rfl; kernel_rfl; kernel_rfl; exact (fun _ _ _ h => h); rfl; (focus (intro w hSw; (try dsimp only at hSw); go_simp; (try with_reducible rfl); done)); (try simp only [Act.put, List.setIfInBounds_toArray, List.set_cons_zero, List.set_cons_succ])))
      (refine AtF.last (oi := ?_) ?_ ?_ (fun K hK => ?_); rotate_left 1; rfl; kernel_rfl; go_simp; skip; refine hK.out _ _ ?_; clear hK K; (try simp only [Act.put, List.setIfInBounds_toArray, List.set_cons_zero, List.set_cons_succ]))
      go_wp2
      have hM3 := hM2.out
      rw [← List.replicate_succ'] at hM3
      refine ⟨⟨i + 1, A2, n2, c2, _, by omega, by go_num, Lib.hid hM3, Lib.hid ?_⟩, by simp [intOf]; omega⟩
      have hne : R ≠ H := by have := hHR.out; omega
      rw [Below.heap_setCell _ _ _ _ (by simpa using hne), zg R hRl hRo.out]
      exact hRb.out
    · obtain rfl : i = j := by omega
      go_upto_region 6 with (go_at_call 82; ((with_reducible refine (CL.out _).mono ?_); rintro _ _ hgets; obtain ⟨rfl, y0, rfl⟩ := hgets.get; clear hgets))
      have b1 := (block_ext wr y0 (heap_in hM.out.blk)).trans hM.out.blk
      have b2 := (block_ext wr y0 (heap_in hRb.out)).trans hRb.out
      have hLs := Lib.hid (hM.out.lst.grow (below_of_ext wr y0))
      have hbw := below_ext hM.out.below hM.out.below.size y0
      generalize ext wr y0 = W1 at b1 b2 hLs hbw ⊢
      have pl := heap_in b1
      obtain ⟨-, u1, u2, -, -, -, uf⟩ := five b1
      have uf1 := uf 1
      have uf2 := uf 2
      clear uf
      go_upto_region 7 with ((go_at_call 29); (with_reducible refine (NS.out _).mono ?_); (intro e' w'' hN); (obtain ⟨⟨pA, pm, pc, pn⟩, x1, rfl, rfl, hp⟩ := hN.at (F := fun x => x < w.heap.size) (fun x hx => by have := hbw.size; omega); clear hN); (try simp only [RPg.v, RPg.V]); replace hp := Lib.hid hp)
      have pl2 : H < (W1.setCell ⟨H, 1, none⟩ (.slice pA pm pc)).heap.size := by simpa using pl
      rw [← setCell_ext _ _ _ _ _ pl2, ← setCell_ext _ _ _ _ _ pl]
      have d1 := (block_ext W1 x1 pl).trans b1
      have d2 := (block_ext W1 x1 (heap_in b2)).trans b2
      replace hLs := Lib.hid (hLs.out.grow (below_of_ext W1 x1))
      replace hbw := below_ext hbw hbw.size x1
      clear b1 b2 pl2 u1 u2 uf1 uf2 pl hM hRb
      generalize ext W1 x1 = W2 at hp d1 d2 hLs hbw ⊢
      have e1 := set_cellA (k := 2) (.int .i64 pn) (set_cellA (k := 1) (.slice pA pm pc) d1)
      have hRH : R ≠ H := by have := hHR.out; omega
      have e2 : ((W2.setCell ⟨H, 1, none⟩ (.slice pA pm pc)).setCell ⟨H, 2, none⟩ (.int .i64 pn)).heap[R]? = _ := (Below.heap_setCell _ _ _ _ (by simpa using hRH)).trans ((Below.heap_setCell _ _ _ _ (by simpa using hRH)).trans d2)
      have hk3 : Keep (· = H) W2 ((W2.setCell ⟨H, 1, none⟩ (.slice pA pm pc)).setCell ⟨H, 2, none⟩ (.int .i64 pn)) := (keep_set W2 H 1 _).set (F := (· = H)) (p := ⟨H, 2, none⟩) (.inl rfl) _
      generalize (W2.setCell ⟨H, 1, none⟩ (.slice pA pm pc)).setCell ⟨H, 2, none⟩ (.int .i64 pn) = W3 at e1 e2 hk3 ⊢
      replace e1 : W3.heap[H]? = some (.cells #[.slice A a c, .slice pA pm pc, .int .i64 pn, .int .i64 0, .bool false] 30 (0, 0)) := e1
      obtain ⟨f0, f1, f2, f3, f4, fl, -⟩ := five e1
      obtain ⟨v0, v1, v2, v3, v4, vl, vf⟩ := five e2
      have vf0 := vf 0
      have vf1 := vf 1
      have vf2 := vf 2
      have vf3 := vf 3
      have vf4 := vf 4
      replace e2 := Lib.hid e2
      clear vf e1
      go_wp2
      obtain ⟨W4, h4, hk4, hs4⟩ := store5 e2.out (.slice A a c) (.slice pA pm pc) (.int .i64 pn) (.int .i64 0) (.bool false)
      rw [h4]
      obtain ⟨s0, s1, s2, s3, s4, sl, -⟩ := five hs4
      have hk5 : Keep (fun x => x = H ∨ x = R) W2 W4 := (hk3.mono (fun x hx => .inl hx)).trans hk4 (fun x hx => .inl (.inr hx))
      have hty : ∀ x, x = H ∨ x = R → ∃ cur t, W2.heap[x]? = some (.cells cur t (0, 0)) ∧ t ≠ 61 ∧ t ≠ 41 ∧ t ≠ 28 := fun x hx => by
        rcases hx with rfl | rfl
        · exact ⟨_, _, d1, by decide, by decide, by decide⟩
        · exact ⟨_, _, d2, by decide, by decide, by decide⟩
      obtain ⟨hRp, ha⟩ := (hLs.out.keep hk5 hty).rps hF
      have hst : RefAt W4 F (RPg.v ⟨pA, pm, pc, pn⟩) P1 := (hp.out.keepT hk5 (fun x hx => by obtain ⟨cur, t, z1, z2, z3, _⟩ := hty x hx; exact ⟨cur, t, z1, z2, z3⟩)).mono (fun x _ f => hF x f)
      have hb4 : Below w.heap.size w W4 := hbw.trans (hk5.below (fun x hx => by have := hHR.out; omega) hbw.size)
      have FN2 : NewRB F ⟨List.replicate i P0, P1, 0, false⟩ w (.returned (rbV A a c (.slice pA pm pc) pn 0 false)) W4 := by
        obtain ⟨x, e⟩ := ext_of hb4
        exact ⟨_, x, rfl, e, A, c, us, ⟨pA, pm, pc, pn⟩, by rw [ha]; rfl, by rw [← e]; exact hRp, by rw [← e]; exact hst⟩
      replace FN2 := Lib.hid FN2
      clear hs4 e2 h4
      simp [bodyPost, go_sem, s0, s1, s2, s3, s4]
      exact ⟨_, by simp [results, Try.f43, go_sem, s0, s1, s2, s3, s4] <;> rfl, FN2.out⟩
end
theorem RefAt.form {w : World} {F : Nat → Prop} {r : RPg} {P : PgS} (h : RefAt w F r.v P) : r.m = P.rows.length ∧ r.n = P.cols := by
  have h2 := h.cols
  obtain ⟨V, rows, h1, hl, h3, h4⟩ := h
  obtain ⟨A, c, rfl, _, _⟩ := hl.form
  simp only [RPg.v, RPg.V] at h1
  injection h1 with h1
  have := congrArg (fun a : Array Value => a[0]?) h1
  simp at this
  exact ⟨by rw [this.2.1, ← h3]; simp, h2⟩
theorem BkS.erase_new {S : BkS} (hS : S.Ok) : S.erase.pages = (newB S.pages.length S.rows S.cols).pages ∧ S.erase.status = (newB S.pages.length S.rows S.cols).status := by
  refine ⟨?_, rfl⟩
  have h1 := hS.p1
  have h2 := hS.p2
  simp only [BkS.erase, newB]
  rw [show (max 1 (min (S.pages.length : Int) 16)).toNat = S.pages.length by omega]
  apply List.ext_getElem (by simp)
  intro i h3 h4
  simp
section
variable {w : World} {F : Nat → Prop} {S : BkS} {U : Value}
theorem two_0 (w : World) (o1 o2 : Obj) : ((w.alloc o1).alloc o2).heap[w.heap.size]? = some o1 := by
  have hb : Below (w.alloc o1).heap.size (w.alloc o1) ((w.alloc o1).alloc o2) := by (repeat' (first | (with_reducible exact Below.refl _ _) | (with_reducible refine Below.alloc ?_ ?_ _) | (with_reducible refine below_ext ?_ ?_ _) | (with_reducible refine Below.drew ?_) | (with_reducible refine below_drewN ?_ _) | (with_reducible refine Below.setCell ?_ ?_ _) | go_size | (simp only [go_sem]; omega) | (simp [go_sem]; done) | (simp [go_sem]; omega)))
  exact (hb.block w.heap.size (by simp)).trans (heap_alloc_new w o1)
theorem two_1 (w : World) (o1 o2 : Obj) : ((w.alloc o1).alloc o2).heap[w.heap.size + 1]? = some o2 := by
  have := heap_alloc_new (w.alloc o1) o2
  rwa [World.size_alloc] at this
theorem keep_swap2 (w0 : World) (o o' p p' : Obj) {R : Nat} (hR : R = w0.heap.size) : Keep (fun x => x = R ∨ x = R + 1) ((w0.alloc o).alloc p) ((w0.alloc o').alloc p') := by
  subst hR
  refine ⟨rfl, rfl, rfl, by simp, fun k hk hne => ?_⟩
  simp only [World.size_alloc] at hk
  have hlt : k < w0.heap.size := by omega
  have h1 : Below w0.heap.size w0 ((w0.alloc o).alloc p) := by (repeat' (first | (with_reducible exact Below.refl _ _) | (with_reducible refine Below.alloc ?_ ?_ _) | (with_reducible refine below_ext ?_ ?_ _) | (with_reducible refine Below.drew ?_) | (with_reducible refine below_drewN ?_ _) | (with_reducible refine Below.setCell ?_ ?_ _) | go_size | (simp only [go_sem]; omega) | (simp [go_sem]; done) | (simp [go_sem]; omega)))
  have h2 : Below w0.heap.size w0 ((w0.alloc o').alloc p') := by (repeat' (first | (with_reducible exact Below.refl _ _) | (with_reducible refine Below.alloc ?_ ?_ _) | (with_reducible refine below_ext ?_ ?_ _) | (with_reducible refine Below.drew ?_) | (with_reducible refine below_drewN ?_ _) | (with_reducible refine Below.setCell ?_ ?_ _) | go_size | (simp only [go_sem]; omega) | (simp [go_sem]; done) | (simp [go_sem]; omega)))
  exact (h2.block k hlt).trans (h1.block k hlt).symm
theorem NewRB.atG {w w' W : World} {F G : Nat → Prop} {S : BkS} {A : Option Addr} {us : List RPg} {s : RPg} {c n : Nat} (h : RBo W (fun x => F x ∨ G x) S A us s) (hk : Keep G W w') (hb : Below w.heap.size w w') (hn : n = S.pages.length) : NewRB F S w (.returned (rbV A n c s.V s.n S.now S.below)) w' := by
  subst hn
  have h2 := h.keep hk (fun x hx e => hx (.inr e))
  obtain ⟨x, rfl⟩ := ext_of hb
  exact ⟨_, x, rfl, rfl, A, c, us, s, rfl, h2.ps.mono (fun _ _ => .inl), h2.st.mono (fun _ _ => .inl)⟩
set_option maxRecDepth 100000 in
set_option maxHeartbeats 4000000 in
theorem rerase_c (h : RBk w F U S) (hS : S.Ok) (hF : ∀ x, F x → x < w.heap.size) : Calls Try.prog 76 #[U] w (NewRB F S.erase w) := by
  obtain ⟨A, c, us, ⟨sA, sm, sc, sn⟩, rfl, H⟩ := h
  have h0 : 0 < S.pages.length := by have := hS.p1; omega
  obtain ⟨⟨rA, rm, rc, rn⟩, L, o, -, rfl, hr, d0, d1, hL⟩ := H.ps.get h0
  have e : S.pages.getD 0 S.status = S.pages[0] := by simp [List.getD_eq_getElem?_getD, h0]
  obtain ⟨e1, e2⟩ := hr.form
  simp only at e1 e2
  have e1' : rm = S.rows := by rw [e1]; unfold BkS.rows; rw [e]
  have e2' : rn = S.cols := by rw [e2]; unfold BkS.cols; rw [e]
  obtain ⟨g1, g2⟩ := BkS.erase_new hS
  have RN := Lib.hid (fun w' (hb : Below w.heap.size w w') (hs : w.heap.size + 1 < w'.heap.size) => rnew_c (fun x => F x ∨ x = w.heap.size + 1) S.pages.length S.rows S.cols w' (fun x hx => by rcases hx with hx | hx; have := hF x hx; have := hb.size; omega; omega))
  have RN2 := Lib.hid (fun w' (hb : Below w.heap.size w w') (hs : w.heap.size + 1 + 1 < w'.heap.size) => rnew_c (fun x => F x ∨ (x = w.heap.size + 1 ∨ x = w.heap.size + 1 + 1)) S.pages.length S.rows S.cols w' (fun x hx => by rcases hx with hx | hx; have := hF x hx; have := hb.size; omega; omega))
  generalize newB S.pages.length S.rows S.cols = T at RN RN2 g1 g2
  simp only [RPg.V, Nat.zero_mul, Nat.add_zero] at d0 d1
  rw [e1'] at d0
  rw [e2'] at d1
  have hnow : S.erase.now = S.now := rfl
  have hbel : S.erase.below = S.below := rfl
  have hlen : T.pages.length = S.erase.pages.length := by rw [g1]
  simp only [RPg.V]
  have p2 := hS.p2
  clear H hr e e1 e2 e1' e2'
  go_enter Try.func76, Try.ntmps76
  go_upto_region 1 with fail
  (refine wp_region_F (S := (fun w' => w'.cell? ⟨w.heap.size, 0, none⟩ = some (.slice (some ⟨L, o, none⟩) S.pages.length c) ∧ w'.cell? ⟨L, o, none⟩ = some (.slice rA S.rows rc) ∧ w'.cell? ⟨L, o + 1, none⟩ = some (.int .i64 S.cols))) 16 [false, false, false, false, false, false, false, false, false, false, false, false, false, false, false, false, false] rfl rfl (by kernel_rfl) ?_ (fun hHeld => ?_); (focus ((try dsimp only); (refine ⟨?_, ?_, ?_⟩ <;> simp [go_sem, d0, d1, hL]); done)))
  ((refine AtF.take (oi := ?_) (v := ?_) 0 ?_ ?_ ?_ ?_ (Or.inl ⟨?_, ?_⟩) (by assumption) ?_; rotate_left 2; rfl; kernel_rfl; kernel_rfl; exact (fun _ _ _ h => h); rfl; (focus (intro w hSw; (try dsimp only at hSw); go_simp; (try with_reducible rfl); done)); (try simp only [Act.put, List.setIfInBounds_toArray, List.set_cons_zero, List.set_cons_succ])); (refine AtF.take (oi := ?_) (v := ?_) 1 ?_ ?_ ?_ ?_ (Or.inl ⟨?_, ?_⟩) (by assumption) ?_; rotate_left 2; rfl; kernel_rfl; kernel_rfl; exact (fun _ _ _ h => h); rfl; (focus (intro w hSw; (try dsimp only at hSw); go_simp; (try with_reducible rfl); done)); (try simp only [Act.put, List.setIfInBounds_toArray, List.set_cons_zero, List.set_cons_succ])); (refine AtF.take (oi := ?_) (v := ?_) 2 ?_ ?_ ?_ ?_ (Or.inl ⟨?_, ?_⟩) (by assumption) ?_; rotate_left 2; rfl; kernel_rfl; kernel_rfl; exact (fun _ _ _ h => h); rfl; (focus (intro w hSw; (try dsimp only at hSw); go_simp; (try with_reducible rfl); done)); (try simp only [Act.put, List.setIfInBounds_toArray, List.set_cons_zero, List.set_cons_succ])); (refine AtF.take (oi := ?_) (v := ?_) 3 ?_ ?_ ?_ ?_ (Or.inl ⟨?_, ?_⟩) (by assumption) ?_; rotate_left 2; rfl; kernel_rfl; kernel_rfl; exact (fun _ _ _ h => h); rfl; (focus (intro w hSw; (try dsimp only at hSw); go_simp; (try with_reducible rfl); done)); (try simp only [Act.put, List.setIfInBounds_toArray, List.set_cons_zero, List.set_cons_succ])); (refine AtF.take (oi := ?_) (v := ?_) 4 ?_ ?_ ?_ ?_ (Or.inl ⟨?_, ?_⟩) (by assumption) ?_; rotate_left 2; rfl; kernel_rfl; kernel_rfl; exact (fun _ _ _ h => h); rfl; (focus (intro w hSw; (try dsimp only at hSw); go_simp; (try with_reducible rfl); done)); (try simp only [Act.put, List.setIfInBounds_toArray, List.set_cons_zero, List.set_cons_succ])); (refine AtF.take (oi := ?_) (v := ?_) 5 ?_ ?_ ?_ ?_ (Or.inl ⟨?_, ?_⟩) (by assumption) ?_; rotate_left 2; rfl; kernel_rfl; kernel_rfl; exact (fun _ _ _ h => h); rfl; (focus (intro w hSw; (try dsimp only at hSw); go_simp; (try with_reducible rfl); done)); (try simp only [Act.put, List.setIfInBounds_toArray, List.set_cons_zero, List.set_cons_succ])); (refine AtF.take (oi := ?_) (v := ?_) 6 ?_ ?_ ?_ ?_ (Or.inl ⟨?_, ?_⟩) (by assumption) ?_; rotate_left 2; rfl; kernel_rfl; kernel_rfl; exact (fun _ _ _ h => h); rfl; (focus (intro w hSw; (try dsimp only at hSw); go_simp; (try with_reducible rfl); done)); (try simp only [Act.put, List.setIfInBounds_toArray, List.set_cons_zero, List.set_cons_succ])); (refine AtF.take (oi := ?_) (v := ?_) 7 ?_ ?_ ?_ ?_ (Or.inl ⟨?_, ?_⟩) (by assumption) ?_; rotate_left 2; rfl; kernel_rfl; kernel_rfl; exact (fun _ _ _ h => h); rfl; (focus (intro w hSw; (try dsimp only at hSw); go_simp; (try with_reducible rfl); done)); (try simp only [Act.put, List.setIfInBounds_toArray, List.set_cons_zero, List.set_cons_succ])); (refine AtF.take (oi := ?_) (v := ?_) 8 ?_ ?_ ?_ ?_ (Or.inl ⟨?_, ?_⟩) (by assumption) ?_; rotate_left 2; rfl; kernel_rfl; kernel_rfl; exact (fun _ _ _ h => h); rfl; (focus (intro w hSw; (try dsimp only at hSw); go_simp; (try with_reducible rfl); done)); (try simp only [Act.put, List.setIfInBounds_toArray, List.set_cons_zero, List.set_cons_succ])); (refine AtF.take (oi := ?_) (v := ?_) 9 ?_ ?_ ?_ ?_ (Or.inl ⟨?_, ?_⟩) (by assumption) ?_; rotate_left 2; rfl; kernel_rfl; kernel_rfl; exact (fun _ _ _ h => h); rfl; (focus (intro w hSw; (try dsimp only at hSw); go_simp; (try with_reducible rfl); done)); (try simp only [Act.put, List.setIfInBounds_toArray, List.set_cons_zero, List.set_cons_succ])); (refine AtF.take (oi := ?_) (v := ?_) 10 ?_ ?_ ?_ ?_ (Or.inl ⟨?_, ?_⟩) (by assumption) ?_; rotate_left 2; rfl; kernel_rfl; kernel_rfl; exact (fun _ _ _ h => h); rfl; (focus (intro w hSw; (try dsimp only at hSw); go_simp; (try with_reducible rfl); done)); (try simp only [Act.put, List.setIfInBounds_toArray, List.set_cons_zero, List.set_cons_succ])); (refine AtF.take (oi := ?_) (v := ?_) 11 ?_ ?_ ?_ ?_ (Or.inl ⟨?_, ?_⟩) (by assumption) ?_; rotate_left 2; rfl; kernel_rfl; kernel_rfl; exact (fun _ _ _ h => h); rfl; (focus (intro w hSw; (try dsimp only at hSw); go_simp; (try with_reducible rfl); done)); (try simp only [Act.put, List.setIfInBounds_toArray, List.set_cons_zero, List.set_cons_succ])); (refine AtF.take (oi := ?_) (v := ?_) 12 ?_ ?_ ?_ ?_ (Or.inl ⟨?_, ?_⟩) (by assumption) ?_; rotate_left 2; rfl; kernel_rfl; kernel_rfl; exact (fun _ _ _ h => h); rfl; (focus (intro w hSw; (try dsimp only at hSw); go_simp; (try with_reducible rfl); done)); (try simp only [Act.put, List.setIfInBounds_toArray, List.set_cons_zero, List.set_cons_succ])); (refine AtF.take (oi := ?_) (v := ?_) 13 ?_ ?_ ?_ ?_ (Or.inl ⟨?_, ?_⟩) (by assumption) ?_; rotate_left 2; rfl; kernel_rfl; kernel_rfl; exact (fun _ _ _ h => h); rfl; (focus (intro w hSw; (try dsimp only at hSw); go_simp; (try with_reducible rfl); done)); (try simp only [Act.put, List.setIfInBounds_toArray, List.set_cons_zero, List.set_cons_succ])))
  (refine AtF.either (oi := ?_) (oj := ?_) 14 15 ?_ ?_ ?_ (fun K hK => ?_) (fun K hK => ?_); rotate_left 2; rfl; rfl; kernel_rfl)
  · ((try go_simp); ((go_at_call 43); (with_reducible refine (RN.out _ (by (repeat' (first | (with_reducible exact Below.refl _ _) | (with_reducible refine Below.alloc ?_ ?_ _) | (with_reducible refine below_ext ?_ ?_ _) | (with_reducible refine Below.drew ?_) | (with_reducible refine below_drewN ?_ _) | (with_reducible refine Below.setCell ?_ ?_ _) | go_size | (simp only [go_sem]; omega) | (simp [go_sem]; done) | (simp [go_sem]; omega)))) (by simp)).mono ?_); (rintro _ _ ⟨U', x2, rfl, rfl, hB⟩); (obtain ⟨A2, c2, us2, ⟨tA, tm, tc, tn⟩, rfl, H2⟩ := hB); (try simp only [RPg.V]); replace H2 := Lib.hid H2); (refine hK.out _ _ ?_ (fun hHeld => ?_)); (focus ((try dsimp only); (refine ⟨?_, ?_, ?_⟩ <;> simp [go_sem, d0, d1, hL]); done)); clear hK K; (try simp only [Act.put, List.setIfInBounds_toArray, List.set_cons_zero, List.set_cons_succ]))
    (refine AtF.only (oi := ?_) 15 ?_ ?_ (fun K hK => ?_); rotate_left 1; rfl; kernel_rfl; (try go_simp); skip; (refine hK.out _ _ ?_ (fun hHeld => ?_)); (focus ((try dsimp only); (refine ⟨?_, ?_, ?_⟩ <;> simp [go_sem, d0, d1, hL]); done)); clear hK K; (try simp only [Act.put, List.setIfInBounds_toArray, List.set_cons_zero, List.set_cons_succ]))
    (refine AtF.last (oi := ?_) ?_ ?_ (fun K hK => ?_); rotate_left 1; rfl; kernel_rfl; go_simp; skip; refine hK.out _ _ ?_; clear hK K; (try simp only [Act.put, List.setIfInBounds_toArray, List.set_cons_zero, List.set_cons_succ]))
    go_wp2
    go_returns
    exact NewRB.atG (s := ⟨tA, tm, tc, tn⟩) (G := fun x => x = w.heap.size + 1) (⟨by rw [g1]; exact H2.out.ps, by rw [g2]; exact H2.out.st⟩ : RBo _ _ S.erase A2 us2 ⟨tA, tm, tc, tn⟩) (((keep_swap _ _ _ (by simp)).ext (by simp) _).trans (Keep.of_below (F := fun _ => False) (by (repeat' (first | (with_reducible exact Below.refl _ _) | (with_reducible refine Below.alloc ?_ ?_ _) | (with_reducible refine below_ext ?_ ?_ _) | (with_reducible refine Below.drew ?_) | (with_reducible refine below_drewN ?_ _) | (with_reducible refine Below.setCell ?_ ?_ _) | go_size | (simp only [go_sem]; omega) | (simp [go_sem]; done) | (simp [go_sem]; omega))))) (fun _ f => f.elim)) (by (repeat' (first | (with_reducible exact Below.refl _ _) | (with_reducible refine Below.alloc ?_ ?_ _) | (with_reducible refine below_ext ?_ ?_ _) | (with_reducible refine Below.drew ?_) | (with_reducible refine below_drewN ?_ _) | (with_reducible refine Below.setCell ?_ ?_ _) | go_size | (simp only [go_sem]; omega) | (simp [go_sem]; done) | (simp [go_sem]; omega)))) rfl
  · ((try go_simp); skip; (refine hK.out _ _ ?_ (fun hHeld => ?_)); (focus ((try dsimp only); (refine ⟨?_, ?_, ?_⟩ <;> simp [go_sem, d0, d1, hL]); done)); clear hK K; (try simp only [Act.put, List.setIfInBounds_toArray, List.set_cons_zero, List.set_cons_succ]))
    (refine AtF.only (oi := ?_) 14 ?_ ?_ (fun K hK => ?_); rotate_left 1; rfl; kernel_rfl; (try go_simp); ((go_at_call 43); (with_reducible refine (RN2.out _ (by (repeat' (first | (with_reducible exact Below.refl _ _) | (with_reducible refine Below.alloc ?_ ?_ _) | (with_reducible refine below_ext ?_ ?_ _) | (with_reducible refine Below.drew ?_) | (with_reducible refine below_drewN ?_ _) | (with_reducible refine Below.setCell ?_ ?_ _) | go_size | (simp only [go_sem]; omega) | (simp [go_sem]; done) | (simp [go_sem]; omega)))) (by simp)).mono ?_); (rintro _ _ ⟨U', x2, rfl, rfl, hB⟩); (obtain ⟨A2, c2, us2, ⟨tA, tm, tc, tn⟩, rfl, H2⟩ := hB); (try simp only [RPg.V]); replace H2 := Lib.hid H2); (refine hK.out _ _ ?_ (fun hHeld => ?_)); (focus ((try dsimp only); (refine ⟨?_, ?_, ?_⟩ <;> simp [go_sem, d0, d1, hL]); done)); clear hK K; (try simp only [Act.put, List.setIfInBounds_toArray, List.set_cons_zero, List.set_cons_succ]))
    (refine AtF.last (oi := ?_) ?_ ?_ (fun K hK => ?_); rotate_left 1; rfl; kernel_rfl; go_simp; skip; refine hK.out _ _ ?_; clear hK K; (try simp only [Act.put, List.setIfInBounds_toArray, List.set_cons_zero, List.set_cons_succ]))
    go_wp2
    go_returns
    exact NewRB.atG (s := ⟨tA, tm, tc, tn⟩) (G := fun x => x = w.heap.size + 1 ∨ x = w.heap.size + 1 + 1) (⟨by rw [g1]; exact H2.out.ps, by rw [g2]; exact H2.out.st⟩ : RBo _ _ S.erase A2 us2 ⟨tA, tm, tc, tn⟩) ((keep_swap2 _ _ _ _ _ (by simp)).ext (by simp) _) (by (repeat' (first | (with_reducible exact Below.refl _ _) | (with_reducible refine Below.alloc ?_ ?_ _) | (with_reducible refine below_ext ?_ ?_ _) | (with_reducible refine Below.drew ?_) | (with_reducible refine below_drewN ?_ _) | (with_reducible refine Below.setCell ?_ ?_ _) | go_size | (simp only [go_sem]; omega) | (simp [go_sem]; done) | (simp [go_sem]; omega)))) rfl
theorem u_append {U w wr : World} {ops : Array Oper} {rest : List Oper} {o : Oper} {a : Act} {Q : Exit → Act → World → Prop} {A : Option Addr} {n c : Nat} {us : List RPg} {Ps : List PgS} {P : PgS} (s xo : Operand) (hgd : o.guard = none)
    (ho : o.op = .call { callee := .builtin .append, args := #[s, xo], argTypes := #[25, 25] }) (M : Nat) (hs : a.eval s = .slice A n c) (hx : a.eval xo = .slice (some ⟨M, 0, none⟩) 1 1)
    (hU : Below U.heap.size U wr) (h : RMk U wr (.slice A n c) us Ps) (hb : Below wr.heap.size wr w) (r : RPg) (hP : RefAt w (fun x => x < U.heap.size) r.v P) (h0 : w.cell? ⟨M, 0, none⟩ = some r.V) (h1 : w.cell? ⟨M, 1, none⟩ = some (.int .i64 r.n)) (hn : us.length ≤ 1000)
    (hK : ∀ A' n' c' x', Hid (RMk U (ext U x') (.slice A' n' c') (us ++ [r]) (Ps ++ [P])) → wpList Try.prog ops Q rest (a.put o.dst (.slice A' n' c')) (ext U x')) : wpList Try.prog ops Q (o :: rest) a w := by
  refine wpList_plain hgd fun K hK' => ?_
  obtain ⟨A', n', c', x', hrun, hM, hn', hG⟩ := run_append_u hU h hb hP h0 h1 hn o.type
  unfold Oper.wp execOp
  simp only [ho, resolve, invoke, builtin, Sem.run_bind, Sem.run_pure, Result.andThen_ok, List.map_toArray, List.map_cons, List.map_nil, hs, hx, hrun]
  exact hK' _ _ (hK A' n' c' x' (Lib.hid hM))
set_option maxRecDepth 100000 in
set_option maxHeartbeats 4000000 in
theorem rresize_c (m n : Int) (h : RBk w F U S) (hS : S.Ok) (hF : ∀ x, F x → x < w.heap.size) : Calls Try.prog 74 #[U, .int .i64 m, .int .i64 n] w (NewRB F (S.resize m n) w) := by
  obtain ⟨A, c, us, ⟨sA, sm, sc, sn⟩, rfl, H⟩ := h
  have p2 := hS.p2
  have GT := Lib.hid (fun i (hi : i < S.pages.length) => H.ps.get hi)
  have RZ := Lib.hid (fun i (hi : i < S.pages.length) U' w' (hr : RefV w' U' S.pages[i]) => refresize_c (w := w') U' m n hr (fun r hr => ((hS.pg _ (List.getElem_mem hi)).small r hr).2) (by have := (hS.pg _ (List.getElem_mem hi)).r2; omega))
  have RS := Lib.hid (fun w' (hb : Below w.heap.size w w') => refresize_c (w := w') _ 1 n (H.st.grow hb).v (fun r hr => (hS.st.small r hr).2) (by have := hS.st.r2; omega))
  simp only [RPg.v, RPg.V] at RS ⊢
  clear H
  go_enter Try.func74, Try.ntmps74
  go_wp2
  obtain ⟨W0, hW0⟩ : ∃ W0, W0 = (w.alloc (.cells #[.slice A S.pages.length c, .slice sA sm sc, .int .i64 sn, .int .i64 S.now, .bool S.below] 30)).alloc (.cells #[.slice none 0 0, .slice none 0 0, .int .i64 0, .int .i64 0, .bool false] 30) := ⟨_, rfl⟩
  have hb0 : Below w.heap.size w W0 := by rw [hW0]; (repeat' (first | (with_reducible exact Below.refl _ _) | (with_reducible refine Below.alloc ?_ ?_ _) | (with_reducible refine below_ext ?_ ?_ _) | (with_reducible refine Below.drew ?_) | (with_reducible refine below_drewN ?_ _) | (with_reducible refine Below.setCell ?_ ?_ _) | go_size | (simp only [go_sem]; omega) | (simp [go_sem]; done) | (simp [go_sem]; omega)))
  have hs0 : W0.heap.size = w.heap.size + 1 + 1 := by rw [hW0]; simp
  have b1 : W0.heap[w.heap.size]? = some (.cells #[.slice A S.pages.length c, .slice sA sm sc, .int .i64 sn, .int .i64 S.now, .bool S.below] 30 (0, 0)) := by rw [hW0]; exact two_0 _ _ _
  have b2 : W0.heap[w.heap.size + 1]? = some (.cells #[.slice none 0 0, .slice none 0 0, .int .i64 0, .int .i64 0, .bool false] 30 (0, 0)) := by rw [hW0]; exact two_1 _ _ _
  rw [← hW0]
  clear hW0
  obtain ⟨c0, -, -, -, -, pl, -⟩ := five b1
  obtain ⟨R, hR⟩ : ∃ R, R = w.heap.size + 1 := ⟨_, rfl⟩
  obtain ⟨H, hH⟩ : ∃ H, H = w.heap.size := ⟨_, rfl⟩
  rw [← hR] at b2 ⊢
  rw [← hH] at b1 c0 pl ⊢
  have hHR := Lib.hid (And.intro hH (And.intro hR hs0))
  replace hb0 := Lib.hid hb0
  replace b1 := Lib.hid b1
  replace b2 := Lib.hid b2
  clear hH hR hs0
  have hM0 := Lib.hid (show RMk W0 (ext W0 ⟨#[], W0.drawn⟩) (.slice none 0 0) [] ((S.pages.take 0).map fun P => resizeS P m n) from ⟨Own.nil _ _ _ _ _, rfl, fun i r P h => by simp at h⟩)
  go_loopw [7, 8] (fun lv iv wr => ∃ (i : Nat) (B : Option Addr) (a d : Nat) (us' : List RPg) (x : More), i ≤ S.pages.length ∧ iv = .int .i64 i ∧ lv = .slice B a d ∧ wr = ext W0 x ∧ Hid (RMk W0 (ext W0 x) (.slice B a d) us' ((S.pages.take i).map fun P => resizeS P m n))) (fun _ iv _ => S.pages.length - (intOf iv).toNat)
  case atStart => exact ⟨0, none, 0, 0, [], ⟨#[], W0.drawn⟩, by omega, rfl, rfl, by simp [ext], hM0⟩
  case round =>
    obtain ⟨i, B, a, d, us', x, hi, rfl, rfl, rfl, hM⟩ := hrel
    have hM := hM
    by_cases hlt : i < S.pages.length
    · obtain ⟨⟨rA, rm, rc, rn⟩, L, o, -, rfl, hr, d0, d1, hL⟩ := GT.out i hlt
      have RZi := Lib.hid (fun w' (hb : Below w.heap.size w w') => RZ.out i hlt _ w' (hr.grow hb).v)
      simp only [RPg.v, RPg.V] at RZi d0 d1
      have e0 := (hb0.out.cell (p := ⟨L, _, none⟩) hL).trans d0
      have e1 := (hb0.out.cell (p := ⟨L, _, none⟩) hL).trans d1
      have hL' : L < W0.heap.size := Nat.lt_of_lt_of_le hL hb0.out.size
      have hbx := Lib.hid (below_ext hb0.out hb0.out.size x)
      have hul := Lib.hid (show us'.length ≤ 1000 by have := hM.out.len; simp at this; omega)
      have hnx := Lib.hid (show (S.pages.take i).map (fun P => resizeS P m n) ++ [resizeS S.pages[i] m n] = (S.pages.take (i + 1)).map fun P => resizeS P m n by rw [List.take_add_one, List.getElem?_eq_getElem hlt, List.map_append]; rfl)
      clear hr d0 d1 hL
      go_wp2_with (first
        | ((go_at_call 63); (with_reducible refine (RZi.out _ (hbx.out.trans (Below.mono (B := (ext W0 x).heap.size) (by (repeat' (first | (with_reducible exact Below.refl _ _) | (with_reducible refine Below.alloc ?_ ?_ _) | (with_reducible refine below_ext ?_ ?_ _) | (with_reducible refine Below.drew ?_) | (with_reducible refine below_drewN ?_ _) | (with_reducible refine Below.setCell ?_ ?_ _) | go_size | (simp only [go_sem]; omega) | (simp [go_sem]; done) | (simp [go_sem]; omega)))) hbx.out.size))).mono ?_); (intro e' w'' hN); (obtain ⟨⟨pA, pm, pc, pn⟩, x1, rfl, rfl, hp⟩ := hN.at (F := fun x => x < W0.heap.size) (fun x hx => by simp; omega); clear hN); (try simp only [RPg.v, RPg.V]); replace hp := Lib.hid hp)
        | (at_builtin
           refine u_append (U := W0) (.tmp 16) (.tmp 25) rfl rfl _ rfl rfl (below_of_ext W0 x) hM.out ?_ ⟨pA, pm, pc, pn⟩ (hp.out.grow (by (repeat' (first | (with_reducible exact Below.refl _ _) | (with_reducible refine Below.alloc ?_ ?_ _) | (with_reducible refine below_ext ?_ ?_ _) | (with_reducible refine Below.drew ?_) | (with_reducible refine below_drewN ?_ _) | (with_reducible refine Below.setCell ?_ ?_ _) | go_size | (simp only [go_sem]; omega) | (simp [go_sem]; done) | (simp [go_sem]; omega))))) (by simp [go_sem, RPg.V]) (by simp [go_sem]) hul.out ?_
           · (repeat' (first | (with_reducible exact Below.refl _ _) | (with_reducible refine Below.alloc ?_ ?_ _) | (with_reducible refine below_ext ?_ ?_ _) | (with_reducible refine Below.drew ?_) | (with_reducible refine below_drewN ?_ _) | (with_reducible refine Below.setCell ?_ ?_ _) | go_size | (simp only [go_sem]; omega) | (simp [go_sem]; done) | (simp [go_sem]; omega)))
           intro A2 n2 c2 x3 hM2))
      have hM3 := hM2.out
      rw [hnx.out] at hM3
      exact ⟨⟨i + 1, A2, n2, c2, _, x3, by omega, by go_num, rfl, rfl, Lib.hid hM3⟩, by simp [intOf]; omega⟩
    · obtain rfl : i = S.pages.length := by omega
      rw [List.take_of_length_le (Nat.le_refl _)] at hM
      have a1 := (block_ext W0 x (heap_in b1.out)).trans b1.out
      have a2 := (block_ext W0 x (heap_in b2.out)).trans b2.out
      have hbw := below_ext hb0.out hb0.out.size x
      have hsx : W0.heap.size ≤ (ext W0 x).heap.size := by simp
      go_upto_region 6 with fail
      generalize ext W0 x = W1 at hM a1 a2 hbw hsx ⊢
      obtain ⟨u0, -, -, -, -, ul, uf⟩ := five a1
      have uf0 := uf 0
      clear uf
      go_upto_region 7 with fail
      have d1 := set_cellA (k := 0) (.slice B a d) a1
      have hRH : R ≠ H := by have := hHR.out; omega
      have d2 : (W1.setCell ⟨H, 0, none⟩ (.slice B a d)).heap[R]? = _ := (Below.heap_setCell _ _ _ _ (by simpa using hRH)).trans a2
      have hk2 := keep_set W1 H 0 (.slice B a d)
      have hwH : w.heap.size ≤ H := by have := hHR.out; omega
      have hb2 : Below w.heap.size w (W1.setCell ⟨H, 0, none⟩ (.slice B a d)) := below_set hbw _ _ hwH
      have hs2 : W1.heap.size ≤ (W1.setCell ⟨H, 0, none⟩ (.slice B a d)).heap.size := by simp
      clear u0 uf0 ul
      generalize W1.setCell ⟨H, 0, none⟩ (.slice B a d) = W2 at d1 d2 hk2 hb2 hs2 ⊢
      replace d1 : W2.heap[H]? = some (.cells #[.slice B a d, .slice sA sm sc, .int .i64 sn, .int .i64 S.now, .bool S.below] 30 (0, 0)) := d1
      obtain ⟨-, u1, u2, -, -, ul, uf⟩ := five d1
      have uf1 := uf 1
      have uf2 := uf 2
      clear uf
      go_upto_region 8 with ((go_at_call 63); (with_reducible refine (RS.out _ hb2).mono ?_); (intro e' w'' hN); (obtain ⟨⟨pA, pm, pc, pn⟩, x1, rfl, rfl, hp⟩ := hN.at (F := fun x => x < W0.heap.size) (fun x hx => by omega); clear hN); (try simp only [RPg.v, RPg.V]); replace hp := Lib.hid hp)
      have pl2 : H < (W2.setCell ⟨H, 1, none⟩ (.slice pA pm pc)).heap.size := by simpa using ul
      rw [← setCell_ext _ _ _ _ _ pl2, ← setCell_ext _ _ _ _ _ ul]
      have g1 := (block_ext W2 x1 ul).trans d1
      have g2 := (block_ext W2 x1 (heap_in d2)).trans d2
      have hk3 : Keep (fun x => x = H ∨ x = R) W1 (ext W2 x1) := (hk2.mono (fun x hx => .inl hx)).trans (Keep.of_below (F := fun _ => False) (below_of_ext W2 x1)) (fun _ f => f.elim)
      have hb3 := below_ext hb2 hb2.size x1
      clear d1 d2 hk2 hb2 hs2 pl2 u1 u2 uf1 uf2 ul
      generalize ext W2 x1 = W3 at hp g1 g2 hk3 hb3 ⊢
      have e1 := set_cellA (k := 2) (.int .i64 pn) (set_cellA (k := 1) (.slice pA pm pc) g1)
      have e2 : ((W3.setCell ⟨H, 1, none⟩ (.slice pA pm pc)).setCell ⟨H, 2, none⟩ (.int .i64 pn)).heap[R]? = _ := (Below.heap_setCell _ _ _ _ (by simpa using hRH)).trans ((Below.heap_setCell _ _ _ _ (by simpa using hRH)).trans g2)
      have hk4 : Keep (· = H) W3 ((W3.setCell ⟨H, 1, none⟩ (.slice pA pm pc)).setCell ⟨H, 2, none⟩ (.int .i64 pn)) := (keep_set W3 H 1 _).set (F := (· = H)) (p := ⟨H, 2, none⟩) (.inl rfl) _
      generalize (W3.setCell ⟨H, 1, none⟩ (.slice pA pm pc)).setCell ⟨H, 2, none⟩ (.int .i64 pn) = W4 at e1 e2 hk4 ⊢
      replace e1 : W4.heap[H]? = some (.cells #[.slice B a d, .slice pA pm pc, .int .i64 pn, .int .i64 S.now, .bool S.below] 30 (0, 0)) := e1
      obtain ⟨f0, f1, f2, f3, f4, fl, -⟩ := five e1
      obtain ⟨v0, v1, v2, v3, v4, vl, vf⟩ := five e2
      have vf0 := vf 0
      have vf1 := vf 1
      have vf2 := vf 2
      have vf3 := vf 3
      have vf4 := vf 4
      replace e2 := Lib.hid e2
      clear vf e1
      go_wp2
      obtain ⟨W5, h5, hk5, hs5⟩ := store5 e2.out (.slice B a d) (.slice pA pm pc) (.int .i64 pn) (.int .i64 S.now) (.bool S.below)
      rw [h5]
      obtain ⟨s0, s1, s2, s3, s4, sl, -⟩ := five hs5
      have hk6 : Keep (fun x => x = H ∨ x = R) W3 W5 := (hk4.mono (fun x hx => .inl hx)).trans hk5 (fun x hx => .inl (.inr hx))
      have hk7 : Keep (fun x => x = H ∨ x = R) W1 W5 := hk3.trans hk6 (fun x hx => .inl hx)
      have hty : ∀ W : World, W.heap[H]? = some (.cells #[.slice B a d, .slice sA sm sc, .int .i64 sn, .int .i64 S.now, .bool S.below] 30 (0, 0)) ∨ W.heap[H]? = some (.cells #[.slice A S.pages.length c, .slice sA sm sc, .int .i64 sn, .int .i64 S.now, .bool S.below] 30 (0, 0)) → W.heap[R]? = some (.cells #[.slice none 0 0, .slice none 0 0, .int .i64 0, .int .i64 0, .bool false] 30 (0, 0)) →
          ∀ x, x = H ∨ x = R → ∃ cur t, W.heap[x]? = some (.cells cur t (0, 0)) ∧ t ≠ 61 ∧ t ≠ 41 ∧ t ≠ 28 := fun W hW1 hW2 x hx => by
        rcases hx with rfl | rfl
        · rcases hW1 with hW1 | hW1 <;> exact ⟨_, _, hW1, by decide, by decide, by decide⟩
        · exact ⟨_, _, hW2, by decide, by decide, by decide⟩
      have hF0 : ∀ x, F x → x < W0.heap.size := fun x hx => by have := hF x hx; have := hHR.out; omega
      have hMk := hM.out.keep hk7 (hty W1 (.inr a1) a2)
      have hst : RefAt W5 F (RPg.v ⟨pA, pm, pc, pn⟩) (resizeS S.status 1 n) := (hp.out.keepT hk6 (fun x hx => by obtain ⟨cur, t, z1, z2, z3, _⟩ := hty W3 (.inl g1) g2 x hx; exact ⟨cur, t, z1, z2, z3⟩)).mono (fun x _ f => hF0 x f)
      have hb5 : Below w.heap.size w W5 := hb3.trans (hk6.below (fun x hx => by have := hHR.out; omega) hb3.size)
      have hRp : RPs W5 F B us' (S.pages.map fun P => resizeS P m n) := ⟨hMk.own.rd encU_len, fun h0 q o e f => by subst e; have h1 := hF0 q f; have h2 := (hMk.own.lt q rfl).1; omega, hMk.len, fun i r P hr hP => (hMk.pg i r P hr hP).mono (fun x _ f => hF0 x f)⟩
      have ha : a = (S.pages.map fun P => resizeS P m n).length := by
        obtain ⟨A2, c2, e, _, _⟩ := hMk.own.form
        injection e with _ e3 _
        rw [e3, hMk.len]
      have FN2 : NewRB F (S.resize m n) w (.returned (rbV B a d (.slice pA pm pc) pn S.now S.below)) W5 := by
        obtain ⟨x, e⟩ := ext_of hb5
        exact ⟨_, x, rfl, e, B, d, us', ⟨pA, pm, pc, pn⟩, by rw [ha]; rfl, by rw [← e]; exact hRp, by rw [← e]; exact hst⟩
      replace FN2 := Lib.hid FN2
      clear hs5 e2 h5
      simp [bodyPost, go_sem, s0, s1, s2, s3, s4]
      exact ⟨_, by simp [results, Try.f74, go_sem, s0, s1, s2, s3, s4] <;> rfl, FN2.out⟩
end
end Go.Proofs.Ytpahcgappaifnaa
/- The document's pages and books: Same.  -/
namespace Go.Proofs.Ytpahcgappaifnaa
open Go.RowKit
set_option linter.unusedVariables false
set_option linter.unusedSimpArgs false

section
variable {w : World} {S T : PgS} {U U' : Value}
set_option maxRecDepth 100000 in
set_option maxHeartbeats 4000000 in
theorem refsame_c (h : RefV w U S) (hS : S.Ok) (h' : RefV w U' T) (hT : T.Ok) : Calls Try.prog 80 #[U, U'] w (Gives w (.bool (sameS S T))) := by
  obtain ⟨A, c, r1, rfl, l1, v1, -⟩ := h.op
  obtain ⟨B, d, r2, rfl, l2, v2, -⟩ := h'.op
  have A1 := Lib.hid (fun i (hi : i < S.rows.length) => Lns.at l1 v1 hi)
  have A2 := Lib.hid (fun i (hi : i < T.rows.length) => Lns.at l2 v2 hi)
  have W1 := Lib.hid (fun i (hi : i < S.rows.length) => (hS.small _ (List.getElem_mem hi)).2)
  have W2 := Lib.hid (fun i (hi : i < T.rows.length) => (hT.small _ (List.getElem_mem hi)).2)
  have m1 := hS.r2
  have m2 := hT.r2
  clear h h' l1 l2 v1 v2
  unfold sameS
  by_cases hl : S.rows.length = T.rows.length
  · have q1 : ((S.rows.length : Int) != (T.rows.length : Int)) = false := by rw [hl]; simp
    rw [← hl]
    cases hc : decide (S.cols = T.cols)
    · have q2 : ((S.cols : Int) != (T.cols : Int)) = true := by simp at hc; rw [bne_iff_ne]; omega
      rw [Bool.false_and]
      clear hc
      go_enter Try.func80, Try.ntmps80
      go_wp2
      go_returns
      exact ⟨rfl, by (repeat' (first | (with_reducible exact Below.refl _ _) | (with_reducible refine Below.alloc ?_ ?_ _) | (with_reducible refine below_ext ?_ ?_ _) | (with_reducible refine Below.drew ?_) | (with_reducible refine below_drewN ?_ _) | (with_reducible refine Below.setCell ?_ ?_ _) | go_size | (simp only [go_sem]; omega) | (simp [go_sem]; done) | (simp [go_sem]; omega)))⟩
    · have q2 : ((S.cols : Int) != (T.cols : Int)) = false := by simp at hc; rw [hc]; simp
      rw [Bool.true_and]
      replace hl := Lib.hid hl
      clear hc
      go_enter Try.func80, Try.ntmps80
      go_wp2
      obtain ⟨W, hW⟩ : ∃ W, W = (w.alloc (.cells #[.slice A S.rows.length c, .int .i64 S.cols] 28)).alloc (.cells #[.slice B S.rows.length d, .int .i64 T.cols] 28) := ⟨_, rfl⟩
      have hbW : Below w.heap.size w W := by rw [hW]; (repeat' (first | (with_reducible exact Below.refl _ _) | (with_reducible refine Below.alloc ?_ ?_ _) | (with_reducible refine below_ext ?_ ?_ _) | (with_reducible refine Below.drew ?_) | (with_reducible refine below_drewN ?_ _) | (with_reducible refine Below.setCell ?_ ?_ _) | go_size | (simp only [go_sem]; omega) | (simp [go_sem]; done) | (simp [go_sem]; omega)))
      have a0 : W.cell? ⟨w.heap.size, 0, none⟩ = some (.slice A S.rows.length c) := by rw [hW]; simp [go_sem]
      have b0 : W.cell? ⟨w.heap.size + 1, 0, none⟩ = some (.slice B S.rows.length d) := by rw [hW]; simp [go_sem]
      have hs : w.heap.size + 1 < W.heap.size := by rw [hW]; simp
      have hs0 : w.heap.size < W.heap.size := by omega
      rw [← hW]
      clear hW
      replace hbW := Lib.hid hbW
      go_loopw [5] (fun iv wr => ∃ (j : Nat) (x : More), j ≤ S.rows.length ∧ iv = .int .i64 j ∧ wr = ext W x ∧ Hid (∀ i (h1 : i < S.rows.length) (h2 : i < T.rows.length), i < j → S.rows[i] = T.rows[i])) (fun iv _ => S.rows.length - (intOf iv).toNat)
      case atStart => exact ⟨0, ⟨#[], W.drawn⟩, by omega, rfl, by simp [ext], Lib.hid (fun i _ _ h => absurd h (by omega))⟩
      case round =>
        obtain ⟨j, x, hj, rfl, rfl, hE⟩ := hrel
        by_cases hlt : j < S.rows.length
        · have hlt2 : j < T.rows.length := by have := hl.out; omega
          obtain ⟨L, g, k, xs, z, rfl, e1, e2, hc1, hc2, e4, e5, e3⟩ := A1.out j hlt
          obtain ⟨M, g', k', ys, z', rfl, f1, f2, hd1, hd2, f4, f5, f3⟩ := A2.out j hlt2
          have l1 := W1.out j hlt
          have l2 := W2.out j hlt2
          rw [e1] at l1
          rw [f1] at l2
          have X := Lib.hid (e2.rd.below hbW.out)
          have Y := Lib.hid (f2.rd.below hbW.out)
          have SM := Lib.hid (fun w' (h : Rd encC 3 w' (some ⟨g, 0, none⟩) xs) (h' : Rd encC 3 w' (some ⟨g', 0, none⟩) ys) => same_lr (some ⟨g, 0, none⟩) (some ⟨g', 0, none⟩) k k' xs ys z z' w' h h' (by simp only at l1; omega) (by simp only at l2; omega))
          rw [sameL_eq, ← e1, ← f1] at SM
          have hm : S.rows.length ≤ 500 := m1
          have d0 := (hbW.out.cell (p := ⟨L, _, none⟩) e3).trans e4
          have d1 := (hbW.out.cell (p := ⟨L, _, none⟩) e3).trans e5
          have d2 := (hbW.out.cell (p := ⟨M, _, none⟩) f3).trans f4
          have d3 := (hbW.out.cell (p := ⟨M, _, none⟩) f3).trans f5
          have hL : L < W.heap.size := Nat.lt_of_lt_of_le e3 hbW.out.size
          have hM : M < W.heap.size := Nat.lt_of_lt_of_le f3 hbW.out.size
          clear e2 f2 e3 f3 e4 e5 f4 f5 hc1 hc2 hd1 hd2
          cases hsm : decide (S.rows[j] = T.rows[j])
          · rw [hsm] at SM
            have hne : decide (S.rows = T.rows) = false := by
              simp only [decide_eq_false_iff_not] at hsm ⊢
              intro e
              exact hsm (by simp only [e])
            replace hne := Lib.hid hne
            clear hsm e1 f1 l1 l2
            go_wp2
            (refine wp_region_free (by kernel_rfl) (by kernel_rfl) ?_)
            repeat (go_big_quiet_step ((go_at_call 51; with_reducible exact Calls.free (SM.out _ (by repeat (first | exact X.out | exact X | refine Rd.ext ?_ _ | refine Rd.alloc ?_ _ | refine Rd.drew ?_)) (by repeat (first | exact Y.out | exact Y | refine Rd.ext ?_ _ | refine Rd.alloc ?_ _ | refine Rd.drew ?_))))))
            refine wpQuiet_nil ?_; rintro _ ⟨x2, rfl⟩
            go_wp2
            go_returns
            rw [hne.out]
            exact ⟨rfl, hbW.out.trans (Below.mono (B := W.heap.size) (by (repeat' (first | (with_reducible exact Below.refl _ _) | (with_reducible refine Below.alloc ?_ ?_ _) | (with_reducible refine below_ext ?_ ?_ _) | (with_reducible refine Below.drew ?_) | (with_reducible refine below_drewN ?_ _) | (with_reducible refine Below.setCell ?_ ?_ _) | go_size | (simp only [go_sem]; omega) | (simp [go_sem]; done) | (simp [go_sem]; omega)))) hbW.out.size)⟩
          · rw [hsm] at SM
            have hE2 := Lib.hid (fun i (h1 : i < S.rows.length) (h2 : i < T.rows.length) (h3 : i < j + 1) => (by
              rcases Nat.lt_or_ge i j with h | h
              · exact hE.out i h1 h2 h
              · obtain rfl : i = j := by omega
                simpa using hsm : S.rows[i] = T.rows[i]))
            clear hsm e1 f1 l1 l2
            go_wp2
            (refine wp_region_free (by kernel_rfl) (by kernel_rfl) ?_)
            repeat (go_big_quiet_step ((go_at_call 51; with_reducible exact Calls.free (SM.out _ (by repeat (first | exact X.out | exact X | refine Rd.ext ?_ _ | refine Rd.alloc ?_ _ | refine Rd.drew ?_)) (by repeat (first | exact Y.out | exact Y | refine Rd.ext ?_ _ | refine Rd.alloc ?_ _ | refine Rd.drew ?_))))))
            refine wpQuiet_nil ?_; rintro _ ⟨x2, rfl⟩
            go_wp2
            exact ⟨⟨j + 1, _, by omega, by go_num, ext_ext _ _ _, hE2⟩, by simp [intOf]; omega⟩
        · obtain rfl : j = S.rows.length := by omega
          have he : decide (S.rows = T.rows) = true := by
            simp only [decide_eq_true_eq]
            exact lists_eq hl.out (fun i h1 h2 => hE.out i h1 h2 h1)
          replace he := Lib.hid he
          go_wp2
          go_returns
          rw [he.out]
          exact ⟨rfl, hbW.out.trans (Below.mono (B := W.heap.size) (by (repeat' (first | (with_reducible exact Below.refl _ _) | (with_reducible refine Below.alloc ?_ ?_ _) | (with_reducible refine below_ext ?_ ?_ _) | (with_reducible refine Below.drew ?_) | (with_reducible refine below_drewN ?_ _) | (with_reducible refine Below.setCell ?_ ?_ _) | go_size | (simp only [go_sem]; omega) | (simp [go_sem]; done) | (simp [go_sem]; omega)))) hbW.out.size)⟩
  · have q1 : ((S.rows.length : Int) != (T.rows.length : Int)) = true := by rw [bne_iff_ne]; omega
    have hne : (decide (S.cols = T.cols) && decide (S.rows = T.rows)) = false := by
      have : ¬ S.rows = T.rows := fun e => hl (by rw [e])
      simp [this]
    rw [hne]
    clear hne
    go_enter Try.func80, Try.ntmps80
    go_wp2
    go_returns
    exact ⟨rfl, by (repeat' (first | (with_reducible exact Below.refl _ _) | (with_reducible refine Below.alloc ?_ ?_ _) | (with_reducible refine below_ext ?_ ?_ _) | (with_reducible refine Below.drew ?_) | (with_reducible refine below_drewN ?_ _) | (with_reducible refine Below.setCell ?_ ?_ _) | go_size | (simp only [go_sem]; omega) | (simp [go_sem]; done) | (simp [go_sem]; omega)))⟩
end
theorem sameBk_f {S T : BkS} (h : S ≠ T) : sameBk S T = false := by
  cases e : sameBk S T
  · rfl
  · exact absurd ((sameBk_iff S T).1 e) h
section
variable {w : World} {F G : Nat → Prop} {S T : BkS} {U U' : Value}
set_option maxRecDepth 100000 in
set_option maxHeartbeats 4000000 in
theorem rsame_c (h : RBk w F U S) (hS : S.Ok) (h' : RBk w G U' T) (hT : T.Ok) : Calls Try.prog 38 #[U, U'] w (Gives w (.bool (sameBk S T))) := by
  obtain ⟨A, c, us, ⟨sA, sm, sc, sn⟩, rfl, H⟩ := h
  obtain ⟨B, d, vs, ⟨tA, tm, tc, tn⟩, rfl, K⟩ := h'
  have m1 := hS.p2
  have m2 := hT.p2
  have SS := Lib.hid (fun w' (hb : Below w.heap.size w w') => refsame_c (H.st.grow hb).v hS.st (K.st.grow hb).v hT.st)
  have A1 := Lib.hid (fun i (hi : i < S.pages.length) => H.ps.get hi)
  have A2 := Lib.hid (fun i (hi : i < T.pages.length) => K.ps.get hi)
  have O1 := Lib.hid (fun i (hi : i < S.pages.length) => hS.pg _ (List.getElem_mem hi))
  have O2 := Lib.hid (fun i (hi : i < T.pages.length) => hT.pg _ (List.getElem_mem hi))
  clear H K
  simp only [RPg.v, RPg.V] at SS ⊢
  by_cases hl : S.pages.length = T.pages.length
  · have q1 : ((S.pages.length : Int) != (T.pages.length : Int)) = false := by rw [hl]; simp
    by_cases hn : S.now = T.now
    · have q2 : ((S.now : Int) != (T.now : Int)) = false := by rw [hn]; simp
      by_cases hb : S.below = T.below
      · have q3 : (S.below == T.below) = true := by rw [hb]; simp
        cases hss : sameS S.status T.status
        · rw [hss] at SS
          have hne := sameBk_f (S := S) (T := T) (fun e => by rw [e, (sameS_iff _ _).2 rfl] at hss; cases hss)
          rw [hne]
          clear hne hss hn hb hl
          generalize S.below = x1 at *
          generalize T.below = x2 at *
          go_enter Try.func38, Try.ntmps38
          go_wp2_with (go_at_call 80; ((with_reducible refine (SS.out _ (by (repeat' (first | (with_reducible exact Below.refl _ _) | (with_reducible refine Below.alloc ?_ ?_ _) | (with_reducible refine below_ext ?_ ?_ _) | (with_reducible refine Below.drew ?_) | (with_reducible refine below_drewN ?_ _) | (with_reducible refine Below.setCell ?_ ?_ _) | go_size | (simp only [go_sem]; omega) | (simp [go_sem]; done) | (simp [go_sem]; omega))))).mono ?_); rintro _ _ hgets; obtain ⟨rfl, y1, rfl⟩ := hgets.get; clear hgets))
          go_returns
          exact ⟨rfl, by (repeat' (first | (with_reducible exact Below.refl _ _) | (with_reducible refine Below.alloc ?_ ?_ _) | (with_reducible refine below_ext ?_ ?_ _) | (with_reducible refine Below.drew ?_) | (with_reducible refine below_drewN ?_ _) | (with_reducible refine Below.setCell ?_ ?_ _) | go_size | (simp only [go_sem]; omega) | (simp [go_sem]; done) | (simp [go_sem]; omega)))⟩
        · rw [hss] at SS
          have e0 : sameBk S T = samePs S.pages T.pages := by unfold sameBk; rw [decide_eq_true hn, hb, hss]; simp
          rw [e0]
          clear e0 hss hn hb
          generalize S.below = x1 at *
          generalize T.below = x2 at *
          rw [← hl]
          replace hl := Lib.hid hl
          go_enter Try.func38, Try.ntmps38
          go_upto_region 3 with (go_at_call 80; ((with_reducible refine (SS.out _ (by (repeat' (first | (with_reducible exact Below.refl _ _) | (with_reducible refine Below.alloc ?_ ?_ _) | (with_reducible refine below_ext ?_ ?_ _) | (with_reducible refine Below.drew ?_) | (with_reducible refine below_drewN ?_ _) | (with_reducible refine Below.setCell ?_ ?_ _) | go_size | (simp only [go_sem]; omega) | (simp [go_sem]; done) | (simp [go_sem]; omega))))).mono ?_); rintro _ _ hgets; obtain ⟨rfl, y1, rfl⟩ := hgets.get; clear hgets))
          go_wp2
          obtain ⟨W, hW⟩ : ∃ W, W = ext ((w.alloc (.cells #[.slice A S.pages.length c, .slice sA sm sc, .int .i64 sn, .int .i64 S.now, .bool x1] 30)).alloc (.cells #[.slice B S.pages.length d, .slice tA tm tc, .int .i64 tn, .int .i64 T.now, .bool x2] 30)) y1 := ⟨_, rfl⟩
          have hbW : Below w.heap.size w W := by rw [hW]; (repeat' (first | (with_reducible exact Below.refl _ _) | (with_reducible refine Below.alloc ?_ ?_ _) | (with_reducible refine below_ext ?_ ?_ _) | (with_reducible refine Below.drew ?_) | (with_reducible refine below_drewN ?_ _) | (with_reducible refine Below.setCell ?_ ?_ _) | go_size | (simp only [go_sem]; omega) | (simp [go_sem]; done) | (simp [go_sem]; omega)))
          have a0 : W.cell? ⟨w.heap.size, 0, none⟩ = some (.slice A S.pages.length c) := by rw [hW]; simp [go_sem]
          have b0 : W.cell? ⟨w.heap.size + 1, 0, none⟩ = some (.slice B S.pages.length d) := by rw [hW]; simp [go_sem]
          have hs : w.heap.size + 1 < W.heap.size := by rw [hW]; simp; omega
          have hs0 : w.heap.size < W.heap.size := by omega
          rw [← hW]
          clear hW
          replace hbW := Lib.hid hbW
          go_loopw [5] (fun iv wr => ∃ (j : Nat) (x : More), j ≤ S.pages.length ∧ iv = .int .i64 j ∧ wr = ext W x ∧ Hid (∀ i (h1 : i < S.pages.length) (h2 : i < T.pages.length), i < j → S.pages[i] = T.pages[i])) (fun iv _ => S.pages.length - (intOf iv).toNat)
          case atStart => exact ⟨0, ⟨#[], W.drawn⟩, by omega, rfl, by simp [ext], Lib.hid (fun i _ _ h => absurd h (by omega))⟩
          case round =>
            obtain ⟨j, x, hj, rfl, rfl, hE⟩ := hrel
            by_cases hlt : j < S.pages.length
            · have hlt2 : j < T.pages.length := by have := hl.out; omega
              obtain ⟨⟨rA, rm, rc, rn⟩, L, o, -, rfl, hr, d0, d1, hL⟩ := A1.out j hlt
              obtain ⟨⟨vA, vm, vc, vn⟩, M, o', -, rfl, hv, e0, e1, hM⟩ := A2.out j hlt2
              simp only [RPg.v, RPg.V] at hr hv d0 d1 e0 e1
              have SM := Lib.hid (fun w' (hb : Below w.heap.size w w') => refsame_c (hr.grow hb).v (O1.out j hlt) (hv.grow hb).v (O2.out j hlt2))
              have f0 := (hbW.out.cell (p := ⟨L, _, none⟩) hL).trans d0
              have f1 := (hbW.out.cell (p := ⟨L, _, none⟩) hL).trans d1
              have g0 := (hbW.out.cell (p := ⟨M, _, none⟩) hM).trans e0
              have g1 := (hbW.out.cell (p := ⟨M, _, none⟩) hM).trans e1
              have hL' : L < W.heap.size := Nat.lt_of_lt_of_le hL hbW.out.size
              have hM' : M < W.heap.size := Nat.lt_of_lt_of_le hM hbW.out.size
              clear hr hv d0 d1 e0 e1 hL hM
              cases hsm : sameS S.pages[j] T.pages[j]
              · rw [hsm] at SM
                have hne : samePs S.pages T.pages = false := samePs_f (fun e => by
                  have e2 : S.pages[j] = T.pages[j] := by simp only [e]
                  rw [(sameS_iff _ _).2 e2] at hsm
                  cases hsm)
                replace hne := Lib.hid hne
                clear hsm
                go_wp2
                (refine wp_region_free (by kernel_rfl) (by kernel_rfl) ?_)
                repeat (go_big_quiet_step ((go_at_call 80; with_reducible exact Calls.free (SM.out _ (hbW.out.trans (Below.mono (B := W.heap.size) (by (repeat' (first | (with_reducible exact Below.refl _ _) | (with_reducible refine Below.alloc ?_ ?_ _) | (with_reducible refine below_ext ?_ ?_ _) | (with_reducible refine Below.drew ?_) | (with_reducible refine below_drewN ?_ _) | (with_reducible refine Below.setCell ?_ ?_ _) | go_size | (simp only [go_sem]; omega) | (simp [go_sem]; done) | (simp [go_sem]; omega)))) hbW.out.size))))))
                refine wpQuiet_nil ?_; rintro _ ⟨x3, rfl⟩
                go_wp2
                go_returns
                rw [hne.out]
                exact ⟨rfl, hbW.out.trans (Below.mono (B := W.heap.size) (by (repeat' (first | (with_reducible exact Below.refl _ _) | (with_reducible refine Below.alloc ?_ ?_ _) | (with_reducible refine below_ext ?_ ?_ _) | (with_reducible refine Below.drew ?_) | (with_reducible refine below_drewN ?_ _) | (with_reducible refine Below.setCell ?_ ?_ _) | go_size | (simp only [go_sem]; omega) | (simp [go_sem]; done) | (simp [go_sem]; omega)))) hbW.out.size)⟩
              · rw [hsm] at SM
                have hE2 := Lib.hid (fun i (h1 : i < S.pages.length) (h2 : i < T.pages.length) (h3 : i < j + 1) => (by
                  rcases Nat.lt_or_ge i j with h | h
                  · exact hE.out i h1 h2 h
                  · obtain rfl : i = j := by omega
                    exact (sameS_iff _ _).1 hsm : S.pages[i] = T.pages[i]))
                clear hsm
                go_wp2
                (refine wp_region_free (by kernel_rfl) (by kernel_rfl) ?_)
                repeat (go_big_quiet_step ((go_at_call 80; with_reducible exact Calls.free (SM.out _ (hbW.out.trans (Below.mono (B := W.heap.size) (by (repeat' (first | (with_reducible exact Below.refl _ _) | (with_reducible refine Below.alloc ?_ ?_ _) | (with_reducible refine below_ext ?_ ?_ _) | (with_reducible refine Below.drew ?_) | (with_reducible refine below_drewN ?_ _) | (with_reducible refine Below.setCell ?_ ?_ _) | go_size | (simp only [go_sem]; omega) | (simp [go_sem]; done) | (simp [go_sem]; omega)))) hbW.out.size))))))
                refine wpQuiet_nil ?_; rintro _ ⟨x3, rfl⟩
                go_wp2
                exact ⟨⟨j + 1, _, by omega, by go_num, ext_ext _ _ _, hE2⟩, by simp [intOf]; omega⟩
            · obtain rfl : j = S.pages.length := by omega
              have he : samePs S.pages T.pages = true := (samePs_iff _ _).2 (lists_eq hl.out (fun i h1 h2 => hE.out i h1 h2 h1))
              replace he := Lib.hid he
              go_wp2
              go_returns
              rw [he.out]
              exact ⟨rfl, hbW.out.trans (Below.mono (B := W.heap.size) (by (repeat' (first | (with_reducible exact Below.refl _ _) | (with_reducible refine Below.alloc ?_ ?_ _) | (with_reducible refine below_ext ?_ ?_ _) | (with_reducible refine Below.drew ?_) | (with_reducible refine below_drewN ?_ _) | (with_reducible refine Below.setCell ?_ ?_ _) | go_size | (simp only [go_sem]; omega) | (simp [go_sem]; done) | (simp [go_sem]; omega)))) hbW.out.size)⟩
      · have q3 : (S.below == T.below) = false := by rw [beq_eq_false_iff_ne]; exact hb
        have hne := sameBk_f (S := S) (T := T) (fun e => hb (by rw [e]))
        rw [hne]
        clear hne hn hb hl
        generalize S.below = x1 at *
        generalize T.below = x2 at *
        go_enter Try.func38, Try.ntmps38
        go_wp2
        go_returns
        exact ⟨rfl, by (repeat' (first | (with_reducible exact Below.refl _ _) | (with_reducible refine Below.alloc ?_ ?_ _) | (with_reducible refine below_ext ?_ ?_ _) | (with_reducible refine Below.drew ?_) | (with_reducible refine below_drewN ?_ _) | (with_reducible refine Below.setCell ?_ ?_ _) | go_size | (simp only [go_sem]; omega) | (simp [go_sem]; done) | (simp [go_sem]; omega)))⟩
    · have q2 : ((S.now : Int) != (T.now : Int)) = true := by rw [bne_iff_ne]; omega
      have hne := sameBk_f (S := S) (T := T) (fun e => hn (by rw [e]))
      rw [hne]
      clear hne hn hl
      go_enter Try.func38, Try.ntmps38
      go_wp2
      go_returns
      exact ⟨rfl, by (repeat' (first | (with_reducible exact Below.refl _ _) | (with_reducible refine Below.alloc ?_ ?_ _) | (with_reducible refine below_ext ?_ ?_ _) | (with_reducible refine Below.drew ?_) | (with_reducible refine below_drewN ?_ _) | (with_reducible refine Below.setCell ?_ ?_ _) | go_size | (simp only [go_sem]; omega) | (simp [go_sem]; done) | (simp [go_sem]; omega)))⟩
  · have q1 : ((S.pages.length : Int) != (T.pages.length : Int)) = true := by rw [bne_iff_ne]; omega
    have hne := sameBk_f (S := S) (T := T) (fun e => hl (by rw [e]))
    rw [hne]
    clear hne hl
    go_enter Try.func38, Try.ntmps38
    go_wp2
    go_returns
    exact ⟨rfl, by (repeat' (first | (with_reducible exact Below.refl _ _) | (with_reducible refine Below.alloc ?_ ?_ _) | (with_reducible refine below_ext ?_ ?_ _) | (with_reducible refine Below.drew ?_) | (with_reducible refine below_drewN ?_ _) | (with_reducible refine Below.setCell ?_ ?_ _) | go_size | (simp only [go_sem]; omega) | (simp [go_sem]; done) | (simp [go_sem]; omega)))⟩
end
end Go.Proofs.Ytpahcgappaifnaa
