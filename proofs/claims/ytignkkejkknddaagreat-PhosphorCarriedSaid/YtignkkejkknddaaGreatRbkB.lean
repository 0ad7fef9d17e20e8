/- The document's books: what they are in memory; Turn, Step, Sheet, SetPage, SetSheet, Copy.  -/
import Derived.Test.YtignkkejkknddaaGreatBkB
import Derived.Test.YtignkkejkknddaaGreatRegionF
namespace Go.Proofs.YtignkkejkknddaaGreat
open Go.RowKit
set_option linter.unusedVariables false
set_option linter.unusedSimpArgs false

/-- a page of the document's, as it stands in a list or in a struct -/
structure RPg where
  A : Option Addr
  m : Nat
  c : Nat
  n : Nat
def RPg.V (r : RPg) : Value := .slice r.A r.m r.c
def RPg.v (r : RPg) : Value := .agg #[r.V, .int .i64 r.n]
def encU (r : RPg) : List Value := [r.V, .int .i64 r.n]
theorem encU_len (r : RPg) : (encU r).length = 2 := rfl
theorem encU_one (r : RPg) : ∀ u ∈ encU r, u.oneCell' = true := by
  intro u hu
  simp [encU] at hu
  rcases hu with rfl | rfl <;> rfl
theorem pageR_info : (Tryz.prog.info? 39).map (fun i => (i.zero, i.size, i.bytes)) = some (some (.agg #[.slice none 0 0, .int .i64 0]), 2, 32) := by kernel_rfl
/-- a list of the document's pages, off the blocks F -/
structure RPs (w : World) (F : Nat → Prop) (A : Option Addr) (us : List RPg) (Ps : List PgS) : Prop where
  rd : Rd encU 2 w A us
  off : 0 < us.length → ∀ q o, A = some ⟨q, o, none⟩ → ¬ F q
  len : us.length = Ps.length
  pg : ∀ (i : Nat) (r : RPg) (P : PgS), us[i]? = some r → Ps[i]? = some P → RefAt w F r.v P
/-- a book of the document's, opened -/
structure RBo (w : World) (F : Nat → Prop) (S : BkS) (A : Option Addr) (us : List RPg) (s : RPg) : Prop where
  ps : RPs w F A us S.pages
  st : RefAt w F s.v S.status
abbrev rbV (A : Option Addr) (n c : Nat) (V : Value) (m : Int) (nw : Int) (bl : Bool) : Value := .agg #[.slice A n c, V, .int .i64 m, .int .i64 nw, .bool bl]
def RBk (w : World) (F : Nat → Prop) (U : Value) (S : BkS) : Prop := ∃ A c us s, U = rbV A S.pages.length c s.V s.n S.now S.below ∧ RBo w F S A us s
/-- a call that answers a book of the document's, off the blocks F -/
def NewRB (F : Nat → Prop) (S : BkS) (w : World) (e : Ending) (w' : World) : Prop := ∃ U x, e = .returned U ∧ w' = ext w x ∧ RBk (ext w x) F U S
section
variable {w w' : World} {F G : Nat → Prop} {S : BkS} {A : Option Addr} {us : List RPg} {s r : RPg} {Ps : List PgS} {P : PgS} {U : Value} {i : Nat}
theorem RefAt.keep' (h : RefAt w F U P) (hk : Keep G w w') (hd : ∀ x, ¬ F x → ¬ G x) : RefAt w' F U P := by
  obtain ⟨V, rows, h1, h2, h3, h4⟩ := h
  exact ⟨V, rows, h1, h2.keep hk (fun b hb => hd b (h4 b hb)), h3, h4⟩
theorem RefAt.rp (h : RefAt w F U P) : ∃ r : RPg, U = r.v ∧ r.n = P.cols := by
  obtain ⟨V, rows, rfl, h2, h3, h4⟩ := h
  obtain ⟨A, c, rfl, _, _⟩ := h2.form
  exact ⟨⟨A, rows.length, c, P.cols⟩, rfl, rfl⟩
theorem RefAt.cols (h : RefAt w F r.v P) : r.n = P.cols := by
  obtain ⟨V, rows, h1, h2, h3, h4⟩ := h
  simp only [RPg.v] at h1
  injection h1 with h1
  have := congrArg (fun a : Array Value => a[1]?) h1
  simp at this
  omega
theorem RPs.keep (h : RPs w F A us Ps) (hk : Keep G w w') (hd : ∀ x, ¬ F x → ¬ G x) : RPs w' F A us Ps :=
  ⟨h.rd.keep' hk (fun h0 q o e => hd q (h.off h0 q o e)), h.off, h.len, fun i r P hr hP => (h.pg i r P hr hP).keep' hk hd⟩
theorem RPs.grow (h : RPs w F A us Ps) (hb : Below w.heap.size w w') : RPs w' F A us Ps := ⟨h.rd.below hb, h.off, h.len, fun i r P hr hP => (h.pg i r P hr hP).grow hb⟩
theorem RPs.mono (h : RPs w F A us Ps) (hF : ∀ x, x < w.heap.size → G x → F x) : RPs w G A us Ps :=
  ⟨h.rd, fun h0 q o e g => (by
    obtain ⟨b, off, e2, hlt, _⟩ := h.rd h0
    rw [e] at e2
    injection e2 with e2
    injection e2 with e2
    subst e2
    exact h.off h0 q o e (hF q hlt g)), h.len, fun i r P hr hP => (h.pg i r P hr hP).mono hF⟩
theorem RPs.get (h : RPs w F A us Ps) (hi : i < Ps.length) : ∃ r L o, us[i]? = some r ∧ A = some ⟨L, o, none⟩ ∧ RefAt w F r.v Ps[i] ∧ w.cell? ⟨L, o + i * 2, none⟩ = some r.V ∧ w.cell? ⟨L, o + i * 2 + 1, none⟩ = some (.int .i64 r.n) ∧ L < w.heap.size := by
  have h1 : i < us.length := by rw [h.len]; exact hi
  obtain ⟨b, off, e, hlt, hc⟩ := h.rd (by omega)
  refine ⟨us[i], b, off, List.getElem?_eq_getElem h1, e, h.pg i _ _ (List.getElem?_eq_getElem h1) (List.getElem?_eq_getElem hi), ?_, ?_, hlt⟩
  · have := hc i h1 0 _ (by rfl : (encU us[i])[0]? = some us[i].V)
    simpa using this
  · have := hc i h1 1 _ (by rfl : (encU us[i])[1]? = some (.int .i64 us[i].n))
    rw [← this]
    rfl
theorem RBo.keep (h : RBo w F S A us s) (hk : Keep G w w') (hd : ∀ x, ¬ F x → ¬ G x) : RBo w' F S A us s := ⟨h.ps.keep hk hd, h.st.keep' hk hd⟩
theorem RBo.grow (h : RBo w F S A us s) (hb : Below w.heap.size w w') : RBo w' F S A us s := ⟨h.ps.grow hb, h.st.grow hb⟩
theorem RBk.keep (h : RBk w F U S) (hk : Keep G w w') (hd : ∀ x, ¬ F x → ¬ G x) : RBk w' F U S := by
  obtain ⟨A, c, us, s, e, h⟩ := h
  exact ⟨A, c, us, s, e, h.keep hk hd⟩
theorem RBk.grow (h : RBk w F U S) (hb : Below w.heap.size w w') : RBk w' F U S := by
  obtain ⟨A, c, us, s, e, h⟩ := h
  exact ⟨A, c, us, s, e, h.grow hb⟩
theorem RBk.mono (h : RBk w F U S) (hF : ∀ x, x < w.heap.size → G x → F x) : RBk w G U S := by
  obtain ⟨A, c, us, s, e, h⟩ := h
  exact ⟨A, c, us, s, e, h.ps.mono hF, h.st.mono hF⟩
theorem NewRB.of {c n : Nat} (h : RBo w F S A us s) (hb : Below w.heap.size w w') (hn : n = S.pages.length) : NewRB F S w (.returned (rbV A n c s.V s.n S.now S.below)) w' := by
  subst hn
  obtain ⟨x, rfl⟩ := ext_of hb
  exact ⟨_, x, rfl, rfl, A, c, us, s, rfl, h.grow hb⟩
theorem Keep.ext {a b : World} (h : Keep F a b) (hs : a.heap.size = b.heap.size) (x : More) : Keep F (ext a x) (ext b x) :=
  ⟨h.os, h.tape, h.output, by simp [hs], fun k hk hF => by
    rcases Nat.lt_or_ge k a.heap.size with hl | hl
    · rw [block_ext _ _ hl, block_ext _ _ (by omega)]
      exact h.block k hl hF
    · simp only [Go.Proofs.YtignkkejkknddaaGreat.ext]
      rw [Array.getElem?_append_right (by omega), Array.getElem?_append_right (by omega), hs]⟩
theorem keep_swap (w0 : World) (o o' : Obj) {R : Nat} (hR : R = w0.heap.size) : Keep (· = R) (w0.alloc o) (w0.alloc o') := by
  subst hR
  refine ⟨rfl, rfl, rfl, by simp, fun k hk hne => ?_⟩
  simp only [World.size_alloc] at hk
  have hlt : k < w0.heap.size := by omega
  exact (((Below.refl w0.heap.size w0).alloc (Nat.le_refl _) o').block k hlt).trans (((Below.refl w0.heap.size w0).alloc (Nat.le_refl _) o).block k hlt).symm
theorem NewRB.at {W : World} {R c n : Nat} (h : RBo W (fun x => F x ∨ x = R) S A us s) (hk : Keep (· = R) W w') (hb : Below w.heap.size w w') (hn : n = S.pages.length) : NewRB F S w (.returned (rbV A n c s.V s.n S.now S.below)) w' := by
  subst hn
  have h2 := h.keep hk (fun x hx e => hx (.inr e))
  obtain ⟨x, rfl⟩ := ext_of hb
  exact ⟨_, x, rfl, rfl, A, c, us, s, rfl, h2.ps.mono (fun _ _ => .inl), h2.st.mono (fun _ _ => .inl)⟩
theorem RBk.off {R : Nat} (h : RBk w F U S) (hR : w.heap.size ≤ R) : RBk w (fun x => F x ∨ x = R) U S := h.mono (fun x hx g => g.elim id (fun e => by omega))
theorem flat_setU (y : RPg) : ∀ (xs : List RPg) (i : Nat), i < xs.length → (((xs.flatMap encU).set (i * 2) y.V).set (i * 2 + 1) (.int .i64 y.n)) = (xs.set i y).flatMap encU
  | [], i, h => by simp at h
  | x :: xs, 0, h => by simp [encU]
  | x :: xs, i + 1, h => by
    have ih := flat_setU y xs i (by simpa using h)
    rw [show (i + 1) * 2 = i * 2 + 2 by omega, show i * 2 + 2 + 1 = i * 2 + 1 + 2 by omega]
    simp only [List.flatMap_cons, List.set_cons_succ]
    rw [← ih]
    simp [encU]
/-- a page of the new list is another one -/
theorem setpage_fin {W W3 : World} {L c c' n : Nat} {p : RPg} (hU : w.heap.size ≤ L) (hF : ¬ F L) (hO : Own encU 2 39 w.heap.size W (.slice (some ⟨L, 0, none⟩) us.length c) us) (hi : i < us.length)
    (hW : W3 = (W.setCell ⟨L, i * 2, none⟩ p.V).setCell ⟨L, i * 2 + 1, none⟩ (.int .i64 p.n)) (h : RPs w F A us Ps) (hp : RefAt w F p.v P) (hB : Below w.heap.size w W) : RPs W3 F (some ⟨L, 0, none⟩) (us.set i p) (Ps.set i P) ∧ Below w.heap.size w W3 := by
  have hB3 : Below w.heap.size w W3 := by rw [hW]; exact below_set (below_set hB _ _ hU) _ _ hU
  refine ⟨⟨?_, fun _ q o e f => ?_, by simp [h.len], fun k r Q hr hQ => ?_⟩, hB3⟩
  · have h0 : W.ownsRow w.heap.size 39 2 (.slice (some ⟨L, 0, none⟩) us.length c) us.length (us.flatMap encU) := hO
    have h3 := ((h0.stored (i * 2) p.V).1.stored (i * 2 + 1) (.int .i64 p.n)).1
    rw [flat_setU p us i hi] at h3
    have hO3 : Own encU 2 39 w.heap.size W3 (.slice (some ⟨L, 0, none⟩) us.length c) (us.set i p) := by
      rw [hW]
      unfold Own
      rw [List.length_set]
      exact h3
    exact hO3.rd encU_len
  · injection e with e
    injection e with e
    subst e
    exact hF f
  · rw [List.getElem?_set] at hr hQ
    by_cases e : i = k
    · subst e
      rw [if_pos rfl, if_pos hi] at hr
      rw [if_pos rfl, if_pos (by rw [← h.len]; exact hi)] at hQ
      injection hr with hr
      injection hQ with hQ
      subst hr hQ
      exact hp.grow hB3
    · rw [if_neg e] at hr hQ
      exact (h.pg k r Q hr hQ).grow hB3
theorem three_0 (w : World) (o1 o2 o3 : Obj) (x : More) : (ext (((w.alloc o1).alloc o2).alloc o3) x).heap[w.heap.size]? = some o1 := by
  have hb : Below (w.alloc o1).heap.size (w.alloc o1) (ext (((w.alloc o1).alloc o2).alloc o3) x) := by (repeat' (first | (with_reducible exact Below.refl _ _) | (with_reducible refine Below.alloc ?_ ?_ _) | (with_reducible refine below_ext ?_ ?_ _) | (with_reducible refine Below.drew ?_) | (with_reducible refine below_drewN ?_ _) | (with_reducible refine Below.setCell ?_ ?_ _) | go_size | (simp only [go_sem]; omega) | (simp [go_sem]; done) | (simp [go_sem]; omega)))
  exact (hb.block w.heap.size (by simp)).trans (heap_alloc_new w o1)
theorem three_1 (w : World) (o1 o2 o3 : Obj) (x : More) : (ext (((w.alloc o1).alloc o2).alloc o3) x).heap[w.heap.size + 1]? = some o2 := by
  have hb : Below ((w.alloc o1).alloc o2).heap.size ((w.alloc o1).alloc o2) (ext (((w.alloc o1).alloc o2).alloc o3) x) := by (repeat' (first | (with_reducible exact Below.refl _ _) | (with_reducible refine Below.alloc ?_ ?_ _) | (with_reducible refine below_ext ?_ ?_ _) | (with_reducible refine Below.drew ?_) | (with_reducible refine below_drewN ?_ _) | (with_reducible refine Below.setCell ?_ ?_ _) | go_size | (simp only [go_sem]; omega) | (simp [go_sem]; done) | (simp [go_sem]; omega)))
  have := heap_alloc_new (w.alloc o1) o2
  rw [World.size_alloc] at this
  exact (hb.block (w.heap.size + 1) (by simp)).trans this
theorem three_2 (w : World) (o1 o2 o3 : Obj) (x : More) : (ext (((w.alloc o1).alloc o2).alloc o3) x).heap[w.heap.size + 1 + 1]? = some o3 := by
  have hb : Below (((w.alloc o1).alloc o2).alloc o3).heap.size (((w.alloc o1).alloc o2).alloc o3) (ext (((w.alloc o1).alloc o2).alloc o3) x) := by (repeat' (first | (with_reducible exact Below.refl _ _) | (with_reducible refine Below.alloc ?_ ?_ _) | (with_reducible refine below_ext ?_ ?_ _) | (with_reducible refine Below.drew ?_) | (with_reducible refine below_drewN ?_ _) | (with_reducible refine Below.setCell ?_ ?_ _) | go_size | (simp only [go_sem]; omega) | (simp [go_sem]; done) | (simp [go_sem]; omega)))
  have := heap_alloc_new ((w.alloc o1).alloc o2) o3
  rw [World.size_alloc, World.size_alloc] at this
  exact (hb.block (w.heap.size + 1 + 1) (by simp)).trans this
theorem set_cellA {b k : Nat} {cur : Array Value} {t : TypeId} (v : Value) (h : w.heap[b]? = some (.cells cur t (0, 0))) : (w.setCell ⟨b, k, none⟩ v).heap[b]? = some (.cells (cur.setIfInBounds k v) t (0, 0)) := by
  simp [World.setCell, Array.getElem?_modify, h]
/-- a struct of five cells is read off, is stored -/
theorem five {b : Nat} {v0 v1 v2 v3 v4 : Value} {t : TypeId} (h : w.heap[b]? = some (.cells #[v0, v1, v2, v3, v4] t (0, 0))) : w.cell? ⟨b, 0, none⟩ = some v0 ∧ w.cell? ⟨b, 1, none⟩ = some v1 ∧ w.cell? ⟨b, 2, none⟩ = some v2 ∧ w.cell? ⟨b, 3, none⟩ = some v3 ∧ w.cell? ⟨b, 4, none⟩ = some v4 ∧ b < w.heap.size ∧ ∀ q, w.frozen? ⟨b, q, none⟩ = false := by
  refine ⟨?_, ?_, ?_, ?_, ?_, heap_in h, fun q => frozen_in h⟩ <;> (rw [cell_in h]; rfl)
theorem store5 {b : Nat} {u0 u1 u2 u3 u4 : Value} {t : TypeId} (h : w.heap[b]? = some (.cells #[u0, u1, u2, u3, u4] t (0, 0))) (v0 v1 v2 v3 v4 : Value) :
    ∃ W', ((((w.setCell ⟨b, 0, none⟩ v0).setCell ⟨b, 1, none⟩ v1).setCell ⟨b, 2, none⟩ v2).setCell ⟨b, 3, none⟩ v3).setCell ⟨b, 4, none⟩ v4 = W' ∧ Keep (· = b) w W' ∧ W'.heap[b]? = some (.cells #[v0, v1, v2, v3, v4] t (0, 0)) := by
  refine ⟨_, rfl, ((((keep_set w b 0 v0).set (F := (· = b)) (p := ⟨b, 1, none⟩) (.inl rfl) v1).set (F := (· = b)) (p := ⟨b, 2, none⟩) (.inl rfl) v2).set (F := (· = b)) (p := ⟨b, 3, none⟩) (.inl rfl) v3).set (F := (· = b)) (p := ⟨b, 4, none⟩) (.inl rfl) v4, ?_⟩
  have := set_cellA (k := 4) v4 (set_cellA (k := 3) v3 (set_cellA (k := 2) v2 (set_cellA (k := 1) v1 (set_cellA (k := 0) v0 h))))
  simpa using this
set_option maxRecDepth 100000 in
set_option maxHeartbeats 2000000 in
theorem setpage_c (i : Nat) (hi : i < S.pages.length) (h : RBk w F U S) (hS : S.Ok) (p : RPg) (hp : RefAt w F p.v P) (hF : ∀ x, F x → x < w.heap.size) : Calls Tryz.prog 36 #[U, .int .i64 i, p.v] w (NewRB F (S.set i P) w) := by
  obtain ⟨A, c, us, ⟨sA, sm, sc, sn⟩, rfl, H⟩ := h
  obtain ⟨pA, pm, pc, pn⟩ := p
  have hus : us.length = S.pages.length := H.ps.len
  have p1 := hS.p1
  have p2 := hS.p2
  have HR := Lib.hid H.ps.rd
  obtain ⟨F', hF'⟩ : ∃ F' : Nat → Prop, F' = fun x => F x ∨ x = w.heap.size ∨ x = w.heap.size + 1 + 1 := ⟨_, rfl⟩
  have H1 : RPs w F' A us S.pages := H.ps.mono (fun x hx g => by rw [hF'] at g; rcases g with g | g | g; exact g; omega; omega)
  have hp1 : RefAt w F' (RPg.v ⟨pA, pm, pc, pn⟩) P := hp.mono (fun x hx g => by rw [hF'] at g; rcases g with g | g | g; exact g; omega; omega)
  have FIN := Lib.hid (fun W L c' W3 (hU : w.heap.size + 1 + 1 < L) (hO : Own encU 2 39 w.heap.size W (.slice (some ⟨L, 0, none⟩) us.length c') us) (hW : W3 = (W.setCell ⟨L, i * 2, none⟩ (.slice pA pm pc)).setCell ⟨L, i * 2 + 1, none⟩ (.int .i64 pn)) (hB : Below w.heap.size w W) =>
    setpage_fin (p := ⟨pA, pm, pc, pn⟩) (c' := c') (n := 0) (by omega) (by rw [hF']; rintro (f | f | f); have := hF _ f; omega; omega; omega) hO (by rw [hus]; exact hi) hW H1 hp1 hB)
  have eS : S.set i P = ⟨S.pages.set i P, S.status, S.now, S.below⟩ := by unfold BkS.set; rw [if_pos hi]
  rw [eS]
  have HS := Lib.hid (fun W3 L us' c' (hR : RPs W3 F' (some ⟨L, 0, none⟩) us' (S.pages.set i P)) W4 (hk : Keep (fun x => x = w.heap.size ∨ x = w.heap.size + 1 + 1) W3 W4) (hB4 : Below w.heap.size w W4) => (by
    obtain ⟨x, e⟩ := ext_of hB4
    have hR4 : RPs W4 F (some ⟨L, 0, none⟩) us' (S.pages.set i P) := (hR.keep hk (fun x hx g => hx (by rw [hF']; exact .inr g))).mono (fun x _ f => by rw [hF']; exact .inl f)
    exact ⟨_, x, rfl, e, some ⟨L, 0, none⟩, c', us', ⟨sA, sm, sc, sn⟩, by simp only [List.length_set, hus]; rfl, by rw [← e]; exact hR4, by rw [← e]; exact H.st.grow hB4⟩ :
      NewRB F ⟨S.pages.set i P, S.status, S.now, S.below⟩ w (.returned (rbV (some ⟨L, 0, none⟩) us.length c' (.slice sA sm sc) sn S.now S.below)) W4))
  rw [← hus] at p1 p2 hi ⊢
  clear hus
  simp only [RPg.V, RPg.v]
  clear H hp eS H1 hp1
  go_enter Tryz.func36, Tryz.ntmps36
  go_upto_region 1 with fail
  go_upto_region 2 with
    (at_builtin
     refine append_rd (U := ((w.alloc (.cells #[.slice A us.length c, .slice sA sm sc, .int .i64 sn, .int .i64 S.now, .bool S.below] 41)).alloc (.cells #[.slice pA pm pc, .int .i64 pn] 39)).alloc (.cells #[.slice none 0 0, .slice none 0 0, .int .i64 0, .int .i64 0, .bool false] 41)) (.tmp 8) (.tmp 10) _ 39 _ 32 rfl rfl Tryz.underlying36 pageR_info rfl (by omega) encU_len encU_one [] us _ A c rfl rfl ?_ (Own.new encU_len (by simp) rfl #[] rfl (Nat.le_refl _) (by simp [maxLen])) (by repeat (first | exact HR.out | exact HR | refine Rd.ext ?_ _ | refine Rd.alloc ?_ _ | refine Rd.drew ?_)) (by simp [maxLen]; omega) (by simp; omega) ?_
     · (repeat' (first | (with_reducible exact Below.refl _ _) | (with_reducible refine Below.alloc ?_ ?_ _) | (with_reducible refine below_ext ?_ ?_ _) | (with_reducible refine Below.drew ?_) | (with_reducible refine below_drewN ?_ _) | (with_reducible refine Below.setCell ?_ ?_ _) | go_size | (simp only [go_sem]; omega) | (simp [go_sem]; done) | (simp [go_sem]; omega)))
     intro A4 c4 x4 zs hz hN)
  rw [List.nil_append] at hz
  subst hz
  obtain ⟨g4, c4', e4, -, -⟩ := hN.some_of (by omega)
  injection e4 with e4 _ e5
  subst e4 e5
  have hg4 : w.heap.size + 1 + 1 + 1 ≤ g4 := by have := (hN.lt g4 rfl).1; simpa using this
  have hO : Own encU 2 39 w.heap.size _ (.slice (some ⟨g4, 0, none⟩) zs.length c4) zs := hN.mono (by simp; omega)
  obtain ⟨cur, hcur⟩ := Own.blk (hO.mono (Nat.zero_le _)) rfl
  obtain ⟨b9, o9, e9, hlt9, hc9⟩ := hO.rd encU_len (by omega)
  injection e9 with e9
  injection e9 with e9 e10
  subst e9 e10
  have d0 := hc9 i hi 0 _ rfl
  have d1 := hc9 i hi 1 _ rfl
  simp only [RPg.V, Nat.zero_add, Nat.add_zero] at d0 d1
  have hfz : ∀ q, World.frozen? _ ⟨g4, q, none⟩ = false := fun q => frozen_in hcur
  obtain ⟨W1, hW1⟩ : ∃ W1, W1 = ext (((w.alloc (.cells #[.slice A zs.length c, .slice sA sm sc, .int .i64 sn, .int .i64 S.now, .bool S.below] 41)).alloc (.cells #[.slice pA pm pc, .int .i64 pn] 39)).alloc (.cells #[.slice none 0 0, .slice none 0 0, .int .i64 0, .int .i64 0, .bool false] 41)) x4 := ⟨_, rfl⟩
  have hB1 : Below w.heap.size w W1 := by rw [hW1]; (repeat' (first | (with_reducible exact Below.refl _ _) | (with_reducible refine Below.alloc ?_ ?_ _) | (with_reducible refine below_ext ?_ ?_ _) | (with_reducible refine Below.drew ?_) | (with_reducible refine below_drewN ?_ _) | (with_reducible refine Below.setCell ?_ ?_ _) | go_size | (simp only [go_sem]; omega) | (simp [go_sem]; done) | (simp [go_sem]; omega)))
  have a0 : W1.heap[w.heap.size]? = some (.cells #[.slice A zs.length c, .slice sA sm sc, .int .i64 sn, .int .i64 S.now, .bool S.below] 41 (0, 0)) := by rw [hW1]; exact three_0 _ _ _ _ _
  have a1 : W1.heap[w.heap.size + 1]? = some (.cells #[.slice pA pm pc, .int .i64 pn] 39 (0, 0)) := by rw [hW1]; exact three_1 _ _ _ _ _
  have a2 : W1.heap[w.heap.size + 1 + 1]? = some (.cells #[.slice none 0 0, .slice none 0 0, .int .i64 0, .int .i64 0, .bool false] 41 (0, 0)) := by rw [hW1]; exact three_2 _ _ _ _ _
  rw [← hW1] at hO hfz d0 d1 hlt9 ⊢
  clear hW1 hcur hc9 hN
  have p0 : W1.cell? ⟨w.heap.size + 1, 0, none⟩ = some (.slice pA pm pc) := by rw [cell_in a1]; rfl
  have p1 : W1.cell? ⟨w.heap.size + 1, 1, none⟩ = some (.int .i64 pn) := by rw [cell_in a1]; rfl
  have hl1 := heap_in a1
  have g0 := hfz (i * 2)
  have g1 := hfz (i * 2 + 1)
  have FN := Lib.hid (FIN.out W1 g4 c4 _ (by omega) hO rfl hB1)
  replace hO := Lib.hid hO
  clear hfz a1
  go_upto_region 3 with fail
  have h0 : ((W1.setCell ⟨g4, i * 2, none⟩ (.slice pA pm pc)).setCell ⟨g4, i * 2 + 1, none⟩ (.int .i64 pn)).heap[w.heap.size]? = some (.cells #[.slice A zs.length c, .slice sA sm sc, .int .i64 sn, .int .i64 S.now, .bool S.below] 41 (0, 0)) := by
    rw [Below.heap_setCell _ _ _ _ (by simp only; omega), Below.heap_setCell _ _ _ _ (by simp only; omega)]; exact a0
  have h2 : ((W1.setCell ⟨g4, i * 2, none⟩ (.slice pA pm pc)).setCell ⟨g4, i * 2 + 1, none⟩ (.int .i64 pn)).heap[w.heap.size + 1 + 1]? = some (.cells #[.slice none 0 0, .slice none 0 0, .int .i64 0, .int .i64 0, .bool false] 41 (0, 0)) := by
    rw [Below.heap_setCell _ _ _ _ (by simp only; omega), Below.heap_setCell _ _ _ _ (by simp only; omega)]; exact a2
  generalize (W1.setCell ⟨g4, i * 2, none⟩ (.slice pA pm pc)).setCell ⟨g4, i * 2 + 1, none⟩ (.int .i64 pn) = W2 at FN h0 h2 ⊢
  have hs0 := set_cellA (k := 0) (.slice (some ⟨g4, 0, none⟩) zs.length c4) h0
  have hs2 : (W2.setCell ⟨w.heap.size, 0, none⟩ (.slice (some ⟨g4, 0, none⟩) zs.length c4)).heap[w.heap.size + 1 + 1]? = _ := (Below.heap_setCell _ _ _ _ (by simp only; omega)).trans h2
  have hk5 := keep_set W2 w.heap.size 0 (.slice (some ⟨g4, 0, none⟩) zs.length c4)
  obtain ⟨r0, -, -, -, -, rl, rf⟩ := five h0
  have rf0 := rf 0
  have hB2 := FN.out.2
  clear rf h0 h2 a0 a2 p0 p1 d0 d1 g0 g1 hO
  go_upto_region 4 with fail
  generalize W2.setCell ⟨w.heap.size, 0, none⟩ (.slice (some ⟨g4, 0, none⟩) zs.length c4) = W5 at hk5 hs0 hs2 ⊢
  replace hs0 : W5.heap[w.heap.size]? = some (.cells #[.slice (some ⟨g4, 0, none⟩) zs.length c4, .slice sA sm sc, .int .i64 sn, .int .i64 S.now, .bool S.below] 41 (0, 0)) := hs0
  obtain ⟨e0, e1, e2, e3, e4, el, -⟩ := five hs0
  obtain ⟨R, hR⟩ : ∃ R, R = w.heap.size + 1 + 1 := ⟨_, rfl⟩
  rw [← hR] at hs2 HS ⊢
  have hRw : w.heap.size ≤ R := by omega
  replace hR := Lib.hid hR
  obtain ⟨q0, q1, q2, q3, q4, ql, qf⟩ := five hs2
  have qf0 := qf 0
  have qf1 := qf 1
  have qf2 := qf 2
  have qf3 := qf 3
  have qf4 := qf 4
  replace hs2 := Lib.hid hs2
  clear qf hs0 r0 rl rf0 hl1 hlt9
  go_wp2
  obtain ⟨W6, h6, hk6, hs6⟩ := store5 hs2.out (.slice (some ⟨g4, 0, none⟩) zs.length c4) (.slice sA sm sc) (.int .i64 sn) (.int .i64 S.now) (.bool S.below)
  rw [h6]
  obtain ⟨s0, s1, s2, s3, s4, sl, -⟩ := five hs6
  clear hs6 hs2
  have hk7 := (hk5.mono (G := fun x => x = w.heap.size ∨ x = R) (fun x hx => .inl hx)).trans hk6 (fun x hx => .inl (.inr hx))
  have FN2 := Lib.hid (HS.out _ _ _ c4 FN.out.1 _ hk7 (hB2.trans (hk7.below (fun x hx => by omega) hB2.size)))
  simp [bodyPost, go_sem, s0, s1, s2, s3, s4]
  exact ⟨_, by simp [results, Tryz.f36, go_sem, s0, s1, s2, s3, s4] <;> rfl, FN2.out⟩
theorem NewRef.at {e : Ending} (h : NewRef P w e w') (hF : ∀ x, F x → x < w.heap.size) : ∃ (r : RPg) (x : More), e = .returned r.v ∧ w' = ext w x ∧ RefAt (ext w x) F r.v P := by
  obtain ⟨V, rows, x, rfl, rfl, hl, hv, hf⟩ := h
  obtain ⟨A, c, rfl, _, _⟩ := hl.form
  exact ⟨⟨A, rows.length, c, P.cols⟩, x, rfl, rfl, _, rows, rfl, hl, hv, fun b hb f => by have := hF b f; have := hf b hb; omega⟩
/-- a call that answers a book of the document's, and whether it could -/
def NewRBo (F : Nat → Prop) (S : BkS) (ok : Bool) (w : World) (e : Ending) (w' : World) : Prop := ∃ U x, e = .returned (.tuple #[U, .bool ok]) ∧ w' = ext w x ∧ RBk (ext w x) F U S
theorem NewRBo.of {c n : Nat} {ok : Bool} (h : RBo w F S A us s) (hb : Below w.heap.size w w') (hn : n = S.pages.length) : NewRBo F S ok w (.returned (.tuple #[rbV A n c s.V s.n S.now S.below, .bool ok])) w' := by
  subst hn
  obtain ⟨x, rfl⟩ := ext_of hb
  exact ⟨_, x, rfl, rfl, A, c, us, s, rfl, h.grow hb⟩
theorem NewRBo.at {W : World} {R c n : Nat} {ok : Bool} (h : RBo W (fun x => F x ∨ x = R) S A us s) (hk : Keep (· = R) W w') (hb : Below w.heap.size w w') (hn : n = S.pages.length) : NewRBo F S ok w (.returned (.tuple #[rbV A n c s.V s.n S.now S.below, .bool ok])) w' := by
  subst hn
  have h2 := h.keep hk (fun x hx e => hx (.inr e))
  obtain ⟨x, rfl⟩ := ext_of hb
  exact ⟨_, x, rfl, rfl, A, c, us, s, rfl, h2.ps.mono (fun _ _ => .inl), h2.st.mono (fun _ _ => .inl)⟩
end
end Go.Proofs.YtignkkejkknddaaGreat
/- The document's books: New, Erase, Resize.  -/
namespace Go.Proofs.YtignkkejkknddaaGreat
open Go.RowKit
set_option linter.unusedVariables false
set_option linter.unusedSimpArgs false

/-- a list of the document's pages that is being made -/
structure RMk (U wr : World) (V : Value) (us : List RPg) (Ps : List PgS) : Prop where
  own : Own encU 2 39 U.heap.size wr V us
  len : us.length = Ps.length
  pg : ∀ (i : Nat) (r : RPg) (P : PgS), us[i]? = some r → Ps[i]? = some P → RefAt wr (fun x => x < U.heap.size) r.v P
section
variable {U w wr w' : World} {F : Nat → Prop} {V : Value} {us : List RPg} {Ps : List PgS} {P : PgS} {r : RPg} {X : Value} {g : Nat}
theorem RefAt.far (h : RefAt w F X P) (hg : ∀ b, b < w.heap.size → V.ownBlock ≠ some b → w'.heap[b]? = w.heap[b]?) (ho : Own encU 2 39 0 w V us) : RefAt w' F X P := by
  obtain ⟨V2, rows, h1, h2, h3, h4⟩ := h
  refine ⟨V2, rows, h1, h2.same (fun b hb => hg b (h2.lt hb) (fun e => ?_)), h3, h4⟩
  obtain ⟨cur, hc⟩ := Own.blk ho e
  exact h2.off hc (by decide) (by decide) b hb rfl
theorem RMk.grow (h : RMk U wr V us Ps) (hb : Below wr.heap.size wr w') : RMk U w' V us Ps := ⟨h.own.below hb, h.len, fun i r P hr hP => (h.pg i r P hr hP).grow hb⟩
theorem RMk.keep {G : Nat → Prop} (h : RMk U wr V us Ps) (hk : Keep G wr w') (hG : ∀ x, G x → ∃ cur t, wr.heap[x]? = some (.cells cur t (0, 0)) ∧ t ≠ 67 ∧ t ≠ 60 ∧ t ≠ 39) : RMk U w' V us Ps := by
  refine ⟨h.own.keep fun x hx => hk.block x (h.own.lt x hx).2 (fun g => ?_), h.len, fun i r P hr hP => ?_⟩
  · obtain ⟨cur, t, h1, _, _, h4⟩ := hG x g
    obtain ⟨c2, h2⟩ := Own.blk (h.own.mono (Nat.zero_le _)) hx
    rw [h1] at h2
    injection h2 with h2
    injection h2 with _ e _
    exact h4 e
  · obtain ⟨V2, rows, h1, h2, h3, h4⟩ := h.pg i r P hr hP
    refine ⟨V2, rows, h1, h2.keep hk (fun b hb g => ?_), h3, h4⟩
    obtain ⟨cur, t, e1, e2, e3, _⟩ := hG b g
    exact h2.off e1 e2 e3 b hb rfl
theorem RefAt.keepT {G : Nat → Prop} (h : RefAt w F X P) (hk : Keep G w w') (hG : ∀ x, G x → ∃ cur t, w.heap[x]? = some (.cells cur t (0, 0)) ∧ t ≠ 67 ∧ t ≠ 60) : RefAt w' F X P := by
  obtain ⟨V2, rows, h1, h2, h3, h4⟩ := h
  refine ⟨V2, rows, h1, h2.keep hk (fun b hb g => ?_), h3, h4⟩
  obtain ⟨cur, t, e1, e2, e3⟩ := hG b g
  exact h2.off e1 e2 e3 b hb rfl
/-- a page is appended to such a list -/
theorem run_append_u (hU : Below U.heap.size U wr) (h : RMk U wr V us Ps) (hb : Below wr.heap.size wr w) (hr : RefAt w (fun x => x < U.heap.size) r.v P) {M : Nat} (h0 : w.cell? ⟨M, 0, none⟩ = some r.V) (h1 : w.cell? ⟨M, 1, none⟩ = some (.int .i64 r.n)) (hn : us.length ≤ 1000) (ty : TypeId) :
    ∃ A' n' c' x', (Builtin.append_ #[36, 36] ty #[V, .slice (some ⟨M, 0, none⟩) 1 1]).run Tryz.prog w = .ok (.slice A' n' c') (ext U x') ∧ RMk U (ext U x') (.slice A' n' c') (us ++ [r]) (Ps ++ [P]) ∧ n' = us.length + 1 ∧
      (∀ b, b < w.heap.size → V.ownBlock ≠ some b → (ext U x').heap[b]? = w.heap[b]?) := by
  have hUw : Below U.heap.size U w := hU.trans (hb.mono hU.size)
  have hrd : Rd encU 2 w (some ⟨M, 0, none⟩) [r] := fun _ => by
    refine ⟨M, 0, rfl, World.block_lt_of_cell? _ _ h0, fun i hi j v hv => ?_⟩
    obtain rfl : i = 0 := by simpa using hi
    match j, hv with
    | 0, hv => simp [encU] at hv; subst hv; simpa using h0
    | 1, hv => simp [encU] at hv; subst hv; simpa using h1
  have ho := h.own.below hb
  obtain ⟨A', c', x', hrun, hO, hF, hG⟩ := run_append_far2 (P := Tryz.prog) U w 36 ty 39 _ 32 Tryz.underlying36 pageR_info rfl (by omega) encU_len encU_one us [r] _ (some ⟨M, 0, none⟩) 1 hUw ho hrd (by simp [maxLen]; omega) (by simp; omega)
  refine ⟨A', _, c', x', by simpa using hrun, ⟨hO, by simp [h.len], fun i s Q hs hQ => ?_⟩, by simp, hG⟩
  rcases Nat.lt_or_ge i us.length with hi | hi
  · rw [List.getElem?_append_left hi] at hs
    rw [List.getElem?_append_left (by rw [← h.len]; exact hi)] at hQ
    exact ((h.pg i s Q hs hQ).grow hb).far hG (ho.mono (Nat.zero_le _))
  · have h2 := (List.getElem?_eq_some_iff.1 hs).1
    simp only [List.length_append, List.length_singleton] at h2
    obtain rfl : i = us.length := by omega
    simp at hs
    rw [h.len] at hQ
    simp at hQ
    subst hs hQ
    exact hr.far hG (ho.mono (Nat.zero_le _))
end
/-- a variable of the document's books, whose list is being made -/
structure RNew (w wr : World) (H : Nat) (V : Value) (us : List RPg) (Ps : List PgS) : Prop where
  below : Below w.heap.size w wr
  blk : wr.heap[H]? = some (.cells #[V, .slice none 0 0, .int .i64 0, .int .i64 0, .bool false] 41 (0, 0))
  lst : RMk w wr V us Ps
  ge : w.heap.size ≤ H
section
variable {w wr : World} {us : List RPg} {Ps : List PgS} {P : PgS} {r : RPg} {H n c : Nat} {A : Option Addr}
theorem r_append {U : World} {o : Oper} {a : Act} {K : Act → World → Prop} {Q : Exit → Act → World → Prop} (s xo : Operand) (h : RNew w wr H (.slice A n c) us Ps)
    (ho : o.op = .call { callee := .builtin .append, args := #[s, xo], argTypes := #[36, 36] }) (M : Nat) (hs : a.eval s = .slice A n c) (hx : a.eval xo = .slice (some ⟨M, 0, none⟩) 1 1)
    (hb : Below wr.heap.size wr U) (r : RPg) (hP : RefAt U (fun x => x < w.heap.size) r.v P) (h0 : U.cell? ⟨M, 0, none⟩ = some r.V) (h1 : U.cell? ⟨M, 1, none⟩ = some (.int .i64 r.n)) (hn : us.length ≤ 1000)
    (hK : ∀ A' n' c' x', Hid (RNew w ((ext w x').setCell ⟨H, 0, none⟩ (.slice A' n' c')) H (.slice A' n' c') (us ++ [r]) (Ps ++ [P])) → (ext w x').cell? ⟨H, 0, none⟩ = some (.slice A n c) → (ext w x').frozen? ⟨H, 0, none⟩ = false → H < (ext w x').heap.size → (∀ b, b < wr.heap.size → (Value.slice A n c).ownBlock ≠ some b → (ext w x').heap[b]? = wr.heap[b]?) → K (a.put o.dst (.slice A' n' c')) (ext w x')) : Oper.wp Tryz.prog o a U K Q := by
  obtain ⟨A', n', c', x', hrun, hM, hn', hG⟩ := run_append_u h.below h.lst hb hP h0 h1 hn o.type
  unfold Oper.wp execOp
  simp only [ho, resolve, invoke, builtin, Sem.run_bind, Sem.run_pure, Result.andThen_ok, List.map_toArray, List.map_cons, List.map_nil, hs, hx, hrun]
  have hVH : (Value.slice A n c).ownBlock ≠ some H := fun e => by
    obtain ⟨c1, h1⟩ := Own.blk (h.lst.own.mono (Nat.zero_le _)) e
    rw [h.blk] at h1
    injection h1 with h1
    injection h1 with _ e _
    exact absurd e (by decide)
  have hHw : U.heap[H]? = _ := (hb.block H (heap_in h.blk)).trans h.blk
  have hHx : (ext w x').heap[H]? = _ := (hG H (heap_in hHw) hVH).trans hHw
  refine hK A' n' c' x' (Lib.hid ⟨below_set (below_of_ext w x') _ _ (by exact h.ge), by exact set_cellA _ hHx, hM.keep (G := (· = H)) (keep_set _ H 0 _) (fun x hx => ?_), h.ge⟩) (by rw [cell_in hHx]; rfl) (frozen_in hHx) (heap_in hHx)
    (fun b hb' hne => (hG b (Nat.lt_of_lt_of_le hb' hb.size) hne).trans (hb.block b hb'))
  subst hx
  exact ⟨_, _, hHx, by decide, by decide, by decide⟩
theorem RMk.rps {F : Nat → Prop} {A : Option Addr} {n c : Nat} (h : RMk w wr (.slice A n c) us Ps) (hF : ∀ x, F x → x < w.heap.size) : RPs wr F A us Ps ∧ n = Ps.length :=
  ⟨⟨h.own.rd encU_len, fun h0 q o e f => by
    subst e
    have h1 := hF q f
    have h2 := (h.own.lt q rfl).1
    omega, h.len, fun i r P hr hP => (h.pg i r P hr hP).mono (fun x _ f => hF x f)⟩, by
    obtain ⟨A2, c2, e, _, _⟩ := h.own.form
    injection e with _ e2 _
    rw [e2, h.len]⟩
set_option maxRecDepth 100000 in
set_option maxHeartbeats 4000000 in
theorem rnew_c (F : Nat → Prop) (k m n : Int) (w : World) (hF : ∀ x, F x → x < w.heap.size) : Calls Tryz.prog 33 #[.int .i64 k, .int .i64 m, .int .i64 n] w (NewRB F (newB k m n) w) := by
  have NS := Lib.hid (fun w' => (by exact refnew_c 1 n w' : Calls Tryz.prog 82 #[.int .i64 1, .int .i64 n] w' (NewRef (newS 1 n) w')))
  have NP := Lib.hid (fun w' => (by exact refnew_c m n w' : Calls Tryz.prog 82 #[.int .i64 m, .int .i64 n] w' (NewRef (newS m n) w')))
  unfold newB
  generalize newS 1 n = P1 at NS ⊢
  generalize newS m n = P0 at NP ⊢
  obtain ⟨j, hj⟩ : ∃ j : Nat, max 1 (min k 16) = j := ⟨(max 1 (min k 16)).toNat, by omega⟩
  have hj16 : j ≤ 16 := by omega
  have CL := Lib.hid (fun w' => (by
    have := clamp_l k 1 16 w'
    rwa [show clampR k 1 16 = j by unfold clampR; split <;> (try split) <;> omega] at this : Calls Tryz.prog 34 #[.int .i64 k, .int .i64 1, .int .i64 16] w' (Gives w' (.int .i64 j))))
  rw [hj, Int.toNat_natCast]
  go_enter Tryz.func33, Tryz.ntmps33
  go_wp2
  have hN0 : RNew w ((w.alloc (.cells #[.slice none 0 0, .slice none 0 0, .int .i64 0, .int .i64 0, .bool false] 41)).alloc (.cells #[.slice none 0 0, .slice none 0 0, .int .i64 0, .int .i64 0, .bool false] 41)) (w.heap.size + 1) (.slice none 0 0) [] [] := by
    refine ⟨by (repeat' (first | (with_reducible exact Below.refl _ _) | (with_reducible refine Below.alloc ?_ ?_ _) | (with_reducible refine below_ext ?_ ?_ _) | (with_reducible refine Below.drew ?_) | (with_reducible refine below_drewN ?_ _) | (with_reducible refine Below.setCell ?_ ?_ _) | go_size | (simp only [go_sem]; omega) | (simp [go_sem]; done) | (simp [go_sem]; omega))), ?_, ⟨Own.nil _ _ _ _ _, rfl, fun i r P h => by simp at h⟩, by omega⟩
    have := heap_alloc_new (w.alloc (.cells #[.slice none 0 0, .slice none 0 0, .int .i64 0, .int .i64 0, .bool false] 41)) (.cells #[.slice none 0 0, .slice none 0 0, .int .i64 0, .int .i64 0, .bool false] 41)
    rwa [World.size_alloc] at this
  have hR0 : ((w.alloc (.cells #[.slice none 0 0, .slice none 0 0, .int .i64 0, .int .i64 0, .bool false] 41)).alloc (.cells #[.slice none 0 0, .slice none 0 0, .int .i64 0, .int .i64 0, .bool false] 41)).heap[w.heap.size]? = some (.cells #[.slice none 0 0, .slice none 0 0, .int .i64 0, .int .i64 0, .bool false] 41 (0, 0)) := by
    have hb : Below (w.alloc (.cells #[.slice none 0 0, .slice none 0 0, .int .i64 0, .int .i64 0, .bool false] 41)).heap.size (w.alloc (.cells #[.slice none 0 0, .slice none 0 0, .int .i64 0, .int .i64 0, .bool false] 41)) ((w.alloc (.cells #[.slice none 0 0, .slice none 0 0, .int .i64 0, .int .i64 0, .bool false] 41)).alloc (.cells #[.slice none 0 0, .slice none 0 0, .int .i64 0, .int .i64 0, .bool false] 41)) := by (repeat' (first | (with_reducible exact Below.refl _ _) | (with_reducible refine Below.alloc ?_ ?_ _) | (with_reducible refine below_ext ?_ ?_ _) | (with_reducible refine Below.drew ?_) | (with_reducible refine below_drewN ?_ _) | (with_reducible refine Below.setCell ?_ ?_ _) | go_size | (simp only [go_sem]; omega) | (simp [go_sem]; done) | (simp [go_sem]; omega)))
    exact (hb.block w.heap.size (by simp)).trans (heap_alloc_new w _)
  generalize (w.alloc (.cells #[.slice none 0 0, .slice none 0 0, .int .i64 0, .int .i64 0, .bool false] 41)).alloc (.cells #[.slice none 0 0, .slice none 0 0, .int .i64 0, .int .i64 0, .bool false] 41) = W0 at hN0 hR0 ⊢
  obtain ⟨R, hR⟩ : ∃ R, R = w.heap.size := ⟨_, rfl⟩
  obtain ⟨H, hH⟩ : ∃ H, H = w.heap.size + 1 := ⟨_, rfl⟩
  rw [← hH] at hN0 ⊢
  rw [← hR] at hR0 ⊢
  have hHR := Lib.hid (show H = w.heap.size + 1 ∧ R = w.heap.size from ⟨hH, hR⟩)
  replace hN0 := Lib.hid hN0
  replace hR0 := Lib.hid hR0
  clear hH hR
  go_loopw [8] (fun iv wr => ∃ (i : Nat) (A : Option Addr) (a c : Nat) (us : List RPg), i ≤ j ∧ iv = .int .i64 i ∧ Hid (RNew w wr H (.slice A a c) us (List.replicate i P0)) ∧ Hid (wr.heap[R]? = some (.cells #[.slice none 0 0, .slice none 0 0, .int .i64 0, .int .i64 0, .bool false] 41 (0, 0)))) (fun iv _ => j - (intOf iv).toNat)
  case atStart => exact ⟨0, none, 0, 0, [], by omega, rfl, hN0, hR0⟩
  case round =>
    obtain ⟨i, A, a, c, us, hi, rfl, hM, hRb⟩ := hrel
    by_cases hlt : i < j
    · have q0 : wr.cell? ⟨H, 0, none⟩ = some (.slice A a c) := by rw [cell_in hM.out.blk]; rfl
      have pl := heap_in hM.out.blk
      have qf : wr.frozen? ⟨H, 0, none⟩ = false := frozen_in hM.out.blk
      have hul := Lib.hid (show us.length ≤ 1000 by have := hM.out.lst.len; simp at this; omega)
      have hRo := Lib.hid (show (Value.slice A a c).ownBlock ≠ some R from fun e => by
        obtain ⟨c1, h1⟩ := Own.blk (hM.out.lst.own.mono (Nat.zero_le _)) e
        rw [hRb.out] at h1
        injection h1 with h1
        injection h1 with _ e _
        exact absurd e (by decide))
      have hRl := heap_in hRb.out
      have hsz := hM.out.below.size
      have ne1 : ¬ H = wr.heap.size := by omega
      go_upto_region 5 with (go_at_call 34; ((with_reducible refine (CL.out _).mono ?_); rintro _ _ hgets; obtain ⟨rfl, y0, rfl⟩ := hgets.get; clear hgets))
      (refine wp_region_F (S := (fun w' => w'.cell? ⟨H, 0, none⟩ = some (.slice A a c))) 8 [false, false, false, false, false, false, false, false, false] rfl rfl (by kernel_rfl) ?_ (fun hHeld => ?_); (focus ((try dsimp only); (simp [go_sem, q0, pl]; done); done)))
      ((refine AtF.take (oi := ?_) (v := ?_) 0 ?_ ?_ ?_ ?_ (Or.inl ⟨?_, ?_⟩) (by assumption) ?_; rotate_left 2; rfl; kernel_rfl; kernel_rfl; exact (fun _ _ _ h => h); rfl; (focus (intro w hSw; (try dsimp only at hSw); go_simp; (try with_reducible rfl); done)); (try simp only [Act.put, List.setIfInBounds_toArray, List.set_cons_zero, List.set_cons_succ])); (refine AtF.take (oi := ?_) (v := ?_) 1 ?_ ?_ ?_ ?_ (Or.inl ⟨?_, ?_⟩) (by assumption) ?_; rotate_left 2; rfl; kernel_rfl; kernel_rfl; exact (fun _ _ _ h => h); rfl; (focus (intro w hSw; (try dsimp only at hSw); go_simp; (try with_reducible rfl); done)); (try simp only [Act.put, List.setIfInBounds_toArray, List.set_cons_zero, List.set_cons_succ])); (refine AtF.take (oi := ?_) (v := ?_) 2 ?_ ?_ ?_ ?_ (Or.inl ⟨?_, ?_⟩) (by assumption) ?_; rotate_left 2; rfl; kernel_rfl; kernel_rfl; exact (fun _ _ _ h => h); rfl; (focus (intro w hSw; (try dsimp only at hSw); go_simp; (try with_reducible rfl); done)); (try simp only [Act.put, List.setIfInBounds_toArray, List.set_cons_zero, List.set_cons_succ])); (refine AtF.take (oi := ?_) (v := ?_) 3 ?_ ?_ ?_ ?_ (Or.inl ⟨?_, ?_⟩) (by assumption) ?_; rotate_left 2; rfl; kernel_rfl; kernel_rfl; exact (fun _ _ _ h => h); rfl; (focus (intro w hSw; (try dsimp only at hSw); go_simp; (try with_reducible rfl); done)); (try simp only [Act.put, List.setIfInBounds_toArray, List.set_cons_zero, List.set_cons_succ])))
      (refine AtF.only (oi := ?_) 4 ?_ ?_ (fun K hK => ?_); rotate_left 1; rfl; kernel_rfl; (try go_simp); ((go_at_call 82); (with_reducible refine (NP.out _).mono ?_); (intro e' w'' hN); (obtain ⟨⟨pA, pm, pc, pn⟩, x1, rfl, rfl, hp⟩ := hN.at (F := fun x => x < w.heap.size) (fun x hx => by simp; omega); clear hN); (try simp only [RPg.v, RPg.V]); (try simp only [ext_drew] at hp); replace hp := Lib.hid hp); (refine hK.out _ _ ?_ (fun hHeld => ?_)); (focus ((try dsimp only); (simp [go_sem, q0, pl]; done); done)); clear hK K; (try simp only [Act.put, List.setIfInBounds_toArray, List.set_cons_zero, List.set_cons_succ]))
      (refine AtF.only (oi := ?_) 5 ?_ ?_ (fun K hK => ?_); rotate_left 1; rfl; kernel_rfl; (try go_simp); skip; (refine hK.out _ _ ?_ (fun hHeld => ?_)); (focus ((try dsimp only); (simp [go_sem, q0, pl]; done); done)); clear hK K; (try simp only [Act.put, List.setIfInBounds_toArray, List.set_cons_zero, List.set_cons_succ]))
      (refine AtF.only (oi := ?_) 6 ?_ ?_ (fun K hK => ?_); rotate_left 1; rfl; kernel_rfl; refine step_do rfl (r_append (.tmp 16) (.tmp 20) hM.out rfl _ rfl rfl (by (repeat' (first | (with_reducible exact Below.refl _ _) | (with_reducible refine Below.alloc ?_ ?_ _) | (with_reducible refine below_ext ?_ ?_ _) | (with_reducible refine Below.drew ?_) | (with_reducible refine below_drewN ?_ _) | (with_reducible refine Below.setCell ?_ ?_ _) | go_size | (simp only [go_sem]; omega) | (simp [go_sem]; done) | (simp [go_sem]; omega)))) ⟨pA, pm, pc, pn⟩ (hp.out.grow (by (repeat' (first | (with_reducible exact Below.refl _ _) | (with_reducible refine Below.alloc ?_ ?_ _) | (with_reducible refine below_ext ?_ ?_ _) | (with_reducible refine Below.drew ?_) | (with_reducible refine below_drewN ?_ _) | (with_reducible refine Below.setCell ?_ ?_ _) | go_size | (simp only [go_sem]; omega) | (simp [go_sem]; done) | (simp [go_sem]; omega))))) (by simp [go_sem, RPg.V]) (by simp [go_sem]) hul.out ?_); intro A2 n2 c2 x3 hM2 z0 zf zl zg; (refine hK.out _ _ ?_ (fun hHeld => ?_)); (focus ((try dsimp only); (exact z0); done)); clear hK K; (try simp only [Act.put, List.setIfInBounds_toArray, List.set_cons_zero, List.set_cons_succ]))
      ((refine AtF.take (oi := ?_) (v := ?_) 7 ?_ ?_ ?_ ?_ (Or.inl ⟨?_, ?_⟩) (by assumption) ?_; rotate_left 2; rfl; kernel_rfl; kernel_rfl; exact (fun _ _ _ h => h); rfl; (focus (intro w hSw; (try dsimp only at hSw); go_simp; (try with_reducible rfl); done)); (try simp only [Act.put, List.setIfInBounds_toArray, List.set_cons_zero, List.set_cons_succ])))
      (refine AtF.last (oi := ?_) ?_ ?_ (fun K hK => ?_); rotate_left 1; rfl; kernel_rfl; go_simp; skip; refine hK.out _ _ ?_; clear hK K; (try simp only [Act.put, List.setIfInBounds_toArray, List.set_cons_zero, List.set_cons_succ]))
      go_wp2
      have hM3 := hM2.out
      rw [← List.replicate_succ'] at hM3
      refine ⟨⟨i + 1, A2, n2, c2, _, by omega, by go_num, Lib.hid hM3, Lib.hid ?_⟩, by simp [intOf]; omega⟩
      have hne : R ≠ H := by have := hHR.out; omega
      rw [Below.heap_setCell _ _ _ _ (by simpa using hne), zg R hRl hRo.out]
      exact hRb.out
    · obtain rfl : i = j := by omega
      go_upto_region 6 with (go_at_call 34; ((with_reducible refine (CL.out _).mono ?_); rintro _ _ hgets; obtain ⟨rfl, y0, rfl⟩ := hgets.get; clear hgets))
      have b1 := (block_ext wr y0 (heap_in hM.out.blk)).trans hM.out.blk
      have b2 := (block_ext wr y0 (heap_in hRb.out)).trans hRb.out
      have hLs := Lib.hid (hM.out.lst.grow (below_of_ext wr y0))
      have hbw := below_ext hM.out.below hM.out.below.size y0
      generalize ext wr y0 = W1 at b1 b2 hLs hbw ⊢
      have pl := heap_in b1
      obtain ⟨-, u1, u2, -, -, -, uf⟩ := five b1
      have uf1 := uf 1
      have uf2 := uf 2
      clear uf
      go_upto_region 7 with ((go_at_call 82); (with_reducible refine (NS.out _).mono ?_); (intro e' w'' hN); (obtain ⟨⟨pA, pm, pc, pn⟩, x1, rfl, rfl, hp⟩ := hN.at (F := fun x => x < w.heap.size) (fun x hx => by have := hbw.size; omega); clear hN); (try simp only [RPg.v, RPg.V]); replace hp := Lib.hid hp)
      have pl2 : H < (W1.setCell ⟨H, 1, none⟩ (.slice pA pm pc)).heap.size := by simpa using pl
      rw [← setCell_ext _ _ _ _ _ pl2, ← setCell_ext _ _ _ _ _ pl]
      have d1 := (block_ext W1 x1 pl).trans b1
      have d2 := (block_ext W1 x1 (heap_in b2)).trans b2
      replace hLs := Lib.hid (hLs.out.grow (below_of_ext W1 x1))
      replace hbw := below_ext hbw hbw.size x1
      clear b1 b2 pl2 u1 u2 uf1 uf2 pl hM hRb
      generalize ext W1 x1 = W2 at hp d1 d2 hLs hbw ⊢
      have e1 := set_cellA (k := 2) (.int .i64 pn) (set_cellA (k := 1) (.slice pA pm pc) d1)
      have hRH : R ≠ H := by have := hHR.out; omega
      have e2 : ((W2.setCell ⟨H, 1, none⟩ (.slice pA pm pc)).setCell ⟨H, 2, none⟩ (.int .i64 pn)).heap[R]? = _ := (Below.heap_setCell _ _ _ _ (by simpa using hRH)).trans ((Below.heap_setCell _ _ _ _ (by simpa using hRH)).trans d2)
      have hk3 : Keep (· = H) W2 ((W2.setCell ⟨H, 1, none⟩ (.slice pA pm pc)).setCell ⟨H, 2, none⟩ (.int .i64 pn)) := (keep_set W2 H 1 _).set (F := (· = H)) (p := ⟨H, 2, none⟩) (.inl rfl) _
      generalize (W2.setCell ⟨H, 1, none⟩ (.slice pA pm pc)).setCell ⟨H, 2, none⟩ (.int .i64 pn) = W3 at e1 e2 hk3 ⊢
      replace e1 : W3.heap[H]? = some (.cells #[.slice A a c, .slice pA pm pc, .int .i64 pn, .int .i64 0, .bool false] 41 (0, 0)) := e1
      obtain ⟨f0, f1, f2, f3, f4, fl, -⟩ := five e1
      obtain ⟨v0, v1, v2, v3, v4, vl, vf⟩ := five e2
      have vf0 := vf 0
      have vf1 := vf 1
      have vf2 := vf 2
      have vf3 := vf 3
      have vf4 := vf 4
      replace e2 := Lib.hid e2
      clear vf e1
      go_wp2
      obtain ⟨W4, h4, hk4, hs4⟩ := store5 e2.out (.slice A a c) (.slice pA pm pc) (.int .i64 pn) (.int .i64 0) (.bool false)
      rw [h4]
      obtain ⟨s0, s1, s2, s3, s4, sl, -⟩ := five hs4
      have hk5 : Keep (fun x => x = H ∨ x = R) W2 W4 := (hk3.mono (fun x hx => .inl hx)).trans hk4 (fun x hx => .inl (.inr hx))
      have hty : ∀ x, x = H ∨ x = R → ∃ cur t, W2.heap[x]? = some (.cells cur t (0, 0)) ∧ t ≠ 67 ∧ t ≠ 60 ∧ t ≠ 39 := fun x hx => by
        rcases hx with rfl | rfl
        · exact ⟨_, _, d1, by decide, by decide, by decide⟩
        · exact ⟨_, _, d2, by decide, by decide, by decide⟩
      obtain ⟨hRp, ha⟩ := (hLs.out.keep hk5 hty).rps hF
      have hst : RefAt W4 F (RPg.v ⟨pA, pm, pc, pn⟩) P1 := (hp.out.keepT hk5 (fun x hx => by obtain ⟨cur, t, z1, z2, z3, _⟩ := hty x hx; exact ⟨cur, t, z1, z2, z3⟩)).mono (fun x _ f => hF x f)
      have hb4 : Below w.heap.size w W4 := hbw.trans (hk5.below (fun x hx => by have := hHR.out; omega) hbw.size)
      have FN2 : NewRB F ⟨List.replicate i P0, P1, 0, false⟩ w (.returned (rbV A a c (.slice pA pm pc) pn 0 false)) W4 := by
        obtain ⟨x, e⟩ := ext_of hb4
        exact ⟨_, x, rfl, e, A, c, us, ⟨pA, pm, pc, pn⟩, by rw [ha]; rfl, by rw [← e]; exact hRp, by rw [← e]; exact hst⟩
      replace FN2 := Lib.hid FN2
      clear hs4 e2 h4
      simp [bodyPost, go_sem, s0, s1, s2, s3, s4]
      exact ⟨_, by simp [results, Tryz.f33, go_sem, s0, s1, s2, s3, s4] <;> rfl, FN2.out⟩
end
theorem RefAt.form {w : World} {F : Nat → Prop} {r : RPg} {P : PgS} (h : RefAt w F r.v P) : r.m = P.rows.length ∧ r.n = P.cols := by
  have h2 := h.cols
  obtain ⟨V, rows, h1, hl, h3, h4⟩ := h
  obtain ⟨A, c, rfl, _, _⟩ := hl.form
  simp only [RPg.v, RPg.V] at h1
  injection h1 with h1
  have := congrArg (fun a : Array Value => a[0]?) h1
  simp at this
  exact ⟨by rw [this.2.1, ← h3]; simp, h2⟩
section
variable {w : World} {F : Nat → Prop} {S : BkS} {U : Value}
end
end Go.Proofs.YtignkkejkknddaaGreat
/- The document's pages and books: Same.  -/
namespace Go.Proofs.YtignkkejkknddaaGreat
open Go.RowKit
set_option linter.unusedVariables false
set_option linter.unusedSimpArgs false

section
variable {w : World} {S T : PgS} {U U' : Value}
end
section
variable {w : World} {F G : Nat → Prop} {S T : BkS} {U U' : Value}
end
end Go.Proofs.YtignkkejkknddaaGreat
