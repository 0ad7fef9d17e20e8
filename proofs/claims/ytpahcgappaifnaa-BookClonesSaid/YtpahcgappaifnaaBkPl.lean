/- Books: do, whole; what a law holds while acts go on; played.  -/
import Derived.Test.YtpahcgappaifnaaBkDo
namespace Go.Proofs.Ytpahcgappaifnaa
open Go.RowKit
set_option linter.unusedVariables false
set_option linter.unusedSimpArgs false

section
variable {w : World} {F G : Nat → Prop} {b : Nat} {S : BkS} {U : Value}
theorem bdo_c (h : BkAt w F b S) (hS : S.Ok) (hR : RBk w (fun x => F x ∨ G x) U S) (hG : ∀ x, G x → x < w.heap.size) (a : ActB) (ha : a.Ok) : Calls Try.prog 37 #[ptrV b, U, a.v] w (BDoR F b G (bdoS S a) w) := by
  obtain ⟨kd, n, tt, ⟨xt, xl, xb, xr⟩, pr, pc, ⟨yg, yr, yk⟩⟩ := a
  have h1 := ha.r1
  have h2 := ha.c1
  simp only at h1 h2
  unfold bdoS
  simp only
  by_cases e1 : kd = 1
  · subst e1; rw [if_pos rfl]; exact bdo1 h hS hR hG n tt xt xl xb xr pr pc yg yr yk h1 h2
  rw [if_neg e1]
  by_cases e2 : kd = 2
  · subst e2; rw [if_pos rfl]; exact bdo2 h hS hR hG n tt xt xl xb xr pr pc yg yr yk h1 h2
  rw [if_neg e2]
  by_cases e3 : kd = 3
  · subst e3; rw [if_pos rfl]; exact bdo3 h hS hR hG n tt xt xl xb xr pr pc yg yr yk h1 h2
  rw [if_neg e3]
  by_cases e4 : kd = 4
  · subst e4; rw [if_pos rfl]; exact bdo4 h hS hR hG n tt xt xl xb xr pr pc yg yr yk h1 h2
  rw [if_neg e4]
  by_cases e5 : kd = 5
  · subst e5; rw [if_pos rfl]; exact bdo5 h hS hR hG n tt xt xl xb xr pr pc yg yr yk h1 h2
  rw [if_neg e5]
  by_cases e6 : kd = 6
  · subst e6; rw [if_pos rfl]; exact bdo6 h hS hR hG n tt xt xl xb xr pr pc yg yr yk h1 h2
  rw [if_neg e6]
  by_cases e7 : kd = 7
  · subst e7; rw [if_pos rfl]; exact bdo7 h hS hR hG n tt xt xl xb xr pr pc yg yr yk h1 h2
  rw [if_neg e7]
  exact bdo0 h hS hR hG n tt xt xl xb xr pr pc yg yr yk h1 h2 kd (by simpa using e1) (by simpa using e2) (by simpa using e3) (by simpa using e4) (by simpa using e5) (by simpa using e6) (by simpa using e7)
end
abbrev rbC (A : Option Addr) (n c : Nat) (sA : Option Addr) (sm sc : Nat) (sn nw : Int) (bl : Bool) : Array Value := #[.slice A n c, .slice sA sm sc, .int .i64 sn, .int .i64 nw, .bool bl]
/-- the book b, and the document's book in the variable Vb, which is one of the blocks G that both lie off -/
structure BPl (G : Nat → Prop) (wr : World) (F : Nat → Prop) (b Vb : Nat) (A : Option Addr) (n c : Nat) (sA : Option Addr) (sm sc : Nat) (sn nw : Int) (bl : Bool) (S : BkS) : Prop where
  bk : BkAt wr F b S
  ref : RBk wr (fun x => F x ∨ G x) (.agg (rbC A n c sA sm sc sn nw bl)) S
  var : wr.heap[Vb]? = some (.cells (rbC A n c sA sm sc sn nw bl) 30 (0, 0))
  off : ∀ x, F x → ¬ G x
  gv : G Vb
  gl : ∀ x, G x → x < wr.heap.size
section
variable {G G1 F F' : Nat → Prop} {w wr w1 w2 w3 : World} {b Vb Nb n c sm sc : Nat} {A sA : Option Addr} {sn nw : Int} {bl : Bool} {S T : BkS} {e : Ending} {U' : Value}
theorem BPl.grow (h : BPl G wr F b Vb A n c sA sm sc sn nw bl S) (hb : Below wr.heap.size wr w1) : BPl G w1 F b Vb A n c sA sm sc sn nw bl S :=
  ⟨h.bk.grow hb, h.ref.grow hb, (hb.block Vb (heap_in h.var)).trans h.var, h.off, h.gv, fun x hx => Nat.lt_of_lt_of_le (h.gl x hx) hb.size⟩
/-- what do left behind, with nothing stored yet; Nb is a block that its answer lies off, too -/
structure BMid (G : Nat → Prop) (wr w2 : World) (F F' : Nat → Prop) (b Vb Nb : Nat) (A : Option Addr) (n c : Nat) (sA : Option Addr) (sm sc : Nat) (sn nw : Int) (bl : Bool) (T : BkS) : Prop where
  keep : Keep F wr w2
  bk : BkAt w2 F' b T
  ref : RBk w2 (fun x => F' x ∨ (G x ∨ x = Nb)) (.agg (rbC A n c sA sm sc sn nw bl)) T
  new : ∀ x, F' x → F x ∨ wr.heap.size ≤ x
  offn : ¬ F' Nb
theorem BPl.fin {A' sA' : Option Addr} {n' c' sm' sc' : Nat} {sn' nw' : Int} {bl' : Bool} (h : BPl G wr F b Vb A n c sA sm sc sn nw bl S) (hm : BMid G wr w2 F F' b Vb Nb A' n' c' sA' sm' sc' sn' nw' bl' T) (hk : Keep (fun x => x = Nb ∨ x = Vb) w2 w3)
    (hv : w3.heap[Vb]? = some (.cells (rbC A' n' c' sA' sm' sc' sn' nw' bl') 30 (0, 0))) : BPl G w3 F' b Vb A' n' c' sA' sm' sc' sn' nw' bl' T := by
  have hoff : ∀ x, F' x → ¬ G x := fun x hx g => (hm.new x hx).elim (fun f => h.off x f g) (fun e => by have := h.gl x g; omega)
  refine ⟨hm.bk.keep hk (fun x hx g => g.elim (fun e => hm.offn (e ▸ hx)) (fun e => hoff x hx (e ▸ h.gv))), ?_, hv, hoff, h.gv, fun x hx => Nat.lt_of_lt_of_le (h.gl x hx) (Nat.le_trans hm.keep.size hk.size)⟩
  refine (hm.ref.keep hk (fun x hx g => hx (.inr (g.elim .inr (fun e => .inl (e ▸ h.gv)))))).mono (fun x _ g => g.elim .inl (fun g => .inr (.inl g)))
theorem BPl.mid (h : BPl G wr F b Vb A n c sA sm sc sn nw bl S) (hb : Below wr.heap.size wr w1) (hN : Nb < w1.heap.size) (hNF : ¬ F Nb) (hd : BDoR F b (fun x => G x ∨ x = Nb) T w1 e w2) :
    ∃ F' A' n' c' sA' sm' sc' sn' nw' bl', e = .returned (.tuple #[.agg (rbC A' n' c' sA' sm' sc' sn' nw' bl'), .bool true]) ∧ BMid G wr w2 F F' b Vb Nb A' n' c' sA' sm' sc' sn' nw' bl' T := by
  obtain ⟨U', F', rfl, hk, hbk, hr, hn⟩ := hd
  have hr2 := hr
  obtain ⟨A', c', us', ⟨tA, tm, tc, tn⟩, rfl, -⟩ := hr
  refine ⟨F', A', _, c', tA, tm, tc, tn, _, _, rfl, ⟨(Keep.of_below (F := F) hb).trans hk (fun x hx => .inl hx), hbk, hr2, fun x hx => (hn x hx).imp_right (fun e => Nat.le_trans hb.size e), fun f => ?_⟩⟩
  rcases hn Nb f with f | f
  · exact hNF f
  · omega
end
theorem BDoR.keep {F G : Nat → Prop} {b : Nat} {T : BkS} {w w' : World} {e : Ending} (h : BDoR F b G T w e w') : Keep F w w' := by
  obtain ⟨U', F', -, hk, -⟩ := h
  exact hk
/-- a book behind acts -/
def playB (k : Int) (acts : List ActB) : BkS := (acts.take 20).foldl bdoS (newB k 4 6)
theorem playB_ok' (acts : List ActB) (ha : ∀ a ∈ acts, a.Ok) (S : BkS) (hS : S.Ok) : (acts.foldl bdoS S).Ok := by
  induction acts generalizing S with
  | nil => exact hS
  | cons a l ih => exact ih (fun b hb => ha b (List.mem_cons_of_mem _ hb)) _ (bdo_ok hS (ha a (List.mem_cons_self ..)))
theorem playB_ok (k : Int) {acts : List ActB} (ha : ∀ a ∈ acts, a.Ok) : (playB k acts).Ok := playB_ok' _ (fun a h => ha a (List.mem_of_mem_take h)) _ (newB_ok k 4 6)
theorem fold_take (S : BkS) (acts : List ActB) (i : Nat) (h : i < acts.length) : (acts.take (i + 1)).foldl bdoS S = bdoS ((acts.take i).foldl bdoS S) acts[i] := by
  rw [List.take_add_one, List.getElem?_eq_getElem h, List.foldl_append]
  rfl
def Played (T : BkS) (w : World) (e : Ending) (w' : World) : Prop := ∃ b F U, e = .returned (.tuple #[ptrV b, U, .bool true]) ∧ Below w.heap.size w w' ∧ BkAt w' F b T ∧ RBk w' (fun x => F x ∨ x < w.heap.size) U T ∧ ∀ x, F x → w.heap.size ≤ x
set_option maxRecDepth 100000 in
set_option maxHeartbeats 8000000 in
theorem played_c (k : Int) (acts : List ActB) (A : Option Addr) (C : Nat) (w : World) (rd : Rd ActB.cells 12 w A acts) (ha : ∀ a ∈ acts, a.Ok) (hl : acts.length ≤ 9223372036854775807) :
    Calls Try.prog 8 #[.int .i64 k, .slice A acts.length C] w (Played (playB k acts) w) := by
  have NB := Lib.hid (fun w' => new_b k 4 6 w')
  have RN := Lib.hid (fun w' (F : Nat → Prop) (hF : ∀ x, F x → x < w'.heap.size) => rnew_c F k 4 6 w' hF)
  have ok0 := newB_ok k 4 6
  have X := Lib.hid rd
  have hlen : min acts.length 20 ≤ 20 := by omega
  obtain ⟨T, hT⟩ : ∃ T, T = newB k 4 6 := ⟨_, rfl⟩
  have ePl : playB k acts = (acts.take 20).foldl bdoS T := by rw [hT]; rfl
  rw [ePl]
  rw [← hT] at NB ok0
  have RN2 := Lib.hid (fun w' F hF => (by have := RN.out w' F hF; rwa [← hT] at this : Calls Try.prog 43 #[.int .i64 k, .int .i64 4, .int .i64 6] w' (NewRB F T w')))
  clear rd RN ePl hT
  go_enter Try.func8, Try.ntmps8
  go_upto_region 2 with (first
    | ((go_at_call 39); (with_reducible refine (NB.out _).mono ?_); (rintro _ _ ⟨b, F, x1, rfl, rfl, hF, hB⟩); replace hF := Lib.hid hF; replace hB := Lib.hid hB)
    | ((go_at_call 43); (with_reducible refine (RN2.out _ (fun x => F x ∨ x < w.heap.size + 1) (fun x hx => by rcases hx with hx | hx; exact hB.out.lt x hx; simp; omega)).mono ?_); (rintro _ _ ⟨U', x2, rfl, rfl, hRB⟩); (obtain ⟨A2, c2, us2, ⟨tA, tm, tc, tn⟩, rfl, H2⟩ := hRB); (try simp only [RPg.V]); replace H2 := Lib.hid H2))
  obtain ⟨W, hW⟩ : ∃ W, W = ext (ext (w.alloc (.cells #[.slice none 0 0, .slice none 0 0, .int .i64 0, .int .i64 0, .bool false] 30)) x1) x2 := ⟨_, rfl⟩
  have hbW : Below w.heap.size w W := by rw [hW]; (repeat' (first | (with_reducible exact Below.refl _ _) | (with_reducible refine Below.alloc ?_ ?_ _) | (with_reducible refine below_ext ?_ ?_ _) | (with_reducible refine Below.drew ?_) | (with_reducible refine below_drewN ?_ _) | (with_reducible refine Below.setCell ?_ ?_ _) | go_size | (simp only [go_sem]; omega) | (simp [go_sem]; done) | (simp [go_sem]; omega)))
  have hsW : W.heap.size = w.heap.size + 1 + x1.sz + x2.sz := by rw [hW]; simp
  have hresW : W.heap[w.heap.size]? = some (.cells #[.slice none 0 0, .slice none 0 0, .int .i64 0, .int .i64 0, .bool false] 30 (0, 0)) := by
    rw [hW, block_ext _ _ (by simp; omega)]
    exact (block_ext _ _ (by simp)).trans (heap_alloc_new w _)
  have hBl := hB.out.lt
  have hBW : BkAt W F b T := by rw [hW]; exact hB.out.grow (below_of_ext _ x2)
  have hRW : RBo W (fun x => F x ∨ x < w.heap.size + 1) T A2 us2 ⟨tA, tm, tc, tn⟩ := by rw [hW]; exact H2.out
  have hF1 := hF.out
  simp only [World.size_alloc, size_ext] at hBl hF1
  rw [← hW, ← hsW]
  clear hW hB H2 hF NB RN2
  obtain ⟨W0, hW0⟩ : ∃ W0, W0 = W.alloc (.cells #[.slice A2 T.pages.length c2, .slice tA tm tc, .int .i64 tn, .int .i64 T.now, .bool T.below] 30) := ⟨_, rfl⟩
  have hg0 : Below W.heap.size W W0 := by rw [hW0]; (repeat' (first | (with_reducible exact Below.refl _ _) | (with_reducible refine Below.alloc ?_ ?_ _) | (with_reducible refine below_ext ?_ ?_ _) | (with_reducible refine Below.drew ?_) | (with_reducible refine below_drewN ?_ _) | (with_reducible refine Below.setCell ?_ ?_ _) | go_size | (simp only [go_sem]; omega) | (simp [go_sem]; done) | (simp [go_sem]; omega)))
  have hs0 : W0.heap.size = W.heap.size + 1 := by rw [hW0]; simp
  obtain ⟨Vb, hVb⟩ : ∃ Vb, Vb = W.heap.size := ⟨_, rfl⟩
  obtain ⟨G, hG⟩ : ∃ G : Nat → Prop, G = fun x => x ≤ w.heap.size ∨ x = Vb := ⟨_, rfl⟩
  have hVw : w.heap.size < Vb := by rw [hVb, hsW]; omega
  have hP0 : BPl G W0 F b Vb A2 T.pages.length c2 tA tm tc tn T.now T.below T := by
    refine ⟨hBW.grow hg0, ?_, by rw [hVb, hW0]; exact heap_alloc_new _ _, fun x hx g => ?_, by rw [hG]; exact .inr rfl, fun x hx => ?_⟩
    · have h1 : RBk W (fun x => F x ∨ G x) (.agg (rbC A2 T.pages.length c2 tA tm tc tn T.now T.below)) T := ⟨A2, c2, us2, ⟨tA, tm, tc, tn⟩, rfl, hRW.ps.mono (fun x hx g => by rw [hG] at g; rcases g with g | g | g; exact .inl g; exact .inr (by omega); omega), hRW.st.mono (fun x hx g => by rw [hG] at g; rcases g with g | g | g; exact .inl g; exact .inr (by omega); omega)⟩
      exact h1.grow hg0
    · rw [hG] at g
      have h1 := hF1 x hx
      have h2 := hBl x hx
      rcases g with g | g <;> omega
    · rw [hG] at hx
      rcases hx with hx | hx <;> omega
  have hres0 := Lib.hid ((hg0.block w.heap.size (heap_in hresW)).trans hresW)
  have hbw0 := Lib.hid (hbW.trans (hg0.mono hbW.size))
  have hF0 := Lib.hid (fun x (hx : F x) => Nat.le_of_succ_le (hF1 x hx))
  have hG0 := Lib.hid (show ∀ x, x < w.heap.size ∨ x = w.heap.size → G x from fun x hx => by rw [hG]; exact .inl (by omega))
  rw [← hW0, ← hVb]
  clear hW0 hVb hs0 hresW hBW hRW hBl hF1 hsW hbW hg0 hG
  obtain ⟨n2, hn2⟩ : ∃ n2, n2 = T.pages.length := ⟨_, rfl⟩
  obtain ⟨nw2, hnw2⟩ : ∃ nw : Int, nw = T.now := ⟨_, rfl⟩
  obtain ⟨bl2, hbl2⟩ : ∃ bl, bl = T.below := ⟨_, rfl⟩
  rw [← hn2, ← hnw2, ← hbl2] at hP0 ⊢
  clear hn2 hnw2 hbl2
  replace hP0 := Lib.hid hP0
  go_wp2
  go_loopw [9] (fun iv wr => ∃ (i : Nat) (F : Nat → Prop) (B : Option Addr) (n c : Nat) (tA : Option Addr) (tm tc : Nat) (tn nw : Int) (bl : Bool), i ≤ min acts.length 20 ∧ iv = .int .i64 i ∧ Hid (BPl G wr F b Vb B n c tA tm tc tn nw bl ((acts.take i).foldl bdoS T)) ∧ Hid (∀ x, F x → w.heap.size ≤ x) ∧
    Hid (wr.heap[w.heap.size]? = some (.cells #[.slice none 0 0, .slice none 0 0, .int .i64 0, .int .i64 0, .bool false] 30 (0, 0))) ∧ Hid (Below w.heap.size w wr)) (fun iv _ => min acts.length 20 - (intOf iv).toNat)
  case atStart => exact ⟨0, F, _, _, _, _, _, _, _, _, _, by omega, rfl, hP0, hF0, hres0, hbw0⟩
  case round =>
    clear hP0 hF0 hres0 hbw0
    obtain ⟨i, F, B, n, c, tA, tm, tc, tn, nw, bl, hi, rfl, hP, hFw, hres, hbw⟩ := hrel
    by_cases hlt : i < min acts.length 20
    · have hlt1 : i < acts.length := by omega
      have hlt20 : i < 20 := by omega
      obtain ⟨q, q0, rfl, hq, hx⟩ := X.out (by omega)
      have okS : ((acts.take i).foldl bdoS T).Ok := playB_ok' _ (fun a h => ha a (List.mem_of_mem_take h)) _ ok0
      have hact := ha _ (List.getElem_mem hlt1)
      have hnx := Lib.hid (fold_take T acts i hlt1)
      have hxi := hx i hlt1
      generalize (acts.take i).foldl bdoS T = S at hP okS hnx
      generalize acts[i] = a at hact hnx hxi
      obtain ⟨kd, an, tt, ⟨xt, xl, xb, xr⟩, pr, pc, ⟨yg, yr, yk⟩⟩ := a
      have kw0 := hxi 0 _ rfl
      have kw1 := hxi 1 _ rfl
      have kw2 := hxi 2 _ rfl
      have kw3 := hxi 3 _ rfl
      have kw4 := hxi 4 _ rfl
      have kw5 := hxi 5 _ rfl
      have kw6 := hxi 6 _ rfl
      have kw7 := hxi 7 _ rfl
      have kw8 := hxi 8 _ rfl
      have kw9 := hxi 9 _ rfl
      have kw10 := hxi 10 _ rfl
      have kw11 := hxi 11 _ rfl
      simp only [Nat.add_zero, ← Nat.add_assoc] at kw0 kw1 kw2 kw3 kw4 kw5 kw6 kw7 kw8 kw9 kw10 kw11
      clear hxi hx
      replace hbw := hbw.out
      replace hFw := hFw.out
      go_upto_region 5 with fail
-- LOOP
      obtain ⟨u0, u1, u2, u3, u4, vl, -⟩ := five hP.out.var
      have k0 := (hbw.cell (p := ⟨q, _, none⟩) hq).trans kw0
      have k1 := (hbw.cell (p := ⟨q, _, none⟩) hq).trans kw1
      have k2 := (hbw.cell (p := ⟨q, _, none⟩) hq).trans kw2
      have k3 := (hbw.cell (p := ⟨q, _, none⟩) hq).trans kw3
      have k4 := (hbw.cell (p := ⟨q, _, none⟩) hq).trans kw4
      have k5 := (hbw.cell (p := ⟨q, _, none⟩) hq).trans kw5
      have k6 := (hbw.cell (p := ⟨q, _, none⟩) hq).trans kw6
      have k7 := (hbw.cell (p := ⟨q, _, none⟩) hq).trans kw7
      have k8 := (hbw.cell (p := ⟨q, _, none⟩) hq).trans kw8
      have k9 := (hbw.cell (p := ⟨q, _, none⟩) hq).trans kw9
      have k10 := (hbw.cell (p := ⟨q, _, none⟩) hq).trans kw10
      have k11 := (hbw.cell (p := ⟨q, _, none⟩) hq).trans kw11
      have ql : q < wr.heap.size := Nat.lt_of_lt_of_le hq hbw.size
      have hVN : ¬ Vb = wr.heap.size := by omega
      have hqN : ¬ q = wr.heap.size := by omega
      have DO := Lib.hid (fun w1 (hb : Below wr.heap.size wr w1) Nb (hN : G Nb ∨ wr.heap.size ≤ Nb) (hN1 : Nb < w1.heap.size) => (by
        have h1 : RBk wr (fun x => F x ∨ (G x ∨ x = Nb)) (.agg (rbC B n c tA tm tc tn nw bl)) S := hP.out.ref.mono (fun x hx g => by rcases g with g | g | g; exact .inl g; exact .inr g; subst g; rcases hN with hN | hN; exact .inr hN; omega)
        exact bdo_c (hP.out.bk.grow hb) okS (h1.grow hb) (fun x hx => by rcases hx with hx | hx; exact Nat.lt_of_lt_of_le (hP.out.gl x hx) hb.size; omega) ⟨kd, an, tt, ⟨xt, xl, xb, xr⟩, pr, pc, ⟨yg, yr, yk⟩⟩ hact :
          Calls Try.prog 37 #[ptrV b, .agg #[.slice B n c, .slice tA tm tc, .int .i64 tn, .int .i64 nw, .bool bl], .agg #[.int .i64 kd, .int .i64 an, .int .i64 tt, .int .i64 xt, .int .i64 xl, .int .i64 xb, .int .i64 xr, .int .i64 pr, .int .i64 pc, .int .i32 yg, .int .u8 yr, .bool yk]] w1 (BDoR F b (fun x => G x ∨ x = Nb) (bdoS S ⟨kd, an, tt, ⟨xt, xl, xb, xr⟩, pr, pc, ⟨yg, yr, yk⟩⟩) w1)))
      have okT : (bdoS S ⟨kd, an, tt, ⟨xt, xl, xb, xr⟩, pr, pc, ⟨yg, yr, yk⟩⟩).Ok := bdo_ok okS hact
      obtain ⟨S', hS'⟩ : ∃ S', S' = bdoS S ⟨kd, an, tt, ⟨xt, xl, xb, xr⟩, pr, pc, ⟨yg, yr, yk⟩⟩ := ⟨_, rfl⟩
      rw [← hS'] at DO okT
      replace hS' := Lib.hid hS'
      have hVF : ¬ F Vb := fun f => hP.out.off Vb f hP.out.gv
      have hFl := hP.out.bk.lt
      have hFN : ¬ F wr.heap.size := fun f => by have := hFl _ f; omega
      (refine wp_region_F (S := (fun w' => w'.cell? ⟨Vb, 0, none⟩ = some (.slice B n c) ∧ w'.cell? ⟨Vb, 1, none⟩ = some (.slice tA tm tc) ∧ w'.cell? ⟨Vb, 2, none⟩ = some (.int .i64 tn) ∧ w'.cell? ⟨Vb, 3, none⟩ = some (.int .i64 nw) ∧ w'.cell? ⟨Vb, 4, none⟩ = some (.bool bl) ∧ w'.cell? ⟨q, q0 + i * 12, none⟩ = some (.int .i64 kd) ∧ w'.cell? ⟨q, q0 + i * 12 + 1, none⟩ = some (.int .i64 an) ∧ w'.cell? ⟨q, q0 + i * 12 + 2, none⟩ = some (.int .i64 tt) ∧ w'.cell? ⟨q, q0 + i * 12 + 3, none⟩ = some (.int .i64 xt) ∧ w'.cell? ⟨q, q0 + i * 12 + 4, none⟩ = some (.int .i64 xl) ∧ w'.cell? ⟨q, q0 + i * 12 + 5, none⟩ = some (.int .i64 xb) ∧ w'.cell? ⟨q, q0 + i * 12 + 6, none⟩ = some (.int .i64 xr) ∧ w'.cell? ⟨q, q0 + i * 12 + 7, none⟩ = some (.int .i64 pr) ∧ w'.cell? ⟨q, q0 + i * 12 + 8, none⟩ = some (.int .i64 pc) ∧ w'.cell? ⟨q, q0 + i * 12 + 9, none⟩ = some (.int .i32 yg) ∧ w'.cell? ⟨q, q0 + i * 12 + 10, none⟩ = some (.int .u8 yr) ∧ w'.cell? ⟨q, q0 + i * 12 + 11, none⟩ = some (.bool yk))) 12 [false, false, false, false, false, false, false, false, false, false, false, false, false] rfl rfl (by kernel_rfl) ?_ (fun hHeld => ?_); (focus ((try dsimp only); (refine ⟨?_, ?_, ?_, ?_, ?_, ?_, ?_, ?_, ?_, ?_, ?_, ?_, ?_, ?_, ?_, ?_, ?_⟩ <;> simp [go_sem, u0, u1, u2, u3, u4, k0, k1, k2, k3, k4, k5, k6, k7, k8, k9, k10, k11, vl, ql, hVN, hqN]); done)))
      ((refine AtF.take (oi := ?_) (v := ?_) 0 ?_ ?_ ?_ ?_ (Or.inl ⟨?_, ?_⟩) (by assumption) ?_; rotate_left 2; rfl; kernel_rfl; kernel_rfl; exact (fun _ _ _ h => h); rfl; (focus (intro w hSw; (try dsimp only at hSw); go_simp; (try with_reducible rfl); done)); (try simp only [Act.put, List.setIfInBounds_toArray, List.set_cons_zero, List.set_cons_succ])); (refine AtF.take (oi := ?_) (v := ?_) 1 ?_ ?_ ?_ ?_ (Or.inl ⟨?_, ?_⟩) (by assumption) ?_; rotate_left 2; rfl; kernel_rfl; kernel_rfl; exact (fun _ _ _ h => h); rfl; (focus (intro w hSw; (try dsimp only at hSw); go_simp; (try with_reducible rfl); done)); (try simp only [Act.put, List.setIfInBounds_toArray, List.set_cons_zero, List.set_cons_succ])); (refine AtF.take (oi := ?_) (v := ?_) 2 ?_ ?_ ?_ ?_ (Or.inl ⟨?_, ?_⟩) (by assumption) ?_; rotate_left 2; rfl; kernel_rfl; kernel_rfl; exact (fun _ _ _ h => h); rfl; (focus (intro w hSw; (try dsimp only at hSw); go_simp; (try with_reducible rfl); done)); (try simp only [Act.put, List.setIfInBounds_toArray, List.set_cons_zero, List.set_cons_succ])); (refine AtF.take (oi := ?_) (v := ?_) 3 ?_ ?_ ?_ ?_ (Or.inl ⟨?_, ?_⟩) (by assumption) ?_; rotate_left 2; rfl; kernel_rfl; kernel_rfl; exact (fun _ _ _ h => h); rfl; (focus (intro w hSw; (try dsimp only at hSw); go_simp; (try with_reducible rfl); done)); (try simp only [Act.put, List.setIfInBounds_toArray, List.set_cons_zero, List.set_cons_succ])); (refine AtF.take (oi := ?_) (v := ?_) 4 ?_ ?_ ?_ ?_ (Or.inl ⟨?_, ?_⟩) (by assumption) ?_; rotate_left 2; rfl; kernel_rfl; kernel_rfl; exact (fun _ _ _ h => h); rfl; (focus (intro w hSw; (try dsimp only at hSw); go_simp; (try with_reducible rfl); done)); (try simp only [Act.put, List.setIfInBounds_toArray, List.set_cons_zero, List.set_cons_succ])); (refine AtF.take (oi := ?_) (v := ?_) 5 ?_ ?_ ?_ ?_ (Or.inl ⟨?_, ?_⟩) (by assumption) ?_; rotate_left 2; rfl; kernel_rfl; kernel_rfl; exact (fun _ _ _ h => h); rfl; (focus (intro w hSw; (try dsimp only at hSw); go_simp; (try with_reducible rfl); done)); (try simp only [Act.put, List.setIfInBounds_toArray, List.set_cons_zero, List.set_cons_succ])))
      (refine AtF.either (oi := ?_) (oj := ?_) 6 10 ?_ ?_ ?_ (fun K hK => ?_) (fun K hK => ?_); rotate_left 2; rfl; rfl; kernel_rfl)
      · ((try go_simp); ((go_at_call 37); (with_reducible refine (DO.out _ (by (repeat' (first | (with_reducible exact Below.refl _ _) | (with_reducible refine Below.alloc ?_ ?_ _) | (with_reducible refine below_ext ?_ ?_ _) | (with_reducible refine Below.drew ?_) | (with_reducible refine below_drewN ?_ _) | (with_reducible refine Below.setCell ?_ ?_ _) | go_size | (simp only [go_sem]; omega) | (simp [go_sem]; done) | (simp [go_sem]; omega)))) Vb (.inl hP.out.gv) (Nat.lt_of_lt_of_le vl (by simp))).mono ?_); (intro e' w2 hd); (obtain ⟨F', A3, n3, c3, sA3, sm3, sc3, sn3, nw3, bl3, rfl, hm⟩ := hP.out.mid (show Below wr.heap.size wr _ by (repeat' (first | (with_reducible exact Below.refl _ _) | (with_reducible refine Below.alloc ?_ ?_ _) | (with_reducible refine below_ext ?_ ?_ _) | (with_reducible refine Below.drew ?_) | (with_reducible refine below_drewN ?_ _) | (with_reducible refine Below.setCell ?_ ?_ _) | go_size | (simp only [go_sem]; omega) | (simp [go_sem]; done) | (simp [go_sem]; omega)))) (Nat.lt_of_lt_of_le vl (by simp)) hVF hd); clear hd; have hw2 : Below w.heap.size w w2 := hbw.trans (hm.keep.below (fun x f => hFw x f) hbw.size); have yV := (hm.keep.block Vb (heap_in hP.out.var) hVF).trans hP.out.var; obtain ⟨z0, z1, z2, z3, z4, vl2, zf⟩ := five yV; have l0 := (hw2.cell (p := ⟨q, _, none⟩) hq).trans kw0; have l1 := (hw2.cell (p := ⟨q, _, none⟩) hq).trans kw1; have l2 := (hw2.cell (p := ⟨q, _, none⟩) hq).trans kw2; have l3 := (hw2.cell (p := ⟨q, _, none⟩) hq).trans kw3; have l4 := (hw2.cell (p := ⟨q, _, none⟩) hq).trans kw4; have l5 := (hw2.cell (p := ⟨q, _, none⟩) hq).trans kw5; have l6 := (hw2.cell (p := ⟨q, _, none⟩) hq).trans kw6; have l7 := (hw2.cell (p := ⟨q, _, none⟩) hq).trans kw7; have l8 := (hw2.cell (p := ⟨q, _, none⟩) hq).trans kw8; have l9 := (hw2.cell (p := ⟨q, _, none⟩) hq).trans kw9; have l10 := (hw2.cell (p := ⟨q, _, none⟩) hq).trans kw10; have l11 := (hw2.cell (p := ⟨q, _, none⟩) hq).trans kw11; have ql2 : q < w2.heap.size := Nat.lt_of_lt_of_le hq hw2.size; have hVN2 : ¬ Vb = w2.heap.size := (by omega); have hqN2 : ¬ q = w2.heap.size := (by omega); replace hm := Lib.hid hm; replace yV := Lib.hid yV; have zf0 := zf 0; have zf1 := zf 1; have zf2 := zf 2; have zf3 := zf 3; have zf4 := zf 4; clear zf); (refine hK.out _ _ ?_ (fun hHeld => ?_)); (focus ((try dsimp only); (refine ⟨?_, ?_, ?_, ?_, ?_, ?_, ?_, ?_, ?_, ?_, ?_, ?_, ?_, ?_, ?_, ?_, ?_⟩ <;> simp [go_sem, z0, z1, z2, z3, z4, l0, l1, l2, l3, l4, l5, l6, l7, l8, l9, l10, l11, vl2, ql2, hVN, hqN, hVN2, hqN2]); done)); clear hK K; (try simp only [Act.put, List.setIfInBounds_toArray, List.set_cons_zero, List.set_cons_succ]))
        ((refine AtF.take (oi := ?_) (v := ?_) 7 ?_ ?_ ?_ ?_ (Or.inl ⟨?_, ?_⟩) (by assumption) ?_; rotate_left 2; rfl; kernel_rfl; kernel_rfl; exact (fun _ _ _ h => h); rfl; (focus (intro w hSw; (try dsimp only at hSw); go_simp; (try with_reducible rfl); done)); (try simp only [Act.put, List.setIfInBounds_toArray, List.set_cons_zero, List.set_cons_succ])); (refine AtF.take (oi := ?_) (v := ?_) 8 ?_ ?_ ?_ ?_ (Or.inl ⟨?_, ?_⟩) (by assumption) ?_; rotate_left 2; rfl; kernel_rfl; kernel_rfl; exact (fun _ _ _ h => h); rfl; (focus (intro w hSw; (try dsimp only at hSw); go_simp; (try with_reducible rfl); done)); (try simp only [Act.put, List.setIfInBounds_toArray, List.set_cons_zero, List.set_cons_succ])); (refine AtF.take (oi := ?_) (v := ?_) 9 ?_ ?_ ?_ ?_ (Or.inl ⟨?_, ?_⟩) (by assumption) ?_; rotate_left 2; rfl; kernel_rfl; kernel_rfl; exact (fun _ _ _ h => h); rfl; (focus (intro w hSw; (try dsimp only at hSw); go_simp; (try with_reducible rfl); done)); (try simp only [Act.put, List.setIfInBounds_toArray, List.set_cons_zero, List.set_cons_succ])))
        (refine AtF.only (oi := ?_) 10 ?_ ?_ (fun K hK => ?_); rotate_left 1; rfl; kernel_rfl; (try go_simp); skip; (refine hK.out _ _ ?_ (fun hHeld => ?_)); (focus ((try dsimp only); (refine ⟨?_, ?_, ?_, ?_, ?_, ?_, ?_, ?_, ?_, ?_, ?_, ?_, ?_, ?_, ?_, ?_, ?_⟩ <;> simp [go_sem, z0, z1, z2, z3, z4, l0, l1, l2, l3, l4, l5, l6, l7, l8, l9, l10, l11, vl2, ql2, hVN, hqN, hVN2, hqN2]); done)); clear hK K; (try simp only [Act.put, List.setIfInBounds_toArray, List.set_cons_zero, List.set_cons_succ]))
        (refine AtF.only (oi := ?_) 11 ?_ ?_ (fun K hK => ?_); rotate_left 1; rfl; kernel_rfl; (try go_simp); skip; (refine hK.out _ _ ?_ (fun hHeld => ?_)); (focus ((try dsimp only); (refine ⟨?_, ?_, ?_, ?_, ?_, ?_, ?_, ?_, ?_, ?_, ?_, ?_, ?_, ?_, ?_, ?_, ?_⟩ <;> simp [go_sem, z0, z1, z2, z3, z4, l0, l1, l2, l3, l4, l5, l6, l7, l8, l9, l10, l11, vl2, ql2, hVN, hqN, hVN2, hqN2]); done)); clear hK K; (try simp only [Act.put, List.setIfInBounds_toArray, List.set_cons_zero, List.set_cons_succ]))
        (refine AtF.last (oi := ?_) ?_ ?_ (fun K hK => ?_); rotate_left 1; rfl; kernel_rfl; go_simp; skip; refine hK.out _ _ ?_; clear hK K; (try simp only [Act.put, List.setIfInBounds_toArray, List.set_cons_zero, List.set_cons_succ]))
        go_upto_region 7 with fail
        obtain ⟨W3, h3, hk3, hs3⟩ := store5 yV.out (.slice A3 n3 c3) (.slice sA3 sm3 sc3) (.int .i64 sn3) (.int .i64 nw3) (.bool bl3)
        rw [h3]
        obtain ⟨W4, hW4⟩ : ∃ W4, W4 = W3.alloc (.cells #[.slice A3 n3 c3, .slice sA3 sm3 sc3, .int .i64 sn3, .int .i64 nw3, .bool bl3] 30) := ⟨_, rfl⟩
        have hg4 : Below W3.heap.size W3 W4 := by rw [hW4]; (repeat' (first | (with_reducible exact Below.refl _ _) | (with_reducible refine Below.alloc ?_ ?_ _) | (with_reducible refine below_ext ?_ ?_ _) | (with_reducible refine Below.drew ?_) | (with_reducible refine below_drewN ?_ _) | (with_reducible refine Below.setCell ?_ ?_ _) | go_size | (simp only [go_sem]; omega) | (simp [go_sem]; done) | (simp [go_sem]; omega)))
        rw [← hW4]
        have hs4 := (hg4.block Vb (heap_in hs3)).trans hs3
        have hk4 : Keep (fun x => x = Vb ∨ x = Vb) w2 W4 := (hk3.mono (fun x hx => .inl hx)).trans (Keep.of_below (F := fun _ => False) hg4) (fun _ f => f.elim)
        have hP2 := hP.out.fin hm.out hk4 hs4
        have hkN := hk4.mono (G := fun x => x = wr.heap.size ∨ x = Vb) (fun x hx => .inr (hx.elim id id))
        clear hW4 hg4 h3 hk3 hs3 hk4
        have hbN : Below w.heap.size w W4 := hw2.trans (hkN.below (fun x hx => by have := hbw.size; rcases hx with hx | hx <;> omega) hw2.size)
        have hRF : ¬ F w.heap.size := fun f => hP.out.off _ f (hG0.out _ (.inr rfl))
        have hRw := heap_in hres.out
        have hres4 := Lib.hid ((hkN.block w.heap.size (Nat.lt_of_lt_of_le hRw hm.out.keep.size) (fun e => by omega)).trans ((hm.out.keep.block w.heap.size hRw hRF).trans hres.out))
        have hnewF := Lib.hid (fun x (hx : F' x) => (hm.out.new x hx).elim (hFw x) (fun e => Nat.le_trans hbw.size e))
        obtain ⟨VV, ps, st, hO⟩ := hP2.bk
        have IS := Lib.hid (fun w' (hb : Below W4.heap.size W4 w') => bis_c (hO.grow hb) okT (hP2.ref.grow hb))
        obtain ⟨t0, t1, t2, t3, t4, tl, -⟩ := five hs4
        replace hP2 := Lib.hid hP2
        replace hbN := Lib.hid hbN
        clear hO hs4 hkN hm yV DO
        clear u0 u1 u2 u3 u4 k0 k1 k2 k3 k4 k5 k6 k7 k8 k9 k10 k11 l0 l1 l2 l3 l4 l5 l6 l7 l8 l9 l10 l11 z0 z1 z2 z3 z4 zf0 zf1 zf2 zf3 zf4
        go_wp2_with (go_at_call 9; ((with_reducible refine (IS.out _ (by (repeat' (first | (with_reducible exact Below.refl _ _) | (with_reducible refine Below.alloc ?_ ?_ _) | (with_reducible refine below_ext ?_ ?_ _) | (with_reducible refine Below.drew ?_) | (with_reducible refine below_drewN ?_ _) | (with_reducible refine Below.setCell ?_ ?_ _) | go_size | (simp only [go_sem]; omega) | (simp [go_sem]; done) | (simp [go_sem]; omega))))).mono ?_); rintro _ _ hgets; obtain ⟨rfl, y9, rfl⟩ := hgets.get; clear hgets))
        have hPf : Hid (BPl G (ext W4 y9) F' b Vb A3 n3 c3 sA3 sm3 sc3 sn3 nw3 bl3 _) := Lib.hid (hP2.out.grow (below_of_ext W4 y9))
        rw [hS'.out, ← hnx.out] at hPf
        exact ⟨⟨i + 1, F', A3, n3, c3, sA3, sm3, sc3, sn3, nw3, bl3, by omega, by go_num, hPf, hnewF, Lib.hid ((block_ext W4 y9 (heap_in hres4.out)).trans hres4.out), Lib.hid (below_ext hbN.out hbN.out.size y9)⟩, by simp [intOf]; omega⟩
      · ((try go_simp); skip; (refine hK.out _ _ ?_ (fun hHeld => ?_)); (focus ((try dsimp only); (refine ⟨?_, ?_, ?_, ?_, ?_, ?_, ?_, ?_, ?_, ?_, ?_, ?_, ?_, ?_, ?_, ?_, ?_⟩ <;> simp [go_sem, u0, u1, u2, u3, u4, k0, k1, k2, k3, k4, k5, k6, k7, k8, k9, k10, k11, vl, ql, hVN, hqN]); done)); clear hK K; (try simp only [Act.put, List.setIfInBounds_toArray, List.set_cons_zero, List.set_cons_succ]))
        (refine AtF.only (oi := ?_) 6 ?_ ?_ (fun K hK => ?_); rotate_left 1; rfl; kernel_rfl; (try go_simp); ((go_at_call 37); (with_reducible refine (DO.out _ (by (repeat' (first | (with_reducible exact Below.refl _ _) | (with_reducible refine Below.alloc ?_ ?_ _) | (with_reducible refine below_ext ?_ ?_ _) | (with_reducible refine Below.drew ?_) | (with_reducible refine below_drewN ?_ _) | (with_reducible refine Below.setCell ?_ ?_ _) | go_size | (simp only [go_sem]; omega) | (simp [go_sem]; done) | (simp [go_sem]; omega)))) wr.heap.size (.inr (Nat.le_refl _)) (by simp)).mono ?_); (intro e' w2 hd); have yN := (hd.keep.block wr.heap.size (by simp) hFN).trans (heap_alloc_new _ _); obtain ⟨y0, y1, y2, y3, y4, yl, yf⟩ := five yN; have yf0 := yf 0; have yf1 := yf 1; have yf2 := yf 2; have yf3 := yf 3; have yf4 := yf 4; clear yf; replace yN := Lib.hid yN; (obtain ⟨F', A3, n3, c3, sA3, sm3, sc3, sn3, nw3, bl3, rfl, hm⟩ := hP.out.mid (show Below wr.heap.size wr _ by (repeat' (first | (with_reducible exact Below.refl _ _) | (with_reducible refine Below.alloc ?_ ?_ _) | (with_reducible refine below_ext ?_ ?_ _) | (with_reducible refine Below.drew ?_) | (with_reducible refine below_drewN ?_ _) | (with_reducible refine Below.setCell ?_ ?_ _) | go_size | (simp only [go_sem]; omega) | (simp [go_sem]; done) | (simp [go_sem]; omega)))) (by simp) hFN hd); clear hd; have hw2 : Below w.heap.size w w2 := hbw.trans (hm.keep.below (fun x f => hFw x f) hbw.size); have yV := (hm.keep.block Vb (heap_in hP.out.var) hVF).trans hP.out.var; obtain ⟨z0, z1, z2, z3, z4, vl2, zf⟩ := five yV; have l0 := (hw2.cell (p := ⟨q, _, none⟩) hq).trans kw0; have l1 := (hw2.cell (p := ⟨q, _, none⟩) hq).trans kw1; have l2 := (hw2.cell (p := ⟨q, _, none⟩) hq).trans kw2; have l3 := (hw2.cell (p := ⟨q, _, none⟩) hq).trans kw3; have l4 := (hw2.cell (p := ⟨q, _, none⟩) hq).trans kw4; have l5 := (hw2.cell (p := ⟨q, _, none⟩) hq).trans kw5; have l6 := (hw2.cell (p := ⟨q, _, none⟩) hq).trans kw6; have l7 := (hw2.cell (p := ⟨q, _, none⟩) hq).trans kw7; have l8 := (hw2.cell (p := ⟨q, _, none⟩) hq).trans kw8; have l9 := (hw2.cell (p := ⟨q, _, none⟩) hq).trans kw9; have l10 := (hw2.cell (p := ⟨q, _, none⟩) hq).trans kw10; have l11 := (hw2.cell (p := ⟨q, _, none⟩) hq).trans kw11; have ql2 : q < w2.heap.size := Nat.lt_of_lt_of_le hq hw2.size; have hVN2 : ¬ Vb = w2.heap.size := (by omega); have hqN2 : ¬ q = w2.heap.size := (by omega); replace hm := Lib.hid hm; replace yV := Lib.hid yV; have zf0 := zf 0; have zf1 := zf 1; have zf2 := zf 2; have zf3 := zf 3; have zf4 := zf 4; clear zf); (refine hK.out _ _ ?_ (fun hHeld => ?_)); (focus ((try dsimp only); (refine ⟨?_, ?_, ?_, ?_, ?_, ?_, ?_, ?_, ?_, ?_, ?_, ?_, ?_, ?_, ?_, ?_, ?_⟩ <;> simp [go_sem, z0, z1, z2, z3, z4, l0, l1, l2, l3, l4, l5, l6, l7, l8, l9, l10, l11, vl2, ql2, hVN, hqN, hVN2, hqN2]); done)); clear hK K; (try simp only [Act.put, List.setIfInBounds_toArray, List.set_cons_zero, List.set_cons_succ]))
        ((refine AtF.take (oi := ?_) (v := ?_) 7 ?_ ?_ ?_ ?_ (Or.inl ⟨?_, ?_⟩) (by assumption) ?_; rotate_left 2; rfl; kernel_rfl; kernel_rfl; exact (fun _ _ _ h => h); rfl; (focus (intro w hSw; (try dsimp only at hSw); go_simp; (try with_reducible rfl); done)); (try simp only [Act.put, List.setIfInBounds_toArray, List.set_cons_zero, List.set_cons_succ])); (refine AtF.take (oi := ?_) (v := ?_) 8 ?_ ?_ ?_ ?_ (Or.inl ⟨?_, ?_⟩) (by assumption) ?_; rotate_left 2; rfl; kernel_rfl; kernel_rfl; exact (fun _ _ _ h => h); rfl; (focus (intro w hSw; (try dsimp only at hSw); go_simp; (try with_reducible rfl); done)); (try simp only [Act.put, List.setIfInBounds_toArray, List.set_cons_zero, List.set_cons_succ])); (refine AtF.take (oi := ?_) (v := ?_) 9 ?_ ?_ ?_ ?_ (Or.inl ⟨?_, ?_⟩) (by assumption) ?_; rotate_left 2; rfl; kernel_rfl; kernel_rfl; exact (fun _ _ _ h => h); rfl; (focus (intro w hSw; (try dsimp only at hSw); go_simp; (try with_reducible rfl); done)); (try simp only [Act.put, List.setIfInBounds_toArray, List.set_cons_zero, List.set_cons_succ])))
        (refine AtF.only (oi := ?_) 11 ?_ ?_ (fun K hK => ?_); rotate_left 1; rfl; kernel_rfl; (try go_simp); skip; (refine hK.out _ _ ?_ (fun hHeld => ?_)); (focus ((try dsimp only); (refine ⟨?_, ?_, ?_, ?_, ?_, ?_, ?_, ?_, ?_, ?_, ?_, ?_, ?_, ?_, ?_, ?_, ?_⟩ <;> simp [go_sem, z0, z1, z2, z3, z4, l0, l1, l2, l3, l4, l5, l6, l7, l8, l9, l10, l11, vl2, ql2, hVN, hqN, hVN2, hqN2]); done)); clear hK K; (try simp only [Act.put, List.setIfInBounds_toArray, List.set_cons_zero, List.set_cons_succ]))
        (refine AtF.last (oi := ?_) ?_ ?_ (fun K hK => ?_); rotate_left 1; rfl; kernel_rfl; go_simp; skip; refine hK.out _ _ ?_; clear hK K; (try simp only [Act.put, List.setIfInBounds_toArray, List.set_cons_zero, List.set_cons_succ]))
        obtain ⟨W3, h3, hk3, hs3⟩ := store5 yN.out (.slice A3 n3 c3) (.slice sA3 sm3 sc3) (.int .i64 sn3) (.int .i64 nw3) (.bool bl3)
        rw [h3]
        obtain ⟨s0, s1, s2, s3, s4, sl, -⟩ := five hs3
        have yV3 := (hk3.block Vb vl2 hVN).trans yV.out
        obtain ⟨v0, v1, v2, v3, v4, vl3, vf⟩ := five yV3
        have vf0 := vf 0
        have vf1 := vf 1
        have vf2 := vf 2
        have vf3 := vf 3
        have vf4 := vf 4
        clear vf h3 hs3
        replace yV3 := Lib.hid yV3
        go_upto_region 7 with fail
        obtain ⟨W4, h4, hk4, hs4⟩ := store5 yV3.out (.slice A3 n3 c3) (.slice sA3 sm3 sc3) (.int .i64 sn3) (.int .i64 nw3) (.bool bl3)
        rw [h4]
        have hkN : Keep (fun x => x = wr.heap.size ∨ x = Vb) w2 W4 := (hk3.mono (fun x hx => .inl hx)).trans hk4 (fun x hx => .inl (.inr hx))
        have hP2 := hP.out.fin hm.out hkN hs4
        clear h4 hk4 hk3 yV3 yN
        have hbN : Below w.heap.size w W4 := hw2.trans (hkN.below (fun x hx => by have := hbw.size; rcases hx with hx | hx <;> omega) hw2.size)
        have hRF : ¬ F w.heap.size := fun f => hP.out.off _ f (hG0.out _ (.inr rfl))
        have hRw := heap_in hres.out
        have hres4 := Lib.hid ((hkN.block w.heap.size (Nat.lt_of_lt_of_le hRw hm.out.keep.size) (fun e => by omega)).trans ((hm.out.keep.block w.heap.size hRw hRF).trans hres.out))
        have hnewF := Lib.hid (fun x (hx : F' x) => (hm.out.new x hx).elim (hFw x) (fun e => Nat.le_trans hbw.size e))
        obtain ⟨VV, ps, st, hO⟩ := hP2.bk
        have IS := Lib.hid (fun w' (hb : Below W4.heap.size W4 w') => bis_c (hO.grow hb) okT (hP2.ref.grow hb))
        obtain ⟨t0, t1, t2, t3, t4, tl, -⟩ := five hs4
        replace hP2 := Lib.hid hP2
        replace hbN := Lib.hid hbN
        clear hO hs4 hkN hm yV DO
        clear u0 u1 u2 u3 u4 k0 k1 k2 k3 k4 k5 k6 k7 k8 k9 k10 k11 l0 l1 l2 l3 l4 l5 l6 l7 l8 l9 l10 l11 z0 z1 z2 z3 z4 zf0 zf1 zf2 zf3 zf4
        go_wp2_with (go_at_call 9; ((with_reducible refine (IS.out _ (by (repeat' (first | (with_reducible exact Below.refl _ _) | (with_reducible refine Below.alloc ?_ ?_ _) | (with_reducible refine below_ext ?_ ?_ _) | (with_reducible refine Below.drew ?_) | (with_reducible refine below_drewN ?_ _) | (with_reducible refine Below.setCell ?_ ?_ _) | go_size | (simp only [go_sem]; omega) | (simp [go_sem]; done) | (simp [go_sem]; omega))))).mono ?_); rintro _ _ hgets; obtain ⟨rfl, y9, rfl⟩ := hgets.get; clear hgets))
        have hPf : Hid (BPl G (ext W4 y9) F' b Vb A3 n3 c3 sA3 sm3 sc3 sn3 nw3 bl3 _) := Lib.hid (hP2.out.grow (below_of_ext W4 y9))
        rw [hS'.out, ← hnx.out] at hPf
        exact ⟨⟨i + 1, F', A3, n3, c3, sA3, sm3, sc3, sn3, nw3, bl3, by omega, by go_num, hPf, hnewF, Lib.hid ((block_ext W4 y9 (heap_in hres4.out)).trans hres4.out), Lib.hid (below_ext hbN.out hbN.out.size y9)⟩, by simp [intOf]; omega⟩
    · obtain ⟨m, hm⟩ : ∃ m, m = min acts.length 20 := ⟨_, rfl⟩
      obtain rfl : i = m := by omega
      have hte : acts.take i = acts.take 20 := by
        rcases Nat.le_total acts.length 20 with h | h
        · rw [hm, Nat.min_eq_left h, List.take_of_length_le (Nat.le_refl _), List.take_of_length_le h]
        · rw [hm, Nat.min_eq_right h]
      rw [hte] at hP
      have hcon : (¬ i < acts.length) ∨ (i < acts.length ∧ ¬ i < 20) := by omega
      have hi20 : i ≤ 20 := by omega
      clear hlt hm hi hte hlen
      obtain ⟨S, hSe⟩ : ∃ S, S = (acts.take 20).foldl bdoS T := ⟨_, rfl⟩
      rw [← hSe] at hP
      replace hSe := Lib.hid hSe
      rcases hcon with hc1 | ⟨hc1, hc2⟩
      · go_upto_region 9 with fail
        obtain ⟨u0, u1, u2, u3, u4', vl, -⟩ := five hP.out.var
        obtain ⟨r0, r1, r2, r3, r4, rl, rf⟩ := five hres.out
        have rf0 := rf 0
        have rf1 := rf 1
        have rf2 := rf 2
        have rf3 := rf 3
        have rf4 := rf 4
        clear rf
        (refine wp_region_F (S := (fun w' => w'.cell? ⟨Vb, 0, none⟩ = some (.slice B n c) ∧ w'.cell? ⟨Vb, 1, none⟩ = some (.slice tA tm tc) ∧ w'.cell? ⟨Vb, 2, none⟩ = some (.int .i64 tn) ∧ w'.cell? ⟨Vb, 3, none⟩ = some (.int .i64 nw) ∧ w'.cell? ⟨Vb, 4, none⟩ = some (.bool bl))) 4 [false, false, false, false, false] rfl rfl (by kernel_rfl) ?_ (fun hHeld => ?_); (focus ((try dsimp only); (refine ⟨?_, ?_, ?_, ?_, ?_⟩ <;> simp [go_sem, u0, u1, u2, u3, u4', vl]); done)))
        ((refine AtF.take (oi := ?_) (v := ?_) 0 ?_ ?_ ?_ ?_ (Or.inl ⟨?_, ?_⟩) (by assumption) ?_; rotate_left 2; rfl; kernel_rfl; kernel_rfl; exact (fun _ _ _ h => h); rfl; (focus (intro w hSw; (try dsimp only at hSw); go_simp; (try with_reducible rfl); done)); (try simp only [Act.put, List.setIfInBounds_toArray, List.set_cons_zero, List.set_cons_succ])); (refine AtF.take (oi := ?_) (v := ?_) 1 ?_ ?_ ?_ ?_ (Or.inl ⟨?_, ?_⟩) (by assumption) ?_; rotate_left 2; rfl; kernel_rfl; kernel_rfl; exact (fun _ _ _ h => h); rfl; (focus (intro w hSw; (try dsimp only at hSw); go_simp; (try with_reducible rfl); done)); (try simp only [Act.put, List.setIfInBounds_toArray, List.set_cons_zero, List.set_cons_succ])))
        have hVR : ¬ Vb = w.heap.size := by omega
        (refine AtF.only (oi := ?_) 2 ?_ ?_ (fun K hK => ?_); rotate_left 1; rfl; kernel_rfl; (try go_simp); skip; (refine hK.out _ _ ?_ (fun hHeld => ?_)); (focus ((try dsimp only); (refine ⟨?_, ?_, ?_, ?_, ?_⟩ <;> simp [go_sem, u0, u1, u2, u3, u4', vl, hVR]); done)); clear hK K; (try simp only [Act.put, List.setIfInBounds_toArray, List.set_cons_zero, List.set_cons_succ]))
        (refine AtF.only (oi := ?_) 3 ?_ ?_ (fun K hK => ?_); rotate_left 1; rfl; kernel_rfl; (try go_simp); skip; (refine hK.out _ _ ?_ (fun hHeld => ?_)); (focus ((try dsimp only); (refine ⟨?_, ?_, ?_, ?_, ?_⟩ <;> simp [go_sem, u0, u1, u2, u3, u4', vl, hVR]); done)); clear hK K; (try simp only [Act.put, List.setIfInBounds_toArray, List.set_cons_zero, List.set_cons_succ]))
        (refine AtF.last (oi := ?_) ?_ ?_ (fun K hK => ?_); rotate_left 1; rfl; kernel_rfl; go_simp; skip; refine hK.out _ _ ?_; clear hK K; (try simp only [Act.put, List.setIfInBounds_toArray, List.set_cons_zero, List.set_cons_succ]))
        go_wp2
        obtain ⟨W3, h3, hk3, hs3⟩ := store5 hres.out (.slice B n c) (.slice tA tm tc) (.int .i64 tn) (.int .i64 nw) (.bool bl)
        rw [h3]
        have hgd : Below W3.heap.size W3 W3.drew := by (repeat' (first | (with_reducible exact Below.refl _ _) | (with_reducible refine Below.alloc ?_ ?_ _) | (with_reducible refine below_ext ?_ ?_ _) | (with_reducible refine Below.drew ?_) | (with_reducible refine below_drewN ?_ _) | (with_reducible refine Below.setCell ?_ ?_ _) | go_size | (simp only [go_sem]; omega) | (simp [go_sem]; done) | (simp [go_sem]; omega)))
        have hb3 : Below w.heap.size w W3 := hbw.out.trans (hk3.below (fun x hx => Nat.le_of_eq hx.symm) hbw.out.size)
        have hRG := hG0.out w.heap.size (.inr rfl)
        have hbk := (hP.out.bk.keep hk3 (fun x hx e => hP.out.off x hx (e ▸ hRG))).grow hgd
        have hrf := ((hP.out.ref.keep hk3 (fun x hx e => hx (.inr (e ▸ hRG)))).grow hgd).mono (G := fun x => F x ∨ x < w.heap.size) (fun x _ g => g.imp_right (fun g => hG0.out x (.inl g)))
        have FN : Hid (Played ((acts.take 20).foldl bdoS T) w (.returned (.tuple #[ptrV b, .agg (rbC B n c tA tm tc tn nw bl), .bool true])) W3.drew) := Lib.hid (by rw [← hSe.out]; exact ⟨b, F, _, rfl, hb3.trans (hgd.mono hb3.size), hbk, hrf, hFw.out⟩)
        obtain ⟨s0, s1, s2, s3, s4, sl, -⟩ := five hs3
        clear hs3 h3 hbk hrf hP hres
        simp [bodyPost, go_sem, s0, s1, s2, s3, s4]
        exact ⟨_, by simp [results, Try.f8, go_sem, s0, s1, s2, s3, s4] <;> rfl, FN.out⟩
      · go_upto_region 9 with fail
        obtain ⟨u0, u1, u2, u3, u4', vl, -⟩ := five hP.out.var
        obtain ⟨r0, r1, r2, r3, r4, rl, rf⟩ := five hres.out
        have rf0 := rf 0
        have rf1 := rf 1
        have rf2 := rf 2
        have rf3 := rf 3
        have rf4 := rf 4
        clear rf
        (refine wp_region_F (S := (fun w' => w'.cell? ⟨Vb, 0, none⟩ = some (.slice B n c) ∧ w'.cell? ⟨Vb, 1, none⟩ = some (.slice tA tm tc) ∧ w'.cell? ⟨Vb, 2, none⟩ = some (.int .i64 tn) ∧ w'.cell? ⟨Vb, 3, none⟩ = some (.int .i64 nw) ∧ w'.cell? ⟨Vb, 4, none⟩ = some (.bool bl))) 4 [false, false, false, false, false] rfl rfl (by kernel_rfl) ?_ (fun hHeld => ?_); (focus ((try dsimp only); (refine ⟨?_, ?_, ?_, ?_, ?_⟩ <;> simp [go_sem, u0, u1, u2, u3, u4', vl]); done)))
        ((refine AtF.take (oi := ?_) (v := ?_) 0 ?_ ?_ ?_ ?_ (Or.inl ⟨?_, ?_⟩) (by assumption) ?_; rotate_left 2; rfl; kernel_rfl; kernel_rfl; exact (fun _ _ _ h => h); rfl; (focus (intro w hSw; (try dsimp only at hSw); go_simp; (try with_reducible rfl); done)); (try simp only [Act.put, List.setIfInBounds_toArray, List.set_cons_zero, List.set_cons_succ])); (refine AtF.take (oi := ?_) (v := ?_) 1 ?_ ?_ ?_ ?_ (Or.inl ⟨?_, ?_⟩) (by assumption) ?_; rotate_left 2; rfl; kernel_rfl; kernel_rfl; exact (fun _ _ _ h => h); rfl; (focus (intro w hSw; (try dsimp only at hSw); go_simp; (try with_reducible rfl); done)); (try simp only [Act.put, List.setIfInBounds_toArray, List.set_cons_zero, List.set_cons_succ])))
        have hVR : ¬ Vb = w.heap.size := by omega
        (refine AtF.only (oi := ?_) 2 ?_ ?_ (fun K hK => ?_); rotate_left 1; rfl; kernel_rfl; (try go_simp); skip; (refine hK.out _ _ ?_ (fun hHeld => ?_)); (focus ((try dsimp only); (refine ⟨?_, ?_, ?_, ?_, ?_⟩ <;> simp [go_sem, u0, u1, u2, u3, u4', vl, hVR]); done)); clear hK K; (try simp only [Act.put, List.setIfInBounds_toArray, List.set_cons_zero, List.set_cons_succ]))
        (refine AtF.only (oi := ?_) 3 ?_ ?_ (fun K hK => ?_); rotate_left 1; rfl; kernel_rfl; (try go_simp); skip; (refine hK.out _ _ ?_ (fun hHeld => ?_)); (focus ((try dsimp only); (refine ⟨?_, ?_, ?_, ?_, ?_⟩ <;> simp [go_sem, u0, u1, u2, u3, u4', vl, hVR]); done)); clear hK K; (try simp only [Act.put, List.setIfInBounds_toArray, List.set_cons_zero, List.set_cons_succ]))
        (refine AtF.last (oi := ?_) ?_ ?_ (fun K hK => ?_); rotate_left 1; rfl; kernel_rfl; go_simp; skip; refine hK.out _ _ ?_; clear hK K; (try simp only [Act.put, List.setIfInBounds_toArray, List.set_cons_zero, List.set_cons_succ]))
        go_wp2
        obtain ⟨W3, h3, hk3, hs3⟩ := store5 hres.out (.slice B n c) (.slice tA tm tc) (.int .i64 tn) (.int .i64 nw) (.bool bl)
        rw [h3]
        have hgd : Below W3.heap.size W3 W3.drew := by (repeat' (first | (with_reducible exact Below.refl _ _) | (with_reducible refine Below.alloc ?_ ?_ _) | (with_reducible refine below_ext ?_ ?_ _) | (with_reducible refine Below.drew ?_) | (with_reducible refine below_drewN ?_ _) | (with_reducible refine Below.setCell ?_ ?_ _) | go_size | (simp only [go_sem]; omega) | (simp [go_sem]; done) | (simp [go_sem]; omega)))
        have hb3 : Below w.heap.size w W3 := hbw.out.trans (hk3.below (fun x hx => Nat.le_of_eq hx.symm) hbw.out.size)
        have hRG := hG0.out w.heap.size (.inr rfl)
        have hbk := (hP.out.bk.keep hk3 (fun x hx e => hP.out.off x hx (e ▸ hRG))).grow hgd
        have hrf := ((hP.out.ref.keep hk3 (fun x hx e => hx (.inr (e ▸ hRG)))).grow hgd).mono (G := fun x => F x ∨ x < w.heap.size) (fun x _ g => g.imp_right (fun g => hG0.out x (.inl g)))
        have FN : Hid (Played ((acts.take 20).foldl bdoS T) w (.returned (.tuple #[ptrV b, .agg (rbC B n c tA tm tc tn nw bl), .bool true])) W3.drew) := Lib.hid (by rw [← hSe.out]; exact ⟨b, F, _, rfl, hb3.trans (hgd.mono hb3.size), hbk, hrf, hFw.out⟩)
        obtain ⟨s0, s1, s2, s3, s4, sl, -⟩ := five hs3
        clear hs3 h3 hbk hrf hP hres
        simp [bodyPost, go_sem, s0, s1, s2, s3, s4]
        exact ⟨_, by simp [results, Try.f8, go_sem, s0, s1, s2, s3, s4] <;> rfl, FN.out⟩
end Go.Proofs.Ytpahcgappaifnaa
