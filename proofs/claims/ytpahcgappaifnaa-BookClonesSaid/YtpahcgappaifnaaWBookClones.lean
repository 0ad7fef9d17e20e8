/- BookClones: the walk.  -/
import Derived.Test.YtpahcgappaifnaaBkPl
import Derived.Test.YtpahcgappaifnaaAwake8
namespace Go.Proofs.Ytpahcgappaifnaa
open Go.RowKit
set_option linter.unusedVariables false
set_option linter.unusedSimpArgs false

theorem keep_alloc2 (w : World) (o o' : Obj) (x : More) : Keep (fun k => k = w.heap.size) (ext (w.drew.alloc o) x) (ext (w.alloc o') x) := by
  refine ⟨rfl, rfl, rfl, by simp, fun k hk hne => ?_⟩
  show ((w.heap.push o') ++ x.objs)[k]? = ((w.heap.push o) ++ x.objs)[k]?
  simp only [Array.getElem?_append, Array.getElem?_push, Array.size_push, hne, if_false]

set_option maxRecDepth 100000 in
set_option maxHeartbeats 8000000 in
theorem BookClones_walk (w0 : World) (k : Int) (_wk : (Lit.int .i64 k).wf = true) (A : Option Addr) (C : Nat) (acts : List ActB) (rd : Rd ActB.cells 12 w0 A acts) (hl : acts.length ≤ C) (hm : C ≤ maxLen) (ha : ∀ a ∈ acts, a.Ok)
    (A' : Option Addr) (C' : Nat) (others : List ActB) (rd' : Rd ActB.cells 12 w0 A' others) (hl' : others.length ≤ C') (hm' : C' ≤ maxLen) (ha' : ∀ a ∈ others, a.Ok) :
    Calls Try.prog 6 #[.int .i64 k, .slice A acts.length C, .slice A' others.length C'] w0 (Gives w0 (.bool true)) := by
  have AW := Lib.hid awake_8
  have PL := Lib.hid (fun w' (hb : Below w0.heap.size w0 w') => played_c k acts A C w' (rd.below hb) ha (by simp only [maxLen] at hm; omega))
  have okT0 := playB_ok k ha
  generalize playB k acts = T at PL okT0
  have hlen : others.length ≤ 9223372036854775807 := by simp only [maxLen] at hm'; omega
  replace rd' := Lib.hid rd'
  clear rd ha hm hm'
  go_enter Try.func6, Try.ntmps6
  go_upto_region 6 with (first
    | (go_at_call 7; ((with_reducible refine (AW.out _).mono ?_); rintro _ _ hgets; obtain ⟨rfl, x1, rfl⟩ := hgets.get; clear hgets))
    | ((go_at_call 8); (with_reducible refine (PL.out _ (by (repeat' (first | (with_reducible exact Below.refl _ _) | (with_reducible refine Below.alloc ?_ ?_ _) | (with_reducible refine below_ext ?_ ?_ _) | (with_reducible refine Below.drew ?_) | (with_reducible refine below_drewN ?_ _) | (with_reducible refine Below.setCell ?_ ?_ _) | go_size | (simp only [go_sem]; omega) | (simp [go_sem]; done) | (simp [go_sem]; omega))))).mono ?_); (rintro _ w2 ⟨b0, F0, U, rfl, hb, hbk, hr, hF⟩); (obtain ⟨A2, c2, us2, ⟨rA, rm, rc, rn⟩, rfl, hr⟩ := hr); (simp only [RPg.V]); replace hb := Lib.hid hb; replace hbk := Lib.hid hbk; replace hr := Lib.hid hr; replace hF := Lib.hid hF))
  obtain ⟨w, hW3⟩ : ∃ w, w = w2.alloc (.cells #[.slice A2 T.pages.length c2, .slice rA rm rc, .int .i64 rn, .int .i64 T.now, .bool T.below] 30) := ⟨_, rfl⟩
  have hg3 : Below w2.heap.size w2 w := by rw [hW3]; (repeat' (first | (with_reducible exact Below.refl _ _) | (with_reducible refine Below.alloc ?_ ?_ _) | (with_reducible refine below_ext ?_ ?_ _) | (with_reducible refine Below.drew ?_) | (with_reducible refine below_drewN ?_ _) | (with_reducible refine Below.setCell ?_ ?_ _) | go_size | (simp only [go_sem]; omega) | (simp [go_sem]; done) | (simp [go_sem]; omega)))
  have hs3 : w.heap.size = w2.heap.size + 1 := by rw [hW3]; simp
  have hv3 : w.heap[w2.heap.size]? = some (.cells #[.slice A2 T.pages.length c2, .slice rA rm rc, .int .i64 rn, .int .i64 T.now, .bool T.below] 30 (0, 0)) := by rw [hW3]; exact heap_alloc_new _ _
  rw [← hW3]
  have hb1 : Below w0.heap.size w0 (ext w0 x1) := below_of_ext w0 x1
  have hbw0 : Below w0.heap.size w0 w := hb1.trans ((hb.out.trans (hg3.mono hb.out.size)).mono hb1.size)
  have hbk0 := hbk.out.grow hg3
  have hU0 : RBk w (fun x => w.heap.size ≤ x) (.agg (rbC A2 T.pages.length c2 rA rm rc rn T.now T.below)) T := ⟨A2, c2, us2, ⟨rA, rm, rc, rn⟩, rfl, (hr.out.grow hg3).ps.mono (fun x hx g => by omega), (hr.out.grow hg3).st.mono (fun x hx g => by omega)⟩
  have rd2 := rd'.out.below hbw0
  obtain ⟨Vw, hVw⟩ : ∃ Vw, Vw = w2.heap.size := ⟨_, rfl⟩
  have hVlt : Vw < w.heap.size := by omega
  rw [← hVw] at hv3 ⊢
  replace hbw0 := Lib.hid hbw0
  clear hW3 hg3 hs3 hb1 hb hbk hr hF hVw rd' PL AW
  obtain ⟨n2, hn2⟩ : ∃ n2, n2 = T.pages.length := ⟨_, rfl⟩
  obtain ⟨nw2, hnw2⟩ : ∃ nw : Int, nw = T.now := ⟨_, rfl⟩
  obtain ⟨bl2, hbl2⟩ : ∃ bl, bl = T.below := ⟨_, rfl⟩
  rw [← hn2, ← hnw2, ← hbl2] at hv3 hU0 ⊢
  clear hn2 hnw2 hbl2
  obtain ⟨V0, ps0, st0, hO0⟩ := hbk0
  have hO0' := hO0
  have CL := Lib.hid (fun w' (hb : Below w.heap.size w w') => clone_b (hO0'.grow hb) okT0)
  obtain ⟨u0, u1, u2, u3, u4, vl, -⟩ := five hv3
  have H := Lib.hid (show ∀ w' (b : Nat) (F : Nat → Prop), BkAt w' F b T → Below w.heap.size w w' → ∀ w'', Below w'.heap.size w' w'' → Calls Try.prog 36 #[ptrV b, ptrV b0] w'' (Gives w'' (.bool true)) from fun w' b F hb hbw w'' hbb => by
    obtain ⟨V, ps, st, hO⟩ := hb
    have h1 := same_b (hO.grow hbb) okT0 (hO0.grow (hbw.trans (hbb.mono hbw.size))) okT0
    rwa [(sameBk_iff T T).2 rfl] at h1)
  have H' := Lib.hid (show ∀ w' (b : Nat) (F : Nat → Prop), BkAt w' F b T → Below w.heap.size w w' → ∀ w'', Below w'.heap.size w' w'' → Calls Try.prog 36 #[ptrV b0, ptrV b] w'' (Gives w'' (.bool true)) from fun w' b F hb hbw w'' hbb => by
    obtain ⟨V, ps, st, hO⟩ := hb
    have h1 := same_b (hO0.grow (hbw.trans (hbb.mono hbw.size))) okT0 (hO.grow hbb) okT0
    rwa [(sameBk_iff T T).2 rfl] at h1)
  have RB0 := Lib.hid (fun w' (hb : Below w.heap.size w w') => hU0.grow hb)
  have BK0 := Lib.hid (fun w' (hb : Below w.heap.size w w') => (hO0.grow hb))
  have hv3h := Lib.hid hv3
  have hU0h := Lib.hid hU0
  have rdh := Lib.hid rd2
  clear hO0 hO0' hU0 rd2 hv3
  (refine wp_region_F (S := (fun w' => w'.cell? ⟨Vw, 0, none⟩ = some (.slice A2 n2 c2) ∧ w'.cell? ⟨Vw, 1, none⟩ = some (.slice rA rm rc) ∧ w'.cell? ⟨Vw, 2, none⟩ = some (.int .i64 rn) ∧ w'.cell? ⟨Vw, 3, none⟩ = some (.int .i64 nw2) ∧ w'.cell? ⟨Vw, 4, none⟩ = some (.bool bl2))) 5 [false, false, false, false, false, false] rfl rfl (by kernel_rfl) ?_ (fun hHeld => ?_); (focus ((try dsimp only); (refine ⟨?_, ?_, ?_, ?_, ?_⟩ <;> simp [go_sem, u0, u1, u2, u3, u4, vl]); done)))
  ((refine AtF.take (oi := ?_) (v := ?_) 0 ?_ ?_ ?_ ?_ (Or.inl ⟨?_, ?_⟩) (by assumption) ?_; rotate_left 2; rfl; kernel_rfl; kernel_rfl; exact (fun _ _ _ h => h); rfl; (focus (intro w hSw; (try dsimp only at hSw); go_simp; (try with_reducible rfl); done)); (try simp only [Act.put, List.setIfInBounds_toArray, List.set_cons_zero, List.set_cons_succ])); (refine AtF.take (oi := ?_) (v := ?_) 2 ?_ ?_ ?_ ?_ (Or.inl ⟨?_, ?_⟩) (by assumption) ?_; rotate_left 2; rfl; kernel_rfl; kernel_rfl; exact (fun _ _ _ h => h); rfl; (focus (intro w hSw; (try dsimp only at hSw); go_simp; (try with_reducible rfl); done)); (try simp only [Act.put, List.setIfInBounds_toArray, List.set_cons_zero, List.set_cons_succ])))
  (refine AtF.either (oi := ?_) (oj := ?_) 1 3 ?_ ?_ ?_ (fun K hK => ?_) (fun K hK => ?_); rotate_left 2; rfl; rfl; kernel_rfl)
  · have hVne : ¬ Vw = w.heap.size := by omega
    ((try go_simp); ((go_at_call 35); (with_reducible refine (CL.out _ (by (repeat' (first | (with_reducible exact Below.refl _ _) | (with_reducible refine Below.alloc ?_ ?_ _) | (with_reducible refine below_ext ?_ ?_ _) | (with_reducible refine Below.drew ?_) | (with_reducible refine below_drewN ?_ _) | (with_reducible refine Below.setCell ?_ ?_ _) | go_size | (simp only [go_sem]; omega) | (simp [go_sem]; done) | (simp [go_sem]; omega))))).mono ?_); (rintro _ _ ⟨b, F, x2, rfl, rfl, hF, hB⟩); replace hF := Lib.hid hF; replace hB := Lib.hid hB); (refine hK.out _ _ ?_ (fun hHeld => ?_)); (focus ((try dsimp only); (refine ⟨?_, ?_, ?_, ?_, ?_⟩ <;> simp [go_sem, u0, u1, u2, u3, u4, vl, hVne]); done)); clear hK K; (try simp only [Act.put, List.setIfInBounds_toArray, List.set_cons_zero, List.set_cons_succ]))
    (refine AtF.only (oi := ?_) 3 ?_ ?_ (fun K hK => ?_); rotate_left 1; rfl; kernel_rfl; (try go_simp); skip; (refine hK.out _ _ ?_ (fun hHeld => ?_)); (focus ((try dsimp only); (refine ⟨?_, ?_, ?_, ?_, ?_⟩ <;> simp [go_sem, u0, u1, u2, u3, u4, vl, hVne, (show ¬ Vw = w.heap.size + x2.sz from by omega)]); done)); clear hK K; (try simp only [Act.put, List.setIfInBounds_toArray, List.set_cons_zero, List.set_cons_succ]))
    (refine AtF.only (oi := ?_) 4 ?_ ?_ (fun K hK => ?_); rotate_left 1; rfl; kernel_rfl; (try go_simp); skip; (refine hK.out _ _ ?_ (fun hHeld => ?_)); (focus ((try dsimp only); (refine ⟨?_, ?_, ?_, ?_, ?_⟩ <;> simp [go_sem, u0, u1, u2, u3, u4, vl, hVne, (show ¬ Vw = w.heap.size + x2.sz from by omega)]); done)); clear hK K; (try simp only [Act.put, List.setIfInBounds_toArray, List.set_cons_zero, List.set_cons_succ]))
    (refine AtF.last (oi := ?_) ?_ ?_ (fun K hK => ?_); rotate_left 1; rfl; kernel_rfl; go_simp; skip; refine hK.out _ _ ?_; clear hK K; (try simp only [Act.put, List.setIfInBounds_toArray, List.set_cons_zero, List.set_cons_succ]))
    obtain ⟨W5, hW5⟩ : ∃ W5, W5 = (ext w x2).alloc (.cells #[.slice A2 n2 c2, .slice rA rm rc, .int .i64 rn, .int .i64 nw2, .bool bl2] 30) := ⟨_, rfl⟩
    obtain ⟨Vb, hVb⟩ : ∃ Vb, Vb = w.heap.size + x2.sz := ⟨_, rfl⟩
    have hb5 : Below w.heap.size w W5 := by rw [hW5]; (repeat' (first | (with_reducible exact Below.refl _ _) | (with_reducible refine Below.alloc ?_ ?_ _) | (with_reducible refine below_ext ?_ ?_ _) | (with_reducible refine Below.drew ?_) | (with_reducible refine below_drewN ?_ _) | (with_reducible refine Below.setCell ?_ ?_ _) | go_size | (simp only [go_sem]; omega) | (simp [go_sem]; done) | (simp [go_sem]; omega)))
    have hs5 : W5.heap.size = w.heap.size + x2.sz + 1 := by rw [hW5]; simp
    have hB5 : BkAt (ext w x2) F b T := hB.out
    have hFl := hB5.lt
    simp only [size_ext] at hFl
    have hF5 : ∀ x, F x → w.heap.size ≤ x := hF.out
    have hv5 : W5.heap[Vb]? = some (.cells (rbC A2 n2 c2 rA rm rc rn nw2 bl2) 30 (0, 0)) := by
      have := heap_alloc_new (ext w x2) (.cells #[.slice A2 n2 c2, .slice rA rm rc, .int .i64 rn, .int .i64 nw2, .bool bl2] 30)
      rw [size_ext] at this
      rw [hW5, hVb]
      exact this
    have hP0 : BPl (fun x => x = Vb) W5 F b Vb A2 n2 c2 rA rm rc rn nw2 bl2 T := by
      refine ⟨hB5.grow (by rw [hW5]; (repeat' (first | (with_reducible exact Below.refl _ _) | (with_reducible refine Below.alloc ?_ ?_ _) | (with_reducible refine below_ext ?_ ?_ _) | (with_reducible refine Below.drew ?_) | (with_reducible refine below_drewN ?_ _) | (with_reducible refine Below.setCell ?_ ?_ _) | go_size | (simp only [go_sem]; omega) | (simp [go_sem]; done) | (simp [go_sem]; omega)))), (hU0h.out.mono (fun x hx g => by rcases g with g | g; exact hF5 x g; omega)).grow hb5, hv5, fun x hx e => by have := hFl x hx; omega, rfl, fun x e => by omega⟩
    have hVw : w.heap.size ≤ Vb := by omega
    have SA := Lib.hid (H.out W5 b F hP0.bk hb5)
    have SB := Lib.hid (H'.out W5 b F hP0.bk hb5)
    obtain ⟨G, hP0⟩ : ∃ G, Hid (BPl G W5 F b Vb A2 n2 c2 rA rm rc rn nw2 bl2 T) := ⟨_, Lib.hid hP0⟩
    rw [← hW5, ← hVb]
    replace hF5 := Lib.hid hF5
    replace hb5 := Lib.hid hb5
    clear hW5 hVb hs5 hv5 hB5 hF hB u0 u1 u2 u3 u4 vl hHeld hVne CL H H'
    go_upto_region 9 with (first | (go_at_call 36; ((with_reducible refine (SA.out _ (by (repeat' (first | (with_reducible exact Below.refl _ _) | (with_reducible refine Below.alloc ?_ ?_ _) | (with_reducible refine below_ext ?_ ?_ _) | (with_reducible refine Below.drew ?_) | (with_reducible refine below_drewN ?_ _) | (with_reducible refine Below.setCell ?_ ?_ _) | go_size | (simp only [go_sem]; omega) | (simp [go_sem]; done) | (simp [go_sem]; omega))))).mono ?_); rintro _ _ hgets; obtain ⟨rfl, y1, rfl⟩ := hgets.get; clear hgets)) | (go_at_call 36; ((with_reducible refine (SB.out _ (by (repeat' (first | (with_reducible exact Below.refl _ _) | (with_reducible refine Below.alloc ?_ ?_ _) | (with_reducible refine below_ext ?_ ?_ _) | (with_reducible refine Below.drew ?_) | (with_reducible refine below_drewN ?_ _) | (with_reducible refine Below.setCell ?_ ?_ _) | go_size | (simp only [go_sem]; omega) | (simp [go_sem]; done) | (simp [go_sem]; omega))))).mono ?_); rintro _ _ hgets; obtain ⟨rfl, y2, rfl⟩ := hgets.get; clear hgets)))
    go_wp2
    go_loopw [12] (fun iv wr => ∃ (i : Nat) (F : Nat → Prop) (B : Option Addr) (n c : Nat) (tA : Option Addr) (tm tc : Nat) (tn nw : Int) (bl : Bool), i ≤ min others.length 12 ∧ iv = .int .i64 i ∧ Hid (BPl G wr F b Vb B n c tA tm tc tn nw bl ((others.take i).foldl bdoS T)) ∧ Hid (∀ x, F x → w.heap.size ≤ x) ∧
      Hid (Below w.heap.size w wr)) (fun iv _ => min others.length 12 - (intOf iv).toNat)
    case atStart => exact ⟨0, F, _, _, _, _, _, _, _, _, _, by omega, rfl, Lib.hid (hP0.out.grow (by (repeat' (first | (with_reducible exact Below.refl _ _) | (with_reducible refine Below.alloc ?_ ?_ _) | (with_reducible refine below_ext ?_ ?_ _) | (with_reducible refine Below.drew ?_) | (with_reducible refine below_drewN ?_ _) | (with_reducible refine Below.setCell ?_ ?_ _) | go_size | (simp only [go_sem]; omega) | (simp [go_sem]; done) | (simp [go_sem]; omega))))), hF5, Lib.hid (hb5.out.trans (Below.mono (B := W5.heap.size) (by (repeat' (first | (with_reducible exact Below.refl _ _) | (with_reducible refine Below.alloc ?_ ?_ _) | (with_reducible refine below_ext ?_ ?_ _) | (with_reducible refine Below.drew ?_) | (with_reducible refine below_drewN ?_ _) | (with_reducible refine Below.setCell ?_ ?_ _) | go_size | (simp only [go_sem]; omega) | (simp [go_sem]; done) | (simp [go_sem]; omega)))) hb5.out.size))⟩
    case round =>
      clear hP0 hF5 hb5 SA SB
      obtain ⟨i, F, B, n, c, tA, tm, tc, tn, nw, bl, hi, rfl, hP, hFw, hbw⟩ := hrel
      by_cases hlt : i < min others.length 12
      · have hlt1 : i < others.length := by omega
        have hlt12 : i < 12 := by omega
        obtain ⟨q, q0, rfl, hq, hx⟩ := rdh.out (by omega)
        have okS : ((others.take i).foldl bdoS T).Ok := playB_ok' _ (fun a h => ha' a (List.mem_of_mem_take h)) _ okT0
        have hact := ha' _ (List.getElem_mem hlt1)
        have hnx := Lib.hid (fold_take T others i hlt1)
        have hxi := hx i hlt1
        generalize (others.take i).foldl bdoS T = S at hP okS hnx
        generalize others[i] = a at hact hnx hxi
        obtain ⟨kd, an, tt, ⟨xt, xl, xb, xr⟩, pr, pc, ⟨yg, yr, yk⟩⟩ := a
        have kw0 := hxi 0 _ rfl; have kw1 := hxi 1 _ rfl; have kw2 := hxi 2 _ rfl; have kw3 := hxi 3 _ rfl; have kw4 := hxi 4 _ rfl; have kw5 := hxi 5 _ rfl; have kw6 := hxi 6 _ rfl; have kw7 := hxi 7 _ rfl; have kw8 := hxi 8 _ rfl; have kw9 := hxi 9 _ rfl; have kw10 := hxi 10 _ rfl; have kw11 := hxi 11 _ rfl
        simp only [Nat.add_zero, ← Nat.add_assoc] at kw0 kw1 kw2 kw3 kw4 kw5 kw6 kw7 kw8 kw9 kw10 kw11
        clear hxi hx
        replace hbw := hbw.out
        replace hFw := hFw.out
        go_upto_region 12 with fail
        obtain ⟨u0, u1, u2, u3, u4, vl, -⟩ := five hP.out.var
        have k0 := (hbw.cell (p := ⟨q, _, none⟩) hq).trans kw0
        have k1 := (hbw.cell (p := ⟨q, _, none⟩) hq).trans kw1
        have k2 := (hbw.cell (p := ⟨q, _, none⟩) hq).trans kw2
        have k3 := (hbw.cell (p := ⟨q, _, none⟩) hq).trans kw3
        have k4 := (hbw.cell (p := ⟨q, _, none⟩) hq).trans kw4
        have k5 := (hbw.cell (p := ⟨q, _, none⟩) hq).trans kw5
        have k6 := (hbw.cell (p := ⟨q, _, none⟩) hq).trans kw6
        have k7 := (hbw.cell (p := ⟨q, _, none⟩) hq).trans kw7
        have k8 := (hbw.cell (p := ⟨q, _, none⟩) hq).trans kw8
        have k9 := (hbw.cell (p := ⟨q, _, none⟩) hq).trans kw9
        have k10 := (hbw.cell (p := ⟨q, _, none⟩) hq).trans kw10
        have k11 := (hbw.cell (p := ⟨q, _, none⟩) hq).trans kw11
        have ql : q < wr.heap.size := Nat.lt_of_lt_of_le hq hbw.size
        have hVN : ¬ Vb = wr.heap.size := by omega
        have hqN : ¬ q = wr.heap.size := by omega
        have DO := Lib.hid (fun w1 (hb : Below wr.heap.size wr w1) Nb (hN : G Nb ∨ wr.heap.size ≤ Nb) (hN1 : Nb < w1.heap.size) => (by
          have h1 : RBk wr (fun x => F x ∨ (G x ∨ x = Nb)) (.agg (rbC B n c tA tm tc tn nw bl)) S := hP.out.ref.mono (fun x hx g => by rcases g with g | g | g; exact .inl g; exact .inr g; subst g; rcases hN with hN | hN; exact .inr hN; omega)
          exact bdo_c (hP.out.bk.grow hb) okS (h1.grow hb) (fun x hx => by rcases hx with hx | hx; exact Nat.lt_of_lt_of_le (hP.out.gl x hx) hb.size; omega) ⟨kd, an, tt, ⟨xt, xl, xb, xr⟩, pr, pc, ⟨yg, yr, yk⟩⟩ hact :
            Calls Try.prog 37 #[ptrV b, .agg #[.slice B n c, .slice tA tm tc, .int .i64 tn, .int .i64 nw, .bool bl], .agg #[.int .i64 kd, .int .i64 an, .int .i64 tt, .int .i64 xt, .int .i64 xl, .int .i64 xb, .int .i64 xr, .int .i64 pr, .int .i64 pc, .int .i32 yg, .int .u8 yr, .bool yk]] w1 (BDoR F b (fun x => G x ∨ x = Nb) (bdoS S ⟨kd, an, tt, ⟨xt, xl, xb, xr⟩, pr, pc, ⟨yg, yr, yk⟩⟩) w1)))
        have okT : (bdoS S ⟨kd, an, tt, ⟨xt, xl, xb, xr⟩, pr, pc, ⟨yg, yr, yk⟩⟩).Ok := bdo_ok okS hact
        obtain ⟨S', hS'⟩ : ∃ S', S' = bdoS S ⟨kd, an, tt, ⟨xt, xl, xb, xr⟩, pr, pc, ⟨yg, yr, yk⟩⟩ := ⟨_, rfl⟩
        rw [← hS'] at DO okT
        replace hS' := Lib.hid hS'
        have hVF : ¬ F Vb := fun f => hP.out.off Vb f hP.out.gv
        have hFl := hP.out.bk.lt
        have hFN : ¬ F wr.heap.size := fun f => by have := hFl _ f; omega
        (refine wp_region_F (S := (fun w' => w'.cell? ⟨Vb, 0, none⟩ = some (.slice B n c) ∧ w'.cell? ⟨Vb, 1, none⟩ = some (.slice tA tm tc) ∧ w'.cell? ⟨Vb, 2, none⟩ = some (.int .i64 tn) ∧ w'.cell? ⟨Vb, 3, none⟩ = some (.int .i64 nw) ∧ w'.cell? ⟨Vb, 4, none⟩ = some (.bool bl) ∧ w'.cell? ⟨q, q0 + i * 12, none⟩ = some (.int .i64 kd) ∧ w'.cell? ⟨q, q0 + i * 12 + 1, none⟩ = some (.int .i64 an) ∧ w'.cell? ⟨q, q0 + i * 12 + 2, none⟩ = some (.int .i64 tt) ∧ w'.cell? ⟨q, q0 + i * 12 + 3, none⟩ = some (.int .i64 xt) ∧ w'.cell? ⟨q, q0 + i * 12 + 4, none⟩ = some (.int .i64 xl) ∧ w'.cell? ⟨q, q0 + i * 12 + 5, none⟩ = some (.int .i64 xb) ∧ w'.cell? ⟨q, q0 + i * 12 + 6, none⟩ = some (.int .i64 xr) ∧ w'.cell? ⟨q, q0 + i * 12 + 7, none⟩ = some (.int .i64 pr) ∧ w'.cell? ⟨q, q0 + i * 12 + 8, none⟩ = some (.int .i64 pc) ∧ w'.cell? ⟨q, q0 + i * 12 + 9, none⟩ = some (.int .i32 yg) ∧ w'.cell? ⟨q, q0 + i * 12 + 10, none⟩ = some (.int .u8 yr) ∧ w'.cell? ⟨q, q0 + i * 12 + 11, none⟩ = some (.bool yk))) 12 [false, false, false, false, false, false, false, false, false, false, false, false, false] rfl rfl (by kernel_rfl) ?_ (fun hHeld => ?_); (focus ((try dsimp only); (refine ⟨?_, ?_, ?_, ?_, ?_, ?_, ?_, ?_, ?_, ?_, ?_, ?_, ?_, ?_, ?_, ?_, ?_⟩ <;> simp [go_sem, u0, u1, u2, u3, u4, k0, k1, k2, k3, k4, k5, k6, k7, k8, k9, k10, k11, vl, ql, hVN, hqN]); done)))
        ((refine AtF.take (oi := ?_) (v := ?_) 0 ?_ ?_ ?_ ?_ (Or.inl ⟨?_, ?_⟩) (by assumption) ?_; rotate_left 2; rfl; kernel_rfl; kernel_rfl; exact (fun _ _ _ h => h); rfl; (focus (intro w hSw; (try dsimp only at hSw); go_simp; (try with_reducible rfl); done)); (try simp only [Act.put, List.setIfInBounds_toArray, List.set_cons_zero, List.set_cons_succ])); (refine AtF.take (oi := ?_) (v := ?_) 1 ?_ ?_ ?_ ?_ (Or.inl ⟨?_, ?_⟩) (by assumption) ?_; rotate_left 2; rfl; kernel_rfl; kernel_rfl; exact (fun _ _ _ h => h); rfl; (focus (intro w hSw; (try dsimp only at hSw); go_simp; (try with_reducible rfl); done)); (try simp only [Act.put, List.setIfInBounds_toArray, List.set_cons_zero, List.set_cons_succ])); (refine AtF.take (oi := ?_) (v := ?_) 2 ?_ ?_ ?_ ?_ (Or.inl ⟨?_, ?_⟩) (by assumption) ?_; rotate_left 2; rfl; kernel_rfl; kernel_rfl; exact (fun _ _ _ h => h); rfl; (focus (intro w hSw; (try dsimp only at hSw); go_simp; (try with_reducible rfl); done)); (try simp only [Act.put, List.setIfInBounds_toArray, List.set_cons_zero, List.set_cons_succ])); (refine AtF.take (oi := ?_) (v := ?_) 3 ?_ ?_ ?_ ?_ (Or.inl ⟨?_, ?_⟩) (by assumption) ?_; rotate_left 2; rfl; kernel_rfl; kernel_rfl; exact (fun _ _ _ h => h); rfl; (focus (intro w hSw; (try dsimp only at hSw); go_simp; (try with_reducible rfl); done)); (try simp only [Act.put, List.setIfInBounds_toArray, List.set_cons_zero, List.set_cons_succ])); (refine AtF.take (oi := ?_) (v := ?_) 4 ?_ ?_ ?_ ?_ (Or.inl ⟨?_, ?_⟩) (by assumption) ?_; rotate_left 2; rfl; kernel_rfl; kernel_rfl; exact (fun _ _ _ h => h); rfl; (focus (intro w hSw; (try dsimp only at hSw); go_simp; (try with_reducible rfl); done)); (try simp only [Act.put, List.setIfInBounds_toArray, List.set_cons_zero, List.set_cons_succ])); (refine AtF.take (oi := ?_) (v := ?_) 5 ?_ ?_ ?_ ?_ (Or.inl ⟨?_, ?_⟩) (by assumption) ?_; rotate_left 2; rfl; kernel_rfl; kernel_rfl; exact (fun _ _ _ h => h); rfl; (focus (intro w hSw; (try dsimp only at hSw); go_simp; (try with_reducible rfl); done)); (try simp only [Act.put, List.setIfInBounds_toArray, List.set_cons_zero, List.set_cons_succ])))
        (refine AtF.either (oi := ?_) (oj := ?_) 6 10 ?_ ?_ ?_ (fun K hK => ?_) (fun K hK => ?_); rotate_left 2; rfl; rfl; kernel_rfl)
        · ((try go_simp); ((go_at_call 37); (with_reducible refine (DO.out _ (by (repeat' (first | (with_reducible exact Below.refl _ _) | (with_reducible refine Below.alloc ?_ ?_ _) | (with_reducible refine below_ext ?_ ?_ _) | (with_reducible refine Below.drew ?_) | (with_reducible refine below_drewN ?_ _) | (with_reducible refine Below.setCell ?_ ?_ _) | go_size | (simp only [go_sem]; omega) | (simp [go_sem]; done) | (simp [go_sem]; omega)))) Vb (.inl hP.out.gv) (Nat.lt_of_lt_of_le vl (by simp))).mono ?_); (intro e' w2 hd); (obtain ⟨F', A3, n3, c3, sA3, sm3, sc3, sn3, nw3, bl3, rfl, hm⟩ := hP.out.mid (show Below wr.heap.size wr _ by (repeat' (first | (with_reducible exact Below.refl _ _) | (with_reducible refine Below.alloc ?_ ?_ _) | (with_reducible refine below_ext ?_ ?_ _) | (with_reducible refine Below.drew ?_) | (with_reducible refine below_drewN ?_ _) | (with_reducible refine Below.setCell ?_ ?_ _) | go_size | (simp only [go_sem]; omega) | (simp [go_sem]; done) | (simp [go_sem]; omega)))) (Nat.lt_of_lt_of_le vl (by simp)) hVF hd); clear hd; have hw2 : Below w.heap.size w w2 := hbw.trans (hm.keep.below (fun x f => hFw x f) hbw.size); have yV := (hm.keep.block Vb (heap_in hP.out.var) hVF).trans hP.out.var; obtain ⟨z0, z1, z2, z3, z4, vl2, zf⟩ := five yV; have l0 := (hw2.cell (p := ⟨q, _, none⟩) hq).trans kw0; have l1 := (hw2.cell (p := ⟨q, _, none⟩) hq).trans kw1; have l2 := (hw2.cell (p := ⟨q, _, none⟩) hq).trans kw2; have l3 := (hw2.cell (p := ⟨q, _, none⟩) hq).trans kw3; have l4 := (hw2.cell (p := ⟨q, _, none⟩) hq).trans kw4; have l5 := (hw2.cell (p := ⟨q, _, none⟩) hq).trans kw5; have l6 := (hw2.cell (p := ⟨q, _, none⟩) hq).trans kw6; have l7 := (hw2.cell (p := ⟨q, _, none⟩) hq).trans kw7; have l8 := (hw2.cell (p := ⟨q, _, none⟩) hq).trans kw8; have l9 := (hw2.cell (p := ⟨q, _, none⟩) hq).trans kw9; have l10 := (hw2.cell (p := ⟨q, _, none⟩) hq).trans kw10; have l11 := (hw2.cell (p := ⟨q, _, none⟩) hq).trans kw11; have ql2 : q < w2.heap.size := Nat.lt_of_lt_of_le hq hw2.size; have hVN2 : ¬ Vb = w2.heap.size := (by omega); have hqN2 : ¬ q = w2.heap.size := (by omega); replace hm := Lib.hid hm; replace yV := Lib.hid yV; have zf0 := zf 0; have zf1 := zf 1; have zf2 := zf 2; have zf3 := zf 3; have zf4 := zf 4; clear zf); (refine hK.out _ _ ?_ (fun hHeld => ?_)); (focus ((try dsimp only); (refine ⟨?_, ?_, ?_, ?_, ?_, ?_, ?_, ?_, ?_, ?_, ?_, ?_, ?_, ?_, ?_, ?_, ?_⟩ <;> simp [go_sem, z0, z1, z2, z3, z4, l0, l1, l2, l3, l4, l5, l6, l7, l8, l9, l10, l11, vl2, ql2, hVN, hqN, hVN2, hqN2]); done)); clear hK K; (try simp only [Act.put, List.setIfInBounds_toArray, List.set_cons_zero, List.set_cons_succ]))
          ((refine AtF.take (oi := ?_) (v := ?_) 7 ?_ ?_ ?_ ?_ (Or.inl ⟨?_, ?_⟩) (by assumption) ?_; rotate_left 2; rfl; kernel_rfl; kernel_rfl; exact (fun _ _ _ h => h); rfl; (focus (intro w hSw; (try dsimp only at hSw); go_simp; (try with_reducible rfl); done)); (try simp only [Act.put, List.setIfInBounds_toArray, List.set_cons_zero, List.set_cons_succ])); (refine AtF.take (oi := ?_) (v := ?_) 8 ?_ ?_ ?_ ?_ (Or.inl ⟨?_, ?_⟩) (by assumption) ?_; rotate_left 2; rfl; kernel_rfl; kernel_rfl; exact (fun _ _ _ h => h); rfl; (focus (intro w hSw; (try dsimp only at hSw); go_simp; (try with_reducible rfl); done)); (try simp only [Act.put, List.setIfInBounds_toArray, List.set_cons_zero, List.set_cons_succ])); (refine AtF.take (oi := ?_) (v := ?_) 9 ?_ ?_ ?_ ?_ (Or.inl ⟨?_, ?_⟩) (by assumption) ?_; rotate_left 2; rfl; kernel_rfl; kernel_rfl; exact (fun _ _ _ h => h); rfl; (focus (intro w hSw; (try dsimp only at hSw); go_simp; (try with_reducible rfl); done)); (try simp only [Act.put, List.setIfInBounds_toArray, List.set_cons_zero, List.set_cons_succ])))
          (refine AtF.only (oi := ?_) 10 ?_ ?_ (fun K hK => ?_); rotate_left 1; rfl; kernel_rfl; (try go_simp); skip; (refine hK.out _ _ ?_ (fun hHeld => ?_)); (focus ((try dsimp only); (refine ⟨?_, ?_, ?_, ?_, ?_, ?_, ?_, ?_, ?_, ?_, ?_, ?_, ?_, ?_, ?_, ?_, ?_⟩ <;> simp [go_sem, z0, z1, z2, z3, z4, l0, l1, l2, l3, l4, l5, l6, l7, l8, l9, l10, l11, vl2, ql2, hVN, hqN, hVN2, hqN2]); done)); clear hK K; (try simp only [Act.put, List.setIfInBounds_toArray, List.set_cons_zero, List.set_cons_succ]))
          (refine AtF.only (oi := ?_) 11 ?_ ?_ (fun K hK => ?_); rotate_left 1; rfl; kernel_rfl; (try go_simp); skip; (refine hK.out _ _ ?_ (fun hHeld => ?_)); (focus ((try dsimp only); (refine ⟨?_, ?_, ?_, ?_, ?_, ?_, ?_, ?_, ?_, ?_, ?_, ?_, ?_, ?_, ?_, ?_, ?_⟩ <;> simp [go_sem, z0, z1, z2, z3, z4, l0, l1, l2, l3, l4, l5, l6, l7, l8, l9, l10, l11, vl2, ql2, hVN, hqN, hVN2, hqN2]); done)); clear hK K; (try simp only [Act.put, List.setIfInBounds_toArray, List.set_cons_zero, List.set_cons_succ]))
          (refine AtF.last (oi := ?_) ?_ ?_ (fun K hK => ?_); rotate_left 1; rfl; kernel_rfl; go_simp; skip; refine hK.out _ _ ?_; clear hK K; (try simp only [Act.put, List.setIfInBounds_toArray, List.set_cons_zero, List.set_cons_succ]))
          go_upto_region 14 with fail
          obtain ⟨W3, h3, hk3, hs3⟩ := store5 yV.out (.slice A3 n3 c3) (.slice sA3 sm3 sc3) (.int .i64 sn3) (.int .i64 nw3) (.bool bl3)
          rw [h3]
          obtain ⟨W4, hW4⟩ : ∃ W4, W4 = W3.alloc (.cells #[.slice A3 n3 c3, .slice sA3 sm3 sc3, .int .i64 sn3, .int .i64 nw3, .bool bl3] 30) := ⟨_, rfl⟩
          have hg4 : Below W3.heap.size W3 W4 := by rw [hW4]; (repeat' (first | (with_reducible exact Below.refl _ _) | (with_reducible refine Below.alloc ?_ ?_ _) | (with_reducible refine below_ext ?_ ?_ _) | (with_reducible refine Below.drew ?_) | (with_reducible refine below_drewN ?_ _) | (with_reducible refine Below.setCell ?_ ?_ _) | go_size | (simp only [go_sem]; omega) | (simp [go_sem]; done) | (simp [go_sem]; omega)))
          rw [← hW4]
          have hs4 := (hg4.block Vb (heap_in hs3)).trans hs3
          have hk4 : Keep (fun x => x = Vb ∨ x = Vb) w2 W4 := (hk3.mono (fun x hx => .inl hx)).trans (Keep.of_below (F := fun _ => False) hg4) (fun _ f => f.elim)
          have hP2 := hP.out.fin hm.out hk4 hs4
          have hkN := hk4.mono (G := fun x => x = wr.heap.size ∨ x = Vb) (fun x hx => .inr (hx.elim id id))
          clear hW4 hg4 h3 hk3 hs3 hk4
          have hbN : Below w.heap.size w W4 := hw2.trans (hkN.below (fun x hx => by have := hbw.size; rcases hx with hx | hx <;> omega) hw2.size)
          have hnewF := Lib.hid (fun x (hx : F' x) => (hm.out.new x hx).elim (hFw x) (fun e => Nat.le_trans hbw.size e))
          obtain ⟨VV, ps, st, hO⟩ := hP2.bk
          have hO0 := BK0.out _ hbN
          have hU := RB0.out _ hbN
          have IS := Lib.hid (fun w' (hb : Below W4.heap.size W4 w') => bis_c (hO.grow hb) okT (hP2.ref.grow hb))
          have IS0 := Lib.hid (fun w' (hb : Below W4.heap.size W4 w') => bis_c (hO0.grow hb) okT0 (hU.grow hb))
          have SB := Lib.hid (fun w' (hb : Below W4.heap.size W4 w') => same_b (hO.grow hb) okT (hO0.grow hb) okT0)
          have RS := Lib.hid (fun w' (hb : Below W4.heap.size W4 w') => rsame_c (hP2.ref.grow hb) okT (hU.grow hb) okT0)
          generalize sameBk S' T = s at SB RS
          have hvw := (hbN.block Vw hVlt).trans hv3h.out
          obtain ⟨t0, t1, t2, t3, t4, tl, -⟩ := five hs4
          obtain ⟨v0', v1', v2', v3', v4', vwl, -⟩ := five hvw
          replace hP2 := Lib.hid hP2
          replace hbN := Lib.hid hbN
          clear hO hO0 hU hs4 hvw hkN hm yV DO
          clear u0 u1 u2 u3 u4 k0 k1 k2 k3 k4 k5 k6 k7 k8 k9 k10 k11 l0 l1 l2 l3 l4 l5 l6 l7 l8 l9 l10 l11 z0 z1 z2 z3 z4 zf0 zf1 zf2 zf3 zf4
          (refine wp_region_free (by kernel_rfl) (by kernel_rfl) ?_)
          repeat (go_big_quiet_step (first | ((go_at_call 9; with_reducible exact Calls.free (IS.out _ (by (repeat' (first | (with_reducible exact Below.refl _ _) | (with_reducible refine Below.alloc ?_ ?_ _) | (with_reducible refine below_ext ?_ ?_ _) | (with_reducible refine Below.drew ?_) | (with_reducible refine below_drewN ?_ _) | (with_reducible refine Below.setCell ?_ ?_ _) | go_size | (simp only [go_sem]; omega) | (simp [go_sem]; done) | (simp [go_sem]; omega))))))) | ((go_at_call 9; with_reducible exact Calls.free (IS0.out _ (by (repeat' (first | (with_reducible exact Below.refl _ _) | (with_reducible refine Below.alloc ?_ ?_ _) | (with_reducible refine below_ext ?_ ?_ _) | (with_reducible refine Below.drew ?_) | (with_reducible refine below_drewN ?_ _) | (with_reducible refine Below.setCell ?_ ?_ _) | go_size | (simp only [go_sem]; omega) | (simp [go_sem]; done) | (simp [go_sem]; omega))))))) | ((go_at_call 36; with_reducible exact Calls.free (SB.out _ (by (repeat' (first | (with_reducible exact Below.refl _ _) | (with_reducible refine Below.alloc ?_ ?_ _) | (with_reducible refine below_ext ?_ ?_ _) | (with_reducible refine Below.drew ?_) | (with_reducible refine below_drewN ?_ _) | (with_reducible refine Below.setCell ?_ ?_ _) | go_size | (simp only [go_sem]; omega) | (simp [go_sem]; done) | (simp [go_sem]; omega))))))) | ((go_at_call 38; with_reducible exact Calls.free (RS.out _ (by (repeat' (first | (with_reducible exact Below.refl _ _) | (with_reducible refine Below.alloc ?_ ?_ _) | (with_reducible refine below_ext ?_ ?_ _) | (with_reducible refine Below.drew ?_) | (with_reducible refine below_drewN ?_ _) | (with_reducible refine Below.setCell ?_ ?_ _) | go_size | (simp only [go_sem]; omega) | (simp [go_sem]; done) | (simp [go_sem]; omega)))))))))
          refine wpQuiet_nil ?_; rintro _ ⟨y9, rfl⟩
          go_wp2
          have hPf : Hid (BPl G (ext W4 y9) F' b Vb A3 n3 c3 sA3 sm3 sc3 sn3 nw3 bl3 _) := Lib.hid (hP2.out.grow (below_of_ext W4 y9))
          rw [hS'.out, ← hnx.out] at hPf
          exact ⟨⟨i + 1, F', A3, n3, c3, sA3, sm3, sc3, sn3, nw3, bl3, by omega, by go_num, hPf, hnewF, Lib.hid (below_ext hbN.out hbN.out.size y9)⟩, by simp [intOf]; omega⟩
        · ((try go_simp); skip; (refine hK.out _ _ ?_ (fun hHeld => ?_)); (focus ((try dsimp only); (refine ⟨?_, ?_, ?_, ?_, ?_, ?_, ?_, ?_, ?_, ?_, ?_, ?_, ?_, ?_, ?_, ?_, ?_⟩ <;> simp [go_sem, u0, u1, u2, u3, u4, k0, k1, k2, k3, k4, k5, k6, k7, k8, k9, k10, k11, vl, ql, hVN, hqN]); done)); clear hK K; (try simp only [Act.put, List.setIfInBounds_toArray, List.set_cons_zero, List.set_cons_succ]))
          (refine AtF.only (oi := ?_) 6 ?_ ?_ (fun K hK => ?_); rotate_left 1; rfl; kernel_rfl; (try go_simp); ((go_at_call 37); (with_reducible refine (DO.out _ (by (repeat' (first | (with_reducible exact Below.refl _ _) | (with_reducible refine Below.alloc ?_ ?_ _) | (with_reducible refine below_ext ?_ ?_ _) | (with_reducible refine Below.drew ?_) | (with_reducible refine below_drewN ?_ _) | (with_reducible refine Below.setCell ?_ ?_ _) | go_size | (simp only [go_sem]; omega) | (simp [go_sem]; done) | (simp [go_sem]; omega)))) wr.heap.size (.inr (Nat.le_refl _)) (by simp)).mono ?_); (intro e' w2 hd); have yN := (hd.keep.block wr.heap.size (by simp) hFN).trans (heap_alloc_new _ _); obtain ⟨y0, y1, y2, y3, y4, yl, yf⟩ := five yN; have yf0 := yf 0; have yf1 := yf 1; have yf2 := yf 2; have yf3 := yf 3; have yf4 := yf 4; clear yf; replace yN := Lib.hid yN; (obtain ⟨F', A3, n3, c3, sA3, sm3, sc3, sn3, nw3, bl3, rfl, hm⟩ := hP.out.mid (show Below wr.heap.size wr _ by (repeat' (first | (with_reducible exact Below.refl _ _) | (with_reducible refine Below.alloc ?_ ?_ _) | (with_reducible refine below_ext ?_ ?_ _) | (with_reducible refine Below.drew ?_) | (with_reducible refine below_drewN ?_ _) | (with_reducible refine Below.setCell ?_ ?_ _) | go_size | (simp only [go_sem]; omega) | (simp [go_sem]; done) | (simp [go_sem]; omega)))) (by simp) hFN hd); clear hd; have hw2 : Below w.heap.size w w2 := hbw.trans (hm.keep.below (fun x f => hFw x f) hbw.size); have yV := (hm.keep.block Vb (heap_in hP.out.var) hVF).trans hP.out.var; obtain ⟨z0, z1, z2, z3, z4, vl2, zf⟩ := five yV; have l0 := (hw2.cell (p := ⟨q, _, none⟩) hq).trans kw0; have l1 := (hw2.cell (p := ⟨q, _, none⟩) hq).trans kw1; have l2 := (hw2.cell (p := ⟨q, _, none⟩) hq).trans kw2; have l3 := (hw2.cell (p := ⟨q, _, none⟩) hq).trans kw3; have l4 := (hw2.cell (p := ⟨q, _, none⟩) hq).trans kw4; have l5 := (hw2.cell (p := ⟨q, _, none⟩) hq).trans kw5; have l6 := (hw2.cell (p := ⟨q, _, none⟩) hq).trans kw6; have l7 := (hw2.cell (p := ⟨q, _, none⟩) hq).trans kw7; have l8 := (hw2.cell (p := ⟨q, _, none⟩) hq).trans kw8; have l9 := (hw2.cell (p := ⟨q, _, none⟩) hq).trans kw9; have l10 := (hw2.cell (p := ⟨q, _, none⟩) hq).trans kw10; have l11 := (hw2.cell (p := ⟨q, _, none⟩) hq).trans kw11; have ql2 : q < w2.heap.size := Nat.lt_of_lt_of_le hq hw2.size; have hVN2 : ¬ Vb = w2.heap.size := (by omega); have hqN2 : ¬ q = w2.heap.size := (by omega); replace hm := Lib.hid hm; replace yV := Lib.hid yV; have zf0 := zf 0; have zf1 := zf 1; have zf2 := zf 2; have zf3 := zf 3; have zf4 := zf 4; clear zf); (refine hK.out _ _ ?_ (fun hHeld => ?_)); (focus ((try dsimp only); (refine ⟨?_, ?_, ?_, ?_, ?_, ?_, ?_, ?_, ?_, ?_, ?_, ?_, ?_, ?_, ?_, ?_, ?_⟩ <;> simp [go_sem, z0, z1, z2, z3, z4, l0, l1, l2, l3, l4, l5, l6, l7, l8, l9, l10, l11, vl2, ql2, hVN, hqN, hVN2, hqN2]); done)); clear hK K; (try simp only [Act.put, List.setIfInBounds_toArray, List.set_cons_zero, List.set_cons_succ]))
          ((refine AtF.take (oi := ?_) (v := ?_) 7 ?_ ?_ ?_ ?_ (Or.inl ⟨?_, ?_⟩) (by assumption) ?_; rotate_left 2; rfl; kernel_rfl; kernel_rfl; exact (fun _ _ _ h => h); rfl; (focus (intro w hSw; (try dsimp only at hSw); go_simp; (try with_reducible rfl); done)); (try simp only [Act.put, List.setIfInBounds_toArray, List.set_cons_zero, List.set_cons_succ])); (refine AtF.take (oi := ?_) (v := ?_) 8 ?_ ?_ ?_ ?_ (Or.inl ⟨?_, ?_⟩) (by assumption) ?_; rotate_left 2; rfl; kernel_rfl; kernel_rfl; exact (fun _ _ _ h => h); rfl; (focus (intro w hSw; (try dsimp only at hSw); go_simp; (try with_reducible rfl); done)); (try simp only [Act.put, List.setIfInBounds_toArray, List.set_cons_zero, List.set_cons_succ])); (refine AtF.take (oi := ?_) (v := ?_) 9 ?_ ?_ ?_ ?_ (Or.inl ⟨?_, ?_⟩) (by assumption) ?_; rotate_left 2; rfl; kernel_rfl; kernel_rfl; exact (fun _ _ _ h => h); rfl; (focus (intro w hSw; (try dsimp only at hSw); go_simp; (try with_reducible rfl); done)); (try simp only [Act.put, List.setIfInBounds_toArray, List.set_cons_zero, List.set_cons_succ])))
          (refine AtF.only (oi := ?_) 11 ?_ ?_ (fun K hK => ?_); rotate_left 1; rfl; kernel_rfl; (try go_simp); skip; (refine hK.out _ _ ?_ (fun hHeld => ?_)); (focus ((try dsimp only); (refine ⟨?_, ?_, ?_, ?_, ?_, ?_, ?_, ?_, ?_, ?_, ?_, ?_, ?_, ?_, ?_, ?_, ?_⟩ <;> simp [go_sem, z0, z1, z2, z3, z4, l0, l1, l2, l3, l4, l5, l6, l7, l8, l9, l10, l11, vl2, ql2, hVN, hqN, hVN2, hqN2]); done)); clear hK K; (try simp only [Act.put, List.setIfInBounds_toArray, List.set_cons_zero, List.set_cons_succ]))
          (refine AtF.last (oi := ?_) ?_ ?_ (fun K hK => ?_); rotate_left 1; rfl; kernel_rfl; go_simp; skip; refine hK.out _ _ ?_; clear hK K; (try simp only [Act.put, List.setIfInBounds_toArray, List.set_cons_zero, List.set_cons_succ]))
          obtain ⟨W3, h3, hk3, hs3⟩ := store5 yN.out (.slice A3 n3 c3) (.slice sA3 sm3 sc3) (.int .i64 sn3) (.int .i64 nw3) (.bool bl3)
          rw [h3]
          obtain ⟨s0, s1, s2, s3, s4, sl, -⟩ := five hs3
          have yV3 := (hk3.block Vb vl2 hVN).trans yV.out
          obtain ⟨v0, v1, v2, v3, v4, vl3, vf⟩ := five yV3
          have vf0 := vf 0
          have vf1 := vf 1
          have vf2 := vf 2
          have vf3 := vf 3
          have vf4 := vf 4
          clear vf h3 hs3
          replace yV3 := Lib.hid yV3
          go_upto_region 14 with fail
          obtain ⟨W4, h4, hk4, hs4⟩ := store5 yV3.out (.slice A3 n3 c3) (.slice sA3 sm3 sc3) (.int .i64 sn3) (.int .i64 nw3) (.bool bl3)
          rw [h4]
          have hkN : Keep (fun x => x = wr.heap.size ∨ x = Vb) w2 W4 := (hk3.mono (fun x hx => .inl hx)).trans hk4 (fun x hx => .inl (.inr hx))
          have hP2 := hP.out.fin hm.out hkN hs4
          clear h4 hk4 hk3 yV3 yN
          have hbN : Below w.heap.size w W4 := hw2.trans (hkN.below (fun x hx => by have := hbw.size; rcases hx with hx | hx <;> omega) hw2.size)
          have hnewF := Lib.hid (fun x (hx : F' x) => (hm.out.new x hx).elim (hFw x) (fun e => Nat.le_trans hbw.size e))
          obtain ⟨VV, ps, st, hO⟩ := hP2.bk
          have hO0 := BK0.out _ hbN
          have hU := RB0.out _ hbN
          have IS := Lib.hid (fun w' (hb : Below W4.heap.size W4 w') => bis_c (hO.grow hb) okT (hP2.ref.grow hb))
          have IS0 := Lib.hid (fun w' (hb : Below W4.heap.size W4 w') => bis_c (hO0.grow hb) okT0 (hU.grow hb))
          have SB := Lib.hid (fun w' (hb : Below W4.heap.size W4 w') => same_b (hO.grow hb) okT (hO0.grow hb) okT0)
          have RS := Lib.hid (fun w' (hb : Below W4.heap.size W4 w') => rsame_c (hP2.ref.grow hb) okT (hU.grow hb) okT0)
          generalize sameBk S' T = s at SB RS
          have hvw := (hbN.block Vw hVlt).trans hv3h.out
          obtain ⟨t0, t1, t2, t3, t4, tl, -⟩ := five hs4
          obtain ⟨v0', v1', v2', v3', v4', vwl, -⟩ := five hvw
          replace hP2 := Lib.hid hP2
          replace hbN := Lib.hid hbN
          clear hO hO0 hU hs4 hvw hkN hm yV DO
          clear u0 u1 u2 u3 u4 k0 k1 k2 k3 k4 k5 k6 k7 k8 k9 k10 k11 l0 l1 l2 l3 l4 l5 l6 l7 l8 l9 l10 l11 z0 z1 z2 z3 z4 zf0 zf1 zf2 zf3 zf4
          (refine wp_region_free (by kernel_rfl) (by kernel_rfl) ?_)
          repeat (go_big_quiet_step (first | ((go_at_call 9; with_reducible exact Calls.free (IS.out _ (by (repeat' (first | (with_reducible exact Below.refl _ _) | (with_reducible refine Below.alloc ?_ ?_ _) | (with_reducible refine below_ext ?_ ?_ _) | (with_reducible refine Below.drew ?_) | (with_reducible refine below_drewN ?_ _) | (with_reducible refine Below.setCell ?_ ?_ _) | go_size | (simp only [go_sem]; omega) | (simp [go_sem]; done) | (simp [go_sem]; omega))))))) | ((go_at_call 9; with_reducible exact Calls.free (IS0.out _ (by (repeat' (first | (with_reducible exact Below.refl _ _) | (with_reducible refine Below.alloc ?_ ?_ _) | (with_reducible refine below_ext ?_ ?_ _) | (with_reducible refine Below.drew ?_) | (with_reducible refine below_drewN ?_ _) | (with_reducible refine Below.setCell ?_ ?_ _) | go_size | (simp only [go_sem]; omega) | (simp [go_sem]; done) | (simp [go_sem]; omega))))))) | ((go_at_call 36; with_reducible exact Calls.free (SB.out _ (by (repeat' (first | (with_reducible exact Below.refl _ _) | (with_reducible refine Below.alloc ?_ ?_ _) | (with_reducible refine below_ext ?_ ?_ _) | (with_reducible refine Below.drew ?_) | (with_reducible refine below_drewN ?_ _) | (with_reducible refine Below.setCell ?_ ?_ _) | go_size | (simp only [go_sem]; omega) | (simp [go_sem]; done) | (simp [go_sem]; omega))))))) | ((go_at_call 38; with_reducible exact Calls.free (RS.out _ (by (repeat' (first | (with_reducible exact Below.refl _ _) | (with_reducible refine Below.alloc ?_ ?_ _) | (with_reducible refine below_ext ?_ ?_ _) | (with_reducible refine Below.drew ?_) | (with_reducible refine below_drewN ?_ _) | (with_reducible refine Below.setCell ?_ ?_ _) | go_size | (simp only [go_sem]; omega) | (simp [go_sem]; done) | (simp [go_sem]; omega)))))))))
          refine wpQuiet_nil ?_; rintro _ ⟨y9, rfl⟩
          go_wp2
          have hPf : Hid (BPl G (ext W4 y9) F' b Vb A3 n3 c3 sA3 sm3 sc3 sn3 nw3 bl3 _) := Lib.hid (hP2.out.grow (below_of_ext W4 y9))
          rw [hS'.out, ← hnx.out] at hPf
          exact ⟨⟨i + 1, F', A3, n3, c3, sA3, sm3, sc3, sn3, nw3, bl3, by omega, by go_num, hPf, hnewF, Lib.hid (below_ext hbN.out hbN.out.size y9)⟩, by simp [intOf]; omega⟩
      · have hcon : (¬ i < others.length) ∨ (i < others.length ∧ ¬ i < 12) := by omega
        have hi12 : i ≤ 12 := by omega
        clear hlt hi hlen
        rcases hcon with hc1 | ⟨hc1, hc2⟩
        · go_wp2
          go_returns
          exact ⟨rfl, hbw0.out.trans (hbw.out.mono hbw0.out.size)⟩
        · go_wp2
          go_returns
          exact ⟨rfl, hbw0.out.trans (hbw.out.mono hbw0.out.size)⟩
  · have hVne : ¬ Vw = w.heap.size := by omega
    ((try go_simp); skip; (refine hK.out _ _ ?_ (fun hHeld => ?_)); (focus ((try dsimp only); (refine ⟨?_, ?_, ?_, ?_, ?_⟩ <;> simp [go_sem, u0, u1, u2, u3, u4, vl, hVne]); done)); clear hK K; (try simp only [Act.put, List.setIfInBounds_toArray, List.set_cons_zero, List.set_cons_succ]))
    (refine AtF.only (oi := ?_) 1 ?_ ?_ (fun K hK => ?_); rotate_left 1; rfl; kernel_rfl; (try go_simp); ((go_at_call 35); (with_reducible refine (CL.out _ (by (repeat' (first | (with_reducible exact Below.refl _ _) | (with_reducible refine Below.alloc ?_ ?_ _) | (with_reducible refine below_ext ?_ ?_ _) | (with_reducible refine Below.drew ?_) | (with_reducible refine below_drewN ?_ _) | (with_reducible refine Below.setCell ?_ ?_ _) | go_size | (simp only [go_sem]; omega) | (simp [go_sem]; done) | (simp [go_sem]; omega))))).mono ?_); (rintro _ _ ⟨b, F, x2, rfl, rfl, hF, hB⟩); replace hF := Lib.hid hF; replace hB := Lib.hid hB); (refine hK.out _ _ ?_ (fun hHeld => ?_)); (focus ((try dsimp only); (refine ⟨?_, ?_, ?_, ?_, ?_⟩ <;> simp [go_sem, u0, u1, u2, u3, u4, vl, hVne]); done)); clear hK K; (try simp only [Act.put, List.setIfInBounds_toArray, List.set_cons_zero, List.set_cons_succ]))
    (refine AtF.only (oi := ?_) 4 ?_ ?_ (fun K hK => ?_); rotate_left 1; rfl; kernel_rfl; (try go_simp); skip; (refine hK.out _ _ ?_ (fun hHeld => ?_)); (focus ((try dsimp only); (refine ⟨?_, ?_, ?_, ?_, ?_⟩ <;> simp [go_sem, u0, u1, u2, u3, u4, vl, hVne]); done)); clear hK K; (try simp only [Act.put, List.setIfInBounds_toArray, List.set_cons_zero, List.set_cons_succ]))
    (refine AtF.last (oi := ?_) ?_ ?_ (fun K hK => ?_); rotate_left 1; rfl; kernel_rfl; go_simp; skip; refine hK.out _ _ ?_; clear hK K; (try simp only [Act.put, List.setIfInBounds_toArray, List.set_cons_zero, List.set_cons_succ]))
    obtain ⟨W5, hW5⟩ : ∃ W5, W5 = ext (w.alloc (.cells #[.slice A2 n2 c2, .slice rA rm rc, .int .i64 rn, .int .i64 nw2, .bool bl2] 30)) x2 := ⟨_, rfl⟩
    obtain ⟨Vb, hVb⟩ : ∃ Vb, Vb = w.heap.size := ⟨_, rfl⟩
    have hb5 : Below w.heap.size w W5 := by rw [hW5]; (repeat' (first | (with_reducible exact Below.refl _ _) | (with_reducible refine Below.alloc ?_ ?_ _) | (with_reducible refine below_ext ?_ ?_ _) | (with_reducible refine Below.drew ?_) | (with_reducible refine below_drewN ?_ _) | (with_reducible refine Below.setCell ?_ ?_ _) | go_size | (simp only [go_sem]; omega) | (simp [go_sem]; done) | (simp [go_sem]; omega)))
    have hs5 : W5.heap.size = w.heap.size + 1 + x2.sz := by rw [hW5]; simp
    have hF1 := hF.out
    simp only [World.size_alloc, World.size_drew] at hF1
    have hF5 : ∀ x, F x → w.heap.size ≤ x := fun x hx => Nat.le_of_succ_le (hF1 x hx)
    have hv5 : W5.heap[Vb]? = some (.cells (rbC A2 n2 c2 rA rm rc rn nw2 bl2) 30 (0, 0)) := by
      rw [hW5, hVb]
      exact (block_ext _ _ (by simp)).trans (heap_alloc_new w _)
    have hB5 : BkAt W5 F b T := by
      rw [hW5]
      exact hB.out.keep (keep_alloc2 w _ _ x2) (fun y hy e => by have := hF1 y hy; omega)
    have hP0 : BPl (fun x => x = Vb) W5 F b Vb A2 n2 c2 rA rm rc rn nw2 bl2 T := by
      refine ⟨hB5, (hU0h.out.mono (fun x hx g => by rcases g with g | g; exact hF5 x g; omega)).grow hb5, hv5, fun x hx e => by have := hF1 x hx; omega, rfl, fun x e => by omega⟩
    have hVw : w.heap.size ≤ Vb := by omega
    have SA := Lib.hid (H.out W5 b F hP0.bk hb5)
    have SB := Lib.hid (H'.out W5 b F hP0.bk hb5)
    obtain ⟨G, hP0⟩ : ∃ G, Hid (BPl G W5 F b Vb A2 n2 c2 rA rm rc rn nw2 bl2 T) := ⟨_, Lib.hid hP0⟩
    rw [← hW5, ← hVb]
    replace hF5 := Lib.hid hF5
    replace hb5 := Lib.hid hb5
    clear hW5 hVb hs5 hv5 hB5 hF hB u0 u1 u2 u3 u4 vl hHeld hVne CL H H'
    go_upto_region 9 with (first | (go_at_call 36; ((with_reducible refine (SA.out _ (by (repeat' (first | (with_reducible exact Below.refl _ _) | (with_reducible refine Below.alloc ?_ ?_ _) | (with_reducible refine below_ext ?_ ?_ _) | (with_reducible refine Below.drew ?_) | (with_reducible refine below_drewN ?_ _) | (with_reducible refine Below.setCell ?_ ?_ _) | go_size | (simp only [go_sem]; omega) | (simp [go_sem]; done) | (simp [go_sem]; omega))))).mono ?_); rintro _ _ hgets; obtain ⟨rfl, y1, rfl⟩ := hgets.get; clear hgets)) | (go_at_call 36; ((with_reducible refine (SB.out _ (by (repeat' (first | (with_reducible exact Below.refl _ _) | (with_reducible refine Below.alloc ?_ ?_ _) | (with_reducible refine below_ext ?_ ?_ _) | (with_reducible refine Below.drew ?_) | (with_reducible refine below_drewN ?_ _) | (with_reducible refine Below.setCell ?_ ?_ _) | go_size | (simp only [go_sem]; omega) | (simp [go_sem]; done) | (simp [go_sem]; omega))))).mono ?_); rintro _ _ hgets; obtain ⟨rfl, y2, rfl⟩ := hgets.get; clear hgets)))
    go_wp2
    go_loopw [12] (fun iv wr => ∃ (i : Nat) (F : Nat → Prop) (B : Option Addr) (n c : Nat) (tA : Option Addr) (tm tc : Nat) (tn nw : Int) (bl : Bool), i ≤ min others.length 12 ∧ iv = .int .i64 i ∧ Hid (BPl G wr F b Vb B n c tA tm tc tn nw bl ((others.take i).foldl bdoS T)) ∧ Hid (∀ x, F x → w.heap.size ≤ x) ∧
      Hid (Below w.heap.size w wr)) (fun iv _ => min others.length 12 - (intOf iv).toNat)
    case atStart => exact ⟨0, F, _, _, _, _, _, _, _, _, _, by omega, rfl, Lib.hid (hP0.out.grow (by (repeat' (first | (with_reducible exact Below.refl _ _) | (with_reducible refine Below.alloc ?_ ?_ _) | (with_reducible refine below_ext ?_ ?_ _) | (with_reducible refine Below.drew ?_) | (with_reducible refine below_drewN ?_ _) | (with_reducible refine Below.setCell ?_ ?_ _) | go_size | (simp only [go_sem]; omega) | (simp [go_sem]; done) | (simp [go_sem]; omega))))), hF5, Lib.hid (hb5.out.trans (Below.mono (B := W5.heap.size) (by (repeat' (first | (with_reducible exact Below.refl _ _) | (with_reducible refine Below.alloc ?_ ?_ _) | (with_reducible refine below_ext ?_ ?_ _) | (with_reducible refine Below.drew ?_) | (with_reducible refine below_drewN ?_ _) | (with_reducible refine Below.setCell ?_ ?_ _) | go_size | (simp only [go_sem]; omega) | (simp [go_sem]; done) | (simp [go_sem]; omega)))) hb5.out.size))⟩
    case round =>
      clear hP0 hF5 hb5 SA SB
      obtain ⟨i, F, B, n, c, tA, tm, tc, tn, nw, bl, hi, rfl, hP, hFw, hbw⟩ := hrel
      by_cases hlt : i < min others.length 12
      · have hlt1 : i < others.length := by omega
        have hlt12 : i < 12 := by omega
        obtain ⟨q, q0, rfl, hq, hx⟩ := rdh.out (by omega)
        have okS : ((others.take i).foldl bdoS T).Ok := playB_ok' _ (fun a h => ha' a (List.mem_of_mem_take h)) _ okT0
        have hact := ha' _ (List.getElem_mem hlt1)
        have hnx := Lib.hid (fold_take T others i hlt1)
        have hxi := hx i hlt1
        generalize (others.take i).foldl bdoS T = S at hP okS hnx
        generalize others[i] = a at hact hnx hxi
        obtain ⟨kd, an, tt, ⟨xt, xl, xb, xr⟩, pr, pc, ⟨yg, yr, yk⟩⟩ := a
        have kw0 := hxi 0 _ rfl; have kw1 := hxi 1 _ rfl; have kw2 := hxi 2 _ rfl; have kw3 := hxi 3 _ rfl; have kw4 := hxi 4 _ rfl; have kw5 := hxi 5 _ rfl; have kw6 := hxi 6 _ rfl; have kw7 := hxi 7 _ rfl; have kw8 := hxi 8 _ rfl; have kw9 := hxi 9 _ rfl; have kw10 := hxi 10 _ rfl; have kw11 := hxi 11 _ rfl
        simp only [Nat.add_zero, ← Nat.add_assoc] at kw0 kw1 kw2 kw3 kw4 kw5 kw6 kw7 kw8 kw9 kw10 kw11
        clear hxi hx
        replace hbw := hbw.out
        replace hFw := hFw.out
        go_upto_region 12 with fail
        obtain ⟨u0, u1, u2, u3, u4, vl, -⟩ := five hP.out.var
        have k0 := (hbw.cell (p := ⟨q, _, none⟩) hq).trans kw0
        have k1 := (hbw.cell (p := ⟨q, _, none⟩) hq).trans kw1
        have k2 := (hbw.cell (p := ⟨q, _, none⟩) hq).trans kw2
        have k3 := (hbw.cell (p := ⟨q, _, none⟩) hq).trans kw3
        have k4 := (hbw.cell (p := ⟨q, _, none⟩) hq).trans kw4
        have k5 := (hbw.cell (p := ⟨q, _, none⟩) hq).trans kw5
        have k6 := (hbw.cell (p := ⟨q, _, none⟩) hq).trans kw6
        have k7 := (hbw.cell (p := ⟨q, _, none⟩) hq).trans kw7
        have k8 := (hbw.cell (p := ⟨q, _, none⟩) hq).trans kw8
        have k9 := (hbw.cell (p := ⟨q, _, none⟩) hq).trans kw9
        have k10 := (hbw.cell (p := ⟨q, _, none⟩) hq).trans kw10
        have k11 := (hbw.cell (p := ⟨q, _, none⟩) hq).trans kw11
        have ql : q < wr.heap.size := Nat.lt_of_lt_of_le hq hbw.size
        have hVN : ¬ Vb = wr.heap.size := by omega
        have hqN : ¬ q = wr.heap.size := by omega
        have DO := Lib.hid (fun w1 (hb : Below wr.heap.size wr w1) Nb (hN : G Nb ∨ wr.heap.size ≤ Nb) (hN1 : Nb < w1.heap.size) => (by
          have h1 : RBk wr (fun x => F x ∨ (G x ∨ x = Nb)) (.agg (rbC B n c tA tm tc tn nw bl)) S := hP.out.ref.mono (fun x hx g => by rcases g with g | g | g; exact .inl g; exact .inr g; subst g; rcases hN with hN | hN; exact .inr hN; omega)
          exact bdo_c (hP.out.bk.grow hb) okS (h1.grow hb) (fun x hx => by rcases hx with hx | hx; exact Nat.lt_of_lt_of_le (hP.out.gl x hx) hb.size; omega) ⟨kd, an, tt, ⟨xt, xl, xb, xr⟩, pr, pc, ⟨yg, yr, yk⟩⟩ hact :
            Calls Try.prog 37 #[ptrV b, .agg #[.slice B n c, .slice tA tm tc, .int .i64 tn, .int .i64 nw, .bool bl], .agg #[.int .i64 kd, .int .i64 an, .int .i64 tt, .int .i64 xt, .int .i64 xl, .int .i64 xb, .int .i64 xr, .int .i64 pr, .int .i64 pc, .int .i32 yg, .int .u8 yr, .bool yk]] w1 (BDoR F b (fun x => G x ∨ x = Nb) (bdoS S ⟨kd, an, tt, ⟨xt, xl, xb, xr⟩, pr, pc, ⟨yg, yr, yk⟩⟩) w1)))
        have okT : (bdoS S ⟨kd, an, tt, ⟨xt, xl, xb, xr⟩, pr, pc, ⟨yg, yr, yk⟩⟩).Ok := bdo_ok okS hact
        obtain ⟨S', hS'⟩ : ∃ S', S' = bdoS S ⟨kd, an, tt, ⟨xt, xl, xb, xr⟩, pr, pc, ⟨yg, yr, yk⟩⟩ := ⟨_, rfl⟩
        rw [← hS'] at DO okT
        replace hS' := Lib.hid hS'
        have hVF : ¬ F Vb := fun f => hP.out.off Vb f hP.out.gv
        have hFl := hP.out.bk.lt
        have hFN : ¬ F wr.heap.size := fun f => by have := hFl _ f; omega
        (refine wp_region_F (S := (fun w' => w'.cell? ⟨Vb, 0, none⟩ = some (.slice B n c) ∧ w'.cell? ⟨Vb, 1, none⟩ = some (.slice tA tm tc) ∧ w'.cell? ⟨Vb, 2, none⟩ = some (.int .i64 tn) ∧ w'.cell? ⟨Vb, 3, none⟩ = some (.int .i64 nw) ∧ w'.cell? ⟨Vb, 4, none⟩ = some (.bool bl) ∧ w'.cell? ⟨q, q0 + i * 12, none⟩ = some (.int .i64 kd) ∧ w'.cell? ⟨q, q0 + i * 12 + 1, none⟩ = some (.int .i64 an) ∧ w'.cell? ⟨q, q0 + i * 12 + 2, none⟩ = some (.int .i64 tt) ∧ w'.cell? ⟨q, q0 + i * 12 + 3, none⟩ = some (.int .i64 xt) ∧ w'.cell? ⟨q, q0 + i * 12 + 4, none⟩ = some (.int .i64 xl) ∧ w'.cell? ⟨q, q0 + i * 12 + 5, none⟩ = some (.int .i64 xb) ∧ w'.cell? ⟨q, q0 + i * 12 + 6, none⟩ = some (.int .i64 xr) ∧ w'.cell? ⟨q, q0 + i * 12 + 7, none⟩ = some (.int .i64 pr) ∧ w'.cell? ⟨q, q0 + i * 12 + 8, none⟩ = some (.int .i64 pc) ∧ w'.cell? ⟨q, q0 + i * 12 + 9, none⟩ = some (.int .i32 yg) ∧ w'.cell? ⟨q, q0 + i * 12 + 10, none⟩ = some (.int .u8 yr) ∧ w'.cell? ⟨q, q0 + i * 12 + 11, none⟩ = some (.bool yk))) 12 [false, false, false, false, false, false, false, false, false, false, false, false, false] rfl rfl (by kernel_rfl) ?_ (fun hHeld => ?_); (focus ((try dsimp only); (refine ⟨?_, ?_, ?_, ?_, ?_, ?_, ?_, ?_, ?_, ?_, ?_, ?_, ?_, ?_, ?_, ?_, ?_⟩ <;> simp [go_sem, u0, u1, u2, u3, u4, k0, k1, k2, k3, k4, k5, k6, k7, k8, k9, k10, k11, vl, ql, hVN, hqN]); done)))
        ((refine AtF.take (oi := ?_) (v := ?_) 0 ?_ ?_ ?_ ?_ (Or.inl ⟨?_, ?_⟩) (by assumption) ?_; rotate_left 2; rfl; kernel_rfl; kernel_rfl; exact (fun _ _ _ h => h); rfl; (focus (intro w hSw; (try dsimp only at hSw); go_simp; (try with_reducible rfl); done)); (try simp only [Act.put, List.setIfInBounds_toArray, List.set_cons_zero, List.set_cons_succ])); (refine AtF.take (oi := ?_) (v := ?_) 1 ?_ ?_ ?_ ?_ (Or.inl ⟨?_, ?_⟩) (by assumption) ?_; rotate_left 2; rfl; kernel_rfl; kernel_rfl; exact (fun _ _ _ h => h); rfl; (focus (intro w hSw; (try dsimp only at hSw); go_simp; (try with_reducible rfl); done)); (try simp only [Act.put, List.setIfInBounds_toArray, List.set_cons_zero, List.set_cons_succ])); (refine AtF.take (oi := ?_) (v := ?_) 2 ?_ ?_ ?_ ?_ (Or.inl ⟨?_, ?_⟩) (by assumption) ?_; rotate_left 2; rfl; kernel_rfl; kernel_rfl; exact (fun _ _ _ h => h); rfl; (focus (intro w hSw; (try dsimp only at hSw); go_simp; (try with_reducible rfl); done)); (try simp only [Act.put, List.setIfInBounds_toArray, List.set_cons_zero, List.set_cons_succ])); (refine AtF.take (oi := ?_) (v := ?_) 3 ?_ ?_ ?_ ?_ (Or.inl ⟨?_, ?_⟩) (by assumption) ?_; rotate_left 2; rfl; kernel_rfl; kernel_rfl; exact (fun _ _ _ h => h); rfl; (focus (intro w hSw; (try dsimp only at hSw); go_simp; (try with_reducible rfl); done)); (try simp only [Act.put, List.setIfInBounds_toArray, List.set_cons_zero, List.set_cons_succ])); (refine AtF.take (oi := ?_) (v := ?_) 4 ?_ ?_ ?_ ?_ (Or.inl ⟨?_, ?_⟩) (by assumption) ?_; rotate_left 2; rfl; kernel_rfl; kernel_rfl; exact (fun _ _ _ h => h); rfl; (focus (intro w hSw; (try dsimp only at hSw); go_simp; (try with_reducible rfl); done)); (try simp only [Act.put, List.setIfInBounds_toArray, List.set_cons_zero, List.set_cons_succ])); (refine AtF.take (oi := ?_) (v := ?_) 5 ?_ ?_ ?_ ?_ (Or.inl ⟨?_, ?_⟩) (by assumption) ?_; rotate_left 2; rfl; kernel_rfl; kernel_rfl; exact (fun _ _ _ h => h); rfl; (focus (intro w hSw; (try dsimp only at hSw); go_simp; (try with_reducible rfl); done)); (try simp only [Act.put, List.setIfInBounds_toArray, List.set_cons_zero, List.set_cons_succ])))
        (refine AtF.either (oi := ?_) (oj := ?_) 6 10 ?_ ?_ ?_ (fun K hK => ?_) (fun K hK => ?_); rotate_left 2; rfl; rfl; kernel_rfl)
        · ((try go_simp); ((go_at_call 37); (with_reducible refine (DO.out _ (by (repeat' (first | (with_reducible exact Below.refl _ _) | (with_reducible refine Below.alloc ?_ ?_ _) | (with_reducible refine below_ext ?_ ?_ _) | (with_reducible refine Below.drew ?_) | (with_reducible refine below_drewN ?_ _) | (with_reducible refine Below.setCell ?_ ?_ _) | go_size | (simp only [go_sem]; omega) | (simp [go_sem]; done) | (simp [go_sem]; omega)))) Vb (.inl hP.out.gv) (Nat.lt_of_lt_of_le vl (by simp))).mono ?_); (intro e' w2 hd); (obtain ⟨F', A3, n3, c3, sA3, sm3, sc3, sn3, nw3, bl3, rfl, hm⟩ := hP.out.mid (show Below wr.heap.size wr _ by (repeat' (first | (with_reducible exact Below.refl _ _) | (with_reducible refine Below.alloc ?_ ?_ _) | (with_reducible refine below_ext ?_ ?_ _) | (with_reducible refine Below.drew ?_) | (with_reducible refine below_drewN ?_ _) | (with_reducible refine Below.setCell ?_ ?_ _) | go_size | (simp only [go_sem]; omega) | (simp [go_sem]; done) | (simp [go_sem]; omega)))) (Nat.lt_of_lt_of_le vl (by simp)) hVF hd); clear hd; have hw2 : Below w.heap.size w w2 := hbw.trans (hm.keep.below (fun x f => hFw x f) hbw.size); have yV := (hm.keep.block Vb (heap_in hP.out.var) hVF).trans hP.out.var; obtain ⟨z0, z1, z2, z3, z4, vl2, zf⟩ := five yV; have l0 := (hw2.cell (p := ⟨q, _, none⟩) hq).trans kw0; have l1 := (hw2.cell (p := ⟨q, _, none⟩) hq).trans kw1; have l2 := (hw2.cell (p := ⟨q, _, none⟩) hq).trans kw2; have l3 := (hw2.cell (p := ⟨q, _, none⟩) hq).trans kw3; have l4 := (hw2.cell (p := ⟨q, _, none⟩) hq).trans kw4; have l5 := (hw2.cell (p := ⟨q, _, none⟩) hq).trans kw5; have l6 := (hw2.cell (p := ⟨q, _, none⟩) hq).trans kw6; have l7 := (hw2.cell (p := ⟨q, _, none⟩) hq).trans kw7; have l8 := (hw2.cell (p := ⟨q, _, none⟩) hq).trans kw8; have l9 := (hw2.cell (p := ⟨q, _, none⟩) hq).trans kw9; have l10 := (hw2.cell (p := ⟨q, _, none⟩) hq).trans kw10; have l11 := (hw2.cell (p := ⟨q, _, none⟩) hq).trans kw11; have ql2 : q < w2.heap.size := Nat.lt_of_lt_of_le hq hw2.size; have hVN2 : ¬ Vb = w2.heap.size := (by omega); have hqN2 : ¬ q = w2.heap.size := (by omega); replace hm := Lib.hid hm; replace yV := Lib.hid yV; have zf0 := zf 0; have zf1 := zf 1; have zf2 := zf 2; have zf3 := zf 3; have zf4 := zf 4; clear zf); (refine hK.out _ _ ?_ (fun hHeld => ?_)); (focus ((try dsimp only); (refine ⟨?_, ?_, ?_, ?_, ?_, ?_, ?_, ?_, ?_, ?_, ?_, ?_, ?_, ?_, ?_, ?_, ?_⟩ <;> simp [go_sem, z0, z1, z2, z3, z4, l0, l1, l2, l3, l4, l5, l6, l7, l8, l9, l10, l11, vl2, ql2, hVN, hqN, hVN2, hqN2]); done)); clear hK K; (try simp only [Act.put, List.setIfInBounds_toArray, List.set_cons_zero, List.set_cons_succ]))
          ((refine AtF.take (oi := ?_) (v := ?_) 7 ?_ ?_ ?_ ?_ (Or.inl ⟨?_, ?_⟩) (by assumption) ?_; rotate_left 2; rfl; kernel_rfl; kernel_rfl; exact (fun _ _ _ h => h); rfl; (focus (intro w hSw; (try dsimp only at hSw); go_simp; (try with_reducible rfl); done)); (try simp only [Act.put, List.setIfInBounds_toArray, List.set_cons_zero, List.set_cons_succ])); (refine AtF.take (oi := ?_) (v := ?_) 8 ?_ ?_ ?_ ?_ (Or.inl ⟨?_, ?_⟩) (by assumption) ?_; rotate_left 2; rfl; kernel_rfl; kernel_rfl; exact (fun _ _ _ h => h); rfl; (focus (intro w hSw; (try dsimp only at hSw); go_simp; (try with_reducible rfl); done)); (try simp only [Act.put, List.setIfInBounds_toArray, List.set_cons_zero, List.set_cons_succ])); (refine AtF.take (oi := ?_) (v := ?_) 9 ?_ ?_ ?_ ?_ (Or.inl ⟨?_, ?_⟩) (by assumption) ?_; rotate_left 2; rfl; kernel_rfl; kernel_rfl; exact (fun _ _ _ h => h); rfl; (focus (intro w hSw; (try dsimp only at hSw); go_simp; (try with_reducible rfl); done)); (try simp only [Act.put, List.setIfInBounds_toArray, List.set_cons_zero, List.set_cons_succ])))
          (refine AtF.only (oi := ?_) 10 ?_ ?_ (fun K hK => ?_); rotate_left 1; rfl; kernel_rfl; (try go_simp); skip; (refine hK.out _ _ ?_ (fun hHeld => ?_)); (focus ((try dsimp only); (refine ⟨?_, ?_, ?_, ?_, ?_, ?_, ?_, ?_, ?_, ?_, ?_, ?_, ?_, ?_, ?_, ?_, ?_⟩ <;> simp [go_sem, z0, z1, z2, z3, z4, l0, l1, l2, l3, l4, l5, l6, l7, l8, l9, l10, l11, vl2, ql2, hVN, hqN, hVN2, hqN2]); done)); clear hK K; (try simp only [Act.put, List.setIfInBounds_toArray, List.set_cons_zero, List.set_cons_succ]))
          (refine AtF.only (oi := ?_) 11 ?_ ?_ (fun K hK => ?_); rotate_left 1; rfl; kernel_rfl; (try go_simp); skip; (refine hK.out _ _ ?_ (fun hHeld => ?_)); (focus ((try dsimp only); (refine ⟨?_, ?_, ?_, ?_, ?_, ?_, ?_, ?_, ?_, ?_, ?_, ?_, ?_, ?_, ?_, ?_, ?_⟩ <;> simp [go_sem, z0, z1, z2, z3, z4, l0, l1, l2, l3, l4, l5, l6, l7, l8, l9, l10, l11, vl2, ql2, hVN, hqN, hVN2, hqN2]); done)); clear hK K; (try simp only [Act.put, List.setIfInBounds_toArray, List.set_cons_zero, List.set_cons_succ]))
          (refine AtF.last (oi := ?_) ?_ ?_ (fun K hK => ?_); rotate_left 1; rfl; kernel_rfl; go_simp; skip; refine hK.out _ _ ?_; clear hK K; (try simp only [Act.put, List.setIfInBounds_toArray, List.set_cons_zero, List.set_cons_succ]))
          go_upto_region 14 with fail
          obtain ⟨W3, h3, hk3, hs3⟩ := store5 yV.out (.slice A3 n3 c3) (.slice sA3 sm3 sc3) (.int .i64 sn3) (.int .i64 nw3) (.bool bl3)
          rw [h3]
          obtain ⟨W4, hW4⟩ : ∃ W4, W4 = W3.alloc (.cells #[.slice A3 n3 c3, .slice sA3 sm3 sc3, .int .i64 sn3, .int .i64 nw3, .bool bl3] 30) := ⟨_, rfl⟩
          have hg4 : Below W3.heap.size W3 W4 := by rw [hW4]; (repeat' (first | (with_reducible exact Below.refl _ _) | (with_reducible refine Below.alloc ?_ ?_ _) | (with_reducible refine below_ext ?_ ?_ _) | (with_reducible refine Below.drew ?_) | (with_reducible refine below_drewN ?_ _) | (with_reducible refine Below.setCell ?_ ?_ _) | go_size | (simp only [go_sem]; omega) | (simp [go_sem]; done) | (simp [go_sem]; omega)))
          rw [← hW4]
          have hs4 := (hg4.block Vb (heap_in hs3)).trans hs3
          have hk4 : Keep (fun x => x = Vb ∨ x = Vb) w2 W4 := (hk3.mono (fun x hx => .inl hx)).trans (Keep.of_below (F := fun _ => False) hg4) (fun _ f => f.elim)
          have hP2 := hP.out.fin hm.out hk4 hs4
          have hkN := hk4.mono (G := fun x => x = wr.heap.size ∨ x = Vb) (fun x hx => .inr (hx.elim id id))
          clear hW4 hg4 h3 hk3 hs3 hk4
          have hbN : Below w.heap.size w W4 := hw2.trans (hkN.below (fun x hx => by have := hbw.size; rcases hx with hx | hx <;> omega) hw2.size)
          have hnewF := Lib.hid (fun x (hx : F' x) => (hm.out.new x hx).elim (hFw x) (fun e => Nat.le_trans hbw.size e))
          obtain ⟨VV, ps, st, hO⟩ := hP2.bk
          have hO0 := BK0.out _ hbN
          have hU := RB0.out _ hbN
          have IS := Lib.hid (fun w' (hb : Below W4.heap.size W4 w') => bis_c (hO.grow hb) okT (hP2.ref.grow hb))
          have IS0 := Lib.hid (fun w' (hb : Below W4.heap.size W4 w') => bis_c (hO0.grow hb) okT0 (hU.grow hb))
          have SB := Lib.hid (fun w' (hb : Below W4.heap.size W4 w') => same_b (hO.grow hb) okT (hO0.grow hb) okT0)
          have RS := Lib.hid (fun w' (hb : Below W4.heap.size W4 w') => rsame_c (hP2.ref.grow hb) okT (hU.grow hb) okT0)
          generalize sameBk S' T = s at SB RS
          have hvw := (hbN.block Vw hVlt).trans hv3h.out
          obtain ⟨t0, t1, t2, t3, t4, tl, -⟩ := five hs4
          obtain ⟨v0', v1', v2', v3', v4', vwl, -⟩ := five hvw
          replace hP2 := Lib.hid hP2
          replace hbN := Lib.hid hbN
          clear hO hO0 hU hs4 hvw hkN hm yV DO
          clear u0 u1 u2 u3 u4 k0 k1 k2 k3 k4 k5 k6 k7 k8 k9 k10 k11 l0 l1 l2 l3 l4 l5 l6 l7 l8 l9 l10 l11 z0 z1 z2 z3 z4 zf0 zf1 zf2 zf3 zf4
          (refine wp_region_free (by kernel_rfl) (by kernel_rfl) ?_)
          repeat (go_big_quiet_step (first | ((go_at_call 9; with_reducible exact Calls.free (IS.out _ (by (repeat' (first | (with_reducible exact Below.refl _ _) | (with_reducible refine Below.alloc ?_ ?_ _) | (with_reducible refine below_ext ?_ ?_ _) | (with_reducible refine Below.drew ?_) | (with_reducible refine below_drewN ?_ _) | (with_reducible refine Below.setCell ?_ ?_ _) | go_size | (simp only [go_sem]; omega) | (simp [go_sem]; done) | (simp [go_sem]; omega))))))) | ((go_at_call 9; with_reducible exact Calls.free (IS0.out _ (by (repeat' (first | (with_reducible exact Below.refl _ _) | (with_reducible refine Below.alloc ?_ ?_ _) | (with_reducible refine below_ext ?_ ?_ _) | (with_reducible refine Below.drew ?_) | (with_reducible refine below_drewN ?_ _) | (with_reducible refine Below.setCell ?_ ?_ _) | go_size | (simp only [go_sem]; omega) | (simp [go_sem]; done) | (simp [go_sem]; omega))))))) | ((go_at_call 36; with_reducible exact Calls.free (SB.out _ (by (repeat' (first | (with_reducible exact Below.refl _ _) | (with_reducible refine Below.alloc ?_ ?_ _) | (with_reducible refine below_ext ?_ ?_ _) | (with_reducible refine Below.drew ?_) | (with_reducible refine below_drewN ?_ _) | (with_reducible refine Below.setCell ?_ ?_ _) | go_size | (simp only [go_sem]; omega) | (simp [go_sem]; done) | (simp [go_sem]; omega))))))) | ((go_at_call 38; with_reducible exact Calls.free (RS.out _ (by (repeat' (first | (with_reducible exact Below.refl _ _) | (with_reducible refine Below.alloc ?_ ?_ _) | (with_reducible refine below_ext ?_ ?_ _) | (with_reducible refine Below.drew ?_) | (with_reducible refine below_drewN ?_ _) | (with_reducible refine Below.setCell ?_ ?_ _) | go_size | (simp only [go_sem]; omega) | (simp [go_sem]; done) | (simp [go_sem]; omega)))))))))
          refine wpQuiet_nil ?_; rintro _ ⟨y9, rfl⟩
          go_wp2
          have hPf : Hid (BPl G (ext W4 y9) F' b Vb A3 n3 c3 sA3 sm3 sc3 sn3 nw3 bl3 _) := Lib.hid (hP2.out.grow (below_of_ext W4 y9))
          rw [hS'.out, ← hnx.out] at hPf
          exact ⟨⟨i + 1, F', A3, n3, c3, sA3, sm3, sc3, sn3, nw3, bl3, by omega, by go_num, hPf, hnewF, Lib.hid (below_ext hbN.out hbN.out.size y9)⟩, by simp [intOf]; omega⟩
        · ((try go_simp); skip; (refine hK.out _ _ ?_ (fun hHeld => ?_)); (focus ((try dsimp only); (refine ⟨?_, ?_, ?_, ?_, ?_, ?_, ?_, ?_, ?_, ?_, ?_, ?_, ?_, ?_, ?_, ?_, ?_⟩ <;> simp [go_sem, u0, u1, u2, u3, u4, k0, k1, k2, k3, k4, k5, k6, k7, k8, k9, k10, k11, vl, ql, hVN, hqN]); done)); clear hK K; (try simp only [Act.put, List.setIfInBounds_toArray, List.set_cons_zero, List.set_cons_succ]))
          (refine AtF.only (oi := ?_) 6 ?_ ?_ (fun K hK => ?_); rotate_left 1; rfl; kernel_rfl; (try go_simp); ((go_at_call 37); (with_reducible refine (DO.out _ (by (repeat' (first | (with_reducible exact Below.refl _ _) | (with_reducible refine Below.alloc ?_ ?_ _) | (with_reducible refine below_ext ?_ ?_ _) | (with_reducible refine Below.drew ?_) | (with_reducible refine below_drewN ?_ _) | (with_reducible refine Below.setCell ?_ ?_ _) | go_size | (simp only [go_sem]; omega) | (simp [go_sem]; done) | (simp [go_sem]; omega)))) wr.heap.size (.inr (Nat.le_refl _)) (by simp)).mono ?_); (intro e' w2 hd); have yN := (hd.keep.block wr.heap.size (by simp) hFN).trans (heap_alloc_new _ _); obtain ⟨y0, y1, y2, y3, y4, yl, yf⟩ := five yN; have yf0 := yf 0; have yf1 := yf 1; have yf2 := yf 2; have yf3 := yf 3; have yf4 := yf 4; clear yf; replace yN := Lib.hid yN; (obtain ⟨F', A3, n3, c3, sA3, sm3, sc3, sn3, nw3, bl3, rfl, hm⟩ := hP.out.mid (show Below wr.heap.size wr _ by (repeat' (first | (with_reducible exact Below.refl _ _) | (with_reducible refine Below.alloc ?_ ?_ _) | (with_reducible refine below_ext ?_ ?_ _) | (with_reducible refine Below.drew ?_) | (with_reducible refine below_drewN ?_ _) | (with_reducible refine Below.setCell ?_ ?_ _) | go_size | (simp only [go_sem]; omega) | (simp [go_sem]; done) | (simp [go_sem]; omega)))) (by simp) hFN hd); clear hd; have hw2 : Below w.heap.size w w2 := hbw.trans (hm.keep.below (fun x f => hFw x f) hbw.size); have yV := (hm.keep.block Vb (heap_in hP.out.var) hVF).trans hP.out.var; obtain ⟨z0, z1, z2, z3, z4, vl2, zf⟩ := five yV; have l0 := (hw2.cell (p := ⟨q, _, none⟩) hq).trans kw0; have l1 := (hw2.cell (p := ⟨q, _, none⟩) hq).trans kw1; have l2 := (hw2.cell (p := ⟨q, _, none⟩) hq).trans kw2; have l3 := (hw2.cell (p := ⟨q, _, none⟩) hq).trans kw3; have l4 := (hw2.cell (p := ⟨q, _, none⟩) hq).trans kw4; have l5 := (hw2.cell (p := ⟨q, _, none⟩) hq).trans kw5; have l6 := (hw2.cell (p := ⟨q, _, none⟩) hq).trans kw6; have l7 := (hw2.cell (p := ⟨q, _, none⟩) hq).trans kw7; have l8 := (hw2.cell (p := ⟨q, _, none⟩) hq).trans kw8; have l9 := (hw2.cell (p := ⟨q, _, none⟩) hq).trans kw9; have l10 := (hw2.cell (p := ⟨q, _, none⟩) hq).trans kw10; have l11 := (hw2.cell (p := ⟨q, _, none⟩) hq).trans kw11; have ql2 : q < w2.heap.size := Nat.lt_of_lt_of_le hq hw2.size; have hVN2 : ¬ Vb = w2.heap.size := (by omega); have hqN2 : ¬ q = w2.heap.size := (by omega); replace hm := Lib.hid hm; replace yV := Lib.hid yV; have zf0 := zf 0; have zf1 := zf 1; have zf2 := zf 2; have zf3 := zf 3; have zf4 := zf 4; clear zf); (refine hK.out _ _ ?_ (fun hHeld => ?_)); (focus ((try dsimp only); (refine ⟨?_, ?_, ?_, ?_, ?_, ?_, ?_, ?_, ?_, ?_, ?_, ?_, ?_, ?_, ?_, ?_, ?_⟩ <;> simp [go_sem, z0, z1, z2, z3, z4, l0, l1, l2, l3, l4, l5, l6, l7, l8, l9, l10, l11, vl2, ql2, hVN, hqN, hVN2, hqN2]); done)); clear hK K; (try simp only [Act.put, List.setIfInBounds_toArray, List.set_cons_zero, List.set_cons_succ]))
          ((refine AtF.take (oi := ?_) (v := ?_) 7 ?_ ?_ ?_ ?_ (Or.inl ⟨?_, ?_⟩) (by assumption) ?_; rotate_left 2; rfl; kernel_rfl; kernel_rfl; exact (fun _ _ _ h => h); rfl; (focus (intro w hSw; (try dsimp only at hSw); go_simp; (try with_reducible rfl); done)); (try simp only [Act.put, List.setIfInBounds_toArray, List.set_cons_zero, List.set_cons_succ])); (refine AtF.take (oi := ?_) (v := ?_) 8 ?_ ?_ ?_ ?_ (Or.inl ⟨?_, ?_⟩) (by assumption) ?_; rotate_left 2; rfl; kernel_rfl; kernel_rfl; exact (fun _ _ _ h => h); rfl; (focus (intro w hSw; (try dsimp only at hSw); go_simp; (try with_reducible rfl); done)); (try simp only [Act.put, List.setIfInBounds_toArray, List.set_cons_zero, List.set_cons_succ])); (refine AtF.take (oi := ?_) (v := ?_) 9 ?_ ?_ ?_ ?_ (Or.inl ⟨?_, ?_⟩) (by assumption) ?_; rotate_left 2; rfl; kernel_rfl; kernel_rfl; exact (fun _ _ _ h => h); rfl; (focus (intro w hSw; (try dsimp only at hSw); go_simp; (try with_reducible rfl); done)); (try simp only [Act.put, List.setIfInBounds_toArray, List.set_cons_zero, List.set_cons_succ])))
          (refine AtF.only (oi := ?_) 11 ?_ ?_ (fun K hK => ?_); rotate_left 1; rfl; kernel_rfl; (try go_simp); skip; (refine hK.out _ _ ?_ (fun hHeld => ?_)); (focus ((try dsimp only); (refine ⟨?_, ?_, ?_, ?_, ?_, ?_, ?_, ?_, ?_, ?_, ?_, ?_, ?_, ?_, ?_, ?_, ?_⟩ <;> simp [go_sem, z0, z1, z2, z3, z4, l0, l1, l2, l3, l4, l5, l6, l7, l8, l9, l10, l11, vl2, ql2, hVN, hqN, hVN2, hqN2]); done)); clear hK K; (try simp only [Act.put, List.setIfInBounds_toArray, List.set_cons_zero, List.set_cons_succ]))
          (refine AtF.last (oi := ?_) ?_ ?_ (fun K hK => ?_); rotate_left 1; rfl; kernel_rfl; go_simp; skip; refine hK.out _ _ ?_; clear hK K; (try simp only [Act.put, List.setIfInBounds_toArray, List.set_cons_zero, List.set_cons_succ]))
          obtain ⟨W3, h3, hk3, hs3⟩ := store5 yN.out (.slice A3 n3 c3) (.slice sA3 sm3 sc3) (.int .i64 sn3) (.int .i64 nw3) (.bool bl3)
          rw [h3]
          obtain ⟨s0, s1, s2, s3, s4, sl, -⟩ := five hs3
          have yV3 := (hk3.block Vb vl2 hVN).trans yV.out
          obtain ⟨v0, v1, v2, v3, v4, vl3, vf⟩ := five yV3
          have vf0 := vf 0
          have vf1 := vf 1
          have vf2 := vf 2
          have vf3 := vf 3
          have vf4 := vf 4
          clear vf h3 hs3
          replace yV3 := Lib.hid yV3
          go_upto_region 14 with fail
          obtain ⟨W4, h4, hk4, hs4⟩ := store5 yV3.out (.slice A3 n3 c3) (.slice sA3 sm3 sc3) (.int .i64 sn3) (.int .i64 nw3) (.bool bl3)
          rw [h4]
          have hkN : Keep (fun x => x = wr.heap.size ∨ x = Vb) w2 W4 := (hk3.mono (fun x hx => .inl hx)).trans hk4 (fun x hx => .inl (.inr hx))
          have hP2 := hP.out.fin hm.out hkN hs4
          clear h4 hk4 hk3 yV3 yN
          have hbN : Below w.heap.size w W4 := hw2.trans (hkN.below (fun x hx => by have := hbw.size; rcases hx with hx | hx <;> omega) hw2.size)
          have hnewF := Lib.hid (fun x (hx : F' x) => (hm.out.new x hx).elim (hFw x) (fun e => Nat.le_trans hbw.size e))
          obtain ⟨VV, ps, st, hO⟩ := hP2.bk
          have hO0 := BK0.out _ hbN
          have hU := RB0.out _ hbN
          have IS := Lib.hid (fun w' (hb : Below W4.heap.size W4 w') => bis_c (hO.grow hb) okT (hP2.ref.grow hb))
          have IS0 := Lib.hid (fun w' (hb : Below W4.heap.size W4 w') => bis_c (hO0.grow hb) okT0 (hU.grow hb))
          have SB := Lib.hid (fun w' (hb : Below W4.heap.size W4 w') => same_b (hO.grow hb) okT (hO0.grow hb) okT0)
          have RS := Lib.hid (fun w' (hb : Below W4.heap.size W4 w') => rsame_c (hP2.ref.grow hb) okT (hU.grow hb) okT0)
          generalize sameBk S' T = s at SB RS
          have hvw := (hbN.block Vw hVlt).trans hv3h.out
          obtain ⟨t0, t1, t2, t3, t4, tl, -⟩ := five hs4
          obtain ⟨v0', v1', v2', v3', v4', vwl, -⟩ := five hvw
          replace hP2 := Lib.hid hP2
          replace hbN := Lib.hid hbN
          clear hO hO0 hU hs4 hvw hkN hm yV DO
          clear u0 u1 u2 u3 u4 k0 k1 k2 k3 k4 k5 k6 k7 k8 k9 k10 k11 l0 l1 l2 l3 l4 l5 l6 l7 l8 l9 l10 l11 z0 z1 z2 z3 z4 zf0 zf1 zf2 zf3 zf4
          (refine wp_region_free (by kernel_rfl) (by kernel_rfl) ?_)
          repeat (go_big_quiet_step (first | ((go_at_call 9; with_reducible exact Calls.free (IS.out _ (by (repeat' (first | (with_reducible exact Below.refl _ _) | (with_reducible refine Below.alloc ?_ ?_ _) | (with_reducible refine below_ext ?_ ?_ _) | (with_reducible refine Below.drew ?_) | (with_reducible refine below_drewN ?_ _) | (with_reducible refine Below.setCell ?_ ?_ _) | go_size | (simp only [go_sem]; omega) | (simp [go_sem]; done) | (simp [go_sem]; omega))))))) | ((go_at_call 9; with_reducible exact Calls.free (IS0.out _ (by (repeat' (first | (with_reducible exact Below.refl _ _) | (with_reducible refine Below.alloc ?_ ?_ _) | (with_reducible refine below_ext ?_ ?_ _) | (with_reducible refine Below.drew ?_) | (with_reducible refine below_drewN ?_ _) | (with_reducible refine Below.setCell ?_ ?_ _) | go_size | (simp only [go_sem]; omega) | (simp [go_sem]; done) | (simp [go_sem]; omega))))))) | ((go_at_call 36; with_reducible exact Calls.free (SB.out _ (by (repeat' (first | (with_reducible exact Below.refl _ _) | (with_reducible refine Below.alloc ?_ ?_ _) | (with_reducible refine below_ext ?_ ?_ _) | (with_reducible refine Below.drew ?_) | (with_reducible refine below_drewN ?_ _) | (with_reducible refine Below.setCell ?_ ?_ _) | go_size | (simp only [go_sem]; omega) | (simp [go_sem]; done) | (simp [go_sem]; omega))))))) | ((go_at_call 38; with_reducible exact Calls.free (RS.out _ (by (repeat' (first | (with_reducible exact Below.refl _ _) | (with_reducible refine Below.alloc ?_ ?_ _) | (with_reducible refine below_ext ?_ ?_ _) | (with_reducible refine Below.drew ?_) | (with_reducible refine below_drewN ?_ _) | (with_reducible refine Below.setCell ?_ ?_ _) | go_size | (simp only [go_sem]; omega) | (simp [go_sem]; done) | (simp [go_sem]; omega)))))))))
          refine wpQuiet_nil ?_; rintro _ ⟨y9, rfl⟩
          go_wp2
          have hPf : Hid (BPl G (ext W4 y9) F' b Vb A3 n3 c3 sA3 sm3 sc3 sn3 nw3 bl3 _) := Lib.hid (hP2.out.grow (below_of_ext W4 y9))
          rw [hS'.out, ← hnx.out] at hPf
          exact ⟨⟨i + 1, F', A3, n3, c3, sA3, sm3, sc3, sn3, nw3, bl3, by omega, by go_num, hPf, hnewF, Lib.hid (below_ext hbN.out hbN.out.size y9)⟩, by simp [intOf]; omega⟩
      · have hcon : (¬ i < others.length) ∨ (i < others.length ∧ ¬ i < 12) := by omega
        have hi12 : i ≤ 12 := by omega
        clear hlt hi hlen
        rcases hcon with hc1 | ⟨hc1, hc2⟩
        · go_wp2
          go_returns
          exact ⟨rfl, hbw0.out.trans (hbw.out.mono hbw0.out.size)⟩
        · go_wp2
          go_returns
          exact ⟨rfl, hbw0.out.trans (hbw.out.mono hbw0.out.size)⟩
end Go.Proofs.Ytpahcgappaifnaa
