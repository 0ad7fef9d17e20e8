/- Pages: a page behind acts, and the document's.  -/
import Derived.Test.YtgmbnnmckdjabaaGreatPgDo
import Derived.Test.YtgmbnnmckdjabaaGreatPgF
import Derived.Test.YtgmbnnmckdjabaaGreatPgIs
namespace Go.Proofs.YtgmbnnmckdjabaaGreat
open Go.RowKit
set_option linter.unusedVariables false
set_option linter.unusedSimpArgs false

theorem encA_len (a : ActD) : a.cells.length = 13 := rfl
/-- the page behind some acts -/
def playS (S : PgS) (acts : List ActD) : PgS := acts.foldl (fun S a => doS S a.few) S
def playNew (rows cols : Int) (acts : List ActD) : PgS := playS (resizeS ⟨[], 0⟩ (clampR rows (-1) 30) (clampR cols (-1) 30)) (acts.take 20)
theorem playS_ok {S : PgS} (hS : S.Ok) : ∀ (acts : List ActD), (∀ a ∈ acts, a.y.ok ∧ ∀ y ∈ a.rw, y.ok) → (playS S acts).Ok
  | [], _ => hS
  | a :: acts, h => playS_ok (doS_ok hS a.few (h a (by simp)).1 (fun y hy => (h a (by simp)).2 y (List.mem_of_mem_take hy))) acts (fun b hb => h b (by simp [hb]))
theorem new_ok (m n : Int) : (resizeS ⟨[], 0⟩ m n).Ok := resizeS_ok _ _ _ (fun r hr => by cases hr)
theorem playS_snoc (S : PgS) (acts : List ActD) (a : ActD) : playS S (acts ++ [a]) = doS (playS S acts) a.few := by simp [playS]
/-- what Play answers: the page and the document's are one -/
def PlayR (S : PgS) (w : World) (e : Ending) (w' : World) : Prop := ∃ p U F, e = .returned (.tuple #[.pointer (some ⟨p, 0, none⟩), U, .bool true]) ∧ Below w.heap.size w w' ∧ PageAt w' F p S ∧ RefAt w' (fun b => F b ∨ b < w.heap.size) U S ∧ ∀ b, F b → w.heap.size ≤ b
theorem PlayR.grow {S : PgS} {w w1 w2 : World} {e : Ending} (h : PlayR S w e w1) (hb : Below w1.heap.size w1 w2) : PlayR S w e w2 := by
  obtain ⟨p, U, F, e1, h1, h2, h3, h4⟩ := h
  exact ⟨p, U, F, e1, h1.trans (hb.mono h1.size), h2.grow hb, h3.grow hb, h4⟩
/-- the state of the loop -/
structure PlayAt (w wr : World) (F : Nat → Prop) (p R H : Nat) (V : Value) (S : PgS) : Prop where
  below : Below w.heap.size w wr
  page : PageAt wr F p S
  blk : wr.heap[H]? = some (.cells #[V, .int .i64 S.cols] 27 (0, 0))
  ref : RefAt wr (fun b => F b ∨ b < w.heap.size) (.agg #[V, .int .i64 S.cols]) S
  ge : ∀ b, F b → w.heap.size ≤ b ∧ b ≠ H ∧ b ≠ R
  res : ∃ v0 v1, wr.heap[R]? = some (.cells #[v0, v1] 27 (0, 0))
  hr : w.heap.size ≤ R
  hh : w.heap.size ≤ H
  hrh : R ≠ H
theorem RefAt.off {w : World} {F : Nat → Prop} {V n : Value} {S : PgS} {H : Nat} {cur : Array Value} (h : RefAt w F (.agg #[V, n]) S) (hp : w.heap[H]? = some (.cells cur 27 (0, 0))) : ∃ rows, Lns w V rows ∧ rows.map RowM.val = S.rows ∧ n = .int .i64 S.cols ∧ (∀ b, foot V rows b → ¬ F b ∧ b ≠ H) := by
  obtain ⟨V', rows, e, h2, h3, h4⟩ := h
  injection e with e
  have e1 : V = V' := by simpa using congrArg (fun (a : Array Value) => a[0]!) e
  have e2 : n = .int .i64 S.cols := by simpa using congrArg (fun (a : Array Value) => a[1]!) e
  subst e1
  exact ⟨rows, h2, h3, e2, fun b hb => ⟨h4 b hb, h2.off hp (by decide) (by decide) b hb⟩⟩
/-- behind an act: the document's page is stored into its variable -/
theorem PlayAt.next {w wr w2 : World} {F F' : Nat → Prop} {p R H : Nat} {V V' : Value} {S T : PgS} (h : PlayAt w wr F p R H V S) (hk : Keep F wr w2) (hp : PageAt w2 F' p T) (hr : RefAt w2 (fun b => F' b ∨ b < w.heap.size) (.agg #[V', .int .i64 T.cols]) T) (hf : ∀ b, F' b → F b ∨ wr.heap.size ≤ b) :
    PlayAt w ((w2.setCell ⟨H, 0, none⟩ V').setCell ⟨H, 1, none⟩ (.int .i64 T.cols)) F' p R H V' T := by
  have hHw := heap_in h.blk
  obtain ⟨v0, v1, hRb⟩ := h.res
  have hRw := heap_in hRb
  have hHF : ¬ F H := fun f => (h.ge H f).2.1 rfl
  have hRF : ¬ F R := fun f => (h.ge R f).2.2 rfl
  have hH2 : w2.heap[H]? = some (.cells #[V, .int .i64 S.cols] 27 (0, 0)) := (hk.block H hHw hHF).trans h.blk
  have hge : ∀ b, F' b → w.heap.size ≤ b ∧ b ≠ H ∧ b ≠ R := fun b hb => by
    rcases hf b hb with q | q
    · exact h.ge b q
    · exact ⟨Nat.le_trans h.below.size q, by omega, by omega⟩
  have hfar : ∀ b, b ≠ H → ((w2.setCell ⟨H, 0, none⟩ V').setCell ⟨H, 1, none⟩ (.int .i64 T.cols)).heap[b]? = w2.heap[b]? := fun b hb => by
    rw [Below.heap_setCell _ _ _ _ hb, Below.heap_setCell _ _ _ _ hb]
  obtain ⟨rows, r1, r2, _, r4⟩ := RefAt.off hr hH2
  refine ⟨?_, PgO.off2 (R := H) hp (by simp) (fun b hb _ => hfar b hb) (fun f => (hge H f).2.1 rfl), ?_, ⟨V', rows, rfl, r1.same fun b hb => hfar b (r4 b hb).2, r2, fun b hb => (r4 b hb).1⟩, hge, ⟨v0, v1, ?_⟩, h.hr, h.hh, h.hrh⟩
  · have h1 : Below w.heap.size w w2 := by
      refine ⟨hk.os.trans h.below.os, hk.tape.trans h.below.tape, hk.output.trans h.below.output, Nat.le_trans h.below.size hk.size, fun b hb => ?_⟩
      exact (hk.block b (Nat.lt_of_lt_of_le hb h.below.size) (fun f => by have := (h.ge b f).1; omega)).trans (h.below.block b hb)
    exact below_set (below_set h1 _ _ h.hh) _ _ h.hh
  · simp only [World.setCell, Array.getElem?_modify, if_pos, hH2]
    simp
  · rw [hfar R h.hrh]
    exact (hk.block R hRw hRF).trans hRb
/-- a call that leaves all alone -/
theorem PlayAt.grow {w wr w2 : World} {F : Nat → Prop} {p R H : Nat} {V : Value} {S : PgS} (h : PlayAt w wr F p R H V S) (hb : Below wr.heap.size wr w2) : PlayAt w w2 F p R H V S := by
  obtain ⟨v0, v1, hRb⟩ := h.res
  exact ⟨h.below.trans (hb.mono h.below.size), h.page.grow hb, (hb.block H (heap_in h.blk)).trans h.blk, h.ref.grow hb, h.ge, ⟨v0, v1, (hb.block R (heap_in hRb)).trans hRb⟩, h.hr, h.hh, h.hrh⟩
/-- the answer: the document's page is stored into the result -/
theorem PlayAt.fin {w wr : World} {F : Nat → Prop} {p R H : Nat} {V : Value} {S : PgS} (h : PlayAt w wr F p R H V S) :
    ∃ W3, (wr.setCell ⟨R, 0, none⟩ V).setCell ⟨R, 1, none⟩ (.int .i64 S.cols) = W3 ∧ W3.cell? ⟨R, 0, none⟩ = some V ∧ W3.cell? ⟨R, 1, none⟩ = some (.int .i64 S.cols) ∧ PlayR S w (.returned (.tuple #[.pointer (some ⟨p, 0, none⟩), .agg #[V, .int .i64 S.cols], .bool true])) W3 := by
  obtain ⟨v0, v1, hRb⟩ := h.res
  obtain ⟨rows, r1, r2, _, r4⟩ := RefAt.off h.ref hRb
  obtain ⟨W3, e3, t0, t1, _⟩ := store2 (w1 := wr) (R := R) (V := V) (n := .int .i64 S.cols) (by rw [cell_in hRb]; rfl : _ = some v0) (by rw [cell_in hRb]; rfl : _ = some v1)
  have hfar : ∀ b, b ≠ R → W3.heap[b]? = wr.heap[b]? := fun b hb => by
    rw [← e3, Below.heap_setCell _ _ _ _ hb, Below.heap_setCell _ _ _ _ hb]
  have hs : W3.heap.size = wr.heap.size := by rw [← e3]; simp
  refine ⟨W3, e3, t0, t1, p, _, F, rfl, by rw [← e3]; exact below_set (below_set h.below _ _ h.hr) _ _ h.hr, PgO.off2 (R := R) h.page (by omega) (fun b hb _ => hfar b hb) (fun f => (h.ge R f).2.2 rfl), ⟨V, rows, rfl, r1.same fun b hb => hfar b (r4 b hb).2, r2, fun b hb => (r4 b hb).1⟩, fun b hb => (h.ge b hb).1⟩
end Go.Proofs.YtgmbnnmckdjabaaGreat
/- Pages: Play: the walk.  -/
namespace Go.Proofs.YtgmbnnmckdjabaaGreat
open Go.RowKit
set_option linter.unusedVariables false
set_option linter.unusedSimpArgs false

set_option maxRecDepth 100000 in
set_option maxHeartbeats 8000000 in
theorem play_c (rows cols : Int) (acts : List ActD) (A : Option Addr) (C : Nat) (w : World) (rd : Rd ActD.cells 13 w A acts) (ha : ∀ a ∈ acts, a.Ok w) (hm : acts.length ≤ 9223372036854775807) :
    Calls Tryz.prog 5 #[.int .i64 rows, .int .i64 cols, .slice A acts.length C] w (PlayR (playNew rows cols acts) w) := by
  have CR := Lib.hid (fun w' => clamp_l rows (-1) 30 w')
  have CO := Lib.hid (fun w' => clamp_l cols (-1) 30 w')
  obtain ⟨S0, hS0⟩ : ∃ S0, S0 = resizeS ⟨[], 0⟩ (clampR rows (-1) 30) (clampR cols (-1) 30) := ⟨_, rfl⟩
  have ok0 : S0.Ok := by rw [hS0]; exact new_ok _ _
  have e0 : playNew rows cols acts = playS S0 (acts.take 20) := by rw [hS0]; rfl
  rw [e0]
  have NP := Lib.hid (fun w' => new_p (clampR rows (-1) 30) (clampR cols (-1) 30) w')
  have NR := Lib.hid (fun w' => refnew_c (clampR rows (-1) 30) (clampR cols (-1) 30) w')
  rw [← hS0] at NP NR
  generalize clampR rows (-1) 30 = m at CR NP NR
  generalize clampR cols (-1) 30 = n at CO NP NR
  clear hS0 e0
  have hX := Lib.hid rd
  have hA := Lib.hid ha
  clear rd ha
  go_enter Tryz.func5, Tryz.ntmps5
  go_upto_region 3 with (first
    | (go_at_call 19; ((with_reducible refine (CR.out _).mono ?_); rintro _ _ hgets; obtain ⟨rfl, x1, rfl⟩ := hgets.get; clear hgets))
    | (go_at_call 19; ((with_reducible refine (CO.out _).mono ?_); rintro _ _ hgets; obtain ⟨rfl, x2, rfl⟩ := hgets.get; clear hgets))
    | ((go_at_call 16); (with_reducible refine (NP.out _).mono ?_); (rintro _ _ ⟨p, F, x3, rfl, rfl, hFg, hPg⟩); replace hFg := Lib.hid hFg; replace hPg := Lib.hid hPg)
    | ((go_at_call 25); (with_reducible refine (NR.out _).mono ?_); (rintro _ _ ⟨V, rws, x4, rfl, rfl, hl1, hv1, hf1⟩); (obtain ⟨A1, c1, rfl, _, _⟩ := hl1.form); replace hl1 := Lib.hid hl1; replace hv1 := Lib.hid hv1; replace hf1 := Lib.hid hf1))
  obtain ⟨Wi, hW⟩ : ∃ Wi, Wi = (ext (ext (ext (ext (w.alloc (.cells #[.slice none 0 0, .int .i64 0] 27)) x1) x2) x3) x4).alloc (.cells #[.slice A1 rws.length c1, .int .i64 S0.cols] 27) := ⟨_, rfl⟩
  have hPA : PlayAt w Wi F p w.heap.size (w.heap.size + 1 + x1.sz + x2.sz + x3.sz + x4.sz) (.slice A1 rws.length c1) S0 := by
    have hb4 : Below (ext (ext (ext (w.alloc (.cells #[.slice none 0 0, .int .i64 0] 27)) x1) x2) x3).heap.size (ext (ext (ext (w.alloc (.cells #[.slice none 0 0, .int .i64 0] 27)) x1) x2) x3) Wi := by rw [hW]; exact (below_of_ext _ _).alloc (by simp) _
    have hb5 : Below (ext (ext (ext (ext (w.alloc (.cells #[.slice none 0 0, .int .i64 0] 27)) x1) x2) x3) x4).heap.size (ext (ext (ext (ext (w.alloc (.cells #[.slice none 0 0, .int .i64 0] 27)) x1) x2) x3) x4) Wi := by rw [hW]; exact (Below.refl _ _).alloc (Nat.le_refl _) _
    have hFl := hPg.out.lt
    have hFg2 := hFg.out
    simp at hFl hFg2
    refine ⟨by rw [hW]; (repeat' (first | (with_reducible exact Below.refl _ _) | (with_reducible refine Below.alloc ?_ ?_ _) | (with_reducible refine below_ext ?_ ?_ _) | (with_reducible refine Below.drew ?_) | (with_reducible refine below_drewN ?_ _) | (with_reducible refine Below.setCell ?_ ?_ _) | go_size | (simp only [go_sem]; omega) | (simp [go_sem]; done) | (simp [go_sem]; omega))), hPg.out.grow hb4, ?_, ⟨_, rws, rfl, hl1.out.grow hb5, hv1.out, fun b hb f => ?_⟩, fun b f => ?_, ⟨.slice none 0 0, .int .i64 0, ?_⟩, Nat.le_refl _, by omega, by omega⟩
    · have := heap_alloc_new (ext (ext (ext (ext (w.alloc (.cells #[.slice none 0 0, .int .i64 0] 27)) x1) x2) x3) x4) (.cells #[.slice A1 rws.length c1, .int .i64 S0.cols] 27)
      rw [hW]
      simpa using this
    · have h1 := hf1.out b hb
      simp at h1
      rcases f with f | f
      · have h2 := hFl b f
        omega
      · omega
    · have h1 := hFg2 b f
      have h2 := hFl b f
      refine ⟨?_, ?_, ?_⟩ <;> omega
    · have hbz : Below (w.alloc (.cells #[.slice none 0 0, .int .i64 0] 27)).heap.size (w.alloc (.cells #[.slice none 0 0, .int .i64 0] 27)) Wi := by rw [hW]; (repeat' (first | (with_reducible exact Below.refl _ _) | (with_reducible refine Below.alloc ?_ ?_ _) | (with_reducible refine below_ext ?_ ?_ _) | (with_reducible refine Below.drew ?_) | (with_reducible refine below_drewN ?_ _) | (with_reducible refine Below.setCell ?_ ?_ _) | go_size | (simp only [go_sem]; omega) | (simp [go_sem]; done) | (simp [go_sem]; omega)))
      exact (hbz.block _ (by simp)).trans (heap_alloc_new _ _)
  rw [← hW]
  generalize w.heap.size + 1 + x1.sz + x2.sz + x3.sz + x4.sz = H at hPA ⊢
  generalize rws.length = n0 at hPA ⊢
  replace hPA := Lib.hid hPA
  have ok0 := Lib.hid ok0
  clear hW hPg hFg hl1 hv1 hf1 CR CO NP NR
  go_wp2
  go_loopw [11] (fun iv wr => ∃ (i : Nat) (F : Nat → Prop) (A2 : Option Addr) (n2 c2 : Nat), i ≤ acts.length ∧ i ≤ 20 ∧ iv = .int .i64 i ∧ Hid (PlayAt w wr F p w.heap.size H (.slice A2 n2 c2) (playS S0 (acts.take i)))) (fun iv _ => 20 - (intOf iv).toNat)
  case atStart => exact ⟨0, F, A1, n0, c1, by omega, by omega, rfl, hPA⟩
  case round =>
    obtain ⟨i, F, Ai, ni, ci, hi1, hi2, rfl, hPA⟩ := hrel
    have okS : (playS S0 (acts.take i)).Ok := playS_ok ok0.out _ (fun a h => ⟨(hA.out a (List.mem_of_mem_take h)).y, (hA.out a (List.mem_of_mem_take h)).ro⟩)
    by_cases hlt : i < acts.length
    · have e1 : decide (i < acts.length) = true := decide_eq_true hlt
      by_cases h20 : i < 20
      · have hnx : playS S0 (acts.take (i + 1)) = doS (playS S0 (acts.take i)) acts[i].few := by rw [List.take_add_one, List.getElem?_eq_getElem hlt]; exact playS_snoc _ _ _
        have haO := hA.out _ (List.getElem_mem hlt)
        obtain ⟨b, off, rfl, hbw, hc⟩ := hX.out (by omega)
        have hci := hc i hlt
        generalize acts[i] = a at hnx haO hci
        have okT := doS_ok okS a.few haO.few.y haO.few.ro
        rw [← hnx] at okT
        generalize playS S0 (acts.take i) = S at hPA okS hnx
        obtain ⟨T, hT⟩ : ∃ T, T = playS S0 (acts.take (i + 1)) := ⟨_, rfl⟩
        rw [← hT] at hnx okT
        replace hT := Lib.hid hT
        obtain ⟨kd, n1, ⟨bt, bl, bb, br⟩, pr, pc', ⟨cg, cr, ck⟩, pa, pc, ps, ra, rc, rw⟩ := a
        have d0 := (hPA.out.below.cell (p := ⟨b, off + i * 13, none⟩) hbw).trans (show w.cell? ⟨b, off + (i * 13 + 0), none⟩ = _ from hci 0 _ rfl)
        have d1 := (hPA.out.below.cell (p := ⟨b, off + i * 13 + 1, none⟩) hbw).trans (show w.cell? ⟨b, off + (i * 13 + 1), none⟩ = _ from hci 1 _ rfl)
        have d2 := (hPA.out.below.cell (p := ⟨b, off + i * 13 + 2, none⟩) hbw).trans (show w.cell? ⟨b, off + (i * 13 + 2), none⟩ = _ from hci 2 _ rfl)
        have d3 := (hPA.out.below.cell (p := ⟨b, off + i * 13 + 3, none⟩) hbw).trans (show w.cell? ⟨b, off + (i * 13 + 3), none⟩ = _ from hci 3 _ rfl)
        have d4 := (hPA.out.below.cell (p := ⟨b, off + i * 13 + 4, none⟩) hbw).trans (show w.cell? ⟨b, off + (i * 13 + 4), none⟩ = _ from hci 4 _ rfl)
        have d5 := (hPA.out.below.cell (p := ⟨b, off + i * 13 + 5, none⟩) hbw).trans (show w.cell? ⟨b, off + (i * 13 + 5), none⟩ = _ from hci 5 _ rfl)
        have d6 := (hPA.out.below.cell (p := ⟨b, off + i * 13 + 6, none⟩) hbw).trans (show w.cell? ⟨b, off + (i * 13 + 6), none⟩ = _ from hci 6 _ rfl)
        have d7 := (hPA.out.below.cell (p := ⟨b, off + i * 13 + 7, none⟩) hbw).trans (show w.cell? ⟨b, off + (i * 13 + 7), none⟩ = _ from hci 7 _ rfl)
        have d8 := (hPA.out.below.cell (p := ⟨b, off + i * 13 + 8, none⟩) hbw).trans (show w.cell? ⟨b, off + (i * 13 + 8), none⟩ = _ from hci 8 _ rfl)
        have d9 := (hPA.out.below.cell (p := ⟨b, off + i * 13 + 9, none⟩) hbw).trans (show w.cell? ⟨b, off + (i * 13 + 9), none⟩ = _ from hci 9 _ rfl)
        have d10 := (hPA.out.below.cell (p := ⟨b, off + i * 13 + 10, none⟩) hbw).trans (show w.cell? ⟨b, off + (i * 13 + 10), none⟩ = _ from hci 10 _ rfl)
        have d11 := (hPA.out.below.cell (p := ⟨b, off + i * 13 + 11, none⟩) hbw).trans (show w.cell? ⟨b, off + (i * 13 + 11), none⟩ = _ from hci 11 _ rfl)
        have d12 := (hPA.out.below.cell (p := ⟨b, off + i * 13 + 12, none⟩) hbw).trans (show w.cell? ⟨b, off + (i * 13 + 12), none⟩ = _ from hci 12 _ rfl)
        have hbl : b < wr.heap.size := Nat.lt_of_lt_of_le hbw hPA.out.below.size
        have q0 : wr.cell? ⟨H, 0, none⟩ = some (.slice Ai ni ci) := by rw [cell_in hPA.out.blk]; rfl
        have q1 : wr.cell? ⟨H, 1, none⟩ = some (.int .i64 S.cols) := by rw [cell_in hPA.out.blk]; rfl
        have qf0 : wr.frozen? ⟨H, 0, none⟩ = false := frozen_in hPA.out.blk
        have qf1 : wr.frozen? ⟨H, 1, none⟩ = false := frozen_in hPA.out.blk
        have hHl : H < wr.heap.size := heap_in hPA.out.blk
        have hHF := Lib.hid (fun f => (hPA.out.ge H f).2.1 rfl : ¬ F H)
        have hbF := Lib.hid (fun f => by have := (hPA.out.ge b f).1; omega : ¬ F b)
        have FE := Lib.hid (fun w' (hb : Below wr.heap.size wr w') => (by exact few_c _ w' ((haO.below hPA.out.below).below hb) : Calls Tryz.prog 27 #[.agg #[.int .i64 kd, .int .i64 n1, .int .i64 bt, .int .i64 bl, .int .i64 bb, .int .i64 br, .int .i64 pr, .int .i64 pc', .int .i32 cg, .int .u8 cr, .bool ck, .slice pa ps.length pc, .slice ra rw.length rc]] w' (Gives w' (ActD.few ⟨kd, n1, ⟨bt, bl, bb, br⟩, pr, pc', ⟨cg, cr, ck⟩, pa, pc, ps, ra, rc, rw⟩).v)))
        have haF := haO.few
        have h60 : (ActD.few ⟨kd, n1, ⟨bt, bl, bb, br⟩, pr, pc', ⟨cg, cr, ck⟩, pa, pc, ps, ra, rc, rw⟩).rw.length ≤ 60 := by simp [ActD.few]; omega
        generalize ActD.few ⟨kd, n1, ⟨bt, bl, bb, br⟩, pr, pc', ⟨cg, cr, ck⟩, pa, pc, ps, ra, rc, rw⟩ = af at FE hnx haF h60
        have DO := Lib.hid (fun w' (hb : Below wr.heap.size wr w') => do_c (G := fun b => b < w.heap.size) _ (hPA.out.page.grow hb) okS (hPA.out.ref.grow hb) (fun b hlt => Nat.lt_of_lt_of_le hlt (Nat.le_trans hPA.out.below.size hb.size)) af ((haF.below hPA.out.below).below hb) (fun h0 q o e f => by
          obtain ⟨b2, o2, e2, hl2, _⟩ := haF.ps h0
          rw [e] at e2
          injection e2 with e2
          injection e2 with e2
          have := (hPA.out.ge q f).1
          omega) (fun h0 q o e f => by
          obtain ⟨b2, o2, e2, hl2, _⟩ := haF.rw h0
          rw [e] at e2
          injection e2 with e2
          injection e2 with e2
          have := (hPA.out.ge q f).1
          omega) h60)
        rw [← hnx] at DO
        replace hnx := Lib.hid hnx
        replace hci := Lib.hid hci
        replace hc := Lib.hid hc
        replace haO := Lib.hid haO
        replace haF := Lib.hid haF
        have okT2 := Lib.hid okT
        clear okT okS
        go_upto_region 6 with fail
        (refine wp_region_F (S := (fun w' => w'.cell? ⟨H, 0, none⟩ = some (.slice Ai ni ci) ∧ w'.cell? ⟨H, 1, none⟩ = some (.int .i64 S.cols) ∧ w'.cell? ⟨b, off + i * 13, none⟩ = some (.int .i64 kd) ∧ w'.cell? ⟨b, off + i * 13 + 1, none⟩ = some (.int .i64 n1) ∧ w'.cell? ⟨b, off + i * 13 + 2, none⟩ = some (.int .i64 bt) ∧ w'.cell? ⟨b, off + i * 13 + 3, none⟩ = some (.int .i64 bl) ∧ w'.cell? ⟨b, off + i * 13 + 4, none⟩ = some (.int .i64 bb) ∧ w'.cell? ⟨b, off + i * 13 + 5, none⟩ = some (.int .i64 br) ∧ w'.cell? ⟨b, off + i * 13 + 6, none⟩ = some (.int .i64 pr) ∧ w'.cell? ⟨b, off + i * 13 + 7, none⟩ = some (.int .i64 pc') ∧ w'.cell? ⟨b, off + i * 13 + 8, none⟩ = some (.int .i32 cg) ∧ w'.cell? ⟨b, off + i * 13 + 9, none⟩ = some (.int .u8 cr) ∧ w'.cell? ⟨b, off + i * 13 + 10, none⟩ = some (.bool ck) ∧ w'.cell? ⟨b, off + i * 13 + 11, none⟩ = some (.slice pa ps.length pc) ∧ w'.cell? ⟨b, off + i * 13 + 12, none⟩ = some (.slice ra rw.length rc))) 8 [false, false, false, false, false, false, false, false, false] rfl rfl (by kernel_rfl) ?_ (fun hHeld => ?_); (focus ((try dsimp only); (refine ⟨?_, ?_, ?_, ?_, ?_, ?_, ?_, ?_, ?_, ?_, ?_, ?_, ?_, ?_, ?_⟩ <;> simp [go_sem, q0, q1, hHl, hbl, d0, d1, d2, d3, d4, d5, d6, d7, d8, d9, d10, d11, d12]); done)))
        ((refine AtF.take (oi := ?_) (v := ?_) 0 ?_ ?_ ?_ ?_ (Or.inl ⟨?_, ?_⟩) (by assumption) ?_; rotate_left 2; rfl; kernel_rfl; kernel_rfl; exact (fun _ _ _ h => h); rfl; (focus (intro w hSw; (try dsimp only at hSw); go_simp; (try with_reducible rfl); done)); (try simp only [Act.put, List.setIfInBounds_toArray, List.set_cons_zero, List.set_cons_succ])); (refine AtF.take (oi := ?_) (v := ?_) 1 ?_ ?_ ?_ ?_ (Or.inl ⟨?_, ?_⟩) (by assumption) ?_; rotate_left 2; rfl; kernel_rfl; kernel_rfl; exact (fun _ _ _ h => h); rfl; (focus (intro w hSw; (try dsimp only at hSw); go_simp; (try with_reducible rfl); done)); (try simp only [Act.put, List.setIfInBounds_toArray, List.set_cons_zero, List.set_cons_succ])); (refine AtF.take (oi := ?_) (v := ?_) 2 ?_ ?_ ?_ ?_ (Or.inl ⟨?_, ?_⟩) (by assumption) ?_; rotate_left 2; rfl; kernel_rfl; kernel_rfl; exact (fun _ _ _ h => h); rfl; (focus (intro w hSw; (try dsimp only at hSw); go_simp; (try with_reducible rfl); done)); (try simp only [Act.put, List.setIfInBounds_toArray, List.set_cons_zero, List.set_cons_succ])); (refine AtF.take (oi := ?_) (v := ?_) 3 ?_ ?_ ?_ ?_ (Or.inl ⟨?_, ?_⟩) (by assumption) ?_; rotate_left 2; rfl; kernel_rfl; kernel_rfl; exact (fun _ _ _ h => h); rfl; (focus (intro w hSw; (try dsimp only at hSw); go_simp; (try with_reducible rfl); done)); (try simp only [Act.put, List.setIfInBounds_toArray, List.set_cons_zero, List.set_cons_succ])); (refine AtF.take (oi := ?_) (v := ?_) 4 ?_ ?_ ?_ ?_ (Or.inl ⟨?_, ?_⟩) (by assumption) ?_; rotate_left 2; rfl; kernel_rfl; kernel_rfl; exact (fun _ _ _ h => h); rfl; (focus (intro w hSw; (try dsimp only at hSw); go_simp; (try with_reducible rfl); done)); (try simp only [Act.put, List.setIfInBounds_toArray, List.set_cons_zero, List.set_cons_succ])); (refine AtF.take (oi := ?_) (v := ?_) 5 ?_ ?_ ?_ ?_ (Or.inl ⟨?_, ?_⟩) (by assumption) ?_; rotate_left 2; rfl; kernel_rfl; kernel_rfl; exact (fun _ _ _ h => h); rfl; (focus (intro w hSw; (try dsimp only at hSw); go_simp; (try with_reducible rfl); done)); (try simp only [Act.put, List.setIfInBounds_toArray, List.set_cons_zero, List.set_cons_succ])))
        (refine AtF.only (oi := ?_) 6 ?_ ?_ (fun K hK => ?_); rotate_left 1; rfl; kernel_rfl; (try go_simp); (go_at_call 27; ((with_reducible refine (FE.out _ (by (repeat' (first | (with_reducible exact Below.refl _ _) | (with_reducible refine Below.alloc ?_ ?_ _) | (with_reducible refine below_ext ?_ ?_ _) | (with_reducible refine Below.drew ?_) | (with_reducible refine below_drewN ?_ _) | (with_reducible refine Below.setCell ?_ ?_ _) | go_size | (simp only [go_sem]; omega) | (simp [go_sem]; done) | (simp [go_sem]; omega))))).mono ?_); rintro _ _ hgets; obtain ⟨rfl, x5, rfl⟩ := hgets.get; clear hgets)); (refine hK.out _ _ ?_ (fun hHeld => ?_)); (focus ((try dsimp only); (refine ⟨?_, ?_, ?_, ?_, ?_, ?_, ?_, ?_, ?_, ?_, ?_, ?_, ?_, ?_, ?_⟩ <;> simp [go_sem, q0, q1, hHl, hbl, d0, d1, d2, d3, d4, d5, d6, d7, d8, d9, d10, d11, d12]); done)); clear hK K; (try simp only [Act.put, List.setIfInBounds_toArray, List.set_cons_zero, List.set_cons_succ]))
        (refine AtF.only (oi := ?_) 7 ?_ ?_ (fun K hK => ?_); rotate_left 1; rfl; kernel_rfl; (try go_simp); (go_at_call 26); (with_reducible refine (DO.out _ (by (repeat' (first | (with_reducible exact Below.refl _ _) | (with_reducible refine Below.alloc ?_ ?_ _) | (with_reducible refine below_ext ?_ ?_ _) | (with_reducible refine Below.drew ?_) | (with_reducible refine below_drewN ?_ _) | (with_reducible refine Below.setCell ?_ ?_ _) | go_size | (simp only [go_sem]; omega) | (simp [go_sem]; done) | (simp [go_sem]; omega))))).mono ?_); (rintro _ w2 ⟨U', F', rfl, hk, hp, hr, hf⟩); (obtain ⟨V2, rows2, rfl, hz1, hz2, hz3⟩ := id hr); (obtain ⟨A2, c2, rfl, hz4, hz5⟩ := hz1.form); clear hz1 hz2 hz3 hz4 hz5; have yH := hk.block H (by simp; omega) hHF.out; have yb := hk.block b (by simp; omega) hbF.out; have u0 := (cell_of_heap (i := 0) yH).trans (show _ = some (.slice Ai ni ci) by simp [go_sem, q0, hHl]); have u1 := (cell_of_heap (i := 1) yH).trans (show _ = some (.int .i64 S.cols) by simp [go_sem, q1, hHl]); have u2 := (cell_of_heap (i := off + i * 13) yb).trans (show _ = some (.int .i64 kd) by simp [go_sem, d0, hbl]); have u3 := (cell_of_heap (i := off + i * 13 + 1) yb).trans (show _ = some (.int .i64 n1) by simp [go_sem, d1, hbl]); have u4 := (cell_of_heap (i := off + i * 13 + 2) yb).trans (show _ = some (.int .i64 bt) by simp [go_sem, d2, hbl]); have u5 := (cell_of_heap (i := off + i * 13 + 3) yb).trans (show _ = some (.int .i64 bl) by simp [go_sem, d3, hbl]); have u6 := (cell_of_heap (i := off + i * 13 + 4) yb).trans (show _ = some (.int .i64 bb) by simp [go_sem, d4, hbl]); have u7 := (cell_of_heap (i := off + i * 13 + 5) yb).trans (show _ = some (.int .i64 br) by simp [go_sem, d5, hbl]); have u8 := (cell_of_heap (i := off + i * 13 + 6) yb).trans (show _ = some (.int .i64 pr) by simp [go_sem, d6, hbl]); have u9 := (cell_of_heap (i := off + i * 13 + 7) yb).trans (show _ = some (.int .i64 pc') by simp [go_sem, d7, hbl]); have u10 := (cell_of_heap (i := off + i * 13 + 8) yb).trans (show _ = some (.int .i32 cg) by simp [go_sem, d8, hbl]); have u11 := (cell_of_heap (i := off + i * 13 + 9) yb).trans (show _ = some (.int .u8 cr) by simp [go_sem, d9, hbl]); have u12 := (cell_of_heap (i := off + i * 13 + 10) yb).trans (show _ = some (.bool ck) by simp [go_sem, d10, hbl]); have u13 := (cell_of_heap (i := off + i * 13 + 11) yb).trans (show _ = some (.slice pa ps.length pc) by simp [go_sem, d11, hbl]); have u14 := (cell_of_heap (i := off + i * 13 + 12) yb).trans (show _ = some (.slice ra rw.length rc) by simp [go_sem, d12, hbl]); have uf0 := (frozen_of_heap (i := 0) yH).trans (show _ = false by simp [go_sem, qf0, hHl]); have uf1 := (frozen_of_heap (i := 1) yH).trans (show _ = false by simp [go_sem, qf1, hHl]); have ul : H < w2.heap.size := Nat.lt_of_lt_of_le (by simp; omega) hk.size; clear yH yb; replace hk := Lib.hid hk; replace hp := Lib.hid hp; replace hr := Lib.hid hr; replace hf := Lib.hid hf; (refine hK.out _ _ ?_ (fun hHeld => ?_)); (focus ((try dsimp only); exact ⟨u0, u1, u2, u3, u4, u5, u6, u7, u8, u9, u10, u11, u12, u13, u14⟩; done)); clear hK K; (try simp only [Act.put, List.setIfInBounds_toArray, List.set_cons_zero, List.set_cons_succ]))
        (refine AtF.last (oi := ?_) ?_ ?_ (fun K hK => ?_); rotate_left 1; rfl; kernel_rfl; go_simp; skip; refine hK.out _ _ ?_; clear hK K; (try simp only [Act.put, List.setIfInBounds_toArray, List.set_cons_zero, List.set_cons_succ]))
        have hP2 := (hPA.out.grow (below_of_ext wr x5)).next hk.out hp.out hr.out hf.out
        replace hP2 := Lib.hid hP2
        clear hHeld u0 u1 u2 u3 u4 u5 u6 u7 u8 u9 u10 u11 u12 u13 u14 uf0 uf1 ul hk hp hr hf q0 q1 qf0 qf1 hHl hbl d0 d1 d2 d3 d4 d5 d6 d7 d8 d9 d10 d11 d12 DO FE hHF hbF
        go_upto_region 7 with fail
        generalize (w2.setCell ⟨H, 0, none⟩ (.slice A2 rows2.length c2)).setCell ⟨H, 1, none⟩ (.int .i64 T.cols) = w3 at hP2 ⊢
        have IS := Lib.hid (fun w' (hb : Below w3.heap.size w3 w') => is_c _ (hP2.out.page.grow hb) okT2.out (hP2.out.ref.grow hb).v)
        have s0 : w3.cell? ⟨H, 0, none⟩ = some (.slice A2 rows2.length c2) := by rw [cell_in hP2.out.blk]; rfl
        have s1 : w3.cell? ⟨H, 1, none⟩ = some (.int .i64 T.cols) := by rw [cell_in hP2.out.blk]; rfl
        go_wp2_with (go_at_call 28; ((with_reducible refine (IS.out _ (by (repeat' (first | (with_reducible exact Below.refl _ _) | (with_reducible refine Below.alloc ?_ ?_ _) | (with_reducible refine below_ext ?_ ?_ _) | (with_reducible refine Below.drew ?_) | (with_reducible refine below_drewN ?_ _) | (with_reducible refine Below.setCell ?_ ?_ _) | go_size | (simp only [go_sem]; omega) | (simp [go_sem]; done) | (simp [go_sem]; omega))))).mono ?_); rintro _ _ hgets; obtain ⟨rfl, x9, rfl⟩ := hgets.get; clear hgets))
        exact ⟨⟨i + 1, F', _, _, _, by omega, by omega, by go_num, Lib.hid (by rw [← hT.out]; exact hP2.out.grow (below_of_ext w3 x9))⟩, by simp [intOf]; omega⟩
      · obtain rfl : i = 20 := by omega
        obtain ⟨S, hSe⟩ : ∃ S, S = playS S0 (acts.take 20) := ⟨_, rfl⟩
        rw [← hSe] at hPA okS
        replace hSe := Lib.hid hSe
        have hF := hPA.out.fin
        obtain ⟨W3, e3, t0, t1, t4⟩ := hF
        have q0 : wr.cell? ⟨H, 0, none⟩ = some (.slice Ai ni ci) := by rw [cell_in hPA.out.blk]; rfl
        have q1 : wr.cell? ⟨H, 1, none⟩ = some (.int .i64 S.cols) := by rw [cell_in hPA.out.blk]; rfl
        have hHl : H < wr.heap.size := heap_in hPA.out.blk
        obtain ⟨v0, v1, hRb⟩ := hPA.out.res
        have r0 : wr.cell? ⟨w.heap.size, 0, none⟩ = some v0 := by rw [cell_in hRb]; rfl
        have r1 : wr.cell? ⟨w.heap.size, 1, none⟩ = some v1 := by rw [cell_in hRb]; rfl
        have rf0 : wr.frozen? ⟨w.heap.size, 0, none⟩ = false := frozen_in hRb
        have rf1 : wr.frozen? ⟨w.heap.size, 1, none⟩ = false := frozen_in hRb
        have hRl : w.heap.size < wr.heap.size := heap_in hRb
        have hne := hPA.out.hrh
        replace t4 := Lib.hid t4
        clear hPA okS hRb
        go_upto_region 9 with fail
        have hRH : ¬ w.heap.size = H := hne
        have hRH2 : ¬ H = w.heap.size := fun e => hne e.symm
        have qw0 : W3.cell? ⟨H, 0, none⟩ = some (.slice Ai ni ci) := by rw [← e3]; exact (World.cell?_setCell_far _ _ _ _ hne).trans ((World.cell?_setCell_far _ _ _ _ hne).trans q0)
        have qw1 : W3.cell? ⟨H, 1, none⟩ = some (.int .i64 S.cols) := by rw [← e3]; exact (World.cell?_setCell_far _ _ _ _ hne).trans ((World.cell?_setCell_far _ _ _ _ hne).trans q1)
        go_region_held3 (fun w' => w'.cell? ⟨H, 0, none⟩ = some (.slice Ai ni ci) ∧ w'.cell? ⟨H, 1, none⟩ = some (.int .i64 S.cols)) ((refine ⟨?_, ?_⟩ <;> simp [go_sem, q0, q1, hHl, hRH, hRH2, qw0, qw1])) (fail)
        all_goals go_wp2
        all_goals simp [bodyPost, go_sem, t0, t1]
        all_goals exact ⟨_, by simp [results, Tryz.f5, go_sem, t0, t1] <;> rfl, by rw [← hSe.out]; exact PlayR.grow t4.out ((Below.refl _ _).drew)⟩
    · obtain rfl : i = acts.length := by omega
      have e1 : decide (acts.length < acts.length) = false := by simp
      have e2 : acts.take acts.length = acts.take 20 := by rw [List.take_of_length_le (Nat.le_refl _), List.take_of_length_le hi2]
      rw [e2] at hPA okS
      obtain ⟨S, hSe⟩ : ∃ S, S = playS S0 (acts.take 20) := ⟨_, rfl⟩
      rw [← hSe] at hPA okS
      replace hSe := Lib.hid hSe
      have hF := hPA.out.fin
      obtain ⟨W3, e3, t0, t1, t4⟩ := hF
      have q0 : wr.cell? ⟨H, 0, none⟩ = some (.slice Ai ni ci) := by rw [cell_in hPA.out.blk]; rfl
      have q1 : wr.cell? ⟨H, 1, none⟩ = some (.int .i64 S.cols) := by rw [cell_in hPA.out.blk]; rfl
      have hHl : H < wr.heap.size := heap_in hPA.out.blk
      obtain ⟨v0, v1, hRb⟩ := hPA.out.res
      have r0 : wr.cell? ⟨w.heap.size, 0, none⟩ = some v0 := by rw [cell_in hRb]; rfl
      have r1 : wr.cell? ⟨w.heap.size, 1, none⟩ = some v1 := by rw [cell_in hRb]; rfl
      have rf0 : wr.frozen? ⟨w.heap.size, 0, none⟩ = false := frozen_in hRb
      have rf1 : wr.frozen? ⟨w.heap.size, 1, none⟩ = false := frozen_in hRb
      have hRl : w.heap.size < wr.heap.size := heap_in hRb
      have hne := hPA.out.hrh
      replace t4 := Lib.hid t4
      clear hPA okS hRb
      go_upto_region 9 with fail
      have hRH : ¬ w.heap.size = H := hne
      have hRH2 : ¬ H = w.heap.size := fun e => hne e.symm
      have qw0 : W3.cell? ⟨H, 0, none⟩ = some (.slice Ai ni ci) := by rw [← e3]; exact (World.cell?_setCell_far _ _ _ _ hne).trans ((World.cell?_setCell_far _ _ _ _ hne).trans q0)
      have qw1 : W3.cell? ⟨H, 1, none⟩ = some (.int .i64 S.cols) := by rw [← e3]; exact (World.cell?_setCell_far _ _ _ _ hne).trans ((World.cell?_setCell_far _ _ _ _ hne).trans q1)
      go_region_held3 (fun w' => w'.cell? ⟨H, 0, none⟩ = some (.slice Ai ni ci) ∧ w'.cell? ⟨H, 1, none⟩ = some (.int .i64 S.cols)) ((refine ⟨?_, ?_⟩ <;> simp [go_sem, q0, q1, hHl, hRH, hRH2, qw0, qw1])) (fail)
      all_goals go_wp2
      all_goals simp [bodyPost, go_sem, t0, t1]
      all_goals exact ⟨_, by simp [results, Tryz.f5, go_sem, t0, t1] <;> rfl, by rw [← hSe.out]; exact PlayR.grow t4.out ((Below.refl _ _).drew)⟩
end Go.Proofs.YtgmbnnmckdjabaaGreat
