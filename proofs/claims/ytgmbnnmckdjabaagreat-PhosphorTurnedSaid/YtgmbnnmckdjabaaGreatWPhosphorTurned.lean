/- PhosphorTurned: the walk.  -/
import Derived.Test.YtgmbnnmckdjabaaGreatPgTwin
import Derived.Test.YtgmbnnmckdjabaaGreatBkB
import Derived.Test.YtgmbnnmckdjabaaGreatPgJoin
import Derived.Test.YtgmbnnmckdjabaaGreatAwake8
import Derived.Deep.CutBlock
namespace Go.Proofs.YtgmbnnmckdjabaaGreat
open Go.RowKit
set_option linter.unusedVariables false
set_option linter.unusedSimpArgs false

/-- the page with all sizes single; nothing -/
def flatP (S : PgS) : PgS := ⟨S.rows.map fun r => (r.1, 0), S.cols⟩
def bareP (S : PgS) : PgS := ⟨List.replicate S.rows.length (List.replicate S.cols erC, 0), S.cols⟩
def fullB (S : PgS) : BxI := ⟨0, 0, S.rows.length, S.cols⟩
theorem onB_full {m n : Nat} (hm : 1 ≤ m) (hn : 1 ≤ n) : onB m n ⟨0, 0, m, n⟩ = ⟨0, 0, m, n⟩ := by
  have e : ∀ s, meetI 0 0 m n 0 0 m n s = s (0, 0, m, n) := fun s => by
    unfold meetI
    rw [if_neg (by omega)]
    congr 1
    simp
  unfold onB
  simp only [e]
theorem newS_bare {S : PgS} (hS : S.Ok) : newS S.rows.length S.cols = bareP S := by
  have h1 := hS.r1; have h2 := hS.r2; have h3 := hS.c1; have h4 := hS.c2
  unfold newS resizeS bareP
  have e1 : dimN (S.rows.length : Int) = S.rows.length := by unfold dimN; omega
  have e2 : dimN (S.cols : Int) = S.cols := by unfold dimN; omega
  rw [e1, e2]
  congr 1
  refine List.ext_getElem (by simp) fun i a b => ?_
  simp [resRow]
section
variable {S T : PgS}
theorem bare_row {i : Nat} (h : i < S.rows.length) : rowD (bareP S) i = (List.replicate S.cols erC, 0) := by simp [rowD, bareP, h]
theorem flat_row {i : Nat} (h : i < S.rows.length) : rowD (flatP S) i = ((rowD S i).1, 0) := by simp [rowD, flatP, h]
theorem bare_ok (hS : S.Ok) : (bareP S).Ok := by rw [← newS_bare hS]; exact newS_ok _ _
theorem flatP_len : (flatP S).rows.length = S.rows.length := by simp [flatP]
theorem bareP_len : (bareP S).rows.length = S.rows.length := by simp [bareP]
theorem flat_ok (hS : S.Ok) : (flatP S).Ok := by
  refine ⟨by rw [flatP_len]; exact hS.r1, by rw [flatP_len]; exact hS.r2, hS.c1, hS.c2, fun r hr => ?_, fun r hr => ?_⟩
  · obtain ⟨q, hq, rfl⟩ := List.mem_map.1 hr
    exact hS.wid q hq
  · obtain ⟨q, hq, rfl⟩ := List.mem_map.1 hr
    exact hS.ok q hq
theorem flat_flat : flatP (flatP S) = flatP S := by simp [flatP]
/-- the whole of a page, copied to a page of its size that has no sizes -/
theorem paste_full (hS : S.Ok) (hT : T.Ok) (hl : T.rows.length = S.rows.length) (hc : T.cols = S.cols) (h0 : ∀ i, i < T.rows.length → (rowD T i).2 = 0) : pasteS T S (fullB S) 0 0 = flatP S := by
  refine PgS.ext_rows ?_ hc fun i hi => ?_
  · unfold pasteS
    rw [pasteJ_len, flatP_len, hl]
  · unfold pasteS at hi
    rw [pasteJ_len] at hi
    have hi' : i < S.rows.length := by omega
    have e : rowD (pasteS T S (fullB S) 0 0) i = ((rowD T i).1.mapIdx (pasteG S (fullB S) 0 0 ((fullB S).b - (fullB S).t).toNat i), (rowD T i).2) := by
      rw [rowD_in (by unfold pasteS; rw [pasteJ_len]; exact hi), rowD_in hi]
      unfold pasteS pasteJ
      rw [mapS_at hi]
    rw [e, flat_row hi', h0 i hi]
    refine Prod.ext (List.ext_getElem? fun k => ?_) rfl
    have l1 := rowD_len hT hi
    have l2 := rowD_len hS hi'
    simp only [List.getElem?_mapIdx]
    rcases Nat.lt_or_ge k S.cols with hk | hk
    · rw [List.getElem?_eq_getElem (show k < (rowD T i).1.length by omega), List.getElem?_eq_getElem (show k < (rowD S i).1.length by omega), Option.map_some]
      unfold pasteG fullB
      simp only
      rw [if_pos (by omega)]
      congr 1
      rw [cellAt_in (show (0 + ((i : Int) - 0)).toNat < S.rows.length by omega) (by rw [hS.len]; omega)]
      have e1 : (0 + ((i : Int) - 0)).toNat = i := by omega
      have e2 : (0 + ((k : Int) - 0)).toNat = k := by omega
      simp only [e1, e2, rowD_in hi']
    · rw [List.getElem?_eq_none (by omega), List.getElem?_eq_none (by omega)]
      rfl
theorem erase_full (hS : S.Ok) (hT : T.Ok) (hl : T.rows.length = S.rows.length) (hc : T.cols = S.cols) (h0 : ∀ i, i < T.rows.length → (rowD T i).2 = 0) : eachS T (fullB S) (fun xs l r => eachR xs l r fun _ => erC) = bareP S := by
  have hf : (fullB S).Fits T.rows.length T.cols := by
    rw [hl, hc]
    unfold fullB
    constructor <;> simp
  refine PgS.ext_rows (by rw [eachS_len, bareP_len, hl]) hc fun i hi => ?_
  rw [eachS_len] at hi
  rw [each_row _ hf hi, if_pos (by unfold fullB; simp only; omega), bare_row (by omega), h0 i hi]
  refine Prod.ext (List.ext_getElem? fun k => ?_) rfl
  have l1 := rowD_len hT hi
  simp only
  unfold eachR
  rw [updR_opt, List.getElem?_replicate]
  rcases Nat.lt_or_ge k S.cols with hk | hk
  · have hkl : k < (rowD T i).1.length := by omega
    rw [List.getElem?_eq_getElem hkl, Option.map_some, if_pos ⟨hkl, inS_iff.2 ⟨by omega, by omega, by unfold fullB; simp only; omega, by unfold fullB; simp only; omega⟩⟩, if_pos hk]
  · rw [List.getElem?_eq_none (by omega), if_neg (by omega)]
    rfl
theorem cells_flat (b : BxI) : cellsS (flatP S) b = cellsS S b := by
  unfold cellsS
  refine List.map_congr_left fun i _ => ?_
  show cutR (rowD (flatP S) (b.t.toNat + i)).1 b.l b.r = cutR (rowD S (b.t.toNat + i)).1 b.l b.r
  by_cases h : b.t.toNat + i < S.rows.length
  · rw [flat_row h]
  · simp [rowD, flatP, h]
/-- a book of four pages, the page S on one of them, and on one more -/
def KB (S st : PgS) (a c : Nat) (n : Nat) : BkS := ⟨((List.replicate 4 (bareP S)).set a (flatP S)).set c (flatP S), st, n, false⟩
theorem KB_len {st : PgS} {a c n : Nat} : (KB S st a c n).pages.length = 4 := by simp [KB]
theorem KB_get {st : PgS} {a c n i : Nat} (h : i < 4) : (KB S st a c n).pages[i]? = some (if i = c ∨ i = a then flatP S else bareP S) := by
  unfold KB
  simp only
  rw [List.getElem?_set, List.getElem?_set, List.getElem?_replicate]
  simp only [List.length_set, List.length_replicate]
  by_cases e1 : c = i
  · simp [e1, h]
  · by_cases e2 : a = i
    · simp [e1, e2, h, Ne.symm e1]
    · simp [e1, e2, h, Ne.symm e1, Ne.symm e2]
theorem KB_ok {st : PgS} {a c n : Nat} (hS : S.Ok) (hst : st.Ok) (hn : n < 4) : (KB S st a c n).Ok := by
  refine ⟨by rw [KB_len]; omega, by rw [KB_len]; omega, by rw [KB_len]; exact hn, fun P hP => ?_, hst⟩
  obtain ⟨i, hi, rfl⟩ := List.getElem_of_mem hP
  have := KB_get (S := S) (st := st) (a := a) (c := c) (n := n) (i := i) (by rwa [KB_len] at hi)
  rw [List.getElem?_eq_getElem hi] at this
  rw [Option.some.inj this]
  split
  · exact flat_ok hS
  · exact bare_ok hS
theorem KB_step {st : PgS} {a c n : Nat} (t : Int) : (KB S st a c n).step t = KB S st a c (turnN (KB S st a c n) ((n : Int) + clampR t (-100) 100)) := rfl
theorem KB_pgAt {st : PgS} {a c n i : Nat} (h : i < 4) : (KB S st a c n).pgAt (i : Int) = if i = c ∨ i = a then flatP S else bareP S := by
  unfold BkS.pgAt
  rw [Int.toNat_natCast, List.getD_eq_getElem?_getD, KB_get h]
  rfl
theorem KB_copy {st : PgS} {a c : Nat} (hS : S.Ok) (ha : a < 4) (hc : c < 4) : (KB S st a a c).copy (a : Int) (fullB S) (c : Int) 0 0 = KB S st a c c := by
  have i1 : (KB S st a a c).inP (a : Int) = true := by unfold BkS.inP; rw [KB_len]; simp; omega
  have i2 : (KB S st a a c).inP (c : Int) = true := by unfold BkS.inP; rw [KB_len]; simp; omega
  unfold BkS.copy
  rw [i1, i2]
  simp only [Bool.and_self, if_true]
  unfold BkS.copied
  have g1 : (KB S st a a c).pgAt (a : Int) = flatP S := by rw [KB_pgAt ha, if_pos (.inl rfl)]
  rw [g1, KB_pgAt hc, Int.toNat_natCast]
  have hof : onB (flatP S).rows.length (flatP S).cols (fullB S) = fullB (flatP S) := by
    rw [flatP_len]
    unfold fullB
    rw [flatP_len]
    exact onB_full hS.r1 hS.c1
  rw [hof]
  have hp : pasteS (if c = a ∨ c = a then flatP S else bareP S) (flatP S) (fullB (flatP S)) 0 0 = flatP S := by
    split
    · rw [paste_full (flat_ok hS) (flat_ok hS) rfl rfl (fun i hi => by rw [flatP_len] at hi; rw [flat_row hi]), flat_flat]
    · rw [paste_full (flat_ok hS) (bare_ok hS) (by rw [bareP_len, flatP_len]) rfl (fun i hi => by rw [bareP_len] at hi; rw [bare_row hi]), flat_flat]
  rw [hp]
  unfold BkS.set
  rw [if_pos (by rw [KB_len]; exact hc)]
  unfold KB
  simp only [List.set_set]
theorem KB_erase {st : PgS} {a c n : Nat} (ha : a < 4) (hne : a ≠ c) : (KB S st a c n).set a (bareP S) = KB S st c c n := by
  unfold BkS.set
  rw [if_pos (by rw [KB_len]; exact ha)]
  unfold KB
  simp only [List.set_set]
  congr 1
  refine List.ext_getElem? fun i => ?_
  simp only [List.getElem?_set, List.length_set, List.length_replicate, List.getElem?_replicate]
  by_cases e1 : a = i <;> by_cases e2 : c = i
  · omega
  · first | (simp [e1, e2]; done) | (simp [e1, e2]; omega)
  · simp [e1, e2]
  · simp [e1, e2]
theorem KB_new {st : PgS} : (⟨(List.replicate 4 (bareP S)).set 0 (flatP S), st, 0, false⟩ : BkS) = KB S st 0 0 0 := by
  unfold KB
  simp only [List.set_set]
theorem newB_bare (hS : S.Ok) : newB 4 S.rows.length S.cols = ⟨List.replicate 4 (bareP S), newS 1 S.cols, 0, false⟩ := by
  unfold newB
  rw [newS_bare hS]
  rfl
end
/-- a book behind a world -/
structure Bk1 (W1 w : World) (b : Nat) (S : BkS) : Prop where
  below : Below W1.heap.size W1 w
  ex : ∃ F, BkAt w F b S ∧ ∀ x, F x → W1.heap.size ≤ x
theorem Bk1.grow {W1 w w' : World} {b : Nat} {S : BkS} (h : Bk1 W1 w b S) (hb : Below w.heap.size w w') : Bk1 W1 w' b S :=
  ⟨h.below.trans (hb.mono h.below.size), h.ex.elim fun F hF => ⟨F, hF.1.grow hb, hF.2⟩⟩
theorem Bk1.get {W1 w : World} {b : Nat} {S : BkS} (h : Bk1 W1 w b S) : ∃ F V ps st, BkO w F b S V ps st ∧ ∀ w1 w2 T, Below w.heap.size w w1 → BDid F b T w1 w2 → Bk1 W1 w2 b T := by
  obtain ⟨hb, F, ⟨V, ps, st, hO⟩, hF⟩ := h
  refine ⟨F, V, ps, st, hO, fun w1 w2 T h1 hd => ?_⟩
  have hd := hd.back h1 hO.lt
  exact ⟨hb.trans (hd.1.below hF hb.size), _, hd.2, fun x hx => hx.elim (hF x) (fun e => Nat.le_trans hb.size e.1)⟩
theorem KB_inP {S st : PgS} {a c n i : Nat} (h : i < 4) : (KB S st a c n).inP (i : Int) = true := by unfold BkS.inP; rw [KB_len]; simp; omega
theorem KB_set0 {S st : PgS} : (BkS.mk (List.replicate 4 (bareP S)) st 0 false).set 0 (flatP S) = KB S st 0 0 0 := by
  rw [← KB_new]
  unfold BkS.set
  rw [if_pos (by simp)]
attribute [local go_sem ↓] cell_neq
set_option maxRecDepth 100000 in
set_option maxHeartbeats 8000000 in
theorem PhosphorTurned_walk (w : World) (A : Option Addr) (C : Nat) (xs : List ActD) (rd : Rd ActD.cells 13 w A xs) (hl : xs.length ≤ C) (hm : C ≤ maxLen) (ha : ∀ a ∈ xs, a.Ok w)
    (A' : Option Addr) (C' : Nat) (ts : List Int) (rt : Rd (encI .i64) 1 w A' ts) (hl' : ts.length ≤ C') (hm' : C' ≤ maxLen) (_wf : ∀ n ∈ ts, (Lit.int .i64 n).wf = true) (_re : C' * 8 ≤ 140737488351232) :
    Calls Tryz.prog 3 #[.slice A xs.length C, .slice A' ts.length C'] w (fun e w' => e = .returned (.bool true) ∧ Below w.heap.size w w') := by
  have P1 := Lib.hid (play_at 4 5 xs A C rd hl hm ha)
  have okS := playNew_ok 4 5 xs ha
  generalize playNew 4 5 xs = S at P1 okS
  have X := Lib.hid (show Ints w A' ts from rt)
  have hlen : ts.length ≤ 9223372036854775807 := by simp only [maxLen] at hm'; omega
  clear rd ha rt _wf _re hm' hl' hm hl
  have hr1 := okS.r1
  have hr2 := okS.r2
  have hc1 := okS.c1
  have hc2 := okS.c2
  go_enter Tryz.func3, Tryz.ntmps3
  go_upto_region 4 with ((go_at_call 5); (with_reducible refine (P1.out _ (by (repeat' (first | (with_reducible exact Below.refl _ _) | (with_reducible refine Below.alloc ?_ ?_ _) | (with_reducible refine below_ext ?_ ?_ _) | (with_reducible refine Below.drew ?_) | (with_reducible refine below_drewN ?_ _) | (with_reducible refine Below.setCell ?_ ?_ _) | go_size | (simp only [go_sem]; omega) | (simp [go_sem]; done) | (simp [go_sem]; omega))))).mono ?_); (rintro _ W ⟨p, _, F, rfl, hb, hp, hr, hf⟩); (obtain ⟨V, ru, rfl, e1, e2, e3⟩ := hr); (obtain ⟨A1, c1, rfl, _, _⟩ := e1.form); clear e1 e2 e3; replace hb := Lib.hid hb; replace hp := Lib.hid hp; replace hf := Lib.hid hf)
  obtain ⟨W1, hW1⟩ : ∃ W1, W1 = W.alloc (.cells #[.slice A1 ru.length c1, .int .i64 S.cols] 27) := ⟨_, rfl⟩
  have hg1 : Below W.heap.size W W1 := by rw [hW1]; (repeat' (first | (with_reducible exact Below.refl _ _) | (with_reducible refine Below.alloc ?_ ?_ _) | (with_reducible refine below_ext ?_ ?_ _) | (with_reducible refine Below.drew ?_) | (with_reducible refine below_drewN ?_ _) | (with_reducible refine Below.setCell ?_ ?_ _) | go_size | (simp only [go_sem]; omega) | (simp [go_sem]; done) | (simp [go_sem]; omega)))
  have hb1 := Lib.hid (hb.out.trans (hg1.mono hb.out.size))
  have hp1 := Lib.hid (hp.out.grow hg1)
  rw [← hW1]
  clear hW1 hg1 hb hp hf P1
  have RW := Lib.hid (fun w' (hb : Below W1.heap.size W1 w') => rows_p (hp1.out.grow hb))
  have CW := Lib.hid (fun w' (hb : Below W1.heap.size W1 w') => cols_p (hp1.out.grow hb))
  have NB := Lib.hid (fun w' => new_b 4 S.rows.length S.cols w')
  rw [newB_bare okS] at NB
  have okst : (newS 1 S.cols).Ok := newS_ok _ _
  generalize newS 1 S.cols = st at NB okst
  go_upto_region 5 with (first
    | (go_at_call 7; ((with_reducible refine (RW.out _ (by (repeat' (first | (with_reducible exact Below.refl _ _) | (with_reducible refine Below.alloc ?_ ?_ _) | (with_reducible refine below_ext ?_ ?_ _) | (with_reducible refine Below.drew ?_) | (with_reducible refine below_drewN ?_ _) | (with_reducible refine Below.setCell ?_ ?_ _) | go_size | (simp only [go_sem]; omega) | (simp [go_sem]; done) | (simp [go_sem]; omega))))).mono ?_); rintro _ _ hgets; obtain ⟨rfl, y1, rfl⟩ := hgets.get; clear hgets))
    | (go_at_call 8; ((with_reducible refine (CW.out _ (by (repeat' (first | (with_reducible exact Below.refl _ _) | (with_reducible refine Below.alloc ?_ ?_ _) | (with_reducible refine below_ext ?_ ?_ _) | (with_reducible refine Below.drew ?_) | (with_reducible refine below_drewN ?_ _) | (with_reducible refine Below.setCell ?_ ?_ _) | go_size | (simp only [go_sem]; omega) | (simp [go_sem]; done) | (simp [go_sem]; omega))))).mono ?_); rintro _ _ hgets; obtain ⟨rfl, y2, rfl⟩ := hgets.get; clear hgets))
    | ((go_at_call 6); (with_reducible refine (NB.out _).mono ?_); (rintro _ _ ⟨b, F2, x3, rfl, rfl, hF, hB⟩); replace hF := Lib.hid hF; replace hB := Lib.hid hB))
  obtain ⟨W2, hW2⟩ : ∃ W2, W2 = ext (ext (ext W1 y1) y2) x3 := ⟨_, rfl⟩
  have hK : Bk1 W1 W2 b ⟨List.replicate 4 (bareP S), st, 0, false⟩ := ⟨by rw [hW2]; (repeat' (first | (with_reducible exact Below.refl _ _) | (with_reducible refine Below.alloc ?_ ?_ _) | (with_reducible refine below_ext ?_ ?_ _) | (with_reducible refine Below.drew ?_) | (with_reducible refine below_drewN ?_ _) | (with_reducible refine Below.setCell ?_ ?_ _) | go_size | (simp only [go_sem]; omega) | (simp [go_sem]; done) | (simp [go_sem]; omega))), F2, by rw [hW2]; exact hB.out, fun x hx => by have := hF.out x hx; simp only [size_ext] at this; omega⟩
  rw [← hW2]
  clear hW2 hF hB NB RW CW
  obtain ⟨F2, V2, ps, st2, hO, hD⟩ := hK.get
  obtain ⟨r, hq1, hq2, hP⟩ := hO.get (i := 0) (by simp)
  have hP' : PageAt W2 r.F r.p (bareP S) := hP
  have okK0 : (BkS.mk (List.replicate 4 (bareP S)) st 0 false).Ok := ⟨by simp, by simp, by simp, fun P hP => by rw [List.eq_of_mem_replicate hP]; exact bare_ok okS, okst⟩
  have PG := Lib.hid (fun w' (hb : Below W2.heap.size W2 w') => (by exact page_b (hO.grow hb) okK0 hq1 : Calls Tryz.prog 9 #[ptrV b, .int .i64 0] w' (Gives w' (ptrV r.p))))
  have BX := Lib.hid (fun w' (hb : Below W2.heap.size W2 w') => box_p (hp1.out.grow (hK.below.trans (hb.mono hK.below.size))))
  have CP := Lib.hid (fun w' (hb : Below W2.heap.size W2 w') => copy_p (hP'.grow hb) (bare_ok okS) (hp1.out.grow (hK.below.trans (hb.mono hK.below.size))) okS ⟨0, 0, S.rows.length, S.cols⟩ 0 0 (by omega) (by omega))
  rw [onB_full hr1 hc1, show pasteS (bareP S) S ⟨0, 0, S.rows.length, S.cols⟩ 0 0 = flatP S from paste_full okS (bare_ok okS) bareP_len rfl (fun i hi => by rw [bareP_len] at hi; rw [bare_row hi])] at CP
  have BK := Lib.hid (fun w' (hb : Below W2.heap.size W2 w') w3 (hd : Did r.F r.p (flatP S) w' w3) => hD _ _ _ (Below.refl _ _) ((hO.act hq2 (Did.back hd hb hP'.lt)).did))
  rw [KB_set0] at BK
  clear hO hD hP hP' hq1 hq2 hK okK0
  go_upto_region 6 with (first
    | (go_at_call 9; ((with_reducible refine (PG.out _ (by (repeat' (first | (with_reducible exact Below.refl _ _) | (with_reducible refine Below.alloc ?_ ?_ _) | (with_reducible refine below_ext ?_ ?_ _) | (with_reducible refine Below.drew ?_) | (with_reducible refine below_drewN ?_ _) | (with_reducible refine Below.setCell ?_ ?_ _) | go_size | (simp only [go_sem]; omega) | (simp [go_sem]; done) | (simp [go_sem]; omega))))).mono ?_); rintro _ _ hgets; obtain ⟨rfl, y4, rfl⟩ := hgets.get; clear hgets))
    | (go_at_call 11; ((with_reducible refine (BX.out _ (by (repeat' (first | (with_reducible exact Below.refl _ _) | (with_reducible refine Below.alloc ?_ ?_ _) | (with_reducible refine below_ext ?_ ?_ _) | (with_reducible refine Below.drew ?_) | (with_reducible refine below_drewN ?_ _) | (with_reducible refine Below.setCell ?_ ?_ _) | go_size | (simp only [go_sem]; omega) | (simp [go_sem]; done) | (simp [go_sem]; omega))))).mono ?_); rintro _ _ hgets; obtain ⟨rfl, y5, rfl⟩ := hgets.get; clear hgets))
    | ((go_at_call 10); (with_reducible refine (CP.out _ (by (repeat' (first | (with_reducible exact Below.refl _ _) | (with_reducible refine Below.alloc ?_ ?_ _) | (with_reducible refine below_ext ?_ ?_ _) | (with_reducible refine Below.drew ?_) | (with_reducible refine below_drewN ?_ _) | (with_reducible refine Below.setCell ?_ ?_ _) | go_size | (simp only [go_sem]; omega) | (simp [go_sem]; done) | (simp [go_sem]; omega))))).mono ?_); (rintro _ W3 ⟨rfl, hd⟩); (have hK3 := Lib.hid (BK.out _ (by (repeat' (first | (with_reducible exact Below.refl _ _) | (with_reducible refine Below.alloc ?_ ?_ _) | (with_reducible refine below_ext ?_ ?_ _) | (with_reducible refine Below.drew ?_) | (with_reducible refine below_drewN ?_ _) | (with_reducible refine Below.setCell ?_ ?_ _) | go_size | (simp only [go_sem]; omega) | (simp [go_sem]; done) | (simp [go_sem]; omega)))) _ hd)); clear hd))
  clear PG BX CP BK
  go_upto_block 0 with fail
  go_cut [9] (fun av wr => ∃ a : Nat, a < 4 ∧ av = .int .i64 a ∧ Hid (Bk1 W1 wr b (KB S st a a a)))
  case first =>
   go_wp2
   go_loopw [9, 10] (fun av iv wr => ∃ (i a : Nat), i ≤ min ts.length 20 ∧ iv = .int .i64 i ∧ a < 4 ∧ av = .int .i64 a ∧ Hid (Bk1 W1 wr b (KB S st a a a))) (fun _ iv _ => min ts.length 20 - (intOf iv).toNat)
   case atStart => exact ⟨0, 0, by omega, rfl, by omega, rfl, hK3⟩
   case round =>
     clear hK3
     obtain ⟨i, a, hi, rfl, ha, rfl, hK⟩ := hrel
     by_cases hlt : i < min ts.length 20
     · have hlt1 : i < ts.length := by omega
       have hlt20 : i < 20 := by omega
       obtain ⟨q, q0, rfl, hq, hx⟩ := X.out.cell hlt1
       have hwr : Below w.heap.size w wr := hb1.out.trans (hK.out.below.mono hb1.out.size)
       have t0 := (hwr.cell (p := ⟨q, _, none⟩) hq).trans hx
       have ql := Nat.lt_of_lt_of_le hq hwr.size
       clear hx
       generalize ts[i] = t at t0
       obtain ⟨F2, V2, ps, st2, hO, hD⟩ := hK.out.get
       have okK := KB_ok okS okst ha (a := a) (c := a)
       have STP := Lib.hid (fun w' (hb : Below wr.heap.size wr w') => step_b (hO.grow hb) okK t)
       replace hD := Lib.hid hD
       have hc4 := (turnN_eq okK ((a : Int) + clampR t (-100) 100)).2.1
       rw [KB_len] at hc4
       rw [KB_step] at STP
       generalize turnN (KB S st a a a) ((a : Int) + clampR t (-100) 100) = c at STP hc4
       clear hO
       go_upto_region 12 with ((go_at_call 12); (with_reducible refine (STP.out _ (by (repeat' (first | (with_reducible exact Below.refl _ _) | (with_reducible refine Below.alloc ?_ ?_ _) | (with_reducible refine below_ext ?_ ?_ _) | (with_reducible refine Below.drew ?_) | (with_reducible refine below_drewN ?_ _) | (with_reducible refine Below.setCell ?_ ?_ _) | go_size | (simp only [go_sem]; omega) | (simp [go_sem]; done) | (simp [go_sem]; omega))))).mono ?_); (rintro _ w2 ⟨rfl, hd⟩); (have hK2 := Lib.hid (hD.out _ _ _ (by (repeat' (first | (with_reducible exact Below.refl _ _) | (with_reducible refine Below.alloc ?_ ?_ _) | (with_reducible refine below_ext ?_ ?_ _) | (with_reducible refine Below.drew ?_) | (with_reducible refine below_drewN ?_ _) | (with_reducible refine Below.setCell ?_ ?_ _) | go_size | (simp only [go_sem]; omega) | (simp [go_sem]; done) | (simp [go_sem]; omega)))) hd)); clear hd)
       clear STP hD t0 ql hK hwr
       obtain ⟨F2, V2, ps, st2, hO, hD⟩ := hK2.out.get
       have okK2 := KB_ok okS okst hc4 (a := a) (c := a)
       have NW := Lib.hid (fun w' (hb : Below w2.heap.size w2 w') => (by exact now_b (hO.grow hb) : Calls Tryz.prog 13 #[ptrV b] w' (Gives w' (.int .i64 c))))
       have BX := Lib.hid (fun w' (hb : Below w2.heap.size w2 w') => box_p (hp1.out.grow (hK2.out.below.trans (hb.mono hK2.out.below.size))))
       have CB := Lib.hid (fun w' (hb : Below w2.heap.size w2 w') => copy_b (hO.grow hb) okK2 a ⟨0, 0, S.rows.length, S.cols⟩ c 0 0 (by omega) (by omega))
       rw [show (KB S st a a c).copy (a : Int) ⟨0, 0, S.rows.length, S.cols⟩ (c : Int) 0 0 = KB S st a c c from KB_copy okS ha hc4, KB_inP ha, KB_inP hc4, Bool.and_self] at CB
       replace hD := Lib.hid hD
       clear hO
       go_upto_region 15 with (first
         | (go_at_call 13; ((with_reducible refine (NW.out _ (by (repeat' (first | (with_reducible exact Below.refl _ _) | (with_reducible refine Below.alloc ?_ ?_ _) | (with_reducible refine below_ext ?_ ?_ _) | (with_reducible refine Below.drew ?_) | (with_reducible refine below_drewN ?_ _) | (with_reducible refine Below.setCell ?_ ?_ _) | go_size | (simp only [go_sem]; omega) | (simp [go_sem]; done) | (simp [go_sem]; omega))))).mono ?_); rintro _ _ hgets; obtain ⟨rfl, y6, rfl⟩ := hgets.get; clear hgets))
         | (go_at_call 11; ((with_reducible refine (BX.out _ (by (repeat' (first | (with_reducible exact Below.refl _ _) | (with_reducible refine Below.alloc ?_ ?_ _) | (with_reducible refine below_ext ?_ ?_ _) | (with_reducible refine Below.drew ?_) | (with_reducible refine below_drewN ?_ _) | (with_reducible refine Below.setCell ?_ ?_ _) | go_size | (simp only [go_sem]; omega) | (simp [go_sem]; done) | (simp [go_sem]; omega))))).mono ?_); rintro _ _ hgets; obtain ⟨rfl, y7, rfl⟩ := hgets.get; clear hgets))
         | ((go_at_call 14); (with_reducible refine (CB.out _ (by (repeat' (first | (with_reducible exact Below.refl _ _) | (with_reducible refine Below.alloc ?_ ?_ _) | (with_reducible refine below_ext ?_ ?_ _) | (with_reducible refine Below.drew ?_) | (with_reducible refine below_drewN ?_ _) | (with_reducible refine Below.setCell ?_ ?_ _) | go_size | (simp only [go_sem]; omega) | (simp [go_sem]; done) | (simp [go_sem]; omega))))).mono ?_); (rintro _ w3 ⟨rfl, hd⟩); (have hK4 := Lib.hid (hD.out _ _ _ (by (repeat' (first | (with_reducible exact Below.refl _ _) | (with_reducible refine Below.alloc ?_ ?_ _) | (with_reducible refine below_ext ?_ ?_ _) | (with_reducible refine Below.drew ?_) | (with_reducible refine below_drewN ?_ _) | (with_reducible refine Below.setCell ?_ ?_ _) | go_size | (simp only [go_sem]; omega) | (simp [go_sem]; done) | (simp [go_sem]; omega)))) hd)); clear hd))
       clear NW BX CB hD hK2
       by_cases hac : a = c
       · subst hac
         have q1 : ((a : Int) != (a : Int)) = false := by simp
         go_wp2
         exact ⟨⟨i + 1, a, by omega, by go_num, hc4, rfl, hK4⟩, by simp [intOf]; omega⟩
       · have q1 : ((a : Int) != (c : Int)) = true := by rw [bne_iff_ne]; omega
         obtain ⟨F2, V2, ps, st2, hO, hD⟩ := hK4.out.get
         have okK3 := KB_ok okS okst hc4 (a := a) (c := c)
         obtain ⟨r, hq1, hq2, hP⟩ := hO.get (i := a) (by rw [KB_len]; exact ha)
         have hP' : PageAt w3 r.F r.p (flatP S) := by
           have e := KB_get (S := S) (st := st) (a := a) (c := c) (n := c) ha
           rw [List.getElem?_eq_getElem (by rw [KB_len]; exact ha), if_pos (.inr rfl)] at e
           rw [Option.some.inj e] at hP
           exact hP
         have PG := Lib.hid (fun w' (hb : Below w3.heap.size w3 w') => page_b (hO.grow hb) okK3 hq1)
         have BX := Lib.hid (fun w' (hb : Below w3.heap.size w3 w') => box_p (hp1.out.grow (hK4.out.below.trans (hb.mono hK4.out.below.size))))
         have ER := Lib.hid (fun w' (hb : Below w3.heap.size w3 w') => erase_p (hP'.grow hb) (flat_ok okS) ⟨0, 0, S.rows.length, S.cols⟩)
         rw [show onB (flatP S).rows.length (flatP S).cols ⟨0, 0, S.rows.length, S.cols⟩ = ⟨0, 0, S.rows.length, S.cols⟩ by rw [flatP_len]; exact onB_full hr1 hc1, show eachS (flatP S) ⟨0, 0, S.rows.length, S.cols⟩ (fun xs l r => eachR xs l r fun _ => erC) = bareP S from erase_full okS (flat_ok okS) flatP_len rfl (fun i hi => by rw [flatP_len] at hi; rw [flat_row hi])] at ER
         have BK := Lib.hid (fun w' (hb : Below w3.heap.size w3 w') w4 (hd : Did r.F r.p (bareP S) w' w4) => hD _ _ _ (Below.refl _ _) ((hO.act hq2 (Did.back hd hb hP'.lt)).did))
         rw [KB_erase ha hac] at BK
         clear hO hD hP hP' hq1 hq2
         go_wp2_with (first
           | (go_at_call 9; ((with_reducible refine (PG.out _ (by (repeat' (first | (with_reducible exact Below.refl _ _) | (with_reducible refine Below.alloc ?_ ?_ _) | (with_reducible refine below_ext ?_ ?_ _) | (with_reducible refine Below.drew ?_) | (with_reducible refine below_drewN ?_ _) | (with_reducible refine Below.setCell ?_ ?_ _) | go_size | (simp only [go_sem]; omega) | (simp [go_sem]; done) | (simp [go_sem]; omega))))).mono ?_); rintro _ _ hgets; obtain ⟨rfl, y8, rfl⟩ := hgets.get; clear hgets))
           | (go_at_call 11; ((with_reducible refine (BX.out _ (by (repeat' (first | (with_reducible exact Below.refl _ _) | (with_reducible refine Below.alloc ?_ ?_ _) | (with_reducible refine below_ext ?_ ?_ _) | (with_reducible refine Below.drew ?_) | (with_reducible refine below_drewN ?_ _) | (with_reducible refine Below.setCell ?_ ?_ _) | go_size | (simp only [go_sem]; omega) | (simp [go_sem]; done) | (simp [go_sem]; omega))))).mono ?_); rintro _ _ hgets; obtain ⟨rfl, y9, rfl⟩ := hgets.get; clear hgets))
           | ((go_at_call 15); (with_reducible refine (ER.out _ (by (repeat' (first | (with_reducible exact Below.refl _ _) | (with_reducible refine Below.alloc ?_ ?_ _) | (with_reducible refine below_ext ?_ ?_ _) | (with_reducible refine Below.drew ?_) | (with_reducible refine below_drewN ?_ _) | (with_reducible refine Below.setCell ?_ ?_ _) | go_size | (simp only [go_sem]; omega) | (simp [go_sem]; done) | (simp [go_sem]; omega))))).mono ?_); (rintro _ w4 ⟨rfl, hd⟩); (have hK5 := Lib.hid (BK.out _ (by (repeat' (first | (with_reducible exact Below.refl _ _) | (with_reducible refine Below.alloc ?_ ?_ _) | (with_reducible refine below_ext ?_ ?_ _) | (with_reducible refine Below.drew ?_) | (with_reducible refine below_drewN ?_ _) | (with_reducible refine Below.setCell ?_ ?_ _) | go_size | (simp only [go_sem]; omega) | (simp [go_sem]; done) | (simp [go_sem]; omega)))) _ hd)); clear hd))
         exact ⟨⟨i + 1, c, by omega, by go_num, hc4, rfl, hK5⟩, by simp [intOf]; omega⟩
     · have hcon : (¬ i < ts.length) ∨ (i < ts.length ∧ ¬ i < 20) := by omega
       have hi20 : i ≤ 20 := by omega
       clear hlt
       rcases hcon with hx1 | ⟨hx1, hx2⟩
       · go_wp2
         go_meet
         exact ⟨a, ha, rfl, hK⟩
       · go_wp2
         go_meet
         exact ⟨a, ha, rfl, hK⟩
  case rest =>
    clear hK3
    obtain ⟨wr, hwc⟩ : ∃ wr, wr = wc := ⟨_, rfl⟩
    subst hwc
    obtain ⟨a, ha, rfl, hK⟩ := hcut
    go_upto_region 17 with fail
    have RW := Lib.hid (fun w' (hb : Below wr.heap.size wr w') => rows_p (hp1.out.grow (hK.out.below.trans (hb.mono hK.out.below.size))))
    have CW := Lib.hid (fun w' (hb : Below wr.heap.size wr w') => cols_p (hp1.out.grow (hK.out.below.trans (hb.mono hK.out.below.size))))
    have NP := Lib.hid (fun w' => new_p S.rows.length S.cols w')
    rw [show resizeS ⟨[], 0⟩ S.rows.length S.cols = bareP S from newS_bare okS] at NP
    go_upto_region 18 with (first
      | (go_at_call 7; ((with_reducible refine (RW.out _ (by (repeat' (first | (with_reducible exact Below.refl _ _) | (with_reducible refine Below.alloc ?_ ?_ _) | (with_reducible refine below_ext ?_ ?_ _) | (with_reducible refine Below.drew ?_) | (with_reducible refine below_drewN ?_ _) | (with_reducible refine Below.setCell ?_ ?_ _) | go_size | (simp only [go_sem]; omega) | (simp [go_sem]; done) | (simp [go_sem]; omega))))).mono ?_); rintro _ _ hgets; obtain ⟨rfl, v1, rfl⟩ := hgets.get; clear hgets))
      | (go_at_call 8; ((with_reducible refine (CW.out _ (by (repeat' (first | (with_reducible exact Below.refl _ _) | (with_reducible refine Below.alloc ?_ ?_ _) | (with_reducible refine below_ext ?_ ?_ _) | (with_reducible refine Below.drew ?_) | (with_reducible refine below_drewN ?_ _) | (with_reducible refine Below.setCell ?_ ?_ _) | go_size | (simp only [go_sem]; omega) | (simp [go_sem]; done) | (simp [go_sem]; omega))))).mono ?_); rintro _ _ hgets; obtain ⟨rfl, v2, rfl⟩ := hgets.get; clear hgets))
      | ((go_at_call 16); (with_reducible refine (NP.out _).mono ?_); (rintro _ _ ⟨q, Fq, v3, rfl, rfl, hFq, hQ⟩); replace hFq := Lib.hid hFq; replace hQ := Lib.hid hQ))
    obtain ⟨W5, hW5⟩ : ∃ W5, W5 = ext (ext (ext wr v1) v2) v3 := ⟨_, rfl⟩
    have hg5 : Below wr.heap.size wr W5 := by rw [hW5]; (repeat' (first | (with_reducible exact Below.refl _ _) | (with_reducible refine Below.alloc ?_ ?_ _) | (with_reducible refine below_ext ?_ ?_ _) | (with_reducible refine Below.drew ?_) | (with_reducible refine below_drewN ?_ _) | (with_reducible refine Below.setCell ?_ ?_ _) | go_size | (simp only [go_sem]; omega) | (simp [go_sem]; done) | (simp [go_sem]; omega)))
    have hK5 := hK.out.grow hg5
    have hp5 := Lib.hid (hp1.out.grow hK5.below)
    have hQ5 : Hid (PageAt W5 Fq q (bareP S)) := by rw [hW5]; exact hQ
    have hb5 := Lib.hid (hb1.out.trans (hK5.below.mono hb1.out.size))
    rw [← hW5]
    obtain ⟨F2, V2, ps, st2, hO, -⟩ := hK5.get
    replace hO := Lib.hid hO
    have okK := KB_ok okS okst ha (a := a) (c := a)
    clear hW5 hg5 hK5 hFq hQ RW CW NP hK X
    have hvs : ∀ T : PgS, T.Ok → T.cols = S.cols → T.rows.length = S.rows.length → (cellsS T ⟨0, 0, S.rows.length, S.cols⟩).length ≤ 500 ∧ ∀ ys ∈ cellsS T ⟨0, 0, S.rows.length, S.cols⟩, ys.length ≤ 1000 := fun T hT e1 e2 => by
      refine ⟨by simp only [cellsS, List.length_map, List.length_range]; omega, fun ys hys => ?_⟩
      obtain ⟨i, _, rfl⟩ := List.mem_map.1 hys
      rw [cutR_len]
      dsimp only
      unfold spanN
      omega
    go_wp2
    go_loopw [13] (fun jv wr => ∃ j : Nat, j ≤ 4 ∧ jv = .int .i64 j ∧ Hid (Below W5.heap.size W5 wr)) (fun jv _ => 4 - (intOf jv).toNat)
    case atStart => exact ⟨0, by omega, rfl, Lib.hid (Below.refl _ _)⟩
    case round =>
      obtain ⟨j, hj, rfl, hbr⟩ := hrel
      obtain ⟨Wa, hWa⟩ : ∃ Wa, Wa = wr := ⟨_, rfl⟩
      subst hWa
      have hOa := hO.out.grow hbr.out
      have hpa := hp5.out.grow hbr.out
      have hQa := hQ5.out.grow hbr.out
      by_cases hlt : j < 4
      · have f0 : decide ((j : Int) < 4) = true := decide_eq_true (by omega)
        obtain ⟨r, hq1, hq2, hP⟩ := hOa.get (i := j) (by rw [KB_len]; exact hlt)
        have e := KB_get (S := S) (st := st) (a := a) (c := a) (n := a) hlt
        rw [List.getElem?_eq_getElem (by rw [KB_len]; exact hlt)] at e
        rw [Option.some.inj e] at hP
        clear e
        have PG := Lib.hid (fun w' (hb : Below Wa.heap.size Wa w') => page_b (hOa.grow hb) okK hq1)
        have BXp := Lib.hid (fun w' (hb : Below Wa.heap.size Wa w') => box_p (hpa.grow hb))
        have BXq := (Lib.hid (fun w' (hb : Below Wa.heap.size Wa w') => (by have := box_p (hQa.grow hb); rw [bareP_len] at this; exact this)) : Hid (∀ w', Below Wa.heap.size Wa w' → Calls Tryz.prog 11 #[ptrV q] w' (Gives w' (boxV 0 0 S.rows.length S.cols))))
        have CLq := Lib.hid (fun w' (hb : Below Wa.heap.size Wa w') => cells_p (hQa.grow hb) (bare_ok okS) ⟨0, 0, S.rows.length, S.cols⟩)
        rw [show onB (bareP S).rows.length (bareP S).cols ⟨0, 0, S.rows.length, S.cols⟩ = ⟨0, 0, S.rows.length, S.cols⟩ by rw [bareP_len]; exact onB_full hr1 hc1] at CLq
        by_cases hja : j = a
        · rw [if_pos (.inl hja)] at hP
          have q1 : ((j : Int) == (a : Int)) = true := by simp [hja]
          replace hja := Lib.hid hja
          have CLp := Lib.hid (fun w' (hb : Below Wa.heap.size Wa w') => cells_p (hpa.grow hb) okS ⟨0, 0, S.rows.length, S.cols⟩)
          have CLg := Lib.hid (fun w' (hb : Below Wa.heap.size Wa w') => cells_p (hP.grow hb) (flat_ok okS) ⟨0, 0, S.rows.length, S.cols⟩)
          rw [onB_full hr1 hc1] at CLp
          rw [show onB (flatP S).rows.length (flatP S).cols ⟨0, 0, S.rows.length, S.cols⟩ = ⟨0, 0, S.rows.length, S.cols⟩ by rw [flatP_len]; exact onB_full hr1 hc1, cells_flat] at CLg
          have hv1 := (hvs S okS rfl rfl).1
          have hvw := Lib.hid (hvs S okS rfl rfl).2
          generalize cellsS S ⟨0, 0, S.rows.length, S.cols⟩ = vals at CLp CLg hv1 hvw
          clear hP hq1 hq2 hOa hpa hQa
          go_upto_region 25 with (first
            | (go_at_call 9; ((with_reducible refine (PG.out _ (by (repeat' (first | (with_reducible exact Below.refl _ _) | (with_reducible refine Below.alloc ?_ ?_ _) | (with_reducible refine below_ext ?_ ?_ _) | (with_reducible refine Below.drew ?_) | (with_reducible refine below_drewN ?_ _) | (with_reducible refine Below.setCell ?_ ?_ _) | go_size | (simp only [go_sem]; omega) | (simp [go_sem]; done) | (simp [go_sem]; omega))))).mono ?_); rintro _ _ hgets; obtain ⟨rfl, y3, rfl⟩ := hgets.get; clear hgets))
            | (go_at_call 11; ((with_reducible refine (BXp.out _ (by (repeat' (first | (with_reducible exact Below.refl _ _) | (with_reducible refine Below.alloc ?_ ?_ _) | (with_reducible refine below_ext ?_ ?_ _) | (with_reducible refine Below.drew ?_) | (with_reducible refine below_drewN ?_ _) | (with_reducible refine Below.setCell ?_ ?_ _) | go_size | (simp only [go_sem]; omega) | (simp [go_sem]; done) | (simp [go_sem]; omega))))).mono ?_); rintro _ _ hgets; obtain ⟨rfl, y4, rfl⟩ := hgets.get; clear hgets))
            | (go_at_call 11; ((with_reducible refine (BXq.out _ (by (repeat' (first | (with_reducible exact Below.refl _ _) | (with_reducible refine Below.alloc ?_ ?_ _) | (with_reducible refine below_ext ?_ ?_ _) | (with_reducible refine Below.drew ?_) | (with_reducible refine below_drewN ?_ _) | (with_reducible refine Below.setCell ?_ ?_ _) | go_size | (simp only [go_sem]; omega) | (simp [go_sem]; done) | (simp [go_sem]; omega))))).mono ?_); rintro _ _ hgets; obtain ⟨rfl, y5, rfl⟩ := hgets.get; clear hgets))
            | ((go_at_call 17); (with_reducible refine (CLq.out _ (by (repeat' (first | (with_reducible exact Below.refl _ _) | (with_reducible refine Below.alloc ?_ ?_ _) | (with_reducible refine below_ext ?_ ?_ _) | (with_reducible refine Below.drew ?_) | (with_reducible refine below_drewN ?_ _) | (with_reducible refine Below.setCell ?_ ?_ _) | go_size | (simp only [go_sem]; omega) | (simp [go_sem]; done) | (simp [go_sem]; omega))))).mono ?_); (rintro _ _ ⟨Vqq, Rqq, Xqq, rfl, rfl, hCqq, hVqq⟩); (obtain ⟨Aqq, cqq, rfl, _, _⟩ := hCqq.own.form); (replace hCqq := Lib.hid hCqq); (replace hVqq := Lib.hid hVqq))
            | ((go_at_call 17); (with_reducible refine (CLp.out _ (by (repeat' (first | (with_reducible exact Below.refl _ _) | (with_reducible refine Below.alloc ?_ ?_ _) | (with_reducible refine below_ext ?_ ?_ _) | (with_reducible refine Below.drew ?_) | (with_reducible refine below_drewN ?_ _) | (with_reducible refine Below.setCell ?_ ?_ _) | go_size | (simp only [go_sem]; omega) | (simp [go_sem]; done) | (simp [go_sem]; omega))))).mono ?_); (rintro _ _ ⟨Vpp, Rpp, Xpp, rfl, rfl, hCpp, hVpp⟩); (obtain ⟨App, cpp, rfl, _, _⟩ := hCpp.own.form); (replace hCpp := Lib.hid hCpp); (replace hVpp := Lib.hid hVpp))
            | ((go_at_call 17); (with_reducible refine (CLg.out _ (by (repeat' (first | (with_reducible exact Below.refl _ _) | (with_reducible refine Below.alloc ?_ ?_ _) | (with_reducible refine below_ext ?_ ?_ _) | (with_reducible refine Below.drew ?_) | (with_reducible refine below_drewN ?_ _) | (with_reducible refine Below.setCell ?_ ?_ _) | go_size | (simp only [go_sem]; omega) | (simp [go_sem]; done) | (simp [go_sem]; omega))))).mono ?_); (rintro _ _ ⟨Vgt, Rgt, Xgt, rfl, rfl, hCgt, hVgt⟩); (obtain ⟨Agt, cgt, rfl, _, _⟩ := hCgt.own.form); (replace hCgt := Lib.hid hCgt); (replace hVgt := Lib.hid hVgt)))
          clear PG BXp BXq CLp CLq CLg
          have hl1 := Lib.hid (show Rpp.length = vals.length by have := congrArg List.length hVpp.out; simpa using this)
          have hl2 := Lib.hid (show Rgt.length = vals.length by have := congrArg List.length hVgt.out; simpa using this)
          have hvl : Rpp.length ≤ 500 := by have := hl1.out; omega
          go_wp2
          go_loopw [102] (fun kv wr => ∃ k : Nat, k ≤ Rpp.length ∧ kv = .int .i64 k ∧ Hid (Below W5.heap.size W5 wr) ∧ Hid (CellsAt 0 wr (.slice App Rpp.length cpp) Rpp) ∧ Hid (CellsAt 0 wr (.slice Agt Rgt.length cgt) Rgt)) (fun kv _ => Rpp.length - (intOf kv).toNat)
          case atStart => exact ⟨0, by omega, rfl, Lib.hid (hbr.out.trans (Below.mono (B := Wa.heap.size) (by (repeat' (first | (with_reducible exact Below.refl _ _) | (with_reducible refine Below.alloc ?_ ?_ _) | (with_reducible refine below_ext ?_ ?_ _) | (with_reducible refine Below.drew ?_) | (with_reducible refine below_drewN ?_ _) | (with_reducible refine Below.setCell ?_ ?_ _) | go_size | (simp only [go_sem]; omega) | (simp [go_sem]; done) | (simp [go_sem]; omega)))) hbr.out.size)), Lib.hid ((hCpp.out.mono (Nat.zero_le _)).grow (by (repeat' (first | (with_reducible exact Below.refl _ _) | (with_reducible refine Below.alloc ?_ ?_ _) | (with_reducible refine below_ext ?_ ?_ _) | (with_reducible refine Below.drew ?_) | (with_reducible refine below_drewN ?_ _) | (with_reducible refine Below.setCell ?_ ?_ _) | go_size | (simp only [go_sem]; omega) | (simp [go_sem]; done) | (simp [go_sem]; omega))))), Lib.hid ((hCgt.out.mono (Nat.zero_le _)).grow (by (repeat' (first | (with_reducible exact Below.refl _ _) | (with_reducible refine Below.alloc ?_ ?_ _) | (with_reducible refine below_ext ?_ ?_ _) | (with_reducible refine Below.drew ?_) | (with_reducible refine below_drewN ?_ _) | (with_reducible refine Below.setCell ?_ ?_ _) | go_size | (simp only [go_sem]; omega) | (simp [go_sem]; done) | (simp [go_sem]; omega)))))⟩
          case round =>
            obtain ⟨k, hk, rfl, hbk, hC1, hC2⟩ := hrel
            obtain ⟨Wb, hWb⟩ : ∃ Wb, Wb = wr := ⟨_, rfl⟩
            subst hWb
            by_cases hkl : k < Rpp.length
            · have f1 : decide (k < Rpp.length) = true := decide_eq_true hkl
              have i2 : k < Rgt.length := by have := hl1.out; have := hl2.out; omega
              have hkv : k < vals.length := by have := hl1.out; omega
              have K1 := hC1.out
              have K2 := hC2.out
              obtain ⟨gb, off, rfl, hbl, hce⟩ := (K1.own.rd encQ_len).cell1 hkl rfl
              obtain ⟨hn1, hrd1⟩ := K1.rd _ (List.getElem_mem hkl)
              obtain ⟨gb2, off2, rfl, hbl2, hce2⟩ := (K2.own.rd encQ_len).cell1 i2 rfl
              obtain ⟨hn2, hrd2⟩ := K2.rd _ (List.getElem_mem i2)
              have hxs1 : Rpp[k].2 = vals[k] := by
                have h5 : (Rpp.map Prod.snd)[k]'(by simpa using hkl) = vals[k] := by simp only [hVpp.out]
                simpa using h5
              have hxs2 : Rgt[k].2 = vals[k] := by
                have h5 : (Rgt.map Prod.snd)[k]'(by simpa using i2) = vals[k] := by simp only [hVgt.out]
                simpa using h5
              rw [hxs1] at hn1 hrd1
              rw [hxs2] at hn2 hrd2
              have vl : vals[k].length ≤ 1000 := hvw.out vals[k] (List.getElem_mem hkv)
              generalize vals[k] = ys at hn1 hn2 hrd1 hrd2 vl
              generalize Rpp[k] = ra at hce hn1 hrd1
              generalize Rgt[k] = rb at hce2 hn2 hrd2
              obtain ⟨ra, cs1⟩ := ra
              obtain ⟨rb, cs2⟩ := rb
              replace hce : Wb.cell? ⟨gb, off + k, none⟩ = some (.slice ra.adr ys.length ra.c) := by rw [hce, ← hn1]; rfl
              replace hce2 : Wb.cell? ⟨gb2, off2 + k, none⟩ = some (.slice rb.adr ys.length rb.c) := by rw [hce2, ← hn2]; rfl
              replace hrd1 := Lib.hid hrd1
              replace hrd2 := Lib.hid hrd2
              clear K1 K2 hxs1 hxs2 hn1 hn2
              go_wp2
              go_loopw [110] (fun uv wr => ∃ u : Nat, u ≤ ys.length ∧ uv = .int .i64 u ∧ Hid (Below Wb.heap.size Wb wr)) (fun uv _ => ys.length - (intOf uv).toNat)
              case atStart => exact ⟨0, by omega, rfl, Lib.hid (Below.refl _ _)⟩
              case round =>
                obtain ⟨u, hu, rfl, hbu⟩ := hrel
                by_cases hul : u < ys.length
                · have f2 : decide (u < ys.length) = true := decide_eq_true hul
                  obtain ⟨g1, o1, ea1, hg1, d0, d1, d2⟩ := hrd1.out.cell3 hul
                  obtain ⟨g2, o2, ea2, hg2, d3, d4, d5⟩ := hrd2.out.cell3 hul
                  rw [ea1] at hce
                  rw [ea2] at hce2
                  generalize ys[u] = y at d0 d1 d2 d3 d4 d5
                  obtain ⟨yg, yr, yk⟩ := y
                  simp only at d0 d1 d2 d3 d4 d5
                  have he0 := eqC_t (rfl : (⟨yg, yr, yk⟩ : Cl) = ⟨yg, yr, yk⟩)
                  have m1 := (hbu.out.cell (p := ⟨gb, _, none⟩) hbl).trans hce
                  have m2 := (hbu.out.cell (p := ⟨gb2, _, none⟩) hbl2).trans hce2
                  have m3 := (hbu.out.cell (p := ⟨g1, _, none⟩) hg1).trans d0
                  have m4 := (hbu.out.cell (p := ⟨g1, _, none⟩) hg1).trans d1
                  have m5 := (hbu.out.cell (p := ⟨g1, _, none⟩) hg1).trans d2
                  have m6 := (hbu.out.cell (p := ⟨g2, _, none⟩) hg2).trans d3
                  have m7 := (hbu.out.cell (p := ⟨g2, _, none⟩) hg2).trans d4
                  have m8 := (hbu.out.cell (p := ⟨g2, _, none⟩) hg2).trans d5
                  have s1 := Nat.lt_of_lt_of_le hbl hbu.out.size
                  have s2 := Nat.lt_of_lt_of_le hbl2 hbu.out.size
                  have s3 := Nat.lt_of_lt_of_le hg1 hbu.out.size
                  have s4 := Nat.lt_of_lt_of_le hg2 hbu.out.size
                  clear hce hce2 d0 d1 d2 d3 d4 d5
                  go_upto_region 31 with fail
                  (refine wp_region_free (by kernel_rfl) (by kernel_rfl) ?_)
                  repeat (go_big_quiet_step (fail))
                  refine wpQuiet_nil ?_; rintro _ ⟨x9, rfl⟩
                  go_wp2
                  exact ⟨⟨u + 1, by omega, by go_num, Lib.hid (hbu.out.trans (Below.mono (B := wr.heap.size) (by (repeat' (first | (with_reducible exact Below.refl _ _) | (with_reducible refine Below.alloc ?_ ?_ _) | (with_reducible refine below_ext ?_ ?_ _) | (with_reducible refine Below.drew ?_) | (with_reducible refine below_drewN ?_ _) | (with_reducible refine Below.setCell ?_ ?_ _) | go_size | (simp only [go_sem]; omega) | (simp [go_sem]; done) | (simp [go_sem]; omega)))) hbu.out.size))⟩, by simp [intOf]; omega⟩
                · obtain rfl : u = ys.length := by omega
                  have f2 : decide (ys.length < ys.length) = false := by simp
                  go_wp2
                  exact ⟨⟨k + 1, by omega, by go_num, Lib.hid (hbk.out.trans (hbu.out.mono hbk.out.size)), Lib.hid (hC1.out.grow hbu.out), Lib.hid (hC2.out.grow hbu.out)⟩, by simp [intOf]; omega⟩
            · obtain rfl : k = Rpp.length := by omega
              have f1 : decide (Rpp.length < Rpp.length) = false := by simp
              go_wp2
              exact ⟨⟨j + 1, by omega, by go_num, hbk⟩, by simp [intOf]; omega⟩
        · rw [if_neg (by omega)] at hP
          have q1 : ((j : Int) == (a : Int)) = false := by simp; omega
          have CLg := Lib.hid (fun w' (hb : Below Wa.heap.size Wa w') => cells_p (hP.grow hb) (bare_ok okS) ⟨0, 0, S.rows.length, S.cols⟩)
          rw [show onB (bareP S).rows.length (bareP S).cols ⟨0, 0, S.rows.length, S.cols⟩ = ⟨0, 0, S.rows.length, S.cols⟩ by rw [bareP_len]; exact onB_full hr1 hc1] at CLg
          have hv1 := (hvs (bareP S) (bare_ok okS) rfl bareP_len).1
          have hvw := Lib.hid (hvs (bareP S) (bare_ok okS) rfl bareP_len).2
          generalize cellsS (bareP S) ⟨0, 0, S.rows.length, S.cols⟩ = vals at CLq CLg hv1 hvw
          clear hP hq1 hq2 hOa hpa hQa
          go_upto_region 25 with (first
            | (go_at_call 9; ((with_reducible refine (PG.out _ (by (repeat' (first | (with_reducible exact Below.refl _ _) | (with_reducible refine Below.alloc ?_ ?_ _) | (with_reducible refine below_ext ?_ ?_ _) | (with_reducible refine Below.drew ?_) | (with_reducible refine below_drewN ?_ _) | (with_reducible refine Below.setCell ?_ ?_ _) | go_size | (simp only [go_sem]; omega) | (simp [go_sem]; done) | (simp [go_sem]; omega))))).mono ?_); rintro _ _ hgets; obtain ⟨rfl, y3, rfl⟩ := hgets.get; clear hgets))
            | (go_at_call 11; ((with_reducible refine (BXp.out _ (by (repeat' (first | (with_reducible exact Below.refl _ _) | (with_reducible refine Below.alloc ?_ ?_ _) | (with_reducible refine below_ext ?_ ?_ _) | (with_reducible refine Below.drew ?_) | (with_reducible refine below_drewN ?_ _) | (with_reducible refine Below.setCell ?_ ?_ _) | go_size | (simp only [go_sem]; omega) | (simp [go_sem]; done) | (simp [go_sem]; omega))))).mono ?_); rintro _ _ hgets; obtain ⟨rfl, y4, rfl⟩ := hgets.get; clear hgets))
            | (go_at_call 11; ((with_reducible refine (BXq.out _ (by (repeat' (first | (with_reducible exact Below.refl _ _) | (with_reducible refine Below.alloc ?_ ?_ _) | (with_reducible refine below_ext ?_ ?_ _) | (with_reducible refine Below.drew ?_) | (with_reducible refine below_drewN ?_ _) | (with_reducible refine Below.setCell ?_ ?_ _) | go_size | (simp only [go_sem]; omega) | (simp [go_sem]; done) | (simp [go_sem]; omega))))).mono ?_); rintro _ _ hgets; obtain ⟨rfl, y5, rfl⟩ := hgets.get; clear hgets))
            | ((go_at_call 17); (with_reducible refine (CLq.out _ (by (repeat' (first | (with_reducible exact Below.refl _ _) | (with_reducible refine Below.alloc ?_ ?_ _) | (with_reducible refine below_ext ?_ ?_ _) | (with_reducible refine Below.drew ?_) | (with_reducible refine below_drewN ?_ _) | (with_reducible refine Below.setCell ?_ ?_ _) | go_size | (simp only [go_sem]; omega) | (simp [go_sem]; done) | (simp [go_sem]; omega))))).mono ?_); (rintro _ _ ⟨Vqq, Rqq, Xqq, rfl, rfl, hCqq, hVqq⟩); (obtain ⟨Aqq, cqq, rfl, _, _⟩ := hCqq.own.form); (replace hCqq := Lib.hid hCqq); (replace hVqq := Lib.hid hVqq))
            | ((go_at_call 17); (with_reducible refine (CLg.out _ (by (repeat' (first | (with_reducible exact Below.refl _ _) | (with_reducible refine Below.alloc ?_ ?_ _) | (with_reducible refine below_ext ?_ ?_ _) | (with_reducible refine Below.drew ?_) | (with_reducible refine below_drewN ?_ _) | (with_reducible refine Below.setCell ?_ ?_ _) | go_size | (simp only [go_sem]; omega) | (simp [go_sem]; done) | (simp [go_sem]; omega))))).mono ?_); (rintro _ _ ⟨Vgt, Rgt, Xgt, rfl, rfl, hCgt, hVgt⟩); (obtain ⟨Agt, cgt, rfl, _, _⟩ := hCgt.own.form); (replace hCgt := Lib.hid hCgt); (replace hVgt := Lib.hid hVgt)))
          clear PG BXp BXq CLq CLg
          have hl1 := Lib.hid (show Rqq.length = vals.length by have := congrArg List.length hVqq.out; simpa using this)
          have hl2 := Lib.hid (show Rgt.length = vals.length by have := congrArg List.length hVgt.out; simpa using this)
          have hvl : Rqq.length ≤ 500 := by have := hl1.out; omega
          go_wp2
          go_loopw [102] (fun kv wr => ∃ k : Nat, k ≤ Rqq.length ∧ kv = .int .i64 k ∧ Hid (Below W5.heap.size W5 wr) ∧ Hid (CellsAt 0 wr (.slice Aqq Rqq.length cqq) Rqq) ∧ Hid (CellsAt 0 wr (.slice Agt Rgt.length cgt) Rgt)) (fun kv _ => Rqq.length - (intOf kv).toNat)
          case atStart => exact ⟨0, by omega, rfl, Lib.hid (hbr.out.trans (Below.mono (B := Wa.heap.size) (by (repeat' (first | (with_reducible exact Below.refl _ _) | (with_reducible refine Below.alloc ?_ ?_ _) | (with_reducible refine below_ext ?_ ?_ _) | (with_reducible refine Below.drew ?_) | (with_reducible refine below_drewN ?_ _) | (with_reducible refine Below.setCell ?_ ?_ _) | go_size | (simp only [go_sem]; omega) | (simp [go_sem]; done) | (simp [go_sem]; omega)))) hbr.out.size)), Lib.hid ((hCqq.out.mono (Nat.zero_le _)).grow (by (repeat' (first | (with_reducible exact Below.refl _ _) | (with_reducible refine Below.alloc ?_ ?_ _) | (with_reducible refine below_ext ?_ ?_ _) | (with_reducible refine Below.drew ?_) | (with_reducible refine below_drewN ?_ _) | (with_reducible refine Below.setCell ?_ ?_ _) | go_size | (simp only [go_sem]; omega) | (simp [go_sem]; done) | (simp [go_sem]; omega))))), Lib.hid ((hCgt.out.mono (Nat.zero_le _)).grow (by (repeat' (first | (with_reducible exact Below.refl _ _) | (with_reducible refine Below.alloc ?_ ?_ _) | (with_reducible refine below_ext ?_ ?_ _) | (with_reducible refine Below.drew ?_) | (with_reducible refine below_drewN ?_ _) | (with_reducible refine Below.setCell ?_ ?_ _) | go_size | (simp only [go_sem]; omega) | (simp [go_sem]; done) | (simp [go_sem]; omega)))))⟩
          case round =>
            obtain ⟨k, hk, rfl, hbk, hC1, hC2⟩ := hrel
            obtain ⟨Wb, hWb⟩ : ∃ Wb, Wb = wr := ⟨_, rfl⟩
            subst hWb
            by_cases hkl : k < Rqq.length
            · have f1 : decide (k < Rqq.length) = true := decide_eq_true hkl
              have i2 : k < Rgt.length := by have := hl1.out; have := hl2.out; omega
              have hkv : k < vals.length := by have := hl1.out; omega
              have K1 := hC1.out
              have K2 := hC2.out
              obtain ⟨gb, off, rfl, hbl, hce⟩ := (K1.own.rd encQ_len).cell1 hkl rfl
              obtain ⟨hn1, hrd1⟩ := K1.rd _ (List.getElem_mem hkl)
              obtain ⟨gb2, off2, rfl, hbl2, hce2⟩ := (K2.own.rd encQ_len).cell1 i2 rfl
              obtain ⟨hn2, hrd2⟩ := K2.rd _ (List.getElem_mem i2)
              have hxs1 : Rqq[k].2 = vals[k] := by
                have h5 : (Rqq.map Prod.snd)[k]'(by simpa using hkl) = vals[k] := by simp only [hVqq.out]
                simpa using h5
              have hxs2 : Rgt[k].2 = vals[k] := by
                have h5 : (Rgt.map Prod.snd)[k]'(by simpa using i2) = vals[k] := by simp only [hVgt.out]
                simpa using h5
              rw [hxs1] at hn1 hrd1
              rw [hxs2] at hn2 hrd2
              have vl : vals[k].length ≤ 1000 := hvw.out vals[k] (List.getElem_mem hkv)
              generalize vals[k] = ys at hn1 hn2 hrd1 hrd2 vl
              generalize Rqq[k] = ra at hce hn1 hrd1
              generalize Rgt[k] = rb at hce2 hn2 hrd2
              obtain ⟨ra, cs1⟩ := ra
              obtain ⟨rb, cs2⟩ := rb
              replace hce : Wb.cell? ⟨gb, off + k, none⟩ = some (.slice ra.adr ys.length ra.c) := by rw [hce, ← hn1]; rfl
              replace hce2 : Wb.cell? ⟨gb2, off2 + k, none⟩ = some (.slice rb.adr ys.length rb.c) := by rw [hce2, ← hn2]; rfl
              replace hrd1 := Lib.hid hrd1
              replace hrd2 := Lib.hid hrd2
              clear K1 K2 hxs1 hxs2 hn1 hn2
              go_wp2
              go_loopw [110] (fun uv wr => ∃ u : Nat, u ≤ ys.length ∧ uv = .int .i64 u ∧ Hid (Below Wb.heap.size Wb wr)) (fun uv _ => ys.length - (intOf uv).toNat)
              case atStart => exact ⟨0, by omega, rfl, Lib.hid (Below.refl _ _)⟩
              case round =>
                obtain ⟨u, hu, rfl, hbu⟩ := hrel
                by_cases hul : u < ys.length
                · have f2 : decide (u < ys.length) = true := decide_eq_true hul
                  obtain ⟨g1, o1, ea1, hg1, d0, d1, d2⟩ := hrd1.out.cell3 hul
                  obtain ⟨g2, o2, ea2, hg2, d3, d4, d5⟩ := hrd2.out.cell3 hul
                  rw [ea1] at hce
                  rw [ea2] at hce2
                  generalize ys[u] = y at d0 d1 d2 d3 d4 d5
                  obtain ⟨yg, yr, yk⟩ := y
                  simp only at d0 d1 d2 d3 d4 d5
                  have he0 := eqC_t (rfl : (⟨yg, yr, yk⟩ : Cl) = ⟨yg, yr, yk⟩)
                  have m1 := (hbu.out.cell (p := ⟨gb, _, none⟩) hbl).trans hce
                  have m2 := (hbu.out.cell (p := ⟨gb2, _, none⟩) hbl2).trans hce2
                  have m3 := (hbu.out.cell (p := ⟨g1, _, none⟩) hg1).trans d0
                  have m4 := (hbu.out.cell (p := ⟨g1, _, none⟩) hg1).trans d1
                  have m5 := (hbu.out.cell (p := ⟨g1, _, none⟩) hg1).trans d2
                  have m6 := (hbu.out.cell (p := ⟨g2, _, none⟩) hg2).trans d3
                  have m7 := (hbu.out.cell (p := ⟨g2, _, none⟩) hg2).trans d4
                  have m8 := (hbu.out.cell (p := ⟨g2, _, none⟩) hg2).trans d5
                  have s1 := Nat.lt_of_lt_of_le hbl hbu.out.size
                  have s2 := Nat.lt_of_lt_of_le hbl2 hbu.out.size
                  have s3 := Nat.lt_of_lt_of_le hg1 hbu.out.size
                  have s4 := Nat.lt_of_lt_of_le hg2 hbu.out.size
                  clear hce hce2 d0 d1 d2 d3 d4 d5
                  go_upto_region 31 with fail
                  (refine wp_region_free (by kernel_rfl) (by kernel_rfl) ?_)
                  repeat (go_big_quiet_step (fail))
                  refine wpQuiet_nil ?_; rintro _ ⟨x9, rfl⟩
                  go_wp2
                  exact ⟨⟨u + 1, by omega, by go_num, Lib.hid (hbu.out.trans (Below.mono (B := wr.heap.size) (by (repeat' (first | (with_reducible exact Below.refl _ _) | (with_reducible refine Below.alloc ?_ ?_ _) | (with_reducible refine below_ext ?_ ?_ _) | (with_reducible refine Below.drew ?_) | (with_reducible refine below_drewN ?_ _) | (with_reducible refine Below.setCell ?_ ?_ _) | go_size | (simp only [go_sem]; omega) | (simp [go_sem]; done) | (simp [go_sem]; omega)))) hbu.out.size))⟩, by simp [intOf]; omega⟩
                · obtain rfl : u = ys.length := by omega
                  have f2 : decide (ys.length < ys.length) = false := by simp
                  go_wp2
                  exact ⟨⟨k + 1, by omega, by go_num, Lib.hid (hbk.out.trans (hbu.out.mono hbk.out.size)), Lib.hid (hC1.out.grow hbu.out), Lib.hid (hC2.out.grow hbu.out)⟩, by simp [intOf]; omega⟩
            · obtain rfl : k = Rqq.length := by omega
              have f1 : decide (Rqq.length < Rqq.length) = false := by simp
              go_wp2
              exact ⟨⟨j + 1, by omega, by go_num, hbk⟩, by simp [intOf]; omega⟩
      · obtain rfl : j = 4 := by omega
        obtain ⟨r, hq1, hq2, hP⟩ := hOa.get (i := a) (by rw [KB_len]; exact ha)
        have PG := Lib.hid (fun w' (hb : Below Wa.heap.size Wa w') => page_b (hOa.grow hb) okK hq1)
        have SH := Lib.hid (fun w' (hb : Below Wa.heap.size Wa w') => (by exact sheet_b (hOa.grow hb) okK hq2 : Calls Tryz.prog 18 #[ptrV b] w' (Gives w' (ptrV r.p))))
        clear hP hq1 hq2 hOa hpa hQa
        go_wp2_with (first | (go_at_call 18; ((with_reducible refine (SH.out _ (by (repeat' (first | (with_reducible exact Below.refl _ _) | (with_reducible refine Below.alloc ?_ ?_ _) | (with_reducible refine below_ext ?_ ?_ _) | (with_reducible refine Below.drew ?_) | (with_reducible refine below_drewN ?_ _) | (with_reducible refine Below.setCell ?_ ?_ _) | go_size | (simp only [go_sem]; omega) | (simp [go_sem]; done) | (simp [go_sem]; omega))))).mono ?_); rintro _ _ hgets; obtain ⟨rfl, y3, rfl⟩ := hgets.get; clear hgets)) | (go_at_call 9; ((with_reducible refine (PG.out _ (by (repeat' (first | (with_reducible exact Below.refl _ _) | (with_reducible refine Below.alloc ?_ ?_ _) | (with_reducible refine below_ext ?_ ?_ _) | (with_reducible refine Below.drew ?_) | (with_reducible refine below_drewN ?_ _) | (with_reducible refine Below.setCell ?_ ?_ _) | go_size | (simp only [go_sem]; omega) | (simp [go_sem]; done) | (simp [go_sem]; omega))))).mono ?_); rintro _ _ hgets; obtain ⟨rfl, y4, rfl⟩ := hgets.get; clear hgets)))
        go_returns
        have hz := hb5.out.trans (hbr.out.mono hb5.out.size)
        exact ⟨rfl, hz.trans (Below.mono (B := Wa.heap.size) (by (repeat' (first | (with_reducible exact Below.refl _ _) | (with_reducible refine Below.alloc ?_ ?_ _) | (with_reducible refine below_ext ?_ ?_ _) | (with_reducible refine Below.drew ?_) | (with_reducible refine below_drewN ?_ _) | (with_reducible refine Below.setCell ?_ ?_ _) | go_size | (simp only [go_sem]; omega) | (simp [go_sem]; done) | (simp [go_sem]; omega)))) hz.size)⟩
end Go.Proofs.YtgmbnnmckdjabaaGreat
