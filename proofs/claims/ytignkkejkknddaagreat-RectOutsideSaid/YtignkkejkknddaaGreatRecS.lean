/- phosphorref16: Change.  -/
import Derived.Test.YtignkkejkknddaaGreatRecC
import Derived.Test.YtignkkejkknddaaGreatBkDo
import Derived.Test.YtignkkejkknddaaGreatBox3
import Derived.Deep.CutRange
import Derived.Test.YtignkkejkknddaaGreatRecH
import Derived.Test.YtignkkejkknddaaGreatFrameEd
namespace Go.Proofs.YtignkkejkknddaaGreat
open Go.RowKit
set_option linter.unusedVariables false
set_option linter.unusedSimpArgs false

section
variable {w : World} {F : Nat → Prop} {P : PgS} {r : RPg} {a : Option Addr} {c : Nat} {xs : List Int}
attribute [local go_sem ↓] slice_ints
set_option maxRecDepth 100000 in
set_option maxHeartbeats 16000000 in
theorem change16_rect (h : RefAt w F r.v P) (hP : P.Ok) (hF : ∀ x, F x → x < w.heap.size) (hx : NumL w a c xs) (x : BxI) (st fl : Bool) (hst0 : st = false) :
    Calls Tryz.prog 58 #[r.v, boxV x.t x.l x.b x.r, .slice a xs.length c, .bool st, .bool fl] w (NewPo F (chS P (chB (arB P x) xs st) (chF fl (xs.drop 4))) (chOk (arB P x) xs st) w) := by
  replace hst0 := Lib.hid hst0
  have hbd : (0 ≤ (arB P x).t ∧ (arB P x).t ≤ 500) ∧ (0 ≤ (arB P x).l ∧ (arB P x).l ≤ 500) ∧ (0 ≤ (arB P x).b ∧ (arB P x).b ≤ 500 ∧ (arB P x).b ≤ P.rows.length) ∧ (0 ≤ (arB P x).r ∧ (arB P x).r ≤ 500 ∧ (arB P x).r ≤ P.cols) := by
    have := onB_in P.rows.length P.cols x
    have := hP.r2
    have := hP.c2
    unfold arB
    omega
  obtain ⟨⟨ht0, ht1⟩, ⟨hl0, hl1⟩, ⟨hb0, hb1, hb2⟩, ⟨hr0, hr1, hr2⟩⟩ := hbd
  have hlc := hx.lc
  have hcm := hx.cm
  have hxl : xs.length ≤ 9223372036854775807 := Nat.le_trans hx.lc hx.cm
  have AR := Lib.hid (fun w' (hb : Below w.heap.size w w') => area16_c (h.grow hb).v x)
  have RC : Hid (∀ w', Below w.heap.size w w' → Calls Tryz.prog 13 #[boxV (arB P x).t (arB P x).l (arB P x).b (arB P x).r, .slice a xs.length c, .int .i64 0] w' (Gives w' (.tuple #[boxV (reB (arB P x) xs 0).t (reB (arB P x) xs 0).l (reB (arB P x) xs 0).b (reB (arB P x) xs 0).r, .bool (reOk (arB P x) xs 0)]))) := Lib.hid (fun w' hb => rect_r _ _ _ _ a c xs 0 w' (by omega) (by omega) (by omega) (by omega) (hx.grow hb).rd hxl hx.hi)
  have ND : NumL w (cutN a c (min 4 xs.length)) (c - min 4 xs.length) (xs.drop 4) := num_cut hx 4
  have NN := Lib.hid (fun i w' (h : Below w.heap.size w w') => number_r a c xs i 0 w' (hx.grow h).rd hxl (by omega))
  have EM := Lib.hid (fun w' => empty_r (arB P x).t (arB P x).l (arB P x).b (arB P x).r w')
  have OLD := Lib.hid (fun w' (hb : Below w.heap.size w w') => NewPo.old (ok := false) h hb)
  have hok4 := Lib.hid hP
  have hTE : st = true → chS P (chB (arB P x) xs st) (chF fl (xs.drop 4)) = if stOk (arB P x) xs = true then mapS P (fun i k y => if inSt (arB P x) xs i k = true then chF fl (xs.drop 4) y else y) else P := fun e => by
    rw [chS_form hP _ _ _ (chF_ok fl _), e]
    unfold chIn
    simp only [if_true]
    by_cases q : stOk (arB P x) xs = true
    · rw [if_pos q]
      simp only [q, Bool.true_and]
    · rw [if_neg q]
      rw [Bool.not_eq_true] at q
      exact mapS_id fun i hi k hk => by simp [q]
  have hTF : st = false → chS P (chB (arB P x) xs st) (chF fl (xs.drop 4)) = if reOk (arB P x) xs 0 = true then eachS P (onB P.rows.length P.cols (reB (arB P x) xs 0)) (fun zs l r => eachR zs l r (chF fl (xs.drop 4))) else P := fun e => by
    rw [e]
    unfold chB
    simp only [Bool.false_eq_true, if_false]
    split <;> rfl
  have hOT : st = true → chOk (arB P x) xs st = stOk (arB P x) xs := fun e => by rw [e]; rfl
  have hOF : st = false → chOk (arB P x) xs st = reOk (arB P x) xs 0 := fun e => by rw [e]; rfl
  generalize chS P (chB (arB P x) xs st) (chF fl (xs.drop 4)) = T at *
  generalize chOk (arB P x) xs st = ok at *
  obtain ⟨K, hK⟩ : ∃ K : Int, K = if fl = true then 4 else 3 := ⟨_, rfl⟩
  have hd : ∀ y : Cl, Deed K y (xs.drop 4) (chF fl (xs.drop 4)) := fun y => by
    rw [hK]
    cases fl
    · exact Deed.change y _
    · exact Deed.flip y _
  have NO : ok = false → T = P → Hid (∀ w', Below w.heap.size w w' → NewPo F T ok w (.returned (.tuple #[r.v, .bool false])) w') := fun e1 e2 => by
    rw [e1, e2]
    exact OLD
  clear OLD
  obtain ⟨f, hf⟩ : ∃ f, f = chF fl (xs.drop 4) := ⟨_, rfl⟩
  rw [← hf] at hTE hTF hd
  have hns : (xs.drop 4).length ≤ 9223372036854775807 := by rw [List.length_drop]; omega
  obtain ⟨ns, hns'⟩ : ∃ ns, ns = xs.drop 4 := ⟨_, rfl⟩
  have hnl : ns.length = xs.length - 4 := by rw [hns', List.length_drop]
  rw [← hns'] at hd hns ND
  have EA := Lib.hid (fun A4 C4 w' (hb : Below w.heap.size w w') (hi : Ints w' A4 ns) => refeach_c K r.v (reB (arB P x) xs 0) ⟨0, 0, false⟩ (.slice A4 ns.length C4) f (h.grow hb).v hP (fun z hz w2 hb2 => one_r K ⟨0, 0, false⟩ A4 C4 ns f (hd _) z w2 hz (hi.below hb2) hns))
  have ON := Lib.hid (fun A4 C4 (x : Cl) (hx : x.ok) w' (hi : Ints w' A4 ns) => one_r K x A4 C4 ns f (hd _) x w' hx hi hns)
  have CP := Lib.hid (fun w' (hb : Below w.heap.size w w') => refcopy_c _ _ w' (h.grow hb).v hP.r2 hP.small)
  obtain ⟨y, hy⟩ : ∃ y, y = arB P x := ⟨_, rfl⟩
  rw [← hy] at AR RC EM hTE hTF hOT hOF EA ht0 ht1 hl0 hl1 hb0 hb1 hb2 hr0 hr1 hr2
  clear hy hf hns'
  obtain ⟨rA, rm, rc, rn⟩ := r
  obtain ⟨erm, ern⟩ := h.form
  simp only at erm ern
  subst erm ern
  obtain ⟨V4, rows4, eV4, hlb, hvb, -⟩ := h
  simp only [RPg.v, RPg.V] at eV4
  injection eV4 with eV4
  simp only [Array.mk.injEq, List.cons.injEq, and_true] at eV4
  subst eV4
  have hrow := Lib.hid (fun i (hi : i < P.rows.length) => hlb.at hvb hi)
  have NDh := Lib.hid ND
  clear hlb hvb ND hx
  obtain ⟨xt, xl, xb, xr⟩ := x
  simp only [RPg.v, RPg.V, cellV] at AR EA NO CP ⊢
  obtain ⟨zt, zl, zb, zr⟩ := y
  simp only at AR RC EM ht0 ht1 hl0 hl1 hb0 hb1 hb2 hr0 hr1 hr2
  replace hTE := Lib.hid hTE
  replace hTF := Lib.hid hTF
  replace hOT := Lib.hid hOT
  replace hOF := Lib.hid hOF
  replace hF := Lib.hid hF
  replace hK := Lib.hid hK
  replace hnl := Lib.hid hnl
  clear hd hP
  go_enter Tryz.func58, Tryz.ntmps58
  go_upto_region 1 with fail
  generalize hW : (((w.alloc (.cells #[.slice rA P.rows.length rc, .int .i64 P.cols] 39)).alloc (.cells #[.int .i64 xt, .int .i64 xl, .int .i64 xb, .int .i64 xr] 31)).alloc (.cells #[.slice none 0 0, .int .i64 0] 39)) = W
  have hsz : W.heap.size = w.heap.size + 1 + 1 + 1 := by subst hW; simp [go_sem]
  have hB : Below w.heap.size w W := by subst hW; (repeat' (first | (with_reducible exact Below.refl _ _) | (with_reducible refine Below.alloc ?_ ?_ _) | (with_reducible refine below_ext ?_ ?_ _) | (with_reducible refine Below.drew ?_) | (with_reducible refine below_drewN ?_ _) | (with_reducible refine Below.setCell ?_ ?_ _) | go_size | (simp only [go_sem]; omega) | (simp [go_sem]; done) | (simp [go_sem]; omega)))
  have b0 : W.heap[w.heap.size]? = some (.cells #[.slice rA P.rows.length rc, .int .i64 P.cols] 39 (0, 0)) := by subst hW; (repeat (first | ((with_reducible refine heap_at _ _ ?_); (focus (first | rfl | (simp [go_sem]; done) | (simp [go_sem]; omega)))) | ((with_reducible refine (heap_old _ _ ?_).trans ?_); (focus (first | (simp [go_sem]; done) | (simp [go_sem]; omega)))) | ((with_reducible refine (block_ext _ _ ?_).trans ?_); (focus (first | (simp [go_sem]; done) | (simp [go_sem]; omega)))) | ((with_reducible refine (heap_drew _ _).trans ?_))))
  have b1 : W.heap[w.heap.size + 1]? = some (.cells #[.int .i64 xt, .int .i64 xl, .int .i64 xb, .int .i64 xr] 31 (0, 0)) := by subst hW; (repeat (first | ((with_reducible refine heap_at _ _ ?_); (focus (first | rfl | (simp [go_sem]; done) | (simp [go_sem]; omega)))) | ((with_reducible refine (heap_old _ _ ?_).trans ?_); (focus (first | (simp [go_sem]; done) | (simp [go_sem]; omega)))) | ((with_reducible refine (block_ext _ _ ?_).trans ?_); (focus (first | (simp [go_sem]; done) | (simp [go_sem]; omega)))) | ((with_reducible refine (heap_drew _ _).trans ?_))))
  have b2 : W.heap[w.heap.size + 1 + 1]? = some (.cells #[.slice none 0 0, .int .i64 0] 39 (0, 0)) := by subst hW; (repeat (first | ((with_reducible refine heap_at _ _ ?_); (focus (first | rfl | (simp [go_sem]; done) | (simp [go_sem]; omega)))) | ((with_reducible refine (heap_old _ _ ?_).trans ?_); (focus (first | (simp [go_sem]; done) | (simp [go_sem]; omega)))) | ((with_reducible refine (block_ext _ _ ?_).trans ?_); (focus (first | (simp [go_sem]; done) | (simp [go_sem]; omega)))) | ((with_reducible refine (heap_drew _ _).trans ?_))))
  clear hW
  go_cut [] from 26 to 28 (fun wx => Below w.heap.size w wx ∧ W.heap.size ≤ wx.heap.size ∧ wx.heap[w.heap.size]? = some (.cells #[.slice rA P.rows.length rc, .int .i64 P.cols] 39 (0, 0)) ∧ wx.heap[w.heap.size + 1]? = some (.cells #[.int .i64 zt, .int .i64 zl, .int .i64 zb, .int .i64 zr] 31 (0, 0)) ∧ wx.heap[w.heap.size + 1 + 1]? = some (.cells #[.slice none 0 0, .int .i64 0] 39 (0, 0)))
  case first =>
    obtain ⟨f0, f1, hl0', -⟩ := two b0
    obtain ⟨g0, g1, g2, g3, hl1', gz⟩ := four b1
    have gz0 := gz 0
    have gz1 := gz 1
    have gz2 := gz 2
    have gz3 := gz 3
    clear gz
    go_wp2_with (go_at_call 46; ((with_reducible refine (AR.out _ hB).mono ?_); rintro _ _ hgets; obtain ⟨rfl, x1, rfl⟩ := hgets.get; clear hgets))
    go_meet
    have hk : Keep (· = w.heap.size + 1) W ((((W.setCell ⟨w.heap.size + 1, 0, none⟩ (.int .i64 zt)).setCell ⟨w.heap.size + 1, 1, none⟩ (.int .i64 zl)).setCell ⟨w.heap.size + 1, 2, none⟩ (.int .i64 zb)).setCell ⟨w.heap.size + 1, 3, none⟩ (.int .i64 zr)) := (((keep_set W (w.heap.size + 1) 0 _).set (F := (· = w.heap.size + 1)) (p := ⟨w.heap.size + 1, 1, none⟩) (.inl rfl) _).set (F := (· = w.heap.size + 1)) (p := ⟨w.heap.size + 1, 2, none⟩) (.inl rfl) _).set (F := (· = w.heap.size + 1)) (p := ⟨w.heap.size + 1, 3, none⟩) (.inl rfl) _
    have c1 : ((((W.setCell ⟨w.heap.size + 1, 0, none⟩ (.int .i64 zt)).setCell ⟨w.heap.size + 1, 1, none⟩ (.int .i64 zl)).setCell ⟨w.heap.size + 1, 2, none⟩ (.int .i64 zb)).setCell ⟨w.heap.size + 1, 3, none⟩ (.int .i64 zr)).heap[w.heap.size + 1]? = some (.cells #[.int .i64 zt, .int .i64 zl, .int .i64 zb, .int .i64 zr] 31 (0, 0)) := by
      have := set_cellA (k := 3) (.int .i64 zr) (set_cellA (k := 2) (.int .i64 zb) (set_cellA (k := 1) (.int .i64 zl) (set_cellA (k := 0) (.int .i64 zt) b1)))
      simpa using this
    have c0 := (hk.block _ hl0' (by omega)).trans b0
    have c2 := (hk.block _ (heap_in b2) (by omega)).trans b2
    have hbx := hB.trans (hk.below (B := w.heap.size) (fun x e => by omega) hB.size)
    have hks := hk.size
    generalize (((W.setCell ⟨w.heap.size + 1, 0, none⟩ (.int .i64 zt)).setCell ⟨w.heap.size + 1, 1, none⟩ (.int .i64 zl)).setCell ⟨w.heap.size + 1, 2, none⟩ (.int .i64 zb)).setCell ⟨w.heap.size + 1, 3, none⟩ (.int .i64 zr) = V at c0 c1 c2 hbx hks ⊢
    have hbe := below_of_ext V x1
    exact ⟨below_ext hbx hbx.size x1, Nat.le_trans hks hbe.size, (hbe.block _ (heap_in c0)).trans c0, (hbe.block _ (heap_in c1)).trans c1, (hbe.block _ (heap_in c2)).trans c2⟩
  obtain ⟨hB1, hs1, c0, c1, c2⟩ := hcut
  obtain ⟨W1, eW1⟩ : ∃ W1, W1 = wc := ⟨_, rfl⟩
  rw [← eW1] at hB1 hs1 c0 c1 c2 ⊢
  clear eW1 wc b0 b1 b2 hB AR
  go_upto_if 29 with fail
  go_cut [12] (fun v wx => v = .int .i64 K ∧ wx = W1)
  case first =>
    cases fl
    · have e := hK.out
      rw [if_neg (by decide)] at e
      replace e := Lib.hid e
      go_wp2
      go_meet
      exact ⟨by rw [e.out], rfl⟩
    · have e := hK.out
      rw [if_pos rfl] at e
      replace e := Lib.hid e
      go_wp2
      go_meet
      exact ⟨by rw [e.out], rfl⟩
  obtain ⟨rfl, e⟩ := hcut
  rw [e]
  clear e wc hK
  go_upto_if 32 with fail
  go_cut [13] (fun v wx => (∃ A4 C4, v = .slice A4 ns.length C4 ∧ Ints w A4 ns) ∧ wx = W1)
  case first =>
    by_cases h4 : (4 : Int) < (xs.length : Int)
    · have d4 : decide ((4 : Int) < (xs.length : Int)) = true := decide_eq_true h4
      have h4' : (4 : Int) ≤ (xs.length : Int) := by omega
      have h4n : 4 ≤ xs.length := by omega
      go_wp2
      go_meet
      have q := NDh.out.rd
      rw [show min 4 xs.length = 4 by omega] at q
      have e := hnl.out
      exact ⟨⟨cutN a c 4, c - 4, by rw [e]; unfold cutN; rw [if_neg (by omega)]; rfl, q⟩, rfl⟩
    · have d4 : decide ((4 : Int) < (xs.length : Int)) = false := decide_eq_false h4
      go_wp2
      go_meet
      have e := hnl.out
      exact ⟨⟨none, 0, by rw [show ns.length = 0 by omega], fun h0 => by omega⟩, rfl⟩
  obtain ⟨⟨A4, C4, rfl, hI4⟩, e⟩ := hcut
  rw [e]
  clear e wc NDh
  obtain ⟨nl, hnl2⟩ : ∃ nl, nl = ns.length := ⟨_, rfl⟩
  have EA1 := Lib.hid (EA.out A4 C4)
  have ON1 := Lib.hid (ON.out A4 C4)
  rw [← hnl2] at EA1 ON1 ⊢
  clear EA ON hnl2 hnl
  have hI4 := Lib.hid hI4
  have FV := Lib.hid (fun V (hV : Below W1.heap.size W1 V) => (by
    obtain ⟨p0, p1, pl, -⟩ := two ((hV.block _ (heap_in c0)).trans c0)
    obtain ⟨s0, s1, sl, sz⟩ := two ((hV.block _ (heap_in c2)).trans c2)
    exact ⟨p0, p1, pl, s0, s1, sl, sz 0, sz 1⟩ : V.cell? ⟨w.heap.size, 0, none⟩ = some (.slice rA P.rows.length rc) ∧ V.cell? ⟨w.heap.size, 1, none⟩ = some (.int .i64 P.cols) ∧ w.heap.size < V.heap.size ∧
      V.cell? ⟨w.heap.size + 1 + 1, 0, none⟩ = some (.slice none 0 0) ∧ V.cell? ⟨w.heap.size + 1 + 1, 1, none⟩ = some (.int .i64 0) ∧ w.heap.size + 1 + 1 < V.heap.size ∧ V.frozen? ⟨w.heap.size + 1 + 1, 0, none⟩ = false ∧ V.frozen? ⟨w.heap.size + 1 + 1, 1, none⟩ = false))
  have FB := Lib.hid (fun V (hV : Below W1.heap.size W1 V) => (by
    obtain ⟨g0, g1, g2, g3, gl, -⟩ := four ((hV.block _ (heap_in c1)).trans c1)
    exact ⟨g0, g1, g2, g3, gl⟩ : V.cell? ⟨w.heap.size + 1, 0, none⟩ = some (.int .i64 zt) ∧ V.cell? ⟨w.heap.size + 1, 1, none⟩ = some (.int .i64 zl) ∧ V.cell? ⟨w.heap.size + 1, 2, none⟩ = some (.int .i64 zb) ∧ V.cell? ⟨w.heap.size + 1, 3, none⟩ = some (.int .i64 zr) ∧ w.heap.size + 1 < V.heap.size))
  have hB1h := Lib.hid hB1
  have BV := Lib.hid (fun V (hV : Below W1.heap.size W1 V) => hB1.trans (hV.mono hB1.size))
  have NOS := Lib.hid (fun V (hV : Below W1.heap.size W1 V) => (by
    have c2V := (hV.block _ (heap_in c2)).trans c2
    obtain ⟨W2, h2, hk2, hs2⟩ := stow2 c2V (.slice rA P.rows.length rc) (.int .i64 P.cols)
    obtain ⟨t0, t1, -, -⟩ := two hs2
    have hbV := BV.out V hV
    exact ⟨W2, h2, t0, t1, fun e1 e2 => (NO e1 e2).out _ (hbV.trans (hk2.below (fun x e => by omega) hbV.size))⟩ :
      ∃ W2, (V.setCell ⟨w.heap.size + 1 + 1, 0, none⟩ (.slice rA P.rows.length rc)).setCell ⟨w.heap.size + 1 + 1, 1, none⟩ (.int .i64 P.cols) = W2 ∧ W2.cell? ⟨w.heap.size + 1 + 1, 0, none⟩ = some (.slice rA P.rows.length rc) ∧ W2.cell? ⟨w.heap.size + 1 + 1, 1, none⟩ = some (.int .i64 P.cols) ∧
        (ok = false → T = P → NewPo F T ok w (.returned (.tuple #[.agg #[.slice rA P.rows.length rc, .int .i64 P.cols], .bool false])) W2)))
  have NYS := Lib.hid (fun V (hV : Below W1.heap.size W1 V) (r' : RPg) (hr : RefAt V (fun x => F x ∨ x = w.heap.size + 1 + 1) r'.v T) (ho : ok = true) => (by
    have c2V := (hV.block _ (heap_in c2)).trans c2
    obtain ⟨W2, h2, hk2, hs2⟩ := stow2 c2V (.slice r'.A r'.m r'.c) (.int .i64 r'.n)
    obtain ⟨t0, t1, -, -⟩ := two hs2
    have hbV := BV.out V hV
    refine ⟨W2, h2, t0, t1, ?_⟩
    rw [ho]
    exact NewPo.at hr hk2 (hbV.trans (hk2.below (fun x e => by omega) hbV.size)) :
      ∃ W2, (V.setCell ⟨w.heap.size + 1 + 1, 0, none⟩ (.slice r'.A r'.m r'.c)).setCell ⟨w.heap.size + 1 + 1, 1, none⟩ (.int .i64 r'.n) = W2 ∧ W2.cell? ⟨w.heap.size + 1 + 1, 0, none⟩ = some (.slice r'.A r'.m r'.c) ∧ W2.cell? ⟨w.heap.size + 1 + 1, 1, none⟩ = some (.int .i64 r'.n) ∧
        NewPo F T ok w (.returned (.tuple #[r'.v, .bool true])) W2))
  clear c0 c1 c2 hB1 NO
  replace hst0 := hst0.out
  subst hst0
  have hst : false = false := rfl
  · have te := hTF.out hst
    have oe := hOF.out hst
    clear hTF hOF hTE hOT NN EM CP ON1
    obtain ⟨g0, g1, g2, g3, gl⟩ := FB.out W1 (Below.refl _ _)
    have RC1 := Lib.hid (RC.out _ hB1h.out)
    cases hk1 : reOk ⟨zt, zl, zb, zr⟩ xs 0
    · rw [hk1] at te oe RC1
      rw [if_neg (by decide)] at te
      replace te := Lib.hid te
      replace oe := Lib.hid oe
      clear EA1 RC hk1 hst NYS
      go_upto_if 44 with (go_at_call 13; ((with_reducible refine (RC1.out).mono ?_); rintro _ _ hgets; obtain ⟨rfl, x2, rfl⟩ := hgets.get; clear hgets))
      obtain ⟨V, eV⟩ : ∃ V, V = (ext W1 x2).alloc (.cells #[.int .i64 (reB ⟨zt, zl, zb, zr⟩ xs 0).t, .int .i64 (reB ⟨zt, zl, zb, zr⟩ xs 0).l, .int .i64 (reB ⟨zt, zl, zb, zr⟩ xs 0).b, .int .i64 (reB ⟨zt, zl, zb, zr⟩ xs 0).r] 31) := ⟨_, rfl⟩
      have hV : Below W1.heap.size W1 V := by rw [eV]; (repeat' (first | (with_reducible exact Below.refl _ _) | (with_reducible refine Below.alloc ?_ ?_ _) | (with_reducible refine below_ext ?_ ?_ _) | (with_reducible refine Below.drew ?_) | (with_reducible refine below_drewN ?_ _) | (with_reducible refine Below.setCell ?_ ?_ _) | go_size | (simp only [go_sem]; omega) | (simp [go_sem]; done) | (simp [go_sem]; omega)))
      rw [← eV]
      clear eV g0 g1 g2 g3 gl RC1
      obtain ⟨p0, p1, pl, s0, s1, sl, sz0, sz1⟩ := FV.out V hV
      obtain ⟨W2, h2, t0, t1, no⟩ := NOS.out V hV
      have no2 := Lib.hid (no oe.out te.out)
      clear no NOS FV FB hV BV
      repeat (first | go_values | go_skip | go_guarded | go_step)
      simp [bodyPost, go_sem, t0, t1]
      exact ⟨_, by simp [results, Tryz.f58, go_sem, t0, t1] <;> rfl, no2.out⟩
    · rw [hk1] at te oe RC1
      rw [if_pos rfl] at te
      have EA2 := Lib.hid (fun V (hV : Below W1.heap.size W1 V) => EA1.out V (BV.out V hV) (hI4.out.below (BV.out V hV)))
      rw [← te] at EA2
      replace oe := Lib.hid oe
      replace te := Lib.hid te
      clear EA1 RC hk1 hst NOS
      go_upto_if 44 with (go_at_call 13; ((with_reducible refine (RC1.out).mono ?_); rintro _ _ hgets; obtain ⟨rfl, x2, rfl⟩ := hgets.get; clear hgets))
      obtain ⟨V, eV⟩ : ∃ V, V = (ext W1 x2).alloc (.cells #[.int .i64 (reB ⟨zt, zl, zb, zr⟩ xs 0).t, .int .i64 (reB ⟨zt, zl, zb, zr⟩ xs 0).l, .int .i64 (reB ⟨zt, zl, zb, zr⟩ xs 0).b, .int .i64 (reB ⟨zt, zl, zb, zr⟩ xs 0).r] 31) := ⟨_, rfl⟩
      have hV : Below W1.heap.size W1 V := by rw [eV]; (repeat' (first | (with_reducible exact Below.refl _ _) | (with_reducible refine Below.alloc ?_ ?_ _) | (with_reducible refine below_ext ?_ ?_ _) | (with_reducible refine Below.drew ?_) | (with_reducible refine below_drewN ?_ _) | (with_reducible refine Below.setCell ?_ ?_ _) | go_size | (simp only [go_sem]; omega) | (simp [go_sem]; done) | (simp [go_sem]; omega)))
      have bV : V.heap[(ext W1 x2).heap.size]? = some (.cells #[.int .i64 (reB ⟨zt, zl, zb, zr⟩ xs 0).t, .int .i64 (reB ⟨zt, zl, zb, zr⟩ xs 0).l, .int .i64 (reB ⟨zt, zl, zb, zr⟩ xs 0).b, .int .i64 (reB ⟨zt, zl, zb, zr⟩ xs 0).r] 31 (0, 0)) := by rw [eV]; exact heap_alloc_new _ _
      obtain ⟨q0, q1, q2, q3, ql, -⟩ := four bV
      simp only [go_sem] at q0 q1 q2 q3 ql
      rw [← eV]
      clear eV g0 g1 g2 g3 gl RC1 bV
      obtain ⟨p0, p1, pl, s0, s1, sl, sz0, sz1⟩ := FV.out V hV
      have EA3 := Lib.hid (EA2.out V hV)
      go_upto_region 12 with fail
      repeat (first | go_values | go_skip | go_guarded | go_step)
      go_at_call 101
      refine EA3.out.mono ?_
      intro e' w'' hN
      obtain ⟨⟨pA, pm, pc, pn⟩, x3, rfl, rfl, hp⟩ := hN.at (F := fun x => F x ∨ x = w.heap.size + 1 + 1) (fun x hx => by rcases hx with hx | hx; have := hF.out x hx; omega; subst hx; omega)
      clear hN
      simp only [RPg.v, RPg.V]
      have hV3 : Below W1.heap.size W1 (ext V x3) := below_ext hV hV.size x3
      obtain ⟨-, -, -, s0', s1', sl', sz0', sz1'⟩ := FV.out _ hV3
      obtain ⟨W2, h2, t0, t1, no⟩ := NYS.out _ hV3 ⟨pA, pm, pc, pn⟩ hp oe.out
      simp only [RPg.v, RPg.V] at h2 t0 t1 no
      have no2 := Lib.hid no
      clear no NYS FV FB hV BV hp hV3 p0 p1 pl s0 s1 sl sz0 sz1 q0 q1 q2 q3 ql
      generalize ext V x3 = V3 at *
      repeat (first | go_values | go_skip | go_guarded | go_step)
      simp [bodyPost, go_sem, t0, t1]
      exact ⟨_, by simp [results, Tryz.f58, go_sem, t0, t1] <;> rfl, no2.out⟩
theorem change16_c (h : RefAt w F r.v P) (hP : P.Ok) (hF : ∀ x, F x → x < w.heap.size) (hx : NumL w a c xs) (x : BxI) (st fl : Bool) :
    Calls Tryz.prog 58 #[r.v, boxV x.t x.l x.b x.r, .slice a xs.length c, .bool st, .bool fl] w (NewPo F (chS P (chB (arB P x) xs st) (chF fl (xs.drop 4))) (chOk (arB P x) xs st) w) := by
  cases hst : st
  · exact change16_rect h hP hF hx x false fl rfl
  · exact change16_str h hP hF hx x true fl rfl
end
end Go.Proofs.YtignkkejkknddaaGreat
/- An act of layer 16's laws, plainly, and what both sides of it come to.  -/
namespace Go.Proofs.YtignkkejkknddaaGreat
open Go.RowKit
set_option linter.unusedVariables false
set_option linter.unusedSimpArgs false

structure A16 where
  kd : Int
  b : BxI
  la : Option Addr
  lc : Nat
  ls : List Int
  fl : Bool
  st : Bool
  y : Cl
def A16.cells (a : A16) : List Value := [.int .i64 a.kd, .int .i64 a.b.t, .int .i64 a.b.l, .int .i64 a.b.b, .int .i64 a.b.r, .slice a.la a.ls.length a.lc, .bool a.fl, .bool a.st, .int .i32 a.y.g, .int .u8 a.y.r, .bool a.y.k]
def A16.v (a : A16) : Value := .agg a.cells.toArray
/-- what is true of every act that is handed over -/
structure A16.Ok (a : A16) (w : World) : Prop where
  ls : Ints w a.la a.ls
  le : a.ls.length ≤ a.lc
  lm : a.lc ≤ maxLen
  ln : a.la = none → a.lc = 0
  hi : ∀ z ∈ a.ls, z ≤ 9223372036854775807
  y : a.y.ok
theorem A16.Ok.num {a : A16} {w : World} (h : a.Ok w) : NumL w a.la a.lc a.ls := ⟨h.ls, h.le, by have := h.lm; simp [maxLen] at this; omega, h.hi⟩
/-- an act on the plain book -/
def act16 (S : BkS) (a : A16) : BkS :=
  if a.kd = 1 then S.set 0 (fillS (S.pgAt 0) a.b (a.ls.take 20) a.y)
  else if a.kd = 2 then S.set 0 (rwipeS (S.pgAt 0) a.b (a.ls.take 20) a.fl)
  else if a.kd = 3 then S.set 0 (chS (S.pgAt 0) (chB (arB (S.pgAt 0) a.b) (a.ls.take 20) a.st) (chF a.fl ((a.ls.take 20).drop 4)))
  else if a.kd = 4 then copyRS S a.b (a.ls.take 20)
  else S
theorem pgAt_0 {S : BkS} (h : 0 < S.pages.length) : S.pgAt 0 = S.pages[0] := by simp [BkS.pgAt, h]
theorem fillS_ok {P : PgS} (hP : P.Ok) (x : BxI) (xs : List Int) {y : Cl} (hy : y.ok) : (fillS P x xs y).Ok := by
  unfold fillS
  split
  · exact eachS_ok hP _ (fun xs l r => eachR_len xs l r _) (fun xs l r h => eachR_ok h fun _ _ => hy)
  · exact hP
theorem rwipeS_ok {P : PgS} (hP : P.Ok) (x : BxI) (xs : List Int) (sel : Bool) : (rwipeS P x xs sel).Ok := by
  unfold rwipeS rwipeF
  split
  · cases sel
    · exact eachS_ok hP _ (fun xs l r => eachR_len xs l r _) (fun xs l r h => eachR_ok h fun _ _ => by simp [Cl.ok, erC])
    · exact eachS_ok hP _ (fun xs l r => eachR_len xs l r _) (fun xs l r h => eachR_ok h fun y hy => by
        unfold cleanC
        split
        · exact hy
        · simp [Cl.ok] at hy ⊢ <;> omega)
  · exact hP
section
variable {w w0 w1 w2 w3 wr : World} {F G : Nat → Prop} {b : Nat} {S T : BkS} {U U' : Value} {pp : Nat → Nat}
theorem BkM.start' {V : Value} {ps : List PgR} {st : PgR} (h : BkO w0 F b T V ps st) (hT : T.Ok) (hp : ∀ i r, ps[i]? = some r → r.p = pp i) : BkM w0 F b pp T w0 :=
  ⟨Keep.refl _ _, hT, V, ps, st, F, h, fun x hx => .inl hx, hp⟩
theorem BkM.bdid (h : BkM w0 F b pp T wr) (hF : ∀ x, F x → x < w0.heap.size) : BDid F b T w0 wr := by
  obtain ⟨k, ok, V, ps, st, F', h1, h2, h3⟩ := h
  have hs := k.size
  exact ⟨k, V, ps, st, h1.mono (fun x hx => by
    rcases h2 x hx with f | f
    · exact .inl f
    · exact .inr ⟨f, h1.lt x hx⟩) (fun x hx => by
    rcases hx with f | f
    · have := hF x f; omega
    · exact f.2)⟩
theorem bdo_fin2 (hD : BDid F b T w0 w1) (hb0 : Below w.heap.size w w0) (hF : ∀ x, F x → x < w.heap.size) (hk2 : Keep (fun x => w.heap.size ≤ x ∧ x < w0.heap.size) w1 w2) (hR2 : RBk w2 (offs F G w w1) U' T) (hk3 : Keep (fun x => w.heap.size ≤ x ∧ x < w0.heap.size) w2 w3) (hG : ∀ x, G x → x < w.heap.size) :
    BDoR F b G T w (.returned (.tuple #[U', .bool true])) w3 := by
  have s0 := hb0.size
  have s1 := hD.1.size
  have s2 := hk2.size
  have hk : Keep F w w1 := (Keep.of_below (F := F) hb0).trans hD.1 (fun x hx => .inl hx)
  have hk13 : Keep (fun x => w.heap.size ≤ x ∧ x < w0.heap.size) w1 w3 := hk2.trans hk3 (fun x hx => .inl hx)
  refine ⟨U', more F w0 w1, rfl, hk.trans hk13 (fun x hx => .inr hx.1), hD.2.keep hk13 (fun x hx g => ?_), ?_, fun x hx => hx.imp_right (fun e => by omega)⟩
  · rcases hx with hx | hx
    · have := hF x hx; omega
    · omega
  · refine (hR2.keep hk3 (fun x hx g => hx ⟨.inr (.inr g.1), by omega⟩)).mono (fun x _ g => ?_)
    rcases g with (g | g) | g
    · exact ⟨.inl g, by have := hF x g; omega⟩
    · exact ⟨.inr (.inr (by omega)), g.2⟩
    · exact ⟨.inr (.inl g), by have := hG x g; omega⟩
end
end Go.Proofs.YtignkkejkknddaaGreat
/- phosphorlaw16.do: an act of both.  -/
namespace Go.Proofs.YtignkkejkknddaaGreat
open Go.RowKit
set_option linter.unusedVariables false
set_option linter.unusedSimpArgs false

section
variable {w w0 w1 : World} {F G : Nat → Prop} {P : PgS} {U : Value}
theorem offs_ref (h : RefAt w (fun x => F x ∨ G x) U P) (hb0 : Below w.heap.size w w0) (hk : Keep F w0 w1) : RefAt w1 (offs F G w w1) U P := by
  have h1 : RefAt w (fun x => F x ∨ G x ∨ w.heap.size ≤ x) U P := h.mono (fun x hx g => by rcases g with g | g | g; exact .inl g; exact .inr g; omega)
  have h2 : RefAt w1 (fun x => F x ∨ G x ∨ w.heap.size ≤ x) U P := (h1.grow hb0).keep' hk (fun x hx f => hx (.inl f))
  exact h2.mono (fun x _ g => g.1)
end
theorem stow2e {w : World} {b : Nat} {u0 u1 : Value} {t : TypeId} (x : More) (h : w.heap[b]? = some (.cells #[u0, u1] t (0, 0))) (v0 v1 : Value) :
    ∃ W', ext ((w.setCell ⟨b, 0, none⟩ v0).setCell ⟨b, 1, none⟩ v1) x = W' ∧ Keep (· = b) (ext w x) W' ∧ W'.heap[b]? = some (.cells #[v0, v1] t (0, 0)) := by
  have hl := heap_in h
  obtain ⟨W', e, hk, hh⟩ := stow2 ((block_ext w x hl).trans h) v0 v1
  refine ⟨W', ?_, hk, hh⟩
  rw [← e, setCell_ext _ _ _ _ _ hl, setCell_ext _ _ _ _ _ (by simpa using hl)]
section
variable {w : World} {F G : Nat → Prop} {b : Nat} {S : BkS} {U : Value}
set_option maxRecDepth 100000 in
set_option maxHeartbeats 32000000 in
theorem do16_law (h : BkAt w F b S) (hS : S.Ok) (he : S.Even) (hR : RBk w (fun x => F x ∨ G x) U S) (hG : ∀ x, G x → x < w.heap.size) (a : A16) (hx : NumL w a.la a.lc a.ls) (hy : a.y.ok) :
    Calls Tryz.prog 18 #[ptrV b, U, a.v] w (BDoR F b G (act16 S a) w) := by
  obtain ⟨V, ps, st, h⟩ := h
  have hF := h.lt
  have hp : 0 < S.pages.length := hS.p1
  have hp2 := hS.p2
  obtain ⟨pp, hpp⟩ : ∃ pp : Nat → Nat, ∀ i r, ps[i]? = some r → r.p = pp i := ⟨fun i => (ps[i]?.map PgR.p).getD 0, fun i r hr => by simp [hr]⟩
  have hO := Lib.hid (fun W0 (hb : Below w.heap.size w W0) => h.grow hb)
  have MK := Lib.hid (fun W0 (hb : Below w.heap.size w W0) => BkM.start' (h.grow hb) hS hpp)
  have PG : Hid (∀ W0, Below w.heap.size w W0 → Calls Tryz.prog 17 #[ptrV b, .int .i64 0] W0 (Gives W0 (ptrV (pp 0)))) := Lib.hid (fun W0 hb => (MK.out W0 hb).page 0 hp W0 (Below.refl _ _))
  have FW := Lib.hid (fun w' (hb : Below w.heap.size w w') => (by exact few_c (hx.grow hb) 20 (by omega) : Calls Tryz.prog 11 #[.slice a.la a.ls.length a.lc, .int .i64 20] w' (FewR w' (a.ls.take 20))))
  have hzm : ∀ z ∈ a.ls.take 20, z ≤ 9223372036854775807 := fun z hz => hx.hi z (List.mem_of_mem_take hz)
  have hzl : (a.ls.take 20).length ≤ 20 := by rw [List.length_take]; omega
  have hR' := Lib.hid hR
  obtain ⟨A, c0, us, ⟨sA, sm, sc, sn⟩, rfl, ho⟩ := hR
  obtain ⟨⟨rA, rm, rc, rn⟩, L, o, -, rfl, hr0, d0, d1, hL⟩ := ho.ps.get hp
  simp only [RPg.V, RPg.v, Nat.zero_mul, Nat.add_zero] at d0 d1 hr0 hR' ⊢
  have hR0 := Lib.hid hr0
  have okP := hS.pg _ (List.getElem_mem hp)
  have e0 := pgAt_0 hp
  clear hr0 ho h hpp
  generalize hT : act16 S a = T
  obtain ⟨kd, x, la, lc, ls, fl, st, y⟩ := a
  unfold act16 at hT
  simp only [A16.v, A16.cells] at hx hy FW hzm hzl hT ⊢
  rw [e0] at hT
  generalize ls.take 20 = zs at FW hzm hzl hT ⊢
  replace hT := Lib.hid hT
  obtain ⟨xt, xl, xb, xr⟩ := x
  obtain ⟨yg, yr, yk⟩ := y
  simp only at hx hy ⊢
  clear hx e0
  replace hF := Lib.hid hF
  replace hzm := Lib.hid hzm
  replace okP := Lib.hid okP
  replace hy := Lib.hid hy
  go_enter Tryz.func18, Tryz.ntmps18
  go_upto_region 1 with fail
  generalize hW : (((w.alloc (.cells #[.slice (some ⟨L, o, none⟩) S.pages.length c0, .slice sA sm sc, .int .i64 sn, .int .i64 S.now, .bool S.below] 41)).alloc (.cells #[.int .i64 kd, .int .i64 xt, .int .i64 xl, .int .i64 xb, .int .i64 xr, .slice la ls.length lc, .bool fl, .bool st, .int .i32 yg, .int .u8 yr, .bool yk] 62)).alloc (.cells #[.slice none 0 0, .slice none 0 0, .int .i64 0, .int .i64 0, .bool false] 41)) = W
  have hsz : W.heap.size = w.heap.size + 1 + 1 + 1 := by subst hW; simp [go_sem]
  have hB : Below w.heap.size w W := by subst hW; (repeat' (first | (with_reducible exact Below.refl _ _) | (with_reducible refine Below.alloc ?_ ?_ _) | (with_reducible refine below_ext ?_ ?_ _) | (with_reducible refine Below.drew ?_) | (with_reducible refine below_drewN ?_ _) | (with_reducible refine Below.setCell ?_ ?_ _) | go_size | (simp only [go_sem]; omega) | (simp [go_sem]; done) | (simp [go_sem]; omega)))
  have b0 : W.heap[w.heap.size]? = some (.cells #[.slice (some ⟨L, o, none⟩) S.pages.length c0, .slice sA sm sc, .int .i64 sn, .int .i64 S.now, .bool S.below] 41 (0, 0)) := by subst hW; (repeat (first | ((with_reducible refine heap_at _ _ ?_); (focus (first | rfl | (simp [go_sem]; done) | (simp [go_sem]; omega)))) | ((with_reducible refine (heap_old _ _ ?_).trans ?_); (focus (first | (simp [go_sem]; done) | (simp [go_sem]; omega)))) | ((with_reducible refine (block_ext _ _ ?_).trans ?_); (focus (first | (simp [go_sem]; done) | (simp [go_sem]; omega)))) | ((with_reducible refine (heap_drew _ _).trans ?_))))
  have b1 : W.heap[w.heap.size + 1]? = some (.cells #[.int .i64 kd, .int .i64 xt, .int .i64 xl, .int .i64 xb, .int .i64 xr, .slice la ls.length lc, .bool fl, .bool st, .int .i32 yg, .int .u8 yr, .bool yk] 62 (0, 0)) := by subst hW; (repeat (first | ((with_reducible refine heap_at _ _ ?_); (focus (first | rfl | (simp [go_sem]; done) | (simp [go_sem]; omega)))) | ((with_reducible refine (heap_old _ _ ?_).trans ?_); (focus (first | (simp [go_sem]; done) | (simp [go_sem]; omega)))) | ((with_reducible refine (block_ext _ _ ?_).trans ?_); (focus (first | (simp [go_sem]; done) | (simp [go_sem]; omega)))) | ((with_reducible refine (heap_drew _ _).trans ?_))))
  have b2 : W.heap[w.heap.size + 1 + 1]? = some (.cells #[.slice none 0 0, .slice none 0 0, .int .i64 0, .int .i64 0, .bool false] 41 (0, 0)) := by subst hW; (repeat (first | ((with_reducible refine heap_at _ _ ?_); (focus (first | rfl | (simp [go_sem]; done) | (simp [go_sem]; omega)))) | ((with_reducible refine (heap_old _ _ ?_).trans ?_); (focus (first | (simp [go_sem]; done) | (simp [go_sem]; omega)))) | ((with_reducible refine (block_ext _ _ ?_).trans ?_); (focus (first | (simp [go_sem]; done) | (simp [go_sem]; omega)))) | ((with_reducible refine (heap_drew _ _).trans ?_))))
  clear hW
  have hl1 := heap_in b1
  go_cut [8] from 19 to 21 (fun v wx => ∃ A8 C8, v = .slice A8 zs.length C8 ∧ Below W.heap.size W wx ∧ Own (encI .i64) 1 3 W.heap.size wx (.slice A8 zs.length C8) zs)
  case first =>
    have k5 : W.cell? ⟨w.heap.size + 1, 5, none⟩ = some (.slice la ls.length lc) := by rw [cell_in b1]; rfl
    go_wp2_with (
      (go_at_call 11
       (with_reducible refine (FW.out _ hB).mono ?_)
       rintro _ _ ⟨A8, C8, x8, rfl, rfl, hO8⟩))
    go_meet
    exact ⟨A8, C8, rfl, below_of_ext _ _, hO8⟩
  obtain ⟨A8, C8, rfl, hb1, hO8⟩ := hcut
  obtain ⟨W1, eW1⟩ : ∃ W1, W1 = wc := ⟨_, rfl⟩
  rw [← eW1] at hb1 hO8 ⊢
  clear eW1 wc
  have hB1 := hB.trans (hb1.mono hB.size)
  replace b0 := (hb1.block _ (heap_in b0)).trans b0
  replace b1 := (hb1.block _ (heap_in b1)).trans b1
  replace b2 := (hb1.block _ (heap_in b2)).trans b2
  replace hl1 := heap_in b1
  clear hB
  go_upto_region 2 with fail
  go_cut [9] from 22 to 24 (fun v wx => ∃ A9 C9, v = .slice A9 zs.length C9 ∧ Below W1.heap.size W1 wx ∧ Own (encI .i64) 1 3 W.heap.size wx (.slice A9 zs.length C9) zs)
  case first =>
    have k5 : W1.cell? ⟨w.heap.size + 1, 5, none⟩ = some (.slice la ls.length lc) := by rw [cell_in b1]; rfl
    go_wp2_with (
      (go_at_call 11
       (with_reducible refine (FW.out _ hB1).mono ?_)
       rintro _ _ ⟨A9, C9, x9, rfl, rfl, hO9⟩))
    go_meet
    exact ⟨A9, C9, rfl, below_of_ext _ _, hO9.mono hb1.size⟩
  obtain ⟨A9, C9, rfl, hb2, hO9⟩ := hcut
  obtain ⟨W2, eW2⟩ : ∃ W2, W2 = wc := ⟨_, rfl⟩
  rw [← eW2] at hb2 hO9 ⊢
  clear eW2 wc FW
  have hB2 := hB1.trans (hb2.mono hB1.size)
  replace b0 := (hb2.block _ (heap_in b0)).trans b0
  replace b1 := (hb2.block _ (heap_in b1)).trans b1
  replace b2 := (hb2.block _ (heap_in b2)).trans b2
  obtain ⟨-, hx8, hq8⟩ := own_num hO8 hzm.out
  obtain ⟨-, hx9, hq9⟩ := own_num hO9 hzm.out
  replace hx8 := hx8.grow hb2
  clear hO8 hO9 hB1 hb1
  have KS := Lib.hid (fun w' (h : Below W2.heap.size W2 w') => (by
    have h2 := hB2.trans (h.mono hB2.size)
    exact ⟨by rw [cell_in ((h.block _ (heap_in b0)).trans b0)]; rfl, (h2.cell (p := ⟨L, _, none⟩) hL).trans d0, (h2.cell (p := ⟨L, _, none⟩) hL).trans d1⟩ :
    w'.cell? ⟨w.heap.size, 0, none⟩ = some (.slice (some ⟨L, o, none⟩) S.pages.length c0) ∧ w'.cell? ⟨L, o, none⟩ = some (.slice rA rm rc) ∧ w'.cell? ⟨L, o + 1, none⟩ = some (.int .i64 rn)))
  have PG2 : Hid (∀ w', Below W2.heap.size W2 w' → Calls Tryz.prog 17 #[ptrV b, .int .i64 0] w' (Gives w' (ptrV (pp 0)))) := Lib.hid (fun w' h => PG.out w' (hB2.trans (h.mono hB2.size)))
  go_upto_region 3 with fail
  go_cut [10, 11] from 25 to 30 (fun v10 v11 wx => v10 = ptrV (pp 0) ∧ ∃ H, v11 = .pointer (some ⟨H, 0, none⟩) ∧ Below W2.heap.size W2 wx ∧ W2.heap.size ≤ H ∧ wx.heap[H]? = some (.cells #[.slice rA rm rc, .int .i64 rn] 39 (0, 0)))
  case first =>
    go_region_held3 (fun w' => w'.cell? ⟨w.heap.size, 0, none⟩ = some (.slice (some ⟨L, o, none⟩) S.pages.length c0) ∧ w'.cell? ⟨L, o, none⟩ = some (.slice rA rm rc) ∧ w'.cell? ⟨L, o + 1, none⟩ = some (.int .i64 rn)) (exact KS.out _ (by (repeat' (first | (with_reducible exact Below.refl _ _) | (with_reducible refine Below.alloc ?_ ?_ _) | (with_reducible refine below_ext ?_ ?_ _) | (with_reducible refine Below.drew ?_) | (with_reducible refine below_drewN ?_ _) | (with_reducible refine Below.setCell ?_ ?_ _) | go_size | (simp only [go_sem]; omega) | (simp [go_sem]; done) | (simp [go_sem]; omega))))) ((go_at_call 17; ((with_reducible refine (PG2.out _ (by (repeat' (first | (with_reducible exact Below.refl _ _) | (with_reducible refine Below.alloc ?_ ?_ _) | (with_reducible refine below_ext ?_ ?_ _) | (with_reducible refine Below.drew ?_) | (with_reducible refine below_drewN ?_ _) | (with_reducible refine Below.setCell ?_ ?_ _) | go_size | (simp only [go_sem]; omega) | (simp [go_sem]; done) | (simp [go_sem]; omega))))).mono ?_); rintro _ _ hgets; obtain ⟨rfl, x4, rfl⟩ := hgets.get; clear hgets)))
    all_goals go_wp2
    all_goals go_meet
    all_goals (refine ⟨rfl, _, rfl, by (repeat' (first | (with_reducible exact Below.refl _ _) | (with_reducible refine Below.alloc ?_ ?_ _) | (with_reducible refine below_ext ?_ ?_ _) | (with_reducible refine Below.drew ?_) | (with_reducible refine below_drewN ?_ _) | (with_reducible refine Below.setCell ?_ ?_ _) | go_size | (simp only [go_sem]; omega) | (simp [go_sem]; done) | (simp [go_sem]; omega))), by (try simp), ?_⟩; (repeat (first | ((with_reducible refine heap_at _ _ ?_); (focus (first | rfl | (simp [go_sem]; done) | (simp [go_sem]; omega)))) | ((with_reducible refine (heap_old _ _ ?_).trans ?_); (focus (first | (simp [go_sem]; done) | (simp [go_sem]; omega)))) | ((with_reducible refine (block_ext _ _ ?_).trans ?_); (focus (first | (simp [go_sem]; done) | (simp [go_sem]; omega)))) | ((with_reducible refine (heap_drew _ _).trans ?_)))))
  obtain ⟨rfl, H, rfl, hb3, hH2, bH⟩ := hcut
  obtain ⟨W0, eW0⟩ : ∃ W0, W0 = wc := ⟨_, rfl⟩
  rw [← eW0] at hb3 bH ⊢
  clear eW0 wc PG PG2 KS
  have hH3 : w.heap.size + 1 + 1 < H := Nat.lt_of_lt_of_le (heap_in b2) hH2
  have nH8 : 0 < zs.length → ∀ q o, A8 = some ⟨q, o, none⟩ → q ≠ H := fun h0 q o e => by
    obtain ⟨b', o', e', hlt, -⟩ := hx8.rd h0
    rw [e] at e'
    injection e' with e'
    injection e' with e1 e2
    omega
  have nH9 : 0 < zs.length → ∀ q o, A9 = some ⟨q, o, none⟩ → q ≠ H := fun h0 q o e => by
    obtain ⟨b', o', e', hlt, -⟩ := hx9.rd h0
    rw [e] at e'
    injection e' with e'
    injection e' with e1 e2
    omega
  replace nH8 := Lib.hid nH8
  replace nH9 := Lib.hid nH9
  have hB0 := hB2.trans (hb3.mono hB2.size)
  replace b0 := (hb3.block _ (heap_in b0)).trans b0
  replace b1 := (hb3.block _ (heap_in b1)).trans b1
  replace b2 := (hb3.block _ (heap_in b2)).trans b2
  replace hx8 := hx8.grow hb3
  replace hx9 := hx9.grow hb3
  have hHw : w.heap.size ≤ H := by have := hB2.size; omega
  clear hb3 hb2 hH2 hB2
  have hBM := Lib.hid (MK.out W0 hB0)
  obtain ⟨Gp, hP0, hGs, hBack⟩ := hBM.out.deed 0 hp
  have LB := Lib.hid (fun w1 (hk : Keep F W0 w1) => (by
    have nF : ∀ x, w.heap.size ≤ x → ¬ F x := fun x h f => by have := hF.out x f; omega
    exact ⟨(hk.block _ (heap_in b0) (nF _ (by omega))).trans b0, (hk.block _ (heap_in b1) (nF _ (by omega))).trans b1, (hk.block _ (heap_in b2) (nF _ (by omega))).trans b2, (hk.block _ (heap_in bH) (nF _ (by omega))).trans bH,
      ⟨Rd.keep' hx8.rd hk (fun h0 q o e => nF q (by have := hq8 h0 q o e; omega)), hx8.lc, hx8.cm, hx8.hi⟩, ⟨Rd.keep' hx9.rd hk (fun h0 q o e => nF q (by have := hq9 h0 q o e; omega)), hx9.lc, hx9.cm, hx9.hi⟩⟩ :
    w1.heap[w.heap.size]? = some (.cells #[.slice (some ⟨L, o, none⟩) S.pages.length c0, .slice sA sm sc, .int .i64 sn, .int .i64 S.now, .bool S.below] 41 (0, 0)) ∧ w1.heap[w.heap.size + 1]? = some (.cells #[.int .i64 kd, .int .i64 xt, .int .i64 xl, .int .i64 xb, .int .i64 xr, .slice la ls.length lc, .bool fl, .bool st, .int .i32 yg, .int .u8 yr, .bool yk] 62 (0, 0)) ∧ w1.heap[w.heap.size + 1 + 1]? = some (.cells #[.slice none 0 0, .slice none 0 0, .int .i64 0, .int .i64 0, .bool false] 41 (0, 0)) ∧ w1.heap[H]? = some (.cells #[.slice rA rm rc, .int .i64 rn] 39 (0, 0)) ∧ NumL w1 A8 C8 zs ∧ NumL w1 A9 C9 zs))
  have hHW : H < W0.heap.size := heap_in bH
  have hlW : w.heap.size + 1 + 1 < W0.heap.size := heap_in b2
  have TL : Hid (∀ P' w1 wx (r' : RPg), BkM W0 F b pp (S.set 0 P') w1 → Keep (fun x => w.heap.size ≤ x ∧ x < W0.heap.size) w1 wx → RefAt wx (offs F G w w1) (RPg.v r') P' → RBk wx (offs F G w w1) (rbV (some ⟨L, o, none⟩) S.pages.length c0 (.slice sA sm sc) sn S.now S.below) S →
      Calls Tryz.prog 36 #[rbV (some ⟨L, o, none⟩) S.pages.length c0 (.slice sA sm sc) sn S.now S.below, .int .i64 0, r'.v] wx (NewRB (offs F G w w1) (S.set 0 P') wx)) :=
    Lib.hid (fun P' w1 wx r' hM hkx hr hU => setpage_c (F := offs F G w w1) (P := P') 0 hp hU hS r' hr (fun x hx => Nat.lt_of_lt_of_le hx.2 hkx.size))
  have FIN := Lib.hid (fun P' w1 w2 w3 U' (hM : BkM W0 F b pp (S.set 0 P') w1) (hk2 : Keep (fun x => w.heap.size ≤ x ∧ x < W0.heap.size) w1 w2) (hR2 : RBk w2 (offs F G w w1) U' (S.set 0 P')) (hk3 : Keep (fun x => w.heap.size ≤ x ∧ x < W0.heap.size) w2 w3) => bdo_fin2 (hM.bdid (fun x f => by have := hF.out x f; have := hB0.size; omega)) hB0 hF.out hk2 hR2 hk3 hG)
  have RU := Lib.hid (fun w1 (hk : Keep F W0 w1) => offs_old hR'.out hB0 hk)
  have RP := Lib.hid (fun w1 (hk : Keep F W0 w1) => offs_ref hR0.out hB0 hk)
  replace hBack := Lib.hid hBack
  replace hP0 := Lib.hid hP0
  have SI := Lib.hid (fun w' (h8 : NumL w' A8 C8 zs) (h9 : NumL w' A9 C9 zs) => same_ints A8 A9 C8 C9 zs zs w' h8.rd h9.rd (by omega) (by omega))
  simp only [decide_true] at SI
  have hx8h := Lib.hid hx8
  have hx9h := Lib.hid hx9
  obtain ⟨kd0, hkd⟩ : ∃ kd0, kd0 = kd := ⟨_, rfl⟩
  by_cases e1 : kd = 1
  · subst e1
    have hT1 := hT.out
    rw [if_pos rfl] at hT1
    have okP' := fillS_ok okP.out ⟨xt, xl, xb, xr⟩ zs hy.out
    have FI := fill_rect hP0.out okP.out hx8 ⟨xt, xl, xb, xr⟩ ⟨yg, yr, yk⟩
    have DO := Lib.hid (fun w1 (hr : RefAt w1 (offs F G w w1) (RPg.v ⟨rA, rm, rc, rn⟩) S.pages[0]) (n9 : NumL w1 A9 C9 zs) => (by
      have := do16_c (F := offs F G w w1) 1 (fun _ => ⟨yg, yr, yk⟩) ⟨yg, yr, yk⟩ (Deed.fill _ _) hr okP.out (fun x hx => hx.2) n9 ⟨xt, xl, xb, xr⟩ 1
      exact this : Calls Tryz.prog 57 #[.int .i64 1, RPg.v ⟨rA, rm, rc, rn⟩, boxV xt xl xb xr, .slice A9 zs.length C9, .int .i64 1, cellV ⟨yg, yr, yk⟩] w1 (NewPo (offs F G w w1) (fillS S.pages[0] ⟨xt, xl, xb, xr⟩ zs ⟨yg, yr, yk⟩) (reOk (arB S.pages[0] ⟨xt, xl, xb, xr⟩) zs 1) w1)))
    generalize fillS S.pages[0] ⟨xt, xl, xb, xr⟩ zs ⟨yg, yr, yk⟩ = P' at okP' FI DO hT1
    generalize reOk (arB S.pages[0] ⟨xt, xl, xb, xr⟩) zs 1 = k at FI DO
    replace FI := Lib.hid FI
    replace okP' := Lib.hid okP'
    have TL1 := Lib.hid (TL.out P')
    have FIN1 := Lib.hid (FIN.out P')
    subst hT1
    clear TL FIN MK hT hBM hx8 hx9 hq8 hq9 bH b2
    simp only [RPg.v, RPg.V, cellV] at DO RP TL1 FI
    have k0 : W0.cell? ⟨w.heap.size + 1, 0, none⟩ = some (.int .i64 1) := by rw [cell_in b1]; rfl
    have k1 : W0.cell? ⟨w.heap.size + 1, 1, none⟩ = some (.int .i64 xt) := by rw [cell_in b1]; rfl
    have k2 : W0.cell? ⟨w.heap.size + 1, 2, none⟩ = some (.int .i64 xl) := by rw [cell_in b1]; rfl
    have k3 : W0.cell? ⟨w.heap.size + 1, 3, none⟩ = some (.int .i64 xb) := by rw [cell_in b1]; rfl
    have k4 : W0.cell? ⟨w.heap.size + 1, 4, none⟩ = some (.int .i64 xr) := by rw [cell_in b1]; rfl
    have k8 : W0.cell? ⟨w.heap.size + 1, 8, none⟩ = some (.int .i32 yg) := by rw [cell_in b1]; rfl
    have k9 : W0.cell? ⟨w.heap.size + 1, 9, none⟩ = some (.int .u8 yr) := by rw [cell_in b1]; rfl
    have k10 : W0.cell? ⟨w.heap.size + 1, 10, none⟩ = some (.bool yk) := by rw [cell_in b1]; rfl
    have kl := heap_in b1
    go_upto_region 11 with (
      (go_at_call 56
       (with_reducible refine FI.out.mono ?_)
       rintro _ w1 ⟨rfl, hD⟩
       replace hD := Lib.hid hD))
    clear k0 k1 k2 k3 k4 k8 k9 k10 b1 b0
    have hM := hBack.out W0 w1 P' okP'.out (Below.refl _ _) hD.out
    have hk := hM.keep
    obtain ⟨c0, c1, c2, cH, n8, n9⟩ := LB.out w1 hk
    have hs1 := hk.size
    have hr1 := RP.out w1 hk
    have hU1 := RU.out w1 hk
    have DO1 := Lib.hid (DO.out w1 hr1 n9)
    obtain ⟨p0, p1, pl, pz⟩ := two cH
    have pz0 := pz 0
    have pz1 := pz 1
    clear pz
    have k1 : w1.cell? ⟨w.heap.size + 1, 1, none⟩ = some (.int .i64 xt) := by rw [cell_in c1]; rfl
    have k2 : w1.cell? ⟨w.heap.size + 1, 2, none⟩ = some (.int .i64 xl) := by rw [cell_in c1]; rfl
    have k3 : w1.cell? ⟨w.heap.size + 1, 3, none⟩ = some (.int .i64 xb) := by rw [cell_in c1]; rfl
    have k4 : w1.cell? ⟨w.heap.size + 1, 4, none⟩ = some (.int .i64 xr) := by rw [cell_in c1]; rfl
    have k8 : w1.cell? ⟨w.heap.size + 1, 8, none⟩ = some (.int .i32 yg) := by rw [cell_in c1]; rfl
    have k9 : w1.cell? ⟨w.heap.size + 1, 9, none⟩ = some (.int .u8 yr) := by rw [cell_in c1]; rfl
    have k10 : w1.cell? ⟨w.heap.size + 1, 10, none⟩ = some (.bool yk) := by rw [cell_in c1]; rfl
    have kl := heap_in c1
    have hMk := Lib.hid hM
    have hr1' := Lib.hid hr1
    have hU1' := Lib.hid hU1
    have hn := Lib.hid (And.intro n8 n9)
    replace c0 := Lib.hid c0
    replace c2 := Lib.hid c2
    replace cH := Lib.hid cH
    clear hM hk hr1 hU1 n8 n9 DO c1 RP RU LB hD
    go_upto_region 25 with (
      (go_at_call 57
       (with_reducible refine DO1.out.mono ?_)
       rintro _ _ ⟨⟨pA, pm, pc, pn⟩, x2, rfl, rfl, hr2⟩
       (try simp only [RPg.v, RPg.V])
       replace hr2 := Lib.hid hr2))
    obtain ⟨wx, ewx, hkH, hH⟩ := stow2e x2 cH.out (.slice pA pm pc) (.int .i64 pn)
    rw [ewx]
    clear ewx k1 k2 k3 k4 k8 k9 k10 kl p0 p1 pl pz0 pz1
    have hL1 : ∀ x, x = H → w.heap.size ≤ x ∧ x < W0.heap.size := fun x e => by omega
    have hkx : Keep (fun x => w.heap.size ≤ x ∧ x < W0.heap.size) w1 wx := (Keep.of_below (F := fun x => w.heap.size ≤ x ∧ x < W0.heap.size) (below_of_ext w1 x2)).trans (hkH.mono hL1) (fun x hx => .inl hx)
    have hoff : ∀ x, ¬ offs F G w w1 x → ¬ (w.heap.size ≤ x ∧ x < W0.heap.size) := fun x hx e => hx ⟨.inr (.inr e.1), by omega⟩
    have hrx : RefAt wx (offs F G w w1) (RPg.v ⟨pA, pm, pc, pn⟩) P' := hr2.out.keep' hkH (fun x hx e => hoff x hx (hL1 x e))
    have hUx := hU1'.out.keep hkx hoff
    have SPx := Lib.hid (TL1.out w1 wx ⟨pA, pm, pc, pn⟩ hMk.out hkx hrx hUx)
    have hx1 := hkx.size
    have hBx := below_of_ext w1 x2
    obtain ⟨q0, q1, q2, q3, q4, ql, -⟩ := five ((hkH.block _ (by simp; omega) (by omega)).trans ((hBx.block _ (by omega)).trans c0.out))
    have c2x := (hkH.block (w.heap.size + 1 + 1) (by simp; omega) (by omega)).trans ((hBx.block _ (by omega)).trans c2.out)
    obtain ⟨p0, p1, pl, -⟩ := two hH
    have n8x := Lib.hid (⟨Rd.keep' (hn.out.1.grow hBx).rd hkH nH8.out, hn.out.1.lc, hn.out.1.cm, hn.out.1.hi⟩ : NumL wx A8 C8 zs)
    have n9x := Lib.hid (⟨Rd.keep' (hn.out.2.grow hBx).rd hkH nH9.out, hn.out.2.lc, hn.out.2.cm, hn.out.2.hi⟩ : NumL wx A9 C9 zs)
    replace c2x := Lib.hid c2x
    have hkxh := Lib.hid hkx
    simp only [RPg.v, RPg.V] at SPx
    replace SPx := Lib.hid SPx.out
    clear hkH hH hrx hUx hkx hBx hn hr2 c0 c2 cH
    generalize S.set 0 P' = T at *
    cases k
    all_goals (
      repeat (first | go_values | go_skip | go_guarded | go_step)
      go_at_call 36
      refine SPx.out.mono ?_
      rintro _ _ ⟨U', x3, rfl, rfl, hBk⟩
      obtain ⟨A2, d2, us2, ⟨tA, tm, tc, tn⟩, rfl, H2⟩ := hBk
      (try simp only [RPg.V])
      replace H2 := Lib.hid H2
      repeat (first | go_values | go_skip | go_guarded | go_step)
      go_at_call 60
      refine (SI.out _ (n8x.out.grow (below_of_ext _ _)) (n9x.out.grow (below_of_ext _ _))).mono ?_
      rintro _ _ hgets
      obtain ⟨rfl, x4, rfl⟩ := hgets.get
      clear hgets
      dsimp only
      have hbV : Below wx.heap.size wx (ext (ext wx x3) x4) := below_ext (below_of_ext wx x3) (by simp) x4
      have hb4 := below_of_ext (ext wx x3) x4
      have HV : RBk (ext (ext wx x3) x4) (offs F G w w1) (rbV A2 T.pages.length d2 (.slice tA tm tc) tn T.now T.below) T := ⟨A2, d2, us2, ⟨tA, tm, tc, tn⟩, rfl, H2.out.grow hb4⟩
      have bV := (hbV.block _ (heap_in c2x.out)).trans c2x.out
      have hkV := hkxh.out.trans (Keep.of_below (F := fun x => w.heap.size ≤ x ∧ x < W0.heap.size) hbV) (fun x hx => .inl hx)
      clear q0 q1 q2 q3 q4 ql p0 p1 pl H2 hb4 hbV SPx c2x n8x n9x hkxh
      generalize ext (ext wx x3) x4 = V at HV bV hkV ⊢
      obtain ⟨s0, s1, s2, s3, s4, sl, sz⟩ := five bV
      have sz0 := sz 0
      have sz1 := sz 1
      have sz2 := sz 2
      have sz3 := sz 3
      have sz4 := sz 4
      obtain ⟨W6, h6, hk6, hs6⟩ := store5 bV (.slice A2 T.pages.length d2) (.slice tA tm tc) (.int .i64 tn) (.int .i64 T.now) (.bool T.below)
      obtain ⟨y0, y1, y2, y3, y4, yl, -⟩ := five hs6
      have no := Lib.hid (FIN1.out w1 V W6 _ hMk.out hkV HV (hk6.mono (fun x e => by omega)))
      clear hs6 hk6 bV HV hkV sz FIN1 hMk
      repeat (first | go_values | go_skip | go_guarded | go_step)
      simp [bodyPost, go_sem, y0, y1, y2, y3, y4]
      exact ⟨_, by simp [results, Tryz.f18, go_sem, y0, y1, y2, y3, y4] <;> rfl, no.out⟩)
  by_cases e2 : kd = 2
  · subst e2
    clear e1
    cases fl
    · skip
      have hT1 := hT.out
      rw [if_neg (by decide), if_pos rfl] at hT1
      have okP' := rwipeS_ok okP.out ⟨xt, xl, xb, xr⟩ zs false
      have FI := erase_rect hP0.out okP.out hx8 ⟨xt, xl, xb, xr⟩ false
      have DO := Lib.hid (fun w1 (hr : RefAt w1 (offs F G w w1) (RPg.v ⟨rA, rm, rc, rn⟩) S.pages[0]) (n9 : NumL w1 A9 C9 zs) => (by
        have := do16_c (F := offs F G w w1) 1 (fun _ => erC) erC (Deed.fill _ _) hr okP.out (fun x hx => hx.2) n9 ⟨xt, xl, xb, xr⟩ 0
        exact this : Calls Tryz.prog 57 #[.int .i64 1, RPg.v ⟨rA, rm, rc, rn⟩, boxV xt xl xb xr, .slice A9 zs.length C9, .int .i64 0, cellV erC] w1 (NewPo (offs F G w w1) (rwipeS S.pages[0] ⟨xt, xl, xb, xr⟩ zs false) (reOk (arB S.pages[0] ⟨xt, xl, xb, xr⟩) zs 0) w1)))
      generalize rwipeS S.pages[0] ⟨xt, xl, xb, xr⟩ zs false = P' at okP' FI DO hT1
      generalize reOk (arB S.pages[0] ⟨xt, xl, xb, xr⟩) zs 0 = k at FI DO
      replace FI := Lib.hid FI
      replace okP' := Lib.hid okP'
      have TL1 := Lib.hid (TL.out P')
      have FIN1 := Lib.hid (FIN.out P')
      subst hT1
      clear TL FIN MK hT hBM hx8 hx9 hq8 hq9 bH b2
      simp only [RPg.v, RPg.V, cellV, erC] at DO
      simp only [RPg.v, RPg.V] at RP TL1
      have k0 : W0.cell? ⟨w.heap.size + 1, 0, none⟩ = some (.int .i64 2) := by rw [cell_in b1]; rfl
      have k1 : W0.cell? ⟨w.heap.size + 1, 1, none⟩ = some (.int .i64 xt) := by rw [cell_in b1]; rfl
      have k2 : W0.cell? ⟨w.heap.size + 1, 2, none⟩ = some (.int .i64 xl) := by rw [cell_in b1]; rfl
      have k3 : W0.cell? ⟨w.heap.size + 1, 3, none⟩ = some (.int .i64 xb) := by rw [cell_in b1]; rfl
      have k4 : W0.cell? ⟨w.heap.size + 1, 4, none⟩ = some (.int .i64 xr) := by rw [cell_in b1]; rfl
      have k6 : W0.cell? ⟨w.heap.size + 1, 6, none⟩ = some (.bool false) := by rw [cell_in b1]; rfl
      have kl := heap_in b1
      go_upto_region 14 with (
        (go_at_call 25
         (with_reducible refine FI.out.mono ?_)
         rintro _ w1 ⟨rfl, hD⟩
         replace hD := Lib.hid hD))
      clear k0 k1 k2 k3 k4 k6 b1 b0
      have hM := hBack.out W0 w1 P' okP'.out (Below.refl _ _) hD.out
      have hk := hM.keep
      obtain ⟨c0, c1, c2, cH, n8, n9⟩ := LB.out w1 hk
      have hs1 := hk.size
      have hr1 := RP.out w1 hk
      have hU1 := RU.out w1 hk
      have DO1 := Lib.hid (DO.out w1 hr1 n9)
      obtain ⟨p0, p1, pl, pz⟩ := two cH
      have pz0 := pz 0
      have pz1 := pz 1
      clear pz
      have k1 : w1.cell? ⟨w.heap.size + 1, 1, none⟩ = some (.int .i64 xt) := by rw [cell_in c1]; rfl
      have k2 : w1.cell? ⟨w.heap.size + 1, 2, none⟩ = some (.int .i64 xl) := by rw [cell_in c1]; rfl
      have k3 : w1.cell? ⟨w.heap.size + 1, 3, none⟩ = some (.int .i64 xb) := by rw [cell_in c1]; rfl
      have k4 : w1.cell? ⟨w.heap.size + 1, 4, none⟩ = some (.int .i64 xr) := by rw [cell_in c1]; rfl
      have k6 : w1.cell? ⟨w.heap.size + 1, 6, none⟩ = some (.bool false) := by rw [cell_in c1]; rfl
      have kl := heap_in c1
      have hMk := Lib.hid hM
      have hr1' := Lib.hid hr1
      have hU1' := Lib.hid hU1
      have hn := Lib.hid (And.intro n8 n9)
      replace c0 := Lib.hid c0
      replace c2 := Lib.hid c2
      replace cH := Lib.hid cH
      clear hM hk hr1 hU1 n8 n9 DO c1 RP RU LB hD
      go_upto_region 25 with (
        (go_at_call 57
         (with_reducible refine DO1.out.mono ?_)
         rintro _ _ ⟨⟨pA, pm, pc, pn⟩, x2, rfl, rfl, hr2⟩
         (try simp only [RPg.v, RPg.V])
         replace hr2 := Lib.hid hr2))
      obtain ⟨wx, ewx, hkH, hH⟩ := stow2e x2 cH.out (.slice pA pm pc) (.int .i64 pn)
      rw [ewx]
      clear ewx k1 k2 k3 k4 k6 kl p0 p1 pl pz0 pz1
      have hL1 : ∀ x, x = H → w.heap.size ≤ x ∧ x < W0.heap.size := fun x e => by omega
      have hkx : Keep (fun x => w.heap.size ≤ x ∧ x < W0.heap.size) w1 wx := (Keep.of_below (F := fun x => w.heap.size ≤ x ∧ x < W0.heap.size) (below_of_ext w1 x2)).trans (hkH.mono hL1) (fun x hx => .inl hx)
      have hoff : ∀ x, ¬ offs F G w w1 x → ¬ (w.heap.size ≤ x ∧ x < W0.heap.size) := fun x hx e => hx ⟨.inr (.inr e.1), by omega⟩
      have hrx : RefAt wx (offs F G w w1) (RPg.v ⟨pA, pm, pc, pn⟩) P' := hr2.out.keep' hkH (fun x hx e => hoff x hx (hL1 x e))
      have hUx := hU1'.out.keep hkx hoff
      have SPx := Lib.hid (TL1.out w1 wx ⟨pA, pm, pc, pn⟩ hMk.out hkx hrx hUx)
      have hx1 := hkx.size
      have hBx := below_of_ext w1 x2
      obtain ⟨q0, q1, q2, q3, q4, ql, -⟩ := five ((hkH.block _ (by simp; omega) (by omega)).trans ((hBx.block _ (by omega)).trans c0.out))
      have c2x := (hkH.block (w.heap.size + 1 + 1) (by simp; omega) (by omega)).trans ((hBx.block _ (by omega)).trans c2.out)
      obtain ⟨p0, p1, pl, -⟩ := two hH
      have n8x := Lib.hid (⟨Rd.keep' (hn.out.1.grow hBx).rd hkH nH8.out, hn.out.1.lc, hn.out.1.cm, hn.out.1.hi⟩ : NumL wx A8 C8 zs)
      have n9x := Lib.hid (⟨Rd.keep' (hn.out.2.grow hBx).rd hkH nH9.out, hn.out.2.lc, hn.out.2.cm, hn.out.2.hi⟩ : NumL wx A9 C9 zs)
      replace c2x := Lib.hid c2x
      have hkxh := Lib.hid hkx
      simp only [RPg.v, RPg.V] at SPx
      replace SPx := Lib.hid SPx.out
      clear hkH hH hrx hUx hkx hBx hn hr2 c0 c2 cH
      generalize S.set 0 P' = T at *
      cases k
      all_goals (
        repeat (first | go_values | go_skip | go_guarded | go_step)
        go_at_call 36
        refine SPx.out.mono ?_
        rintro _ _ ⟨U', x3, rfl, rfl, hBk⟩
        obtain ⟨A2, d2, us2, ⟨tA, tm, tc, tn⟩, rfl, H2⟩ := hBk
        (try simp only [RPg.V])
        replace H2 := Lib.hid H2
        repeat (first | go_values | go_skip | go_guarded | go_step)
        go_at_call 60
        refine (SI.out _ (n8x.out.grow (below_of_ext _ _)) (n9x.out.grow (below_of_ext _ _))).mono ?_
        rintro _ _ hgets
        obtain ⟨rfl, x4, rfl⟩ := hgets.get
        clear hgets
        dsimp only
        have hbV : Below wx.heap.size wx (ext (ext wx x3) x4) := below_ext (below_of_ext wx x3) (by simp) x4
        have hb4 := below_of_ext (ext wx x3) x4
        have HV : RBk (ext (ext wx x3) x4) (offs F G w w1) (rbV A2 T.pages.length d2 (.slice tA tm tc) tn T.now T.below) T := ⟨A2, d2, us2, ⟨tA, tm, tc, tn⟩, rfl, H2.out.grow hb4⟩
        have bV := (hbV.block _ (heap_in c2x.out)).trans c2x.out
        have hkV := hkxh.out.trans (Keep.of_below (F := fun x => w.heap.size ≤ x ∧ x < W0.heap.size) hbV) (fun x hx => .inl hx)
        clear q0 q1 q2 q3 q4 ql p0 p1 pl H2 hb4 hbV SPx c2x n8x n9x hkxh
        generalize ext (ext wx x3) x4 = V at HV bV hkV ⊢
        obtain ⟨s0, s1, s2, s3, s4, sl, sz⟩ := five bV
        have sz0 := sz 0
        have sz1 := sz 1
        have sz2 := sz 2
        have sz3 := sz 3
        have sz4 := sz 4
        obtain ⟨W6, h6, hk6, hs6⟩ := store5 bV (.slice A2 T.pages.length d2) (.slice tA tm tc) (.int .i64 tn) (.int .i64 T.now) (.bool T.below)
        obtain ⟨y0, y1, y2, y3, y4, yl, -⟩ := five hs6
        have no := Lib.hid (FIN1.out w1 V W6 _ hMk.out hkV HV (hk6.mono (fun x e => by omega)))
        clear hs6 hk6 bV HV hkV sz FIN1 hMk
        repeat (first | go_values | go_skip | go_guarded | go_step)
        simp [bodyPost, go_sem, y0, y1, y2, y3, y4]
        exact ⟨_, by simp [results, Tryz.f18, go_sem, y0, y1, y2, y3, y4] <;> rfl, no.out⟩)

    · skip
      have hT1 := hT.out
      rw [if_neg (by decide), if_pos rfl] at hT1
      have okP' := rwipeS_ok okP.out ⟨xt, xl, xb, xr⟩ zs true
      have FI := erase_rect hP0.out okP.out hx8 ⟨xt, xl, xb, xr⟩ true
      have DO := Lib.hid (fun w1 (hr : RefAt w1 (offs F G w w1) (RPg.v ⟨rA, rm, rc, rn⟩) S.pages[0]) (n9 : NumL w1 A9 C9 zs) => (by
        have := do16_c (F := offs F G w w1) 2 (cleanC) erC (Deed.clean _ _) hr okP.out (fun x hx => hx.2) n9 ⟨xt, xl, xb, xr⟩ 0
        exact this : Calls Tryz.prog 57 #[.int .i64 2, RPg.v ⟨rA, rm, rc, rn⟩, boxV xt xl xb xr, .slice A9 zs.length C9, .int .i64 0, cellV erC] w1 (NewPo (offs F G w w1) (rwipeS S.pages[0] ⟨xt, xl, xb, xr⟩ zs true) (reOk (arB S.pages[0] ⟨xt, xl, xb, xr⟩) zs 0) w1)))
      generalize rwipeS S.pages[0] ⟨xt, xl, xb, xr⟩ zs true = P' at okP' FI DO hT1
      generalize reOk (arB S.pages[0] ⟨xt, xl, xb, xr⟩) zs 0 = k at FI DO
      replace FI := Lib.hid FI
      replace okP' := Lib.hid okP'
      have TL1 := Lib.hid (TL.out P')
      have FIN1 := Lib.hid (FIN.out P')
      subst hT1
      clear TL FIN MK hT hBM hx8 hx9 hq8 hq9 bH b2
      simp only [RPg.v, RPg.V, cellV, erC] at DO
      simp only [RPg.v, RPg.V] at RP TL1
      have k0 : W0.cell? ⟨w.heap.size + 1, 0, none⟩ = some (.int .i64 2) := by rw [cell_in b1]; rfl
      have k1 : W0.cell? ⟨w.heap.size + 1, 1, none⟩ = some (.int .i64 xt) := by rw [cell_in b1]; rfl
      have k2 : W0.cell? ⟨w.heap.size + 1, 2, none⟩ = some (.int .i64 xl) := by rw [cell_in b1]; rfl
      have k3 : W0.cell? ⟨w.heap.size + 1, 3, none⟩ = some (.int .i64 xb) := by rw [cell_in b1]; rfl
      have k4 : W0.cell? ⟨w.heap.size + 1, 4, none⟩ = some (.int .i64 xr) := by rw [cell_in b1]; rfl
      have k6 : W0.cell? ⟨w.heap.size + 1, 6, none⟩ = some (.bool true) := by rw [cell_in b1]; rfl
      have kl := heap_in b1
      go_upto_region 14 with (
        (go_at_call 25
         (with_reducible refine FI.out.mono ?_)
         rintro _ w1 ⟨rfl, hD⟩
         replace hD := Lib.hid hD))
      clear k0 k1 k2 k3 k4 k6 b1 b0
      have hM := hBack.out W0 w1 P' okP'.out (Below.refl _ _) hD.out
      have hk := hM.keep
      obtain ⟨c0, c1, c2, cH, n8, n9⟩ := LB.out w1 hk
      have hs1 := hk.size
      have hr1 := RP.out w1 hk
      have hU1 := RU.out w1 hk
      have DO1 := Lib.hid (DO.out w1 hr1 n9)
      obtain ⟨p0, p1, pl, pz⟩ := two cH
      have pz0 := pz 0
      have pz1 := pz 1
      clear pz
      have k1 : w1.cell? ⟨w.heap.size + 1, 1, none⟩ = some (.int .i64 xt) := by rw [cell_in c1]; rfl
      have k2 : w1.cell? ⟨w.heap.size + 1, 2, none⟩ = some (.int .i64 xl) := by rw [cell_in c1]; rfl
      have k3 : w1.cell? ⟨w.heap.size + 1, 3, none⟩ = some (.int .i64 xb) := by rw [cell_in c1]; rfl
      have k4 : w1.cell? ⟨w.heap.size + 1, 4, none⟩ = some (.int .i64 xr) := by rw [cell_in c1]; rfl
      have k6 : w1.cell? ⟨w.heap.size + 1, 6, none⟩ = some (.bool true) := by rw [cell_in c1]; rfl
      have kl := heap_in c1
      have hMk := Lib.hid hM
      have hr1' := Lib.hid hr1
      have hU1' := Lib.hid hU1
      have hn := Lib.hid (And.intro n8 n9)
      replace c0 := Lib.hid c0
      replace c2 := Lib.hid c2
      replace cH := Lib.hid cH
      clear hM hk hr1 hU1 n8 n9 DO c1 RP RU LB hD
      go_upto_region 25 with (
        (go_at_call 57
         (with_reducible refine DO1.out.mono ?_)
         rintro _ _ ⟨⟨pA, pm, pc, pn⟩, x2, rfl, rfl, hr2⟩
         (try simp only [RPg.v, RPg.V])
         replace hr2 := Lib.hid hr2))
      obtain ⟨wx, ewx, hkH, hH⟩ := stow2e x2 cH.out (.slice pA pm pc) (.int .i64 pn)
      rw [ewx]
      clear ewx k1 k2 k3 k4 k6 kl p0 p1 pl pz0 pz1
      have hL1 : ∀ x, x = H → w.heap.size ≤ x ∧ x < W0.heap.size := fun x e => by omega
      have hkx : Keep (fun x => w.heap.size ≤ x ∧ x < W0.heap.size) w1 wx := (Keep.of_below (F := fun x => w.heap.size ≤ x ∧ x < W0.heap.size) (below_of_ext w1 x2)).trans (hkH.mono hL1) (fun x hx => .inl hx)
      have hoff : ∀ x, ¬ offs F G w w1 x → ¬ (w.heap.size ≤ x ∧ x < W0.heap.size) := fun x hx e => hx ⟨.inr (.inr e.1), by omega⟩
      have hrx : RefAt wx (offs F G w w1) (RPg.v ⟨pA, pm, pc, pn⟩) P' := hr2.out.keep' hkH (fun x hx e => hoff x hx (hL1 x e))
      have hUx := hU1'.out.keep hkx hoff
      have SPx := Lib.hid (TL1.out w1 wx ⟨pA, pm, pc, pn⟩ hMk.out hkx hrx hUx)
      have hx1 := hkx.size
      have hBx := below_of_ext w1 x2
      obtain ⟨q0, q1, q2, q3, q4, ql, -⟩ := five ((hkH.block _ (by simp; omega) (by omega)).trans ((hBx.block _ (by omega)).trans c0.out))
      have c2x := (hkH.block (w.heap.size + 1 + 1) (by simp; omega) (by omega)).trans ((hBx.block _ (by omega)).trans c2.out)
      obtain ⟨p0, p1, pl, -⟩ := two hH
      have n8x := Lib.hid (⟨Rd.keep' (hn.out.1.grow hBx).rd hkH nH8.out, hn.out.1.lc, hn.out.1.cm, hn.out.1.hi⟩ : NumL wx A8 C8 zs)
      have n9x := Lib.hid (⟨Rd.keep' (hn.out.2.grow hBx).rd hkH nH9.out, hn.out.2.lc, hn.out.2.cm, hn.out.2.hi⟩ : NumL wx A9 C9 zs)
      replace c2x := Lib.hid c2x
      have hkxh := Lib.hid hkx
      simp only [RPg.v, RPg.V] at SPx
      replace SPx := Lib.hid SPx.out
      clear hkH hH hrx hUx hkx hBx hn hr2 c0 c2 cH
      generalize S.set 0 P' = T at *
      cases k
      all_goals (
        repeat (first | go_values | go_skip | go_guarded | go_step)
        go_at_call 36
        refine SPx.out.mono ?_
        rintro _ _ ⟨U', x3, rfl, rfl, hBk⟩
        obtain ⟨A2, d2, us2, ⟨tA, tm, tc, tn⟩, rfl, H2⟩ := hBk
        (try simp only [RPg.V])
        replace H2 := Lib.hid H2
        repeat (first | go_values | go_skip | go_guarded | go_step)
        go_at_call 60
        refine (SI.out _ (n8x.out.grow (below_of_ext _ _)) (n9x.out.grow (below_of_ext _ _))).mono ?_
        rintro _ _ hgets
        obtain ⟨rfl, x4, rfl⟩ := hgets.get
        clear hgets
        dsimp only
        have hbV : Below wx.heap.size wx (ext (ext wx x3) x4) := below_ext (below_of_ext wx x3) (by simp) x4
        have hb4 := below_of_ext (ext wx x3) x4
        have HV : RBk (ext (ext wx x3) x4) (offs F G w w1) (rbV A2 T.pages.length d2 (.slice tA tm tc) tn T.now T.below) T := ⟨A2, d2, us2, ⟨tA, tm, tc, tn⟩, rfl, H2.out.grow hb4⟩
        have bV := (hbV.block _ (heap_in c2x.out)).trans c2x.out
        have hkV := hkxh.out.trans (Keep.of_below (F := fun x => w.heap.size ≤ x ∧ x < W0.heap.size) hbV) (fun x hx => .inl hx)
        clear q0 q1 q2 q3 q4 ql p0 p1 pl H2 hb4 hbV SPx c2x n8x n9x hkxh
        generalize ext (ext wx x3) x4 = V at HV bV hkV ⊢
        obtain ⟨s0, s1, s2, s3, s4, sl, sz⟩ := five bV
        have sz0 := sz 0
        have sz1 := sz 1
        have sz2 := sz 2
        have sz3 := sz 3
        have sz4 := sz 4
        obtain ⟨W6, h6, hk6, hs6⟩ := store5 bV (.slice A2 T.pages.length d2) (.slice tA tm tc) (.int .i64 tn) (.int .i64 T.now) (.bool T.below)
        obtain ⟨y0, y1, y2, y3, y4, yl, -⟩ := five hs6
        have no := Lib.hid (FIN1.out w1 V W6 _ hMk.out hkV HV (hk6.mono (fun x e => by omega)))
        clear hs6 hk6 bV HV hkV sz FIN1 hMk
        repeat (first | go_values | go_skip | go_guarded | go_step)
        simp [bodyPost, go_sem, y0, y1, y2, y3, y4]
        exact ⟨_, by simp [results, Tryz.f18, go_sem, y0, y1, y2, y3, y4] <;> rfl, no.out⟩)

  by_cases e3 : kd = 3
  · subst e3
    clear e1 e2
    have hT1 := hT.out
    rw [if_neg (by decide), if_neg (by decide), if_pos rfl] at hT1
    have okP' := chS_ok okP.out (chF_ok fl (zs.drop 4)) (chB (arB S.pages[0] ⟨xt, xl, xb, xr⟩) zs st)
    have FI := change_rect hP0.out okP.out hP0.out.lt hx8 (fun h0 q o e f => by
      have h1 := hq8 h0 q o e
      obtain ⟨b', o', e', hlt, -⟩ := hx8.rd h0
      rw [e] at e'
      injection e' with e'
      injection e' with e1 e2
      rcases hGs q f with g | g
      · have := hF.out q g; omega
      · omega) ⟨xt, xl, xb, xr⟩ st fl
    have DO := Lib.hid (fun w1 (hr : RefAt w1 (offs F G w w1) (RPg.v ⟨rA, rm, rc, rn⟩) S.pages[0]) (n9 : NumL w1 A9 C9 zs) => (by
      have := change16_c (F := offs F G w w1) hr okP.out (fun x hx => hx.2) n9 ⟨xt, xl, xb, xr⟩ st fl
      exact this : Calls Tryz.prog 58 #[RPg.v ⟨rA, rm, rc, rn⟩, boxV xt xl xb xr, .slice A9 zs.length C9, .bool st, .bool fl] w1 (NewPo (offs F G w w1) (chS S.pages[0] (chB (arB S.pages[0] ⟨xt, xl, xb, xr⟩) zs st) (chF fl (zs.drop 4))) (chOk (arB S.pages[0] ⟨xt, xl, xb, xr⟩) zs st) w1)))
    generalize chS S.pages[0] (chB (arB S.pages[0] ⟨xt, xl, xb, xr⟩) zs st) (chF fl (zs.drop 4)) = P' at okP' FI DO hT1
    generalize chOk (arB S.pages[0] ⟨xt, xl, xb, xr⟩) zs st = k at FI DO
    replace FI := Lib.hid FI
    replace okP' := Lib.hid okP'
    have TL1 := Lib.hid (TL.out P')
    have FIN1 := Lib.hid (FIN.out P')
    subst hT1
    clear TL FIN MK hT hBM hx8 hx9 hq8 hq9 bH b2
    simp only [RPg.v, RPg.V] at DO RP TL1
    have k0 : W0.cell? ⟨w.heap.size + 1, 0, none⟩ = some (.int .i64 3) := by rw [cell_in b1]; rfl
    have k1 : W0.cell? ⟨w.heap.size + 1, 1, none⟩ = some (.int .i64 xt) := by rw [cell_in b1]; rfl
    have k2 : W0.cell? ⟨w.heap.size + 1, 2, none⟩ = some (.int .i64 xl) := by rw [cell_in b1]; rfl
    have k3 : W0.cell? ⟨w.heap.size + 1, 3, none⟩ = some (.int .i64 xb) := by rw [cell_in b1]; rfl
    have k4 : W0.cell? ⟨w.heap.size + 1, 4, none⟩ = some (.int .i64 xr) := by rw [cell_in b1]; rfl
    have k6 : W0.cell? ⟨w.heap.size + 1, 6, none⟩ = some (.bool fl) := by rw [cell_in b1]; rfl
    have k7 : W0.cell? ⟨w.heap.size + 1, 7, none⟩ = some (.bool st) := by rw [cell_in b1]; rfl
    have kl := heap_in b1
    go_upto_region 20 with (
      (go_at_call 27
       (with_reducible refine FI.out.mono ?_)
       rintro _ w1 ⟨rfl, hD⟩
       replace hD := Lib.hid hD))
    clear k0 k1 k2 k3 k4 k6 k7 b1 b0
    have hM := hBack.out W0 w1 P' okP'.out (Below.refl _ _) hD.out
    have hk := hM.keep
    obtain ⟨c0, c1, c2, cH, n8, n9⟩ := LB.out w1 hk
    have hs1 := hk.size
    have hr1 := RP.out w1 hk
    have hU1 := RU.out w1 hk
    have DO1 := Lib.hid (DO.out w1 hr1 n9)
    obtain ⟨p0, p1, pl, pz⟩ := two cH
    have pz0 := pz 0
    have pz1 := pz 1
    clear pz
    have k1 : w1.cell? ⟨w.heap.size + 1, 1, none⟩ = some (.int .i64 xt) := by rw [cell_in c1]; rfl
    have k2 : w1.cell? ⟨w.heap.size + 1, 2, none⟩ = some (.int .i64 xl) := by rw [cell_in c1]; rfl
    have k3 : w1.cell? ⟨w.heap.size + 1, 3, none⟩ = some (.int .i64 xb) := by rw [cell_in c1]; rfl
    have k4 : w1.cell? ⟨w.heap.size + 1, 4, none⟩ = some (.int .i64 xr) := by rw [cell_in c1]; rfl
    have k6 : w1.cell? ⟨w.heap.size + 1, 6, none⟩ = some (.bool fl) := by rw [cell_in c1]; rfl
    have k7 : w1.cell? ⟨w.heap.size + 1, 7, none⟩ = some (.bool st) := by rw [cell_in c1]; rfl
    have kl := heap_in c1
    have hMk := Lib.hid hM
    have hr1' := Lib.hid hr1
    have hU1' := Lib.hid hU1
    have hn := Lib.hid (And.intro n8 n9)
    replace c0 := Lib.hid c0
    replace c2 := Lib.hid c2
    replace cH := Lib.hid cH
    clear hM hk hr1 hU1 n8 n9 DO c1 RP RU LB hD
    go_upto_region 25 with (
      (go_at_call 58
       (with_reducible refine DO1.out.mono ?_)
       rintro _ _ ⟨⟨pA, pm, pc, pn⟩, x2, rfl, rfl, hr2⟩
       (try simp only [RPg.v, RPg.V])
       replace hr2 := Lib.hid hr2))
    obtain ⟨wx, ewx, hkH, hH⟩ := stow2e x2 cH.out (.slice pA pm pc) (.int .i64 pn)
    rw [ewx]
    clear ewx k1 k2 k3 k4 k6 k7 kl p0 p1 pl pz0 pz1
    have hL1 : ∀ x, x = H → w.heap.size ≤ x ∧ x < W0.heap.size := fun x e => by omega
    have hkx : Keep (fun x => w.heap.size ≤ x ∧ x < W0.heap.size) w1 wx := (Keep.of_below (F := fun x => w.heap.size ≤ x ∧ x < W0.heap.size) (below_of_ext w1 x2)).trans (hkH.mono hL1) (fun x hx => .inl hx)
    have hoff : ∀ x, ¬ offs F G w w1 x → ¬ (w.heap.size ≤ x ∧ x < W0.heap.size) := fun x hx e => hx ⟨.inr (.inr e.1), by omega⟩
    have hrx : RefAt wx (offs F G w w1) (RPg.v ⟨pA, pm, pc, pn⟩) P' := hr2.out.keep' hkH (fun x hx e => hoff x hx (hL1 x e))
    have hUx := hU1'.out.keep hkx hoff
    have SPx := Lib.hid (TL1.out w1 wx ⟨pA, pm, pc, pn⟩ hMk.out hkx hrx hUx)
    have hx1 := hkx.size
    have hBx := below_of_ext w1 x2
    obtain ⟨q0, q1, q2, q3, q4, ql, -⟩ := five ((hkH.block _ (by simp; omega) (by omega)).trans ((hBx.block _ (by omega)).trans c0.out))
    have c2x := (hkH.block (w.heap.size + 1 + 1) (by simp; omega) (by omega)).trans ((hBx.block _ (by omega)).trans c2.out)
    obtain ⟨p0, p1, pl, -⟩ := two hH
    have n8x := Lib.hid (⟨Rd.keep' (hn.out.1.grow hBx).rd hkH nH8.out, hn.out.1.lc, hn.out.1.cm, hn.out.1.hi⟩ : NumL wx A8 C8 zs)
    have n9x := Lib.hid (⟨Rd.keep' (hn.out.2.grow hBx).rd hkH nH9.out, hn.out.2.lc, hn.out.2.cm, hn.out.2.hi⟩ : NumL wx A9 C9 zs)
    replace c2x := Lib.hid c2x
    have hkxh := Lib.hid hkx
    simp only [RPg.v, RPg.V] at SPx
    replace SPx := Lib.hid SPx.out
    clear hkH hH hrx hUx hkx hBx hn hr2 c0 c2 cH
    generalize S.set 0 P' = T at *
    cases k
    all_goals (
      repeat (first | go_values | go_skip | go_guarded | go_step)
      go_at_call 36
      refine SPx.out.mono ?_
      rintro _ _ ⟨U', x3, rfl, rfl, hBk⟩
      obtain ⟨A2, d2, us2, ⟨tA, tm, tc, tn⟩, rfl, H2⟩ := hBk
      (try simp only [RPg.V])
      replace H2 := Lib.hid H2
      repeat (first | go_values | go_skip | go_guarded | go_step)
      go_at_call 60
      refine (SI.out _ (n8x.out.grow (below_of_ext _ _)) (n9x.out.grow (below_of_ext _ _))).mono ?_
      rintro _ _ hgets
      obtain ⟨rfl, x4, rfl⟩ := hgets.get
      clear hgets
      dsimp only
      have hbV : Below wx.heap.size wx (ext (ext wx x3) x4) := below_ext (below_of_ext wx x3) (by simp) x4
      have hb4 := below_of_ext (ext wx x3) x4
      have HV : RBk (ext (ext wx x3) x4) (offs F G w w1) (rbV A2 T.pages.length d2 (.slice tA tm tc) tn T.now T.below) T := ⟨A2, d2, us2, ⟨tA, tm, tc, tn⟩, rfl, H2.out.grow hb4⟩
      have bV := (hbV.block _ (heap_in c2x.out)).trans c2x.out
      have hkV := hkxh.out.trans (Keep.of_below (F := fun x => w.heap.size ≤ x ∧ x < W0.heap.size) hbV) (fun x hx => .inl hx)
      clear q0 q1 q2 q3 q4 ql p0 p1 pl H2 hb4 hbV SPx c2x n8x n9x hkxh
      generalize ext (ext wx x3) x4 = V at HV bV hkV ⊢
      obtain ⟨s0, s1, s2, s3, s4, sl, sz⟩ := five bV
      have sz0 := sz 0
      have sz1 := sz 1
      have sz2 := sz 2
      have sz3 := sz 3
      have sz4 := sz 4
      obtain ⟨W6, h6, hk6, hs6⟩ := store5 bV (.slice A2 T.pages.length d2) (.slice tA tm tc) (.int .i64 tn) (.int .i64 T.now) (.bool T.below)
      obtain ⟨y0, y1, y2, y3, y4, yl, -⟩ := five hs6
      have no := Lib.hid (FIN1.out w1 V W6 _ hMk.out hkV HV (hk6.mono (fun x e => by omega)))
      clear hs6 hk6 bV HV hkV sz FIN1 hMk
      repeat (first | go_values | go_skip | go_guarded | go_step)
      simp [bodyPost, go_sem, y0, y1, y2, y3, y4]
      exact ⟨_, by simp [results, Tryz.f18, go_sem, y0, y1, y2, y3, y4] <;> rfl, no.out⟩)
  by_cases e4 : kd = 4
  · subst e4
    clear e1 e2 e3
    have hT1 := hT.out
    rw [if_neg (by decide), if_neg (by decide), if_neg (by decide), if_pos rfl] at hT1
    have CO := copy_rect (hO.out W0 hB0) hS hx8 ⟨xt, xl, xb, xr⟩
    have DO := Lib.hid (fun w1 (hU : RBk w1 (offs F G w w1) (rbV (some ⟨L, o, none⟩) S.pages.length c0 (.slice sA sm sc) sn S.now S.below) S) (n9 : NumL w1 A9 C9 zs) => copy16_c (F := offs F G w w1) hU hS he (fun x hx => hx.2) n9 ⟨xt, xl, xb, xr⟩)
    generalize copyRS S ⟨xt, xl, xb, xr⟩ zs = T' at CO DO hT1
    generalize cpOk (arK S ⟨xt, xl, xb, xr⟩) zs = k at CO DO
    subst hT1
    replace CO := Lib.hid CO
    clear TL FIN MK hT hBM hx8 hx9 bH b2 RP hR0 hBack hP0
    have k0 : W0.cell? ⟨w.heap.size + 1, 0, none⟩ = some (.int .i64 4) := by rw [cell_in b1]; rfl
    have k1 : W0.cell? ⟨w.heap.size + 1, 1, none⟩ = some (.int .i64 xt) := by rw [cell_in b1]; rfl
    have k2 : W0.cell? ⟨w.heap.size + 1, 2, none⟩ = some (.int .i64 xl) := by rw [cell_in b1]; rfl
    have k3 : W0.cell? ⟨w.heap.size + 1, 3, none⟩ = some (.int .i64 xb) := by rw [cell_in b1]; rfl
    have k4 : W0.cell? ⟨w.heap.size + 1, 4, none⟩ = some (.int .i64 xr) := by rw [cell_in b1]; rfl
    have kl := heap_in b1
    go_upto_region 23 with (
      (go_at_call 15
       (with_reducible refine CO.out.mono ?_)
       rintro _ w1 ⟨rfl, hD⟩
       replace hD := Lib.hid hD))
    clear k0 k1 k2 k3 k4 b1 b0
    have hk := hD.out.1
    obtain ⟨c0', c1, c2, -, n8, n9⟩ := LB.out w1 hk
    have hs1 := hk.size
    have hU1 := RU.out w1 hk
    have DO1 := Lib.hid (DO.out w1 hU1 n9)
    obtain ⟨p0, p1, p2, p3, p4, pl, pz⟩ := five c0'
    have pz0 := pz 0
    have pz1 := pz 1
    have pz2 := pz 2
    have pz3 := pz 3
    have pz4 := pz 4
    clear pz
    have k1 : w1.cell? ⟨w.heap.size + 1, 1, none⟩ = some (.int .i64 xt) := by rw [cell_in c1]; rfl
    have k2 : w1.cell? ⟨w.heap.size + 1, 2, none⟩ = some (.int .i64 xl) := by rw [cell_in c1]; rfl
    have k3 : w1.cell? ⟨w.heap.size + 1, 3, none⟩ = some (.int .i64 xb) := by rw [cell_in c1]; rfl
    have k4 : w1.cell? ⟨w.heap.size + 1, 4, none⟩ = some (.int .i64 xr) := by rw [cell_in c1]; rfl
    have kl := heap_in c1
    have hn := Lib.hid (And.intro n8 n9)
    replace c0' := Lib.hid c0'
    replace c2 := Lib.hid c2
    clear hk hU1 n8 n9 DO c1 RU LB
    go_upto_region 24 with (
      (go_at_call 59
       (with_reducible refine DO1.out.mono ?_)
       rintro _ _ ⟨U', x2, rfl, rfl, hBk⟩
       obtain ⟨A2, d2, us2, ⟨tA, tm, tc, tn⟩, rfl, H2⟩ := hBk
       (try simp only [RPg.V])
       replace H2 := Lib.hid H2))
    have HV : RBk (ext w1 x2) (offs F G w w1) (rbV A2 T'.pages.length d2 (.slice tA tm tc) tn T'.now T'.below) T' := ⟨A2, d2, us2, ⟨tA, tm, tc, tn⟩, rfl, H2.out⟩
    obtain ⟨wx, ewx, hk0, h0⟩ := store5e x2 c0'.out (.slice A2 T'.pages.length d2) (.slice tA tm tc) (.int .i64 tn) (.int .i64 T'.now) (.bool T'.below)
    rw [ewx]
    clear ewx k1 k2 k3 k4 kl p0 p1 p2 p3 p4 pl pz0 pz1 pz2 pz3 pz4 H2
    have hL1 : ∀ x, x = w.heap.size → w.heap.size ≤ x ∧ x < W0.heap.size := fun x e => by omega
    have hBx := below_of_ext w1 x2
    have hkx : Keep (fun x => w.heap.size ≤ x ∧ x < W0.heap.size) w1 wx := (Keep.of_below (F := fun x => w.heap.size ≤ x ∧ x < W0.heap.size) hBx).trans (hk0.mono hL1) (fun x hx => .inl hx)
    have hoff : ∀ x, ¬ offs F G w w1 x → ¬ (w.heap.size ≤ x ∧ x < W0.heap.size) := fun x hx e => hx ⟨.inr (.inr e.1), by omega⟩
    have hUx := HV.keep hk0 (fun x hx e => hoff x hx (hL1 x e))
    have hx1 := hkx.size
    have c2x := (hk0.block (w.heap.size + 1 + 1) (by simp; omega) (by omega)).trans ((hBx.block _ (by omega)).trans c2.out)
    have n8x := Lib.hid (⟨Rd.keep' (hn.out.1.grow hBx).rd hk0 (fun h q o e => by have := hq8 h q o e; omega), hn.out.1.lc, hn.out.1.cm, hn.out.1.hi⟩ : NumL wx A8 C8 zs)
    have n9x := Lib.hid (⟨Rd.keep' (hn.out.2.grow hBx).rd hk0 (fun h q o e => by have := hq9 h q o e; omega), hn.out.2.lc, hn.out.2.cm, hn.out.2.hi⟩ : NumL wx A9 C9 zs)
    have KX := Lib.hid (fun w' (h : Below wx.heap.size wx w') => (by
      obtain ⟨q0, q1, q2, q3, q4, -, -⟩ := five ((h.block _ (heap_in h0)).trans h0)
      exact ⟨q0, q1, q2, q3, q4⟩ : w'.cell? ⟨w.heap.size, 0, none⟩ = some (.slice A2 T'.pages.length d2) ∧ w'.cell? ⟨w.heap.size, 1, none⟩ = some (.slice tA tm tc) ∧ w'.cell? ⟨w.heap.size, 2, none⟩ = some (.int .i64 tn) ∧ w'.cell? ⟨w.heap.size, 3, none⟩ = some (.int .i64 T'.now) ∧ w'.cell? ⟨w.heap.size, 4, none⟩ = some (.bool T'.below)))
    have FIN1 := Lib.hid (fun w2 w3 (hb : Below wx.heap.size wx w2) (hk3 : Keep (· = w.heap.size + 1 + 1) w2 w3) => bdo_fin2 (w3 := w3) hD.out hB0 hF.out (hkx.trans (Keep.of_below (F := fun x => w.heap.size ≤ x ∧ x < W0.heap.size) hb) (fun x hx => .inl hx)) (hUx.grow hb) (hk3.mono (fun x e => by omega)) hG)
    clear hkx hoff hUx hk0 h0 hBx HV hn c0' c2 hD
    cases k
    all_goals (
      (refine wp_region_F (S := (fun w' => w'.cell? ⟨w.heap.size, 0, none⟩ = some (.slice A2 T'.pages.length d2) ∧ w'.cell? ⟨w.heap.size, 1, none⟩ = some (.slice tA tm tc) ∧ w'.cell? ⟨w.heap.size, 2, none⟩ = some (.int .i64 tn) ∧ w'.cell? ⟨w.heap.size, 3, none⟩ = some (.int .i64 T'.now) ∧ w'.cell? ⟨w.heap.size, 4, none⟩ = some (.bool T'.below))) 10 [false, false, false, false, false, false, false, false, false, false, false] rfl rfl (by kernel_rfl) ?_ (fun hHeld => ?_); (focus ((try dsimp only); (exact KX.out _ (by (repeat' (first | (with_reducible exact Below.refl _ _) | (with_reducible refine Below.alloc ?_ ?_ _) | (with_reducible refine below_ext ?_ ?_ _) | (with_reducible refine Below.drew ?_) | (with_reducible refine below_drewN ?_ _) | (with_reducible refine Below.setCell ?_ ?_ _) | go_size | (simp only [go_sem]; omega) | (simp [go_sem]; done) | (simp [go_sem]; omega))))); done)))
      ((first | (refine AtF.take (oi := ?_) (v := ?_) 0 ?_ ?_ ?_ ?_ (Or.inl ⟨?_, ?_⟩) (by assumption) ?_; rotate_left 2; rfl; kernel_rfl; kernel_rfl; exact (fun _ _ _ h => h); rfl; (focus (intro w hSw; (try dsimp only at hSw); go_simp; (try with_reducible rfl); done))) | (refine AtF.take (oi := ?_) (v := ?_) 0 ?_ ?_ ?_ ?_ (Or.inr ⟨?_, ?_⟩) (by assumption) ?_; rotate_left 2; rfl; kernel_rfl; kernel_rfl; exact (fun _ _ _ h => h); rfl; rfl)); (try simp only [Act.put, List.setIfInBounds_toArray, List.set_cons_zero, List.set_cons_succ]); (first | (refine AtF.take (oi := ?_) (v := ?_) 1 ?_ ?_ ?_ ?_ (Or.inl ⟨?_, ?_⟩) (by assumption) ?_; rotate_left 2; rfl; kernel_rfl; kernel_rfl; exact (fun _ _ _ h => h); rfl; (focus (intro w hSw; (try dsimp only at hSw); go_simp; (try with_reducible rfl); done))) | (refine AtF.take (oi := ?_) (v := ?_) 1 ?_ ?_ ?_ ?_ (Or.inr ⟨?_, ?_⟩) (by assumption) ?_; rotate_left 2; rfl; kernel_rfl; kernel_rfl; exact (fun _ _ _ h => h); rfl; rfl)); (try simp only [Act.put, List.setIfInBounds_toArray, List.set_cons_zero, List.set_cons_succ]); (first | (refine AtF.take (oi := ?_) (v := ?_) 2 ?_ ?_ ?_ ?_ (Or.inl ⟨?_, ?_⟩) (by assumption) ?_; rotate_left 2; rfl; kernel_rfl; kernel_rfl; exact (fun _ _ _ h => h); rfl; (focus (intro w hSw; (try dsimp only at hSw); go_simp; (try with_reducible rfl); done))) | (refine AtF.take (oi := ?_) (v := ?_) 2 ?_ ?_ ?_ ?_ (Or.inr ⟨?_, ?_⟩) (by assumption) ?_; rotate_left 2; rfl; kernel_rfl; kernel_rfl; exact (fun _ _ _ h => h); rfl; rfl)); (try simp only [Act.put, List.setIfInBounds_toArray, List.set_cons_zero, List.set_cons_succ]); (first | (refine AtF.take (oi := ?_) (v := ?_) 3 ?_ ?_ ?_ ?_ (Or.inl ⟨?_, ?_⟩) (by assumption) ?_; rotate_left 2; rfl; kernel_rfl; kernel_rfl; exact (fun _ _ _ h => h); rfl; (focus (intro w hSw; (try dsimp only at hSw); go_simp; (try with_reducible rfl); done))) | (refine AtF.take (oi := ?_) (v := ?_) 3 ?_ ?_ ?_ ?_ (Or.inr ⟨?_, ?_⟩) (by assumption) ?_; rotate_left 2; rfl; kernel_rfl; kernel_rfl; exact (fun _ _ _ h => h); rfl; rfl)); (try simp only [Act.put, List.setIfInBounds_toArray, List.set_cons_zero, List.set_cons_succ]); (first | (refine AtF.take (oi := ?_) (v := ?_) 4 ?_ ?_ ?_ ?_ (Or.inl ⟨?_, ?_⟩) (by assumption) ?_; rotate_left 2; rfl; kernel_rfl; kernel_rfl; exact (fun _ _ _ h => h); rfl; (focus (intro w hSw; (try dsimp only at hSw); go_simp; (try with_reducible rfl); done))) | (refine AtF.take (oi := ?_) (v := ?_) 4 ?_ ?_ ?_ ?_ (Or.inr ⟨?_, ?_⟩) (by assumption) ?_; rotate_left 2; rfl; kernel_rfl; kernel_rfl; exact (fun _ _ _ h => h); rfl; rfl)); (try simp only [Act.put, List.setIfInBounds_toArray, List.set_cons_zero, List.set_cons_succ]); (first | (refine AtF.take (oi := ?_) (v := ?_) 5 ?_ ?_ ?_ ?_ (Or.inl ⟨?_, ?_⟩) (by assumption) ?_; rotate_left 2; rfl; kernel_rfl; kernel_rfl; exact (fun _ _ _ h => h); rfl; (focus (intro w hSw; (try dsimp only at hSw); go_simp; (try with_reducible rfl); done))) | (refine AtF.take (oi := ?_) (v := ?_) 5 ?_ ?_ ?_ ?_ (Or.inr ⟨?_, ?_⟩) (by assumption) ?_; rotate_left 2; rfl; kernel_rfl; kernel_rfl; exact (fun _ _ _ h => h); rfl; rfl)); (try simp only [Act.put, List.setIfInBounds_toArray, List.set_cons_zero, List.set_cons_succ]); (first | (refine AtF.take (oi := ?_) (v := ?_) 6 ?_ ?_ ?_ ?_ (Or.inl ⟨?_, ?_⟩) (by assumption) ?_; rotate_left 2; rfl; kernel_rfl; kernel_rfl; exact (fun _ _ _ h => h); rfl; (focus (intro w hSw; (try dsimp only at hSw); go_simp; (try with_reducible rfl); done))) | (refine AtF.take (oi := ?_) (v := ?_) 6 ?_ ?_ ?_ ?_ (Or.inr ⟨?_, ?_⟩) (by assumption) ?_; rotate_left 2; rfl; kernel_rfl; kernel_rfl; exact (fun _ _ _ h => h); rfl; rfl)); (try simp only [Act.put, List.setIfInBounds_toArray, List.set_cons_zero, List.set_cons_succ]))
      (refine AtF.only (oi := ?_) 7 ?_ ?_ (fun K hK => ?_); rotate_left 1; rfl; kernel_rfl; (try go_simp); (go_at_call 60; ((with_reducible refine (SI.out _ (n8x.out.grow (by (repeat' (first | (with_reducible exact Below.refl _ _) | (with_reducible refine Below.alloc ?_ ?_ _) | (with_reducible refine below_ext ?_ ?_ _) | (with_reducible refine Below.drew ?_) | (with_reducible refine below_drewN ?_ _) | (with_reducible refine Below.setCell ?_ ?_ _) | go_size | (simp only [go_sem]; omega) | (simp [go_sem]; done) | (simp [go_sem]; omega))))) (n9x.out.grow (by (repeat' (first | (with_reducible exact Below.refl _ _) | (with_reducible refine Below.alloc ?_ ?_ _) | (with_reducible refine below_ext ?_ ?_ _) | (with_reducible refine Below.drew ?_) | (with_reducible refine below_drewN ?_ _) | (with_reducible refine Below.setCell ?_ ?_ _) | go_size | (simp only [go_sem]; omega) | (simp [go_sem]; done) | (simp [go_sem]; omega)))))).mono ?_); rintro _ _ hgets; obtain ⟨rfl, x9, rfl⟩ := hgets.get; clear hgets)); (refine hK.out _ _ ?_ (fun hHeld => ?_)); (focus ((try dsimp only); (exact KX.out _ (by (repeat' (first | (with_reducible exact Below.refl _ _) | (with_reducible refine Below.alloc ?_ ?_ _) | (with_reducible refine below_ext ?_ ?_ _) | (with_reducible refine Below.drew ?_) | (with_reducible refine below_drewN ?_ _) | (with_reducible refine Below.setCell ?_ ?_ _) | go_size | (simp only [go_sem]; omega) | (simp [go_sem]; done) | (simp [go_sem]; omega))))); done)); clear hK K; (try simp only [Act.put, List.setIfInBounds_toArray, List.set_cons_zero, List.set_cons_succ]))
      ((first | (refine AtF.take (oi := ?_) (v := ?_) 8 ?_ ?_ ?_ ?_ (Or.inl ⟨?_, ?_⟩) (by assumption) ?_; rotate_left 2; rfl; kernel_rfl; kernel_rfl; exact (fun _ _ _ h => h); rfl; (focus (intro w hSw; (try dsimp only at hSw); go_simp; (try with_reducible rfl); done))) | (refine AtF.take (oi := ?_) (v := ?_) 8 ?_ ?_ ?_ ?_ (Or.inr ⟨?_, ?_⟩) (by assumption) ?_; rotate_left 2; rfl; kernel_rfl; kernel_rfl; exact (fun _ _ _ h => h); rfl; rfl)); (try simp only [Act.put, List.setIfInBounds_toArray, List.set_cons_zero, List.set_cons_succ]))
      have hwl := heap_in c2x
      have hwl0 : w.heap.size < wx.heap.size := by omega
      obtain ⟨q0, q1, q2, q3, q4⟩ := KX.out wx (Below.refl _ _)
      obtain ⟨s0, s1, s2, s3, s4, sl, sz⟩ := five c2x
      have sz0 := sz 0
      have sz1 := sz 1
      have sz2 := sz 2
      have sz3 := sz 3
      have sz4 := sz 4
      clear sz
      (refine AtF.only (oi := ?_) 9 ?_ ?_ (fun K hK => ?_); rotate_left 1; rfl; kernel_rfl; (try go_simp); skip; (refine hK.out _ _ ?_ (fun hHeld => ?_)); (focus ((try dsimp only); (refine ⟨?_, ?_, ?_, ?_, ?_⟩ <;> simp [go_sem, q0, q1, q2, q3, q4, hwl0]); done)); clear hK K; (try simp only [Act.put, List.setIfInBounds_toArray, List.set_cons_zero, List.set_cons_succ]))
      (refine AtF.last (oi := ?_) ?_ ?_ (fun K hK => ?_); rotate_left 1; rfl; kernel_rfl; go_simp; skip; refine hK.out _ _ ?_; clear hK K; (try simp only [Act.put, List.setIfInBounds_toArray, List.set_cons_zero, List.set_cons_succ]))
      clear hHeld
      repeat (first | go_values | go_skip | go_guarded | go_step)
      obtain ⟨W6, h6, hk6, hs6⟩ := store5e x9 c2x (.slice A2 T'.pages.length d2) (.slice tA tm tc) (.int .i64 tn) (.int .i64 T'.now) (.bool T'.below)
      rw [h6]
      obtain ⟨y0, y1, y2, y3, y4, yl, -⟩ := five hs6
      have no := Lib.hid (FIN1.out _ W6 (below_of_ext wx x9) hk6)
      clear hs6 hk6 h6 FIN1
      simp [bodyPost, go_sem, y0, y1, y2, y3, y4]
      exact ⟨_, by simp [results, Tryz.f18, go_sem, y0, y1, y2, y3, y4] <;> rfl, no.out⟩)
  have hT1 := hT.out
  rw [if_neg e1, if_neg e2, if_neg e3, if_neg e4] at hT1
  subst hT1
  have CO := sum_rect (hO.out W0 hB0) hS hx8 ⟨xt, xl, xb, xr⟩
  have DO := Lib.hid (fun w1 (hb : Below W0.heap.size W0 w1) => sum16_c (hR'.out.grow (hB0.trans (hb.mono hB0.size))) hS (hx9h.out.grow hb) ⟨xt, xl, xb, xr⟩)
  generalize smV S ⟨xt, xl, xb, xr⟩ zs = u at CO DO
  generalize smOk (arK S ⟨xt, xl, xb, xr⟩) zs = k at CO DO
  have f1 : (kd == 1) = false := by simpa using e1
  have f2 : (kd == 2) = false := by simpa using e2
  have f3 : (kd == 3) = false := by simpa using e3
  have f4 : (kd == 4) = false := by simpa using e4
  have huu : (u == u) = true := by simp
  replace CO := Lib.hid CO
  have hU1 := RU.out W0 (Keep.refl _ _)
  have hD : BDid F b S W0 W0 := (MK.out W0 hB0).bdid (fun x f => by have := hF.out x f; have := hB0.size; omega)
  have FIN1 := Lib.hid (fun w2 w3 (hb : Below W0.heap.size W0 w2) (hk3 : Keep (· = w.heap.size + 1 + 1) w2 w3) => bdo_fin2 (w3 := w3) hD hB0 hF.out (Keep.of_below (F := fun x => w.heap.size ≤ x ∧ x < W0.heap.size) hb) (hU1.grow hb) (hk3.mono (fun x e => by omega)) hG)
  clear TL FIN MK hT hBM bH RP hR0 hBack hP0 e1 e2 e3 e4 hD hU1 RU LB
  have FA := Lib.hid (fun w' (h : Below W0.heap.size W0 w') => (by
    have e := (h.block _ (heap_in b1)).trans b1
    exact ⟨by rw [cell_in e]; rfl, by rw [cell_in e]; rfl, by rw [cell_in e]; rfl, by rw [cell_in e]; rfl⟩ : w'.cell? ⟨w.heap.size + 1, 1, none⟩ = some (.int .i64 xt) ∧ w'.cell? ⟨w.heap.size + 1, 2, none⟩ = some (.int .i64 xl) ∧ w'.cell? ⟨w.heap.size + 1, 3, none⟩ = some (.int .i64 xb) ∧ w'.cell? ⟨w.heap.size + 1, 4, none⟩ = some (.int .i64 xr)))
  have KX0 := Lib.hid (fun w' (h : Below W0.heap.size W0 w') => (by
    obtain ⟨q0, q1, q2, q3, q4, -, -⟩ := five ((h.block _ (heap_in b0)).trans b0)
    exact ⟨q0, q1, q2, q3, q4⟩ : w'.cell? ⟨w.heap.size, 0, none⟩ = some (.slice (some ⟨L, o, none⟩) S.pages.length c0) ∧ w'.cell? ⟨w.heap.size, 1, none⟩ = some (.slice sA sm sc) ∧ w'.cell? ⟨w.heap.size, 2, none⟩ = some (.int .i64 sn) ∧ w'.cell? ⟨w.heap.size, 3, none⟩ = some (.int .i64 S.now) ∧ w'.cell? ⟨w.heap.size, 4, none⟩ = some (.bool S.below)))
  have k0 : W0.cell? ⟨w.heap.size + 1, 0, none⟩ = some (.int .i64 kd) := by rw [cell_in b1]; rfl
  obtain ⟨k1, k2, k3, k4⟩ := FA.out W0 (Below.refl _ _)
  have kl := heap_in b1
  go_upto_region 7 with (go_at_call 10; ((with_reducible refine (CO.out).mono ?_); rintro _ _ hgets; obtain ⟨rfl, x5, rfl⟩ := hgets.get; clear hgets))
  have hb5 := below_of_ext W0 x5
  obtain ⟨V, eV⟩ : ∃ V, V = ext W0 x5 := ⟨_, rfl⟩
  rw [← eV] at hb5 ⊢
  have klV := Nat.lt_of_lt_of_le kl hb5.size
  clear k0 k1 k2 k3 k4 eV CO kl
  obtain ⟨k1, k2, k3, k4⟩ := FA.out V hb5
  obtain ⟨j0, j1, j2, j3, j4⟩ := KX0.out V hb5
  have jl := Nat.lt_of_lt_of_le (heap_in b0) hb5.size
  have DO1 := Lib.hid (DO.out V hb5)
  go_upto_region 8 with (go_at_call 12; ((with_reducible refine (DO1.out).mono ?_); rintro _ _ hgets; obtain ⟨rfl, x6, rfl⟩ := hgets.get; clear hgets))
  have hb6 := hb5.trans ((below_of_ext V x6).mono hb5.size)
  obtain ⟨wx, ewx⟩ : ∃ wx, wx = ext V x6 := ⟨_, rfl⟩
  rw [← ewx] at hb6 ⊢
  clear k1 k2 k3 k4 j0 j1 j2 j3 j4 jl klV ewx DO1 DO FA
  have c2x := (hb6.block _ (heap_in b2)).trans b2
  have n8x := Lib.hid (hx8.grow hb6)
  have n9x := Lib.hid (hx9.grow hb6)
  have KX := Lib.hid (fun w' (h : Below wx.heap.size wx w') => KX0.out w' (hb6.trans (h.mono hb6.size)))
  replace FIN1 := Lib.hid (fun w2 w3 (hb : Below wx.heap.size wx w2) (hk3 : Keep (· = w.heap.size + 1 + 1) w2 w3) => FIN1.out w2 w3 (hb6.trans (hb.mono hb6.size)) hk3)
  clear hb5 b0 b1 b2 hx8 hx9 KX0
  cases k
  all_goals (
    (refine wp_region_F (S := (fun w' => w'.cell? ⟨w.heap.size, 0, none⟩ = some (.slice (some ⟨L, o, none⟩) S.pages.length c0) ∧ w'.cell? ⟨w.heap.size, 1, none⟩ = some (.slice sA sm sc) ∧ w'.cell? ⟨w.heap.size, 2, none⟩ = some (.int .i64 sn) ∧ w'.cell? ⟨w.heap.size, 3, none⟩ = some (.int .i64 S.now) ∧ w'.cell? ⟨w.heap.size, 4, none⟩ = some (.bool S.below))) 15 [false, false, false, false, false, false, false, false, false, false, false, false, false, false, false, false] rfl rfl (by kernel_rfl) ?_ (fun hHeld => ?_); (focus ((try dsimp only); (exact KX.out _ (by (repeat' (first | (with_reducible exact Below.refl _ _) | (with_reducible refine Below.alloc ?_ ?_ _) | (with_reducible refine below_ext ?_ ?_ _) | (with_reducible refine Below.drew ?_) | (with_reducible refine below_drewN ?_ _) | (with_reducible refine Below.setCell ?_ ?_ _) | go_size | (simp only [go_sem]; omega) | (simp [go_sem]; done) | (simp [go_sem]; omega))))); done)))
    ((first | (refine AtF.take (oi := ?_) (v := ?_) 0 ?_ ?_ ?_ ?_ (Or.inl ⟨?_, ?_⟩) (by assumption) ?_; rotate_left 2; rfl; kernel_rfl; kernel_rfl; exact (fun _ _ _ h => h); rfl; (focus (intro w hSw; (try dsimp only at hSw); go_simp; (try with_reducible rfl); done))) | (refine AtF.take (oi := ?_) (v := ?_) 0 ?_ ?_ ?_ ?_ (Or.inr ⟨?_, ?_⟩) (by assumption) ?_; rotate_left 2; rfl; kernel_rfl; kernel_rfl; exact (fun _ _ _ h => h); rfl; rfl)); (try simp only [Act.put, List.setIfInBounds_toArray, List.set_cons_zero, List.set_cons_succ]); (first | (refine AtF.take (oi := ?_) (v := ?_) 1 ?_ ?_ ?_ ?_ (Or.inl ⟨?_, ?_⟩) (by assumption) ?_; rotate_left 2; rfl; kernel_rfl; kernel_rfl; exact (fun _ _ _ h => h); rfl; (focus (intro w hSw; (try dsimp only at hSw); go_simp; (try with_reducible rfl); done))) | (refine AtF.take (oi := ?_) (v := ?_) 1 ?_ ?_ ?_ ?_ (Or.inr ⟨?_, ?_⟩) (by assumption) ?_; rotate_left 2; rfl; kernel_rfl; kernel_rfl; exact (fun _ _ _ h => h); rfl; rfl)); (try simp only [Act.put, List.setIfInBounds_toArray, List.set_cons_zero, List.set_cons_succ]); (first | (refine AtF.take (oi := ?_) (v := ?_) 2 ?_ ?_ ?_ ?_ (Or.inl ⟨?_, ?_⟩) (by assumption) ?_; rotate_left 2; rfl; kernel_rfl; kernel_rfl; exact (fun _ _ _ h => h); rfl; (focus (intro w hSw; (try dsimp only at hSw); go_simp; (try with_reducible rfl); done))) | (refine AtF.take (oi := ?_) (v := ?_) 2 ?_ ?_ ?_ ?_ (Or.inr ⟨?_, ?_⟩) (by assumption) ?_; rotate_left 2; rfl; kernel_rfl; kernel_rfl; exact (fun _ _ _ h => h); rfl; rfl)); (try simp only [Act.put, List.setIfInBounds_toArray, List.set_cons_zero, List.set_cons_succ]); (first | (refine AtF.take (oi := ?_) (v := ?_) 3 ?_ ?_ ?_ ?_ (Or.inl ⟨?_, ?_⟩) (by assumption) ?_; rotate_left 2; rfl; kernel_rfl; kernel_rfl; exact (fun _ _ _ h => h); rfl; (focus (intro w hSw; (try dsimp only at hSw); go_simp; (try with_reducible rfl); done))) | (refine AtF.take (oi := ?_) (v := ?_) 3 ?_ ?_ ?_ ?_ (Or.inr ⟨?_, ?_⟩) (by assumption) ?_; rotate_left 2; rfl; kernel_rfl; kernel_rfl; exact (fun _ _ _ h => h); rfl; rfl)); (try simp only [Act.put, List.setIfInBounds_toArray, List.set_cons_zero, List.set_cons_succ]); (first | (refine AtF.take (oi := ?_) (v := ?_) 4 ?_ ?_ ?_ ?_ (Or.inl ⟨?_, ?_⟩) (by assumption) ?_; rotate_left 2; rfl; kernel_rfl; kernel_rfl; exact (fun _ _ _ h => h); rfl; (focus (intro w hSw; (try dsimp only at hSw); go_simp; (try with_reducible rfl); done))) | (refine AtF.take (oi := ?_) (v := ?_) 4 ?_ ?_ ?_ ?_ (Or.inr ⟨?_, ?_⟩) (by assumption) ?_; rotate_left 2; rfl; kernel_rfl; kernel_rfl; exact (fun _ _ _ h => h); rfl; rfl)); (try simp only [Act.put, List.setIfInBounds_toArray, List.set_cons_zero, List.set_cons_succ]); (first | (refine AtF.take (oi := ?_) (v := ?_) 5 ?_ ?_ ?_ ?_ (Or.inl ⟨?_, ?_⟩) (by assumption) ?_; rotate_left 2; rfl; kernel_rfl; kernel_rfl; exact (fun _ _ _ h => h); rfl; (focus (intro w hSw; (try dsimp only at hSw); go_simp; (try with_reducible rfl); done))) | (refine AtF.take (oi := ?_) (v := ?_) 5 ?_ ?_ ?_ ?_ (Or.inr ⟨?_, ?_⟩) (by assumption) ?_; rotate_left 2; rfl; kernel_rfl; kernel_rfl; exact (fun _ _ _ h => h); rfl; rfl)); (try simp only [Act.put, List.setIfInBounds_toArray, List.set_cons_zero, List.set_cons_succ]); (first | (refine AtF.take (oi := ?_) (v := ?_) 6 ?_ ?_ ?_ ?_ (Or.inl ⟨?_, ?_⟩) (by assumption) ?_; rotate_left 2; rfl; kernel_rfl; kernel_rfl; exact (fun _ _ _ h => h); rfl; (focus (intro w hSw; (try dsimp only at hSw); go_simp; (try with_reducible rfl); done))) | (refine AtF.take (oi := ?_) (v := ?_) 6 ?_ ?_ ?_ ?_ (Or.inr ⟨?_, ?_⟩) (by assumption) ?_; rotate_left 2; rfl; kernel_rfl; kernel_rfl; exact (fun _ _ _ h => h); rfl; rfl)); (try simp only [Act.put, List.setIfInBounds_toArray, List.set_cons_zero, List.set_cons_succ]); (first | (refine AtF.take (oi := ?_) (v := ?_) 7 ?_ ?_ ?_ ?_ (Or.inl ⟨?_, ?_⟩) (by assumption) ?_; rotate_left 2; rfl; kernel_rfl; kernel_rfl; exact (fun _ _ _ h => h); rfl; (focus (intro w hSw; (try dsimp only at hSw); go_simp; (try with_reducible rfl); done))) | (refine AtF.take (oi := ?_) (v := ?_) 7 ?_ ?_ ?_ ?_ (Or.inr ⟨?_, ?_⟩) (by assumption) ?_; rotate_left 2; rfl; kernel_rfl; kernel_rfl; exact (fun _ _ _ h => h); rfl; rfl)); (try simp only [Act.put, List.setIfInBounds_toArray, List.set_cons_zero, List.set_cons_succ]); (first | (refine AtF.take (oi := ?_) (v := ?_) 8 ?_ ?_ ?_ ?_ (Or.inl ⟨?_, ?_⟩) (by assumption) ?_; rotate_left 2; rfl; kernel_rfl; kernel_rfl; exact (fun _ _ _ h => h); rfl; (focus (intro w hSw; (try dsimp only at hSw); go_simp; (try with_reducible rfl); done))) | (refine AtF.take (oi := ?_) (v := ?_) 8 ?_ ?_ ?_ ?_ (Or.inr ⟨?_, ?_⟩) (by assumption) ?_; rotate_left 2; rfl; kernel_rfl; kernel_rfl; exact (fun _ _ _ h => h); rfl; rfl)); (try simp only [Act.put, List.setIfInBounds_toArray, List.set_cons_zero, List.set_cons_succ]); (first | (refine AtF.take (oi := ?_) (v := ?_) 9 ?_ ?_ ?_ ?_ (Or.inl ⟨?_, ?_⟩) (by assumption) ?_; rotate_left 2; rfl; kernel_rfl; kernel_rfl; exact (fun _ _ _ h => h); rfl; (focus (intro w hSw; (try dsimp only at hSw); go_simp; (try with_reducible rfl); done))) | (refine AtF.take (oi := ?_) (v := ?_) 9 ?_ ?_ ?_ ?_ (Or.inr ⟨?_, ?_⟩) (by assumption) ?_; rotate_left 2; rfl; kernel_rfl; kernel_rfl; exact (fun _ _ _ h => h); rfl; rfl)); (try simp only [Act.put, List.setIfInBounds_toArray, List.set_cons_zero, List.set_cons_succ]); (first | (refine AtF.take (oi := ?_) (v := ?_) 10 ?_ ?_ ?_ ?_ (Or.inl ⟨?_, ?_⟩) (by assumption) ?_; rotate_left 2; rfl; kernel_rfl; kernel_rfl; exact (fun _ _ _ h => h); rfl; (focus (intro w hSw; (try dsimp only at hSw); go_simp; (try with_reducible rfl); done))) | (refine AtF.take (oi := ?_) (v := ?_) 10 ?_ ?_ ?_ ?_ (Or.inr ⟨?_, ?_⟩) (by assumption) ?_; rotate_left 2; rfl; kernel_rfl; kernel_rfl; exact (fun _ _ _ h => h); rfl; rfl)); (try simp only [Act.put, List.setIfInBounds_toArray, List.set_cons_zero, List.set_cons_succ]); (first | (refine AtF.take (oi := ?_) (v := ?_) 11 ?_ ?_ ?_ ?_ (Or.inl ⟨?_, ?_⟩) (by assumption) ?_; rotate_left 2; rfl; kernel_rfl; kernel_rfl; exact (fun _ _ _ h => h); rfl; (focus (intro w hSw; (try dsimp only at hSw); go_simp; (try with_reducible rfl); done))) | (refine AtF.take (oi := ?_) (v := ?_) 11 ?_ ?_ ?_ ?_ (Or.inr ⟨?_, ?_⟩) (by assumption) ?_; rotate_left 2; rfl; kernel_rfl; kernel_rfl; exact (fun _ _ _ h => h); rfl; rfl)); (try simp only [Act.put, List.setIfInBounds_toArray, List.set_cons_zero, List.set_cons_succ]))
    (refine AtF.only (oi := ?_) 12 ?_ ?_ (fun K hK => ?_); rotate_left 1; rfl; kernel_rfl; (try go_simp); (go_at_call 60; ((with_reducible refine (SI.out _ (n8x.out.grow (by (repeat' (first | (with_reducible exact Below.refl _ _) | (with_reducible refine Below.alloc ?_ ?_ _) | (with_reducible refine below_ext ?_ ?_ _) | (with_reducible refine Below.drew ?_) | (with_reducible refine below_drewN ?_ _) | (with_reducible refine Below.setCell ?_ ?_ _) | go_size | (simp only [go_sem]; omega) | (simp [go_sem]; done) | (simp [go_sem]; omega))))) (n9x.out.grow (by (repeat' (first | (with_reducible exact Below.refl _ _) | (with_reducible refine Below.alloc ?_ ?_ _) | (with_reducible refine below_ext ?_ ?_ _) | (with_reducible refine Below.drew ?_) | (with_reducible refine below_drewN ?_ _) | (with_reducible refine Below.setCell ?_ ?_ _) | go_size | (simp only [go_sem]; omega) | (simp [go_sem]; done) | (simp [go_sem]; omega)))))).mono ?_); rintro _ _ hgets; obtain ⟨rfl, x9, rfl⟩ := hgets.get; clear hgets)); (refine hK.out _ _ ?_ (fun hHeld => ?_)); (focus ((try dsimp only); (exact KX.out _ (by (repeat' (first | (with_reducible exact Below.refl _ _) | (with_reducible refine Below.alloc ?_ ?_ _) | (with_reducible refine below_ext ?_ ?_ _) | (with_reducible refine Below.drew ?_) | (with_reducible refine below_drewN ?_ _) | (with_reducible refine Below.setCell ?_ ?_ _) | go_size | (simp only [go_sem]; omega) | (simp [go_sem]; done) | (simp [go_sem]; omega))))); done)); clear hK K; (try simp only [Act.put, List.setIfInBounds_toArray, List.set_cons_zero, List.set_cons_succ]))
    ((first | (refine AtF.take (oi := ?_) (v := ?_) 13 ?_ ?_ ?_ ?_ (Or.inl ⟨?_, ?_⟩) (by assumption) ?_; rotate_left 2; rfl; kernel_rfl; kernel_rfl; exact (fun _ _ _ h => h); rfl; (focus (intro w hSw; (try dsimp only at hSw); go_simp; (try with_reducible rfl); done))) | (refine AtF.take (oi := ?_) (v := ?_) 13 ?_ ?_ ?_ ?_ (Or.inr ⟨?_, ?_⟩) (by assumption) ?_; rotate_left 2; rfl; kernel_rfl; kernel_rfl; exact (fun _ _ _ h => h); rfl; rfl)); (try simp only [Act.put, List.setIfInBounds_toArray, List.set_cons_zero, List.set_cons_succ]))
    have hwl := heap_in c2x
    have hwl0 : w.heap.size < wx.heap.size := by omega
    obtain ⟨q0, q1, q2, q3, q4⟩ := KX.out wx (Below.refl _ _)
    obtain ⟨s0, s1, s2, s3, s4, sl, sz⟩ := five c2x
    have sz0 := sz 0
    have sz1 := sz 1
    have sz2 := sz 2
    have sz3 := sz 3
    have sz4 := sz 4
    clear sz
    (refine AtF.only (oi := ?_) 14 ?_ ?_ (fun K hK => ?_); rotate_left 1; rfl; kernel_rfl; (try go_simp); skip; (refine hK.out _ _ ?_ (fun hHeld => ?_)); (focus ((try dsimp only); (refine ⟨?_, ?_, ?_, ?_, ?_⟩ <;> simp [go_sem, q0, q1, q2, q3, q4, hwl0]); done)); clear hK K; (try simp only [Act.put, List.setIfInBounds_toArray, List.set_cons_zero, List.set_cons_succ]))
    (refine AtF.last (oi := ?_) ?_ ?_ (fun K hK => ?_); rotate_left 1; rfl; kernel_rfl; go_simp; skip; refine hK.out _ _ ?_; clear hK K; (try simp only [Act.put, List.setIfInBounds_toArray, List.set_cons_zero, List.set_cons_succ]))
    clear hHeld
    repeat (first | go_values | go_skip | go_guarded | go_step)
    obtain ⟨W6, h6, hk6, hs6⟩ := store5e x9 c2x (.slice (some ⟨L, o, none⟩) S.pages.length c0) (.slice sA sm sc) (.int .i64 sn) (.int .i64 S.now) (.bool S.below)
    rw [h6]
    obtain ⟨y0, y1, y2, y3, y4, yl, -⟩ := five hs6
    have no := Lib.hid (FIN1.out _ W6 (below_of_ext wx x9) hk6)
    clear hs6 hk6 h6 FIN1
    simp [bodyPost, go_sem, y0, y1, y2, y3, y4]
    exact ⟨_, by simp [results, Tryz.f18, go_sem, y0, y1, y2, y3, y4] <;> rfl, no.out⟩)
end
end Go.Proofs.YtignkkejkknddaaGreat
/- What an act of layer 16 leaves alone, plainly.  -/
namespace Go.Proofs.YtignkkejkknddaaGreat
open Go.RowKit
set_option linter.unusedVariables false
set_option linter.unusedSimpArgs false

def inX (x : BxI) (i k : Nat) : Prop := x.t ≤ i ∧ (i : Int) < x.b ∧ x.l ≤ k ∧ (k : Int) < x.r
/-- a page is changed place by place, within the box alone -/
def PgOutX (P P' : PgS) (x : BxI) : Prop := ∃ f : Nat → Nat → Cl → Cl, P' = mapS P f ∧ ∀ i k y, i < P.rows.length → k < P.cols → ¬ inX x i k → f i k y = y
section
variable {P : PgS} {x : BxI} {xs : List Int}
theorem PgOutX.refl : PgOutX P P x := ⟨fun _ _ y => y, (mapS_id fun _ _ _ _ => rfl).symm, fun _ _ _ _ _ _ => rfl⟩
theorem ar_in {i k : Nat} (hi : i < P.rows.length) (hk : k < P.cols) (h : inX (arB P x) i k) : inX x i k := by
  have := (onB_iff2 (b := x) hi hk)
  unfold arB inX at *
  exact this.1 h
theorem re_in {i k : Nat} {j : Int} (ok : reOk (arB P x) xs j = true) (hi : i < P.rows.length) (hk : k < P.cols) (h : inX (reB (arB P x) xs j) i k) : inX x i k := by
  have hb := re_bd (arB P x) xs j ok
  refine ar_in hi hk ?_
  unfold inX at *
  omega
theorem re_out (hP : P.Ok) (j : Int) (f : Cl → Cl) : PgOutX P (if reOk (arB P x) xs j = true then eachS P (onB P.rows.length P.cols (reB (arB P x) xs j)) (fun zs l r => eachR zs l r f) else P) x := by
  split
  · rename_i ok
    rw [each_map hP]
    refine ⟨_, rfl, fun i k y hi hk hn => if_neg fun h => hn (re_in ok hi hk h)⟩
  · exact PgOutX.refl
theorem fill_out (hP : P.Ok) (y : Cl) : PgOutX P (fillS P x xs y) x := re_out hP 1 _
theorem wipe_out (hP : P.Ok) (sel : Bool) : PgOutX P (rwipeS P x xs sel) x := by
  unfold rwipeS rwipeF
  cases sel
  · exact re_out hP 0 (fun _ => erC)
  · exact re_out hP 0 cleanC
theorem ch_out (hP : P.Ok) (st : Bool) {f : Cl → Cl} (hf : ∀ c, c.ok → (f c).ok) : PgOutX P (chS P (chB (arB P x) xs st) f) x := by
  rw [chS_form hP _ _ _ hf]
  refine ⟨_, rfl, fun i k y hi hk hn => if_neg fun h => hn ?_⟩
  unfold chIn at h
  cases st
  · simp only [Bool.false_eq_true, if_false, Bool.and_eq_true, decide_eq_true_eq] at h
    exact re_in h.1 hi hk h.2
  · simp only [if_true, Bool.and_eq_true] at h
    obtain ⟨h1, h2⟩ := h
    refine ar_in hi hk ?_
    unfold stOk stPre at h1
    unfold inSt at h2
    simp only [Bool.and_eq_true, decide_eq_true_eq] at h1 h2
    unfold inX
    have q1 : (arB P x).t ≤ stT (arB P x) xs := by unfold stT; omega
    have q2 : (arB P x).l ≤ stL (arB P x) xs := by unfold stL; omega
    have q3 : stB (arB P x) xs ≤ (arB P x).b := by unfold stB lastA; split <;> omega
    have q4 : stR (arB P x) xs ≤ (arB P x).r := by unfold stR lastA; split <;> omega
    obtain ⟨g1, g2, g3, g4⟩ := h2
    refine ⟨by omega, by omega, ?_, ?_⟩
    · split at g3 <;> omega
    · split at g4 <;> omega
end
section
variable {S : BkS} {x : BxI} {xs : List Int}
theorem copy_out (hS : S.Ok) (he : S.Even) : ∃ (t : Nat) (P' : PgS), ∃ ht : t < S.pages.length, PgOutX S.pages[t] P' x ∧ copyRS S x xs = S.set t P' := by
  by_cases ok : cpOk (arK S x) xs = true
  · have hbd : (0 ≤ (arK S x).t) ∧ (0 ≤ (arK S x).l) ∧ (arK S x).b ≤ S.rows ∧ (arK S x).r ≤ S.cols := by
      have := onB_in S.rows S.cols x
      unfold arK
      omega
    have o2 := ok
    unfold cpOk at o2
    simp only [Bool.and_eq_true, decide_eq_true_eq] at o2
    obtain ⟨o1, o4, o7⟩ := o2
    have re := re_bd (arK S x) xs 0 o1
    have i4 := nbI_in hS (at0 xs 4)
    have i7 := nbI_in hS (at0 xs 7)
    have pb : ((arK S x).t ≤ cpR (arK S x) xs 5 ∧ cpR (arK S x) xs 5 < (arK S x).b) ∧ (arK S x).l ≤ cpC (arK S x) xs 5 ∧ cpC (arK S x) xs 5 < (arK S x).r := by
      unfold cpR cpC placeI
      rw [if_neg (by omega), if_neg (by omega)]
      omega
    unfold copyRS
    rw [if_pos ok]
    have CB : cpB (arK S x) xs (cpR (arK S x) xs 5) (cpC (arK S x) xs 5) = ⟨(reB (arK S x) xs 0).t, (reB (arK S x) xs 0).l, min (reB (arK S x) xs 0).b ((reB (arK S x) xs 0).t + (arK S x).b - cpR (arK S x) xs 5), min (reB (arK S x) xs 0).r ((reB (arK S x) xs 0).l + (arK S x).r - cpC (arK S x) xs 5)⟩ := rfl
    rw [CB]
    have hin : ∀ i k : Nat, i < S.rows → k < S.cols → inX (arK S x) i k → inX x i k := fun i k hi hk h => (onB_iff2 (b := x) hi hk).1 h
    generalize cpR (arK S x) xs 5 = pr at *
    generalize cpC (arK S x) xs 5 = pc at *
    generalize reB (arK S x) xs 0 = q at *
    generalize arK S x = z at *
    generalize nbI S (at0 xs 4) = p4 at *
    generalize nbI S (at0 xs 7) = p7 at *
    obtain ⟨qt, ql, qb, qr⟩ := q
    obtain ⟨zt, zl, zb, zr⟩ := z
    simp only at *
    obtain ⟨j4, rfl⟩ : ∃ j : Nat, p4 = j := Int.eq_ofNat_of_zero_le (by omega)
    obtain ⟨j7, rfl⟩ : ∃ j : Nat, p7 = j := Int.eq_ofNat_of_zero_le (by omega)
    obtain ⟨tq, rfl⟩ : ∃ j : Nat, qt = j := Int.eq_ofNat_of_zero_le (by omega)
    obtain ⟨lq, rfl⟩ : ∃ j : Nat, ql = j := Int.eq_ofNat_of_zero_le (by omega)
    obtain ⟨mm, rfl⟩ : ∃ m : Nat, qb = (tq : Int) + m := ⟨(qb - tq).toNat, by omega⟩
    obtain ⟨nn, rfl⟩ : ∃ m : Nat, qr = (lq : Int) + m := ⟨(qr - lq).toNat, by omega⟩
    obtain ⟨rr, rfl⟩ : ∃ j : Nat, pr = j := Int.eq_ofNat_of_zero_le (by omega)
    obtain ⟨cc, rfl⟩ : ∃ j : Nat, pc = j := Int.eq_ofNat_of_zero_le (by omega)
    have hj4 : j4 < S.pages.length := by omega
    have hj7 : j7 < S.pages.length := by omega
    obtain ⟨ev4a, ev4b⟩ := he _ (List.getElem_mem hj4)
    obtain ⟨ev7a, ev7b⟩ := he _ (List.getElem_mem hj7)
    obtain ⟨G, eT, g1, g2, g3, g4, g5⟩ := copy_scan hS hj4 hj7 (tq := tq) (lq := lq) (mm := mm) (nn := nn) (rr := rr) (cc := cc) (zb := zb) (zr := zr) (by omega) (by omega) (by omega) (by omega) (by omega) (by omega)
    refine ⟨j7, _, hj7, ⟨G, rfl, fun i k y hi hk hn => ?_⟩, eT⟩
    by_cases h1 : i < rr ∨ k < cc
    · exact g1 i k y h1
    · obtain ⟨ii, rfl⟩ : ∃ ii, i = rr + ii := ⟨i - rr, by omega⟩
      obtain ⟨kk, rfl⟩ : ∃ kk, k = cc + kk := ⟨k - cc, by omega⟩
      refine g4 ii kk y fun h => hn (hin _ _ (by omega) (by omega) ?_)
      unfold inX
      simp only
      omega
  · refine ⟨0, S.pages[0]'hS.p1, hS.p1, PgOutX.refl, ?_⟩
    unfold copyRS
    rw [if_neg ok]
    have := hS.p1
    unfold BkS.set
    rw [if_pos (by omega)]
    simp
theorem set_self {i : Nat} (hi : i < S.pages.length) : S.set i S.pages[i] = S := by
  unfold BkS.set
  rw [if_pos hi]
  simp
theorem act16_shape (hS : S.Ok) (he : S.Even) (a : A16) : ∃ (t : Nat) (P' : PgS), ∃ ht : t < S.pages.length, PgOutX S.pages[t] P' a.b ∧ act16 S a = S.set t P' ∧ (t = 0 ∨ a.kd = 4) := by
  have h0 : 0 < S.pages.length := hS.p1
  have okP := hS.pg _ (List.getElem_mem h0)
  unfold act16
  rw [pgAt_0 h0]
  by_cases e1 : a.kd = 1
  · rw [if_pos e1]
    exact ⟨0, _, h0, fill_out okP _, rfl, .inl rfl⟩
  rw [if_neg e1]
  by_cases e2 : a.kd = 2
  · rw [if_pos e2]
    exact ⟨0, _, h0, wipe_out okP _, rfl, .inl rfl⟩
  rw [if_neg e2]
  by_cases e3 : a.kd = 3
  · rw [if_pos e3]
    exact ⟨0, _, h0, ch_out okP _ (chF_ok _ _), rfl, .inl rfl⟩
  rw [if_neg e3]
  by_cases e4 : a.kd = 4
  · rw [if_pos e4]
    obtain ⟨t, P', ht, h1, h2⟩ := copy_out (x := a.b) (xs := a.ls.take 20) hS he
    exact ⟨t, P', ht, h1, h2, .inr e4⟩
  rw [if_neg e4]
  exact ⟨0, _, h0, PgOutX.refl, (set_self h0).symm, .inl rfl⟩
theorem act16_ok (hS : S.Ok) (a : A16) (hy : a.y.ok) : (act16 S a).Ok := by
  have h0 : 0 < S.pages.length := hS.p1
  have okP := hS.pg _ (List.getElem_mem h0)
  unfold act16
  rw [pgAt_0 h0]
  split
  · exact hS.set 0 (fillS_ok okP _ _ hy)
  split
  · exact hS.set 0 (rwipeS_ok okP _ _ _)
  split
  · exact hS.set 0 (chS_ok okP (chF_ok _ _) _)
  split
  · unfold copyRS
    split
    · exact S.copy_ok hS _ _ _ _ _
    · exact hS
  · exact hS
theorem set_even (hS : S.Ok) (he : S.Even) {t : Nat} (ht : t < S.pages.length) {P' : PgS} (h1 : P'.rows.length = S.rows) (h2 : P'.cols = S.cols) : (S.set t P').Even ∧ (S.set t P').rows = S.rows ∧ (S.set t P').cols = S.cols := by
  have h0 : 0 < S.pages.length := hS.p1
  have e : (S.set t P').rows = S.rows ∧ (S.set t P').cols = S.cols := by
    unfold BkS.rows BkS.cols BkS.set at *
    rw [if_pos ht]
    simp only
    by_cases q : t = 0
    · subst q
      simp only [List.getD_eq_getElem?_getD, List.getElem?_set, h0, if_true] at h1 h2 ⊢
      exact ⟨h1, h2⟩
    · simp [List.getD_eq_getElem?_getD, List.getElem?_set, q]
  refine ⟨fun P hP => ?_, e⟩
  rw [e.1, e.2]
  unfold BkS.set at hP
  rw [if_pos ht] at hP
  rcases List.mem_or_eq_of_mem_set hP with h | rfl
  · exact he P h
  · exact ⟨h1, h2⟩
theorem act16_even (hS : S.Ok) (he : S.Even) (a : A16) : (act16 S a).Even ∧ (act16 S a).rows = S.rows ∧ (act16 S a).cols = S.cols := by
  obtain ⟨t, P', ht, ⟨f, rfl, -⟩, e, -⟩ := act16_shape hS he a
  obtain ⟨g1, g2⟩ := he _ (List.getElem_mem ht)
  rw [e]
  exact set_even hS he ht (by rw [mapS_len]; exact g1) (by rw [mapS_cols]; exact g2)
/-- what stands on the pages behind an act -/
theorem act16_at (hS : S.Ok) (he : S.Even) (a : A16) {i : Nat} (hi : i < S.pages.length) : ∃ Q, (act16 S a).pages[i]? = some Q ∧ Q.rows.length = S.pages[i].rows.length ∧ Q.cols = S.pages[i].cols ∧ (∀ j (h1 : j < S.pages[i].rows.length) (h2 : j < Q.rows.length), Q.rows[j].2 = S.pages[i].rows[j].2) ∧
    ∀ j k : Nat, j < S.pages[i].rows.length → k < S.pages[i].cols → ¬ (inX a.b j k ∧ (i = 0 ∨ a.kd = 4)) → atS Q j k = atS S.pages[i] j k := by
  obtain ⟨t, P', ht, ⟨f, rfl, hf⟩, e, h4⟩ := act16_shape hS he a
  have hl : i < (S.set t (mapS S.pages[t] f)).pages.length := by rw [BkS.set_len]; exact hi
  rw [e]
  by_cases q : t = i
  · subst q
    refine ⟨mapS S.pages[t] f, by rw [List.getElem?_eq_getElem hl, bkset_same ht], mapS_len, mapS_cols, fun j h1 h2 => by rw [mapS_at h1 h2], fun j k hj hk hn => ?_⟩
    rw [at_map (hS.pg _ (List.getElem_mem ht)) hj hk]
    exact hf j k _ hj hk fun h => hn ⟨h, h4⟩
  · exact ⟨S.pages[i], by rw [List.getElem?_eq_getElem hl, bkset_else hi q], rfl, rfl, fun _ _ _ => rfl, fun _ _ _ _ _ => rfl⟩
theorem bkS_get (b : BgD) (n : Int) {i : Nat} (h : i < (bkS b n).pages.length) : (bkS b n).pages[i] = bkP b i := by
  have h' := h
  unfold bkS at h'
  rw [bkJ_len] at h'
  simp [bkS, bkJ, h']
theorem bkS_even (b : BgD) (n : Int) : (bkS b n).Even := by
  have hn := bkNp_in n
  have hl : (bkS b n).pages.length = bkNp n := by unfold bkS; rw [bkJ_len]
  have h0 : 0 < (bkS b n).pages.length := by omega
  have e : (bkS b n).rows = begM b ∧ (bkS b n).cols = begN b := by
    unfold BkS.rows BkS.cols
    rw [List.getD_eq_getElem?_getD, List.getElem?_eq_getElem h0, Option.getD_some, bkS_get]
    exact bkP_len 0
  intro P hP
  obtain ⟨i, hi, rfl⟩ := List.getElem_of_mem hP
  rw [bkS_get, e.1, e.2]
  exact bkP_len i
end
end Go.Proofs.YtignkkejkknddaaGreat
/- The acts of layer 16 among a law's arguments.  -/
namespace Go.Proofs.YtignkkejkknddaaGreat
open Go.ChangeShapes Go.WideShapes Go.ChangeAt Go.RowKit
set_option linter.unusedVariables false
set_option linter.unusedSimpArgs false

instance : Inhabited A16 := ⟨⟨0, ⟨0, 0, 0, 0⟩, none, 0, [], false, false, ⟨0, 0, false⟩⟩⟩
theorem ints_cell16 {H : Type} {enc : TypeId × Value → H} {W : World} {n : Nat} {cs : List Value} {x : DataW H × List MemPlace} (h : DataW.trod enc Tryz.prog W 0 (fun _ => true) true n 22 cs = some x) :
    ∃ (a : Option Addr) (c : Nat) (xs : List Int), cs = [.slice a xs.length c] ∧ Ints W a xs ∧ xs.length ≤ c ∧ c ≤ maxLen ∧ (a = none → c = 0) ∧ ∀ n ∈ xs, n ≤ 9223372036854775807 := by
  have hs : (cs = [.slice none 0 0]) ∨ ∃ x m c, cs = [.slice (some x) m c] := by
    rcases Go.Deep.open_slice Tryz.underlying22 h with ⟨hcs, _⟩ | ⟨x, len, cap, m, n, D, Pl, hcs, _⟩
    · exact .inl hcs
    · exact .inr ⟨_, _, _, hcs⟩
  rcases hs with rfl | ⟨ad, m, c, rfl⟩
  · exact ⟨none, 0, [], rfl, fun h0 => absurd h0 (by simp), by simp, by simp, fun _ => rfl, by simp⟩
  · obtain ⟨a, c', xs, e, rd, hl, hc, hw, _⟩ := open_ints_rd (v := .slice (some ad) m c) (d := x.1) (ps := x.2) Tryz.underlying22 Tryz.underlying3 (by kernel_rfl) ⟨_, _, _, rfl⟩ ⟨n, h⟩
    injection e with e1 e2 e3
    subst e1 e2 e3
    exact ⟨_, _, xs, rfl, rd, hl, hc, (fun e => by cases e), fun n hn => (bounds_i64 (hw n hn)).2⟩
set_option maxRecDepth 100000 in
set_option maxHeartbeats 4000000 in
theorem act16_read {H : Type} {enc : TypeId × Value → H} {W : World} (n : Nat) (cs : List Value) (x : DataW H × List MemPlace) (hl : cs.length = 11) (h : DataW.trod enc Tryz.prog W 0 (fun _ => true) true n 62 cs = some x) :
    ∃ a : A16, cs = a.cells ∧ a.Ok W := by
  match cs, hl with
  | [c0, c1, c2, c3, c4, c5, c6, c7, c8, c9, c10], _ =>
  have k0 : Tryz.prog.cellsOf 22 = 1 := by kernel_rfl
  have k1 : Tryz.prog.cellsOf 31 = 4 := by kernel_rfl
  have k2 : Tryz.prog.cellsOf 60 = 3 := by kernel_rfl
  have k3 : Tryz.prog.cellsOf 24 = 1 := by kernel_rfl
  have k4 : Tryz.prog.cellsOf 4 = 1 := by kernel_rfl
  have k5 : Tryz.prog.cellsOf 3 = 1 := by kernel_rfl
  have k6 : Tryz.prog.cellsOf 21 = 1 := by kernel_rfl
  obtain ⟨xs1, m2, -, -, -, hl3, hg4⟩ := DataW.trod_struct Tryz.underlying62 h
  have hx5 : ∀ i, i < 6 → ∃ y, xs1[i]? = some y := fun i hi => ⟨_, List.getElem?_eq_getElem (by rw [hl3]; exact hi)⟩
  obtain ⟨y6, z7⟩ := hx5 0 (by omega)
  have q8 := (hg4 0 _ rfl).trans z7
  obtain ⟨kd, e_kd, _, w_kd⟩ := DataW.trod_int Tryz.underlying3 q8
  simp [k0, k1, k2, k3, k4, k5, k6, Value.cells] at e_kd
  obtain ⟨y9, z10⟩ := hx5 1 (by omega)
  have q11 := (hg4 1 _ rfl).trans z10
  obtain ⟨xs12, m13, -, -, -, hl14, hg15⟩ := DataW.trod_struct Tryz.underlying31 q11
  have hx16 : ∀ i, i < 4 → ∃ y, xs12[i]? = some y := fun i hi => ⟨_, List.getElem?_eq_getElem (by rw [hl14]; exact hi)⟩
  obtain ⟨y17, z18⟩ := hx16 0 (by omega)
  have q19 := (hg15 0 _ rfl).trans z18
  obtain ⟨bt, e_bt, _, w_bt⟩ := DataW.trod_int Tryz.underlying3 q19
  simp [k0, k1, k2, k3, k4, k5, k6, Value.cells] at e_bt
  obtain ⟨y20, z21⟩ := hx16 1 (by omega)
  have q22 := (hg15 1 _ rfl).trans z21
  obtain ⟨bl, e_bl, _, w_bl⟩ := DataW.trod_int Tryz.underlying3 q22
  simp [k0, k1, k2, k3, k4, k5, k6, Value.cells] at e_bl
  obtain ⟨y23, z24⟩ := hx16 2 (by omega)
  have q25 := (hg15 2 _ rfl).trans z24
  obtain ⟨bb, e_bb, _, w_bb⟩ := DataW.trod_int Tryz.underlying3 q25
  simp [k0, k1, k2, k3, k4, k5, k6, Value.cells] at e_bb
  obtain ⟨y26, z27⟩ := hx16 3 (by omega)
  have q28 := (hg15 3 _ rfl).trans z27
  obtain ⟨br, e_br, _, w_br⟩ := DataW.trod_int Tryz.underlying3 q28
  simp [k0, k1, k2, k3, k4, k5, k6, Value.cells] at e_br
  obtain ⟨y29, z30⟩ := hx5 2 (by omega)
  have q31 := (hg4 2 _ rfl).trans z30
  obtain ⟨ls_a, ls_c, ls, e_ls, r_ls, l_ls, m_ls, z_ls, o_ls⟩ := ints_cell16 q31
  simp [k0, k1, k2, k3, k4, k5, k6, Value.cells] at e_ls
  obtain ⟨y32, z33⟩ := hx5 3 (by omega)
  have q34 := (hg4 3 _ rfl).trans z33
  obtain ⟨fl, e_fl, _⟩ := DataW.trod_bool Tryz.underlying4 q34
  simp [k0, k1, k2, k3, k4, k5, k6, Value.cells] at e_fl
  obtain ⟨y35, z36⟩ := hx5 4 (by omega)
  have q37 := (hg4 4 _ rfl).trans z36
  obtain ⟨st, e_st, _⟩ := DataW.trod_bool Tryz.underlying4 q37
  simp [k0, k1, k2, k3, k4, k5, k6, Value.cells] at e_st
  obtain ⟨y38, z39⟩ := hx5 5 (by omega)
  have q40 := (hg4 5 _ rfl).trans z39
  obtain ⟨xs41, m42, -, -, -, hl43, hg44⟩ := DataW.trod_struct Tryz.underlying60 q40
  have hx45 : ∀ i, i < 3 → ∃ y, xs41[i]? = some y := fun i hi => ⟨_, List.getElem?_eq_getElem (by rw [hl43]; exact hi)⟩
  obtain ⟨y46, z47⟩ := hx45 0 (by omega)
  have q48 := (hg44 0 _ rfl).trans z47
  obtain ⟨yg, e_yg, _, w_yg⟩ := DataW.trod_int Tryz.underlying21 q48
  simp [k0, k1, k2, k3, k4, k5, k6, Value.cells] at e_yg
  obtain ⟨y49, z50⟩ := hx45 1 (by omega)
  have q51 := (hg44 1 _ rfl).trans z50
  obtain ⟨yr, e_yr, _, w_yr⟩ := DataW.trod_int Tryz.underlying24 q51
  simp [k0, k1, k2, k3, k4, k5, k6, Value.cells] at e_yr
  obtain ⟨y52, z53⟩ := hx45 2 (by omega)
  have q54 := (hg44 2 _ rfl).trans z53
  obtain ⟨yk, e_yk, _⟩ := DataW.trod_bool Tryz.underlying4 q54
  simp [k0, k1, k2, k3, k4, k5, k6, Value.cells] at e_yk
  refine ⟨⟨kd, ⟨bt, bl, bb, br⟩, ls_a, ls_c, ls, fl, st, ⟨yg, yr, yk⟩⟩, ?_, ?_⟩
  · rw [e_kd, e_bt, e_bl, e_bb, e_br, e_ls, e_fl, e_st, e_yg, e_yr, e_yk]
    rfl
  · exact ⟨r_ls, l_ls, m_ls, z_ls, o_ls, ⟨bounds_i32 w_yg, bounds_u8 w_yr⟩⟩
set_option maxRecDepth 100000 in
theorem open_act16s {H : Type} {enc : TypeId × Value → H} {W : World} {v : Value} {d : DataW H} {ps : List MemPlace} (hv : ∃ a n c, v = .slice a n c) (h : DataW.Trod enc Tryz.prog W 0 (fun _ => true) true 72 v d ps) :
    ∃ (a : Option Addr) (c : Nat) (xs : List A16), v = .slice a xs.length c ∧ Rd A16.cells 11 W a xs ∧ xs.length ≤ c ∧ c ≤ maxLen ∧ (∀ n ∈ xs, n.Ok W) ∧ ((d = .nil ∧ c = 0) ∨ ∃ es sp, d = .slice es sp ∧ es.length + sp.length = c) :=
  open_slice_rd Tryz.underlying72 (by kernel_rfl) (by omega) (fun _ => rfl) (fun n cs x => act16_read n cs x) hv h
set_option maxRecDepth 100000 in
theorem open_act16 {H : Type} {enc : TypeId × Value → H} {W : World} {base : Nat} {v : Value} {d : DataW H} {ps : List MemPlace} (hv : Value.okWide Tryz.prog W .any base 62 v)
    (h : DataW.Trod enc Tryz.prog W 0 (fun _ => true) true 62 v d ps) : ∃ a : A16, v = a.v ∧ a.Ok W := by
  obtain ⟨cs, rfl, hsz⟩ := okWide_struct Tryz.underlying62 hv
  rw [show Tryz.prog.cellsOf 62 = 11 by kernel_rfl] at hsz
  obtain ⟨cs⟩ := cs
  obtain ⟨fuel, hf⟩ := h
  obtain ⟨a, e, ho⟩ := act16_read _ cs _ (by simpa using hsz) (by simpa [Value.cells] using hf)
  exact ⟨a, by rw [e]; rfl, ho⟩
end Go.Proofs.YtignkkejkknddaaGreat
