/- LineEach: the walk. -/
import Derived.Test.YtdlngbmgcedbpaaLineInv2
namespace Go.Proofs.Ytdlngbmgcedbpaa
open Go.RowKit
set_option linter.unusedVariables false
set_option linter.unusedSimpArgs false

def OneIn (wb : World) (R : List Cl) (sz : Int) (s : Value) (wx : World) : Prop := LineAt wb R sz s wx ∧ Below wb.heap.size wb wx
def IntsIn (wb : World) (s : Value) (wx : World) : Prop := ∃ a p c, s = .slice a p.length c ∧ Ints wx a p ∧ p.length ≤ 2 ∧ Below wb.heap.size wb wx
def PairsIn (wb : World) (sz : Int) (s : Value) (wx : World) : Prop := PairsF wx sz s ∧ Below wb.heap.size wb wx
structure EachV where
  (v9 v35 v42 v43 v49 v56 v57 v63 v70 v71 v78 v86 v87 v94 v102 v103 v111 v118 v119 v120 : Value)
structure EachF (wb : World) (R0 R1 R2 R3 R4 R5 : List Cl) (sz : Int) (V : EachV) (L : Nat → Bool) (w : World) : Prop where
  f6 : L 6 = true → RowF wb w R0 sz V.v35
  f13 : L 13 = true → RowF wb w R0 sz V.v42
  f14 : L 14 = true → PairF w R0 sz V.v43
  f20 : L 20 = true → RowF wb w R1 sz V.v49
  f27 : L 27 = true → RowF wb w R1 sz V.v56
  f28 : L 28 = true → PairF w R1 sz V.v57
  f34 : L 34 = true → RowF wb w R2 sz V.v63
  f41 : L 41 = true → RowF wb w R2 sz V.v70
  f42 : L 42 = true → PairF w R2 sz V.v71
  f49 : L 49 = true → RowF wb w R3 sz V.v78
  f57 : L 57 = true → RowF wb w R3 sz V.v86
  f58 : L 58 = true → PairF w R3 sz V.v87
  f65 : L 65 = true → RowF wb w R4 sz V.v94
  f73 : L 73 = true → RowF wb w R4 sz V.v102
  f74 : L 74 = true → PairF w R4 sz V.v103
  f82 : L 82 = true → RowF wb w R5 sz V.v111
  f89 : L 89 = true → RowF wb w R5 sz V.v118
  f90 : L 90 = true → PairF w R5 sz V.v119
  f91 : L 91 = true → PairsF w sz V.v120
  f92 : L 92 = true → V.v9 = V.v120 ∧ L 91 = true
def EachI (S0 S1 S2 S3 S4 S5 S6 S7 S8 S12 S13 S14 S15 S16 S17 S18 S19 S20 S21 S22 S23 S24 S25 S26 S27 S28 LI LL FA0 FA1 FV0 FV1 CE MP ER KA KB : Value) (wb : World) (R0 R1 R2 R3 R4 R5 : List Cl) (sz : Int) (L : Nat → Bool) (a : Act) (w : World) : Prop :=
  ∃ V : EachV, a = { tmps := #[S0, S1, S2, S3, S4, S5, S6, S7, S8, V.v9, undef, undef, S12, S13, S14, S15, S16, S17, S18, S19, S20, S21, S22, S23, S24, S25, S26, S27, S28, bif L 0 then LI else undef, bif L 1 then FA0 else undef, bif L 2 then FV0 else undef, bif L 3 then FA1 else undef, bif L 4 then FV1 else undef, bif L 5 then CE else undef, V.v35, bif L 7 then LL else undef, bif L 8 then FA0 else undef, bif L 9 then FV0 else undef, bif L 10 then FA1 else undef, bif L 11 then FV1 else undef, bif L 12 then CE else undef, V.v42, V.v43, bif L 15 then LI else undef, bif L 16 then FA0 else undef, bif L 17 then FV0 else undef, bif L 18 then FA1 else undef, bif L 19 then FV1 else undef, V.v49, bif L 21 then LL else undef, bif L 22 then FA0 else undef, bif L 23 then FV0 else undef, bif L 24 then FA1 else undef, bif L 25 then FV1 else undef, bif L 26 then ER else undef, V.v56, V.v57, bif L 29 then LI else undef, bif L 30 then FA0 else undef, bif L 31 then FV0 else undef, bif L 32 then FA1 else undef, bif L 33 then FV1 else undef, V.v63, bif L 35 then LL else undef, bif L 36 then FA0 else undef, bif L 37 then FV0 else undef, bif L 38 then FA1 else undef, bif L 39 then FV1 else undef, bif L 40 then CE else undef, V.v70, V.v71, bif L 43 then LI else undef, bif L 44 then FA0 else undef, bif L 45 then FV0 else undef, bif L 46 then FA1 else undef, bif L 47 then FV1 else undef, bif L 48 then MP else undef, V.v78, bif L 50 then LL else undef, bif L 51 then FA0 else undef, bif L 52 then FV0 else undef, bif L 53 then FA1 else undef, bif L 54 then FV1 else undef, bif L 55 then CE else undef, bif L 56 then MP else undef, V.v86, V.v87, bif L 59 then LI else undef, bif L 60 then FA0 else undef, bif L 61 then FV0 else undef, bif L 62 then FA1 else undef, bif L 63 then FV1 else undef, bif L 64 then MP else undef, V.v94, bif L 66 then LL else undef, bif L 67 then FA0 else undef, bif L 68 then FV0 else undef, bif L 69 then FA1 else undef, bif L 70 then FV1 else undef, bif L 71 then CE else undef, bif L 72 then MP else undef, V.v102, V.v103, bif L 75 then LI else undef, bif L 76 then FA0 else undef, bif L 77 then FV0 else undef, bif L 78 then FA1 else undef, bif L 79 then FV1 else undef, bif L 80 then KA else undef, bif L 81 then KB else undef, V.v111, bif L 83 then LL else undef, bif L 84 then FA0 else undef, bif L 85 then FV0 else undef, bif L 86 then FA1 else undef, bif L 87 then FV1 else undef, bif L 88 then CE else undef, V.v118, V.v119, V.v120, undef, undef, undef, undef, undef, undef, undef, undef, undef, undef, undef, undef, undef, undef, undef, undef, undef, undef], defers := [] } ∧ Below wb.heap.size wb w ∧ EachF wb R0 R1 R2 R3 R4 R5 sz V L w
theorem below_succ {p : Nat → Prop} {n : Nat} (h : ∀ i, i < n → p i) (hn : p n) : ∀ i, i < n + 1 → p i := fun i hi => by
  rcases Nat.lt_or_ge i n with h1 | h1
  · exact h i h1
  · obtain rfl : i = n := by omega
    exact hn
set_option maxRecDepth 100000 in
set_option maxHeartbeats 8000000 in
theorem LineEach_walk (w : World) (A : Option Addr) (C : Nat) (xs0 : List Cl) (sz : Int) (rd : Rd encC 3 w A xs0) (lc : xs0.length ≤ C) (cm : C ≤ maxLen) (hok : ∀ y ∈ xs0, y.ok)
    (f t n : Int) (hf : (Lit.int .i64 f).wf = true) (ht : (Lit.int .i64 t).wf = true) (hn : (Lit.int .i64 n).wf = true) (cg cr : Int) (ck : Bool) (hc : Cl.ok ⟨cg, cr, ck⟩) :
    Calls Try.prog 13 #[lineV A xs0.length C sz, .agg #[.int .i64 f, .int .i64 t, .int .i64 n], .agg #[.int .i32 cg, .int .u8 cr, .bool ck]] w (Gives w (.bool true)) := by
  have hf2 := (bounds_i64 hf).2
  have hn2 := bounds_i64 hn
  have hc2 : 0 ≤ cr ∧ cr ≤ 255 := hc.2
  have OW := Lib.hid (fun w' (h : Rd encC 3 w' A xs0) => own_l A C sz xs0 w' h lc cm)
  have X := Lib.hid rd
  have hx : (xs0.take 300).length ≤ 300 := by simp; omega
  have hokx : ∀ y ∈ xs0.take 300, y.ok := fun y hy => hok y (List.mem_of_mem_take hy)
  generalize hxs : xs0.take 300 = xs at OW hx hokx
  clear hxs rd hok hf ht hn lc cm hc
  have hokx := Lib.hid hokx
  go_enter Try.func13, Try.ntmps13
  go_upto_region 4 with (first
    | (go_at_call 43; ((with_reducible refine (awake_3 _).mono ?_); rintro _ _ hgets; obtain ⟨rfl, x0, rfl⟩ := hgets.get; clear hgets))
    | (go_at_call 44
       (with_reducible refine (OW.out _ (by repeat (first | exact X.out | exact X | refine Rd.ext ?_ _ | refine Rd.alloc ?_ _ | refine Rd.drew ?_))).mono ?_)
       rintro _ _ ⟨A1, c1, x1, rfl, rfl, hO1⟩
       have hO := Lib.hid hO1
       clear hO1))
  have hL := LawE.start hO.out (by simp [go_sem])
  clear hO
  generalize ext (ext (((w.alloc (.cells #[.slice A1 xs.length c1, .int .i64 sz] 70)).alloc (.cells #[.int .i64 f, .int .i64 t, .int .i64 n] 72)).alloc (.cells #[.int .i32 cg, .int .u8 cr, .bool ck] 87)) x0) x1 = wa at hL ⊢
  clear OW X
  have hcap := hL.cap
  have OA := Lib.hid (fun w' (h : Rd encC 3 w' A1 xs) => show Calls Try.prog 44 #[lineV A1 xs.length c1 sz] w' (NewL w' xs sz) by
    have h2 := own_l A1 c1 sz xs w' h hcap.2.2 (by simpa only [maxLen] using hcap.2.1)
    rw [List.take_of_length_le hx] at h2
    exact h2)
  obtain ⟨hba, l0, l1, s0, s1, s2, k0, k1, k2, hz, XA1, -⟩ := hL
  have XA := Lib.hid XA1
  have hz1 := Nat.lt_of_succ_lt hz
  have hz0 := Nat.lt_of_succ_lt hz1
  clear XA1
  simp only at k0 k1 k2
  go_cut [7] from 16 to 17 (fun s wx => OneIn wa xs sz s wx)
  case first =>
    go_wp2_with (first
      | (go_at_call 44
         (with_reducible refine (OA.out _ (by repeat (first | exact XA.out | exact XA | refine Rd.ext ?_ _ | refine Rd.alloc ?_ _ | refine Rd.drew ?_))).mono ?_)
         rintro _ _ ⟨A4, c4, x4, rfl, rfl, hO1⟩
         have hO4 := Lib.hid hO1
         clear hO1))
    go_meet
    exact ⟨LineAt.mk rfl (by simp [go_sem]) (by simp [go_sem]) (by simp [go_sem]) (by simp [go_sem]) (by repeat (first | with_reducible exact (own_over hO4.out (by simp [go_sem]) (by simp [go_sem])).rd encC_len | with_reducible exact hO4.out.rd encC_len | with_reducible refine Rd.ext ?_ _ | with_reducible refine Rd.alloc ?_ _ | with_reducible refine Rd.drew ?_)) (own_cap hO4.out), by (repeat' (first | (with_reducible exact Below.refl _ _) | (with_reducible refine Below.alloc ?_ ?_ _) | (with_reducible refine below_ext ?_ ?_ _) | (with_reducible refine Below.drew ?_) | (with_reducible refine below_drewN ?_ _) | (with_reducible refine Below.setCell ?_ ?_ _) | go_size | (simp only [go_sem]; omega) | (simp [go_sem]; done) | (simp [go_sem]; omega)))⟩
  obtain ⟨⟨HI, AI, cI, rfl, hI1, hI2, i0, i1, XI1, hIc⟩, hB1⟩ := hcut
  have hL : LawE w wc A1 c1 sz xs f t n ⟨cg, cr, ck⟩ := LawE.grow ⟨hba, l0, l1, s0, s1, s2, k0, k1, k2, hz, XA.out, hcap⟩ hB1
  have XI := Lib.hid XI1
  clear hba l0 l1 s0 s1 s2 k0 k1 k2 hz hz1 hz0 XA hB1 XI1 hI1 OA
  generalize wc = wq at *
  obtain ⟨hbb, l0, l1, s0, s1, s2, k0, k1, k2, hz, XB1, -⟩ := hL
  have XB := Lib.hid XB1
  have hz1 := Nat.lt_of_succ_lt hz
  have hz0 := Nat.lt_of_succ_lt hz1
  clear XB1
  simp only at k0 k1 k2
  replace hn2 := Lib.hid hn2
  have hcapH := Lib.hid hcap
  have hIcH := Lib.hid hIc
  replace hf2 := Lib.hid hf2
  clear hcap hIc
  go_upto_if 28 with (fail)
  go_cut [8] from 25 to 28 (fun s wx => IntsIn wq s wx)
  case first =>
    rcases Bool.eq_false_or_eq_true (n.tmod 3 == 0) with hq | hq
    · rw [hq]
      clear hq
      go_wp2
      go_meet
      exact ⟨none, [], 0, rfl, fun h => absurd h (by simp), by simp, by (repeat' (first | (with_reducible exact Below.refl _ _) | (with_reducible refine Below.alloc ?_ ?_ _) | (with_reducible refine below_ext ?_ ?_ _) | (with_reducible refine Below.drew ?_) | (with_reducible refine below_drewN ?_ _) | (with_reducible refine Below.setCell ?_ ?_ _) | go_size | (simp only [go_sem]; omega) | (simp [go_sem]; done) | (simp [go_sem]; omega)))⟩
    · rw [hq]
      clear hq
      go_wp2
      go_meet
      exact ⟨_, [n, cr % 10], 2, rfl, (Own.new (B := 0) (e := 3) (encI_len .i64) rfl rfl _ rfl (Nat.zero_le _) (by simp [maxLen])).rd (encI_len .i64), by simp, by (repeat' (first | (with_reducible exact Below.refl _ _) | (with_reducible refine Below.alloc ?_ ?_ _) | (with_reducible refine below_ext ?_ ?_ _) | (with_reducible refine Below.drew ?_) | (with_reducible refine below_drewN ?_ _) | (with_reducible refine Below.setCell ?_ ?_ _) | go_size | (simp only [go_sem]; omega) | (simp [go_sem]; done) | (simp [go_sem]; omega)))⟩
  obtain ⟨AP, p, cp, rfl, hp1, hp2, hB2⟩ := hcut
  have hL : LawE w wc A1 c1 sz xs f t n ⟨cg, cr, ck⟩ := LawE.grow ⟨hbb, l0, l1, s0, s1, s2, k0, k1, k2, hz, XB.out, hcapH.out⟩ hB2
  replace XI := Lib.hid (XI.out.below hB2)
  replace i0 := (hB2.cell (p := ⟨HI, 0, none⟩) hI2).trans i0
  replace i1 := (hB2.cell (p := ⟨HI, 1, none⟩) hI2).trans i1
  replace hI2 := Nat.lt_of_lt_of_le hI2 hB2.size
  clear hbb l0 l1 s0 s1 s2 k0 k1 k2 hz hz1 hz0 XB hB2
  obtain ⟨hbb, l0, l1, s0, s1, s2, k0, k1, k2, hz, XB1, -⟩ := hL
  have XB := Lib.hid XB1
  have XP := Lib.hid hp1
  have hz1 := Nat.lt_of_succ_lt hz
  have hz0 := Nat.lt_of_succ_lt hz1
  have hs2 := Lib.hid s2
  clear XB1 hp1 s2
  simp only at k0 k1 k2
  have hcap := hcapH.out
  have hIc := hIcH.out
  have CF := Lib.hid (fun w' (h : Rd encC 3 w' AI xs) => show Calls Try.prog 68 #[lineV AI xs.length cI sz, .int .i64 f, .int .i64 t, .agg #[.int .i32 cg, .int .u8 cr, .bool ck]] w' (NewL w' (eachR xs f t fun _ => ⟨cg, cr, ck⟩) sz) from fill_l AI cI sz xs f t ⟨cg, cr, ck⟩ w' h hIcH.out.1 (by omega) hf2.out)
  have CE := Lib.hid (fun w' (h : Rd encC 3 w' AI xs) => show Calls Try.prog 69 #[lineV AI xs.length cI sz, .int .i64 f, .int .i64 t] w' (NewL w' (eachR xs f t fun _ => erC) sz) from erase_l AI cI sz xs f t w' h hIcH.out.1 (by omega) hf2.out)
  have CC := Lib.hid (fun w' (h : Rd encC 3 w' AI xs) => show Calls Try.prog 70 #[lineV AI xs.length cI sz, .int .i64 f, .int .i64 t] w' (NewL w' (eachR xs f t cleanC) sz) from clean_l AI cI sz xs f t w' h hIcH.out.1 (by omega) hf2.out)
  have CH := Lib.hid (fun w' (h : Rd encC 3 w' AI xs) (h2 : Ints w' AP p) => show Calls Try.prog 71 #[lineV AI xs.length cI sz, .int .i64 f, .int .i64 t, .slice AP p.length cp] w' (NewL w' (eachR xs f t (applyC p)) sz) from change_l AI cI sz xs f t AP cp p w' h hIcH.out.1 (by omega) hf2.out hokx.out h2 (by omega))
  have CL := Lib.hid (fun w' (h : Rd encC 3 w' AI xs) (h2 : Ints w' AP p) => show Calls Try.prog 72 #[lineV AI xs.length cI sz, .int .i64 f, .int .i64 t, .slice AP p.length cp] w' (NewL w' (eachR xs f t (flipC p)) sz) from flip_l AI cI sz xs f t AP cp p w' h hIcH.out.1 (by omega) hf2.out hokx.out h2 (by omega))
  have CK := Lib.hid (fun w' (h : Rd encC 3 w' AI xs) => show Calls Try.prog 73 #[lineV AI xs.length cI sz, .int .i64 f, .int .i64 t, .bool ck] w' (NewL w' (eachR xs f t (keepC ck)) sz) from keep_l AI cI sz xs f t ck w' h hIcH.out.1 (by omega) hf2.out)
  have E1 := Lib.hid (fun w' (h : Rd encC 3 w' A1 xs) => show Calls Try.prog 58 #[.int .i64 1, lineV A1 xs.length c1 sz, .int .i64 f, .int .i64 t, .agg #[.int .i32 cg, .int .u8 cr, .bool ck], .slice none 0 0] w' (NewL w' (eachR xs f t fun _ => ⟨cg, cr, ck⟩) sz) from each_r 1 A1 c1 sz xs f t ⟨cg, cr, ck⟩ (.slice none 0 0) _ w' h (by omega) (fun y hy w'' hb => one_r 1 ⟨cg, cr, ck⟩ none 0 [] _ (Deed.fill _ _) y w'' (hokx.out y hy) (fun h0 => absurd h0 (by simp)) (by simp)))
  have E1e := Lib.hid (fun w' (h : Rd encC 3 w' A1 xs) => show Calls Try.prog 58 #[.int .i64 1, lineV A1 xs.length c1 sz, .int .i64 f, .int .i64 t, .agg #[.int .i32 32, .int .u8 0, .bool false], .slice none 0 0] w' (NewL w' (eachR xs f t fun _ => erC) sz) from each_r 1 A1 c1 sz xs f t erC (.slice none 0 0) _ w' h (by omega) (fun y hy w'' hb => one_r 1 erC none 0 [] _ (Deed.fill _ _) y w'' (hokx.out y hy) (fun h0 => absurd h0 (by simp)) (by simp)))
  have E2 := Lib.hid (fun w' (h : Rd encC 3 w' A1 xs) => show Calls Try.prog 58 #[.int .i64 2, lineV A1 xs.length c1 sz, .int .i64 f, .int .i64 t, .agg #[.int .i32 cg, .int .u8 cr, .bool ck], .slice none 0 0] w' (NewL w' (eachR xs f t cleanC) sz) from each_r 2 A1 c1 sz xs f t ⟨cg, cr, ck⟩ (.slice none 0 0) _ w' h (by omega) (fun y hy w'' hb => one_r 2 ⟨cg, cr, ck⟩ none 0 [] _ (Deed.clean _ _) y w'' (hokx.out y hy) (fun h0 => absurd h0 (by simp)) (by simp)))
  have E3 := Lib.hid (fun w' (h : Rd encC 3 w' A1 xs) (h2 : Ints w' AP p) => show Calls Try.prog 58 #[.int .i64 3, lineV A1 xs.length c1 sz, .int .i64 f, .int .i64 t, .agg #[.int .i32 cg, .int .u8 cr, .bool ck], .slice AP p.length cp] w' (NewL w' (eachR xs f t (applyC p)) sz) from each_r 3 A1 c1 sz xs f t ⟨cg, cr, ck⟩ (.slice AP p.length cp) _ w' h (by omega) (fun y hy w'' hb => one_r 3 ⟨cg, cr, ck⟩ AP cp p _ (Deed.change _ _) y w'' (hokx.out y hy) (h2.below hb) (by omega)))
  have E4 := Lib.hid (fun w' (h : Rd encC 3 w' A1 xs) (h2 : Ints w' AP p) => show Calls Try.prog 58 #[.int .i64 4, lineV A1 xs.length c1 sz, .int .i64 f, .int .i64 t, .agg #[.int .i32 cg, .int .u8 cr, .bool ck], .slice AP p.length cp] w' (NewL w' (eachR xs f t (flipC p)) sz) from each_r 4 A1 c1 sz xs f t ⟨cg, cr, ck⟩ (.slice AP p.length cp) _ w' h (by omega) (fun y hy w'' hb => one_r 4 ⟨cg, cr, ck⟩ AP cp p _ (Deed.flip _ _) y w'' (hokx.out y hy) (h2.below hb) (by omega)))
  have E5 := Lib.hid (fun w' (h : Rd encC 3 w' A1 xs) => show Calls Try.prog 58 #[.int .i64 5, lineV A1 xs.length c1 sz, .int .i64 f, .int .i64 t, .agg #[.int .i32 cg, .int .u8 cr, .bool ck], .slice none 0 0] w' (NewL w' (eachR xs f t (keepC ck)) sz) from each_r 5 A1 c1 sz xs f t ⟨cg, cr, ck⟩ (.slice none 0 0) _ w' h (by omega) (fun y hy w'' hb => one_r 5 ⟨cg, cr, ck⟩ none 0 [] _ (Deed.keep _ _) y w'' (hokx.out y hy) (fun h0 => absurd h0 (by simp)) (by simp)))
  have hr0 : (eachR xs f t fun _ => ⟨cg, cr, ck⟩).length ≤ 300 := by rw [eachR_len]; exact hx
  have hr1 : (eachR xs f t fun _ => erC).length ≤ 300 := by rw [eachR_len]; exact hx
  have hr2 : (eachR xs f t cleanC).length ≤ 300 := by rw [eachR_len]; exact hx
  have hr3 : (eachR xs f t (applyC p)).length ≤ 300 := by rw [eachR_len]; exact hx
  have hr4 : (eachR xs f t (flipC p)).length ≤ 300 := by rw [eachR_len]; exact hx
  have hr5 : (eachR xs f t (keepC ck)).length ≤ 300 := by rw [eachR_len]; exact hx
  generalize (eachR xs f t fun _ => ⟨cg, cr, ck⟩) = R0 at CF E1 hr0
  generalize (eachR xs f t fun _ => erC) = R1 at CE E1e hr1
  generalize (eachR xs f t cleanC) = R2 at CC E2 hr2
  generalize (eachR xs f t (applyC p)) = R3 at CH E3 hr3
  generalize (eachR xs f t (flipC p)) = R4 at CL E4 hr4
  generalize (eachR xs f t (keepC ck)) = R5 at CK E5 hr5
  clear hcap hIc
  go_upto_region 8 with (fail)
  generalize wc = wb at *
  go_cut [9] from 29 to 120 (fun s wx => PairsIn wb sz s wx)
  case first =>
    generalize wq.heap.size = z24 at *
    generalize hgw : w.heap.size = g at *
    refine wp_region_inv (by kernel_rfl) (by kernel_rfl) (EachI (lineV A xs0.length C sz) (.agg #[.int .i64 f, .int .i64 t, .int .i64 n]) (.agg #[.int .i32 cg, .int .u8 cr, .bool ck]) (.pointer (some ⟨g, 0, none⟩)) (.pointer (some ⟨g + 1, 0, none⟩)) (.pointer (some ⟨g + 1 + 1, 0, none⟩)) (.bool false) (.pointer (some ⟨HI, 0, none⟩)) (.slice AP p.length cp) (.bool true) (.bool false) (.agg #[.slice A xs0.length C, .int .i64 sz]) (lineV A1 xs.length c1 sz) u16 u17 (.pointer (some ⟨g + 1, 2, none⟩)) (.int .i64 n) (.pointer (some ⟨g + 1 + 1, 1, none⟩)) (.int .u8 cr) (.int .i64 cr) (.int .i64 (cr % 10)) (.slice (some ⟨z24, 0, none⟩) 2 2) u25 u26 u27 u28 (.agg #[.slice AI xs.length cI, .int .i64 sz]) (.agg #[.slice A1 xs.length c1, .int .i64 sz]) (.pointer (some ⟨g + 1, 0, none⟩)) (.pointer (some ⟨g + 1, 1, none⟩)) (.int .i64 f) (.int .i64 t) (.agg #[.int .i32 cg, .int .u8 cr, .bool ck]) (.slice AP p.length cp) (.agg #[.int .i32 32, .int .u8 0, .bool false]) (.pointer (some ⟨g + 1 + 1, 2, none⟩)) (.bool ck) wb R0 R1 R2 R3 R4 R5 sz) ?_ ?_ ?_
    · exact ⟨⟨undef, undef, undef, undef, undef, undef, undef, undef, undef, undef, undef, undef, undef, undef, undef, undef, undef, undef, undef, undef⟩, rfl, by (repeat' (first | (with_reducible exact Below.refl _ _) | (with_reducible refine Below.alloc ?_ ?_ _) | (with_reducible refine below_ext ?_ ?_ _) | (with_reducible refine Below.drew ?_) | (with_reducible refine below_drewN ?_ _) | (with_reducible refine Below.setCell ?_ ?_ _) | go_size | (simp only [go_sem]; omega) | (simp [go_sem]; done) | (simp [go_sem]; omega))), ⟨fun h => absurd h (by simp), fun h => absurd h (by simp), fun h => absurd h (by simp), fun h => absurd h (by simp), fun h => absurd h (by simp), fun h => absurd h (by simp), fun h => absurd h (by simp), fun h => absurd h (by simp), fun h => absurd h (by simp), fun h => absurd h (by simp), fun h => absurd h (by simp), fun h => absurd h (by simp), fun h => absurd h (by simp), fun h => absurd h (by simp), fun h => absurd h (by simp), fun h => absurd h (by simp), fun h => absurd h (by simp), fun h => absurd h (by simp), fun h => absurd h (by simp), fun h => absurd h (by simp)⟩⟩
    · show ∀ i, i < 93 → _
      refine below_succ ?_ ?_
      rotate_left
      · intro L a w hI hL hd
        obtain ⟨V, ha, hB, F⟩ := hI
        subst ha
        refine wpOp_at _ rfl fun K hK => ?_
        go_simp
        exact hK _ _ ⟨{ V with v9 := V.v120 }, rfl, hB, ⟨F.f6, F.f13, F.f14, F.f20, F.f27, F.f28, F.f34, F.f41, F.f42, F.f49, F.f57, F.f58, F.f65, F.f73, F.f74, F.f82, F.f89, F.f90, F.f91, fun _ => ⟨rfl, hd 91 (List.elem_iff.1 (by kernel_rfl))⟩⟩⟩
      refine below_succ ?_ ?_
      rotate_left
      · intro L a w hI hL hd
        obtain ⟨V, ha, hB, F⟩ := hI
        have P0 := F.f14 (hd 14 (List.elem_iff.1 (by kernel_rfl)))
        have P0' := P0
        obtain ⟨H0, A0', c0', B0', d0', e43, _⟩ := P0'
        have P1 := F.f28 (hd 28 (List.elem_iff.1 (by kernel_rfl)))
        have P1' := P1
        obtain ⟨H1, A1', c1', B1', d1', e57, _⟩ := P1'
        have P2 := F.f42 (hd 42 (List.elem_iff.1 (by kernel_rfl)))
        have P2' := P2
        obtain ⟨H2, A2', c2', B2', d2', e71, _⟩ := P2'
        have P3 := F.f58 (hd 58 (List.elem_iff.1 (by kernel_rfl)))
        have P3' := P3
        obtain ⟨H3, A3', c3', B3', d3', e87, _⟩ := P3'
        have P4 := F.f74 (hd 74 (List.elem_iff.1 (by kernel_rfl)))
        have P4' := P4
        obtain ⟨H4, A4', c4', B4', d4', e103, _⟩ := P4'
        have P5 := F.f90 (hd 90 (List.elem_iff.1 (by kernel_rfl)))
        have P5' := P5
        obtain ⟨H5, A5', c5', B5', d5', e119, _⟩ := P5'
        rw [e43] at P0
        rw [e57] at P1
        rw [e71] at P2
        rw [e87] at P3
        rw [e103] at P4
        rw [e119] at P5
        simp only [e43, e57, e71, e87, e103, e119] at ha
        subst ha
        refine wpOp_at _ rfl fun K hK => ?_
        go_simp
        have hb : Below w.heap.size w (w.alloc (.cells #[.slice (some ⟨H0, 0, none⟩) 2 2, .slice (some ⟨H1, 0, none⟩) 2 2, .slice (some ⟨H2, 0, none⟩) 2 2, .slice (some ⟨H3, 0, none⟩) 2 2, .slice (some ⟨H4, 0, none⟩) 2 2, .slice (some ⟨H5, 0, none⟩) 2 2] 95)) := (Below.refl _ _).alloc (Nat.le_refl _) _
        exact hK _ _ ⟨{ V with v120 := .slice (some ⟨w.heap.size, 0, none⟩) 6 6 }, by simp only [e43, e57, e71, e87, e103, e119, Nat.reduceBEq, Bool.false_or], hB.trans (hb.mono hB.size), ⟨fun h => (F.f6 h).grow hb, fun h => (F.f13 h).grow hb, fun h => (F.f14 h).grow hb, fun h => (F.f20 h).grow hb, fun h => (F.f27 h).grow hb, fun h => (F.f28 h).grow hb, fun h => (F.f34 h).grow hb, fun h => (F.f41 h).grow hb, fun h => (F.f42 h).grow hb, fun h => (F.f49 h).grow hb, fun h => (F.f57 h).grow hb, fun h => (F.f58 h).grow hb, fun h => (F.f65 h).grow hb, fun h => (F.f73 h).grow hb, fun h => (F.f74 h).grow hb, fun h => (F.f82 h).grow hb, fun h => (F.f89 h).grow hb, fun h => (F.f90 h).grow hb, fun _ => PairsF.new P0 P1 P2 P3 P4 P5 hr0 hr1 hr2 hr3 hr4 hr5, fun h => absurd (F.f92 h).2 (by rw [hL]; simp)⟩⟩
      refine below_succ ?_ ?_
      rotate_left
      · intro L a w hI hL hd
        obtain ⟨V, ha, hB, F⟩ := hI
        obtain ⟨A3, c3, e111, hO3⟩ := F.f82 (hd 82 (List.elem_iff.1 (by kernel_rfl)))
        obtain ⟨A5, c5, e118, hO5⟩ := F.f89 (hd 89 (List.elem_iff.1 (by kernel_rfl)))
        simp only [e111, e118] at ha
        subst ha
        refine wpOp_at _ rfl fun K hK => ?_
        go_simp
        have hb : Below w.heap.size w (w.alloc (.cells #[.slice A3 R5.length c3, .int .i64 sz, .slice A5 R5.length c5, .int .i64 sz] 70)) := (Below.refl _ _).alloc (Nat.le_refl _) _
        exact hK _ _ ⟨{ V with v119 := .slice (some ⟨w.heap.size, 0, none⟩) 2 2 }, by simp only [e111, e118, Nat.reduceBEq, Bool.false_or], hB.trans (hb.mono hB.size), ⟨fun h => (F.f6 h).grow hb, fun h => (F.f13 h).grow hb, fun h => (F.f14 h).grow hb, fun h => (F.f20 h).grow hb, fun h => (F.f27 h).grow hb, fun h => (F.f28 h).grow hb, fun h => (F.f34 h).grow hb, fun h => (F.f41 h).grow hb, fun h => (F.f42 h).grow hb, fun h => (F.f49 h).grow hb, fun h => (F.f57 h).grow hb, fun h => (F.f58 h).grow hb, fun h => (F.f65 h).grow hb, fun h => (F.f73 h).grow hb, fun h => (F.f74 h).grow hb, fun h => (F.f82 h).grow hb, fun h => (F.f89 h).grow hb, fun _ => PairF.new hO3 hO5, fun h => (F.f91 h).grow hb, F.f92⟩⟩
      refine below_succ ?_ ?_
      rotate_left
      · intro L a w hI hL hd
        obtain ⟨V, ha, hB, F⟩ := hI
        have e88 := hd 88 (List.elem_iff.1 (by kernel_rfl))
        have e87 := hd 87 (List.elem_iff.1 (by kernel_rfl))
        have e85 := hd 85 (List.elem_iff.1 (by kernel_rfl))
        have e83 := hd 83 (List.elem_iff.1 (by kernel_rfl))
        simp only [e88, e87, e85, e83, cond_true] at ha
        subst ha
        refine wpOp_at _ rfl fun K hK => ?_
        go_simp
        go_at_call 58
        refine (E5.out _ (XB.out.below hB)).mono ?_
        rintro _ _ ⟨A4, c4, x4, rfl, rfl, hO4⟩
        dsimp only
        have hb : Below w.heap.size w (ext w x4) := below_of_ext w x4
        exact hK _ _ ⟨{ V with v118 := .agg #[.slice A4 R5.length c4, .int .i64 sz] }, by simp only [e88, e87, e85, e83, cond_true, Nat.reduceBEq, Bool.false_or, Bool.or_true, Act.put, List.setIfInBounds_toArray, List.set_cons_succ, List.set_cons_zero], hB.trans (hb.mono hB.size), ⟨fun h => (F.f6 h).grow hb, fun h => (F.f13 h).grow hb, fun h => (F.f14 h).grow hb, fun h => (F.f20 h).grow hb, fun h => (F.f27 h).grow hb, fun h => (F.f28 h).grow hb, fun h => (F.f34 h).grow hb, fun h => (F.f41 h).grow hb, fun h => (F.f42 h).grow hb, fun h => (F.f49 h).grow hb, fun h => (F.f57 h).grow hb, fun h => (F.f58 h).grow hb, fun h => (F.f65 h).grow hb, fun h => (F.f73 h).grow hb, fun h => (F.f74 h).grow hb, fun h => (F.f82 h).grow hb, fun _ => RowF.of hB.size hO4, fun h => (F.f90 h).grow hb, fun h => (F.f91 h).grow hb, F.f92⟩⟩
      refine below_succ ?_ ?_
      rotate_left
      · intro L a w hI hL hd
        obtain ⟨V, ha, hB, F⟩ := hI
        have k0' := (hB.cell (p := ⟨g + 1 + 1, 0, none⟩) hz).trans k0
        have k1' := (hB.cell (p := ⟨g + 1 + 1, 1, none⟩) hz).trans k1
        have k2' := (hB.cell (p := ⟨g + 1 + 1, 2, none⟩) hz).trans k2
        subst ha
        refine wpOp_at _ rfl fun K hK => ?_
        go_simp
        exact hK _ _ ⟨V, rfl, hB, ⟨F.f6, F.f13, F.f14, F.f20, F.f27, F.f28, F.f34, F.f41, F.f42, F.f49, F.f57, F.f58, F.f65, F.f73, F.f74, F.f82, F.f89, F.f90, F.f91, F.f92⟩⟩
      refine below_succ ?_ ?_
      rotate_left
      · intro L a w hI hL hd
        obtain ⟨V, ha, hB, F⟩ := hI
        have s1' := (hB.cell (p := ⟨g + 1, 1, none⟩) hz1).trans s1
        have e := hd 86 (List.elem_iff.1 (by kernel_rfl))
        simp only [e, cond_true] at ha
        subst ha
        refine wpOp_at _ rfl fun K hK => ?_
        go_simp
        exact hK _ _ ⟨V, by simp only [e, cond_true, Nat.reduceBEq, Bool.false_or, Bool.true_or, BEq.rfl], hB, ⟨F.f6, F.f13, F.f14, F.f20, F.f27, F.f28, F.f34, F.f41, F.f42, F.f49, F.f57, F.f58, F.f65, F.f73, F.f74, F.f82, F.f89, F.f90, F.f91, F.f92⟩⟩
      refine below_succ ?_ ?_
      rotate_left
      · intro L a w hI hL hd
        obtain ⟨V, ha, hB, F⟩ := hI
        subst ha
        refine wpOp_at _ rfl fun K hK => ?_
        go_simp
        exact hK _ _ ⟨V, rfl, hB, ⟨F.f6, F.f13, F.f14, F.f20, F.f27, F.f28, F.f34, F.f41, F.f42, F.f49, F.f57, F.f58, F.f65, F.f73, F.f74, F.f82, F.f89, F.f90, F.f91, F.f92⟩⟩
      refine below_succ ?_ ?_
      rotate_left
      · intro L a w hI hL hd
        obtain ⟨V, ha, hB, F⟩ := hI
        have s0' := (hB.cell (p := ⟨g + 1, 0, none⟩) hz1).trans s0
        have e := hd 84 (List.elem_iff.1 (by kernel_rfl))
        simp only [e, cond_true] at ha
        subst ha
        refine wpOp_at _ rfl fun K hK => ?_
        go_simp
        exact hK _ _ ⟨V, by simp only [e, cond_true, Nat.reduceBEq, Bool.false_or, Bool.true_or, BEq.rfl], hB, ⟨F.f6, F.f13, F.f14, F.f20, F.f27, F.f28, F.f34, F.f41, F.f42, F.f49, F.f57, F.f58, F.f65, F.f73, F.f74, F.f82, F.f89, F.f90, F.f91, F.f92⟩⟩
      refine below_succ ?_ ?_
      rotate_left
      · intro L a w hI hL hd
        obtain ⟨V, ha, hB, F⟩ := hI
        subst ha
        refine wpOp_at _ rfl fun K hK => ?_
        go_simp
        exact hK _ _ ⟨V, rfl, hB, ⟨F.f6, F.f13, F.f14, F.f20, F.f27, F.f28, F.f34, F.f41, F.f42, F.f49, F.f57, F.f58, F.f65, F.f73, F.f74, F.f82, F.f89, F.f90, F.f91, F.f92⟩⟩
      refine below_succ ?_ ?_
      rotate_left
      · intro L a w hI hL hd
        obtain ⟨V, ha, hB, F⟩ := hI
        have l0' := (hB.cell (p := ⟨g, 0, none⟩) hz0).trans l0
        have l1' := (hB.cell (p := ⟨g, 1, none⟩) hz0).trans l1
        subst ha
        refine wpOp_at _ rfl fun K hK => ?_
        go_simp
        exact hK _ _ ⟨V, rfl, hB, ⟨F.f6, F.f13, F.f14, F.f20, F.f27, F.f28, F.f34, F.f41, F.f42, F.f49, F.f57, F.f58, F.f65, F.f73, F.f74, F.f82, F.f89, F.f90, F.f91, F.f92⟩⟩
      refine below_succ ?_ ?_
      rotate_left
      · intro L a w hI hL hd
        obtain ⟨V, ha, hB, F⟩ := hI
        have e81 := hd 81 (List.elem_iff.1 (by kernel_rfl))
        have e79 := hd 79 (List.elem_iff.1 (by kernel_rfl))
        have e77 := hd 77 (List.elem_iff.1 (by kernel_rfl))
        have e75 := hd 75 (List.elem_iff.1 (by kernel_rfl))
        simp only [e81, e79, e77, e75, cond_true] at ha
        subst ha
        refine wpOp_at _ rfl fun K hK => ?_
        go_simp
        go_at_call 73
        refine (CK.out _ (XI.out.below hB)).mono ?_
        rintro _ _ ⟨A4, c4, x4, rfl, rfl, hO4⟩
        dsimp only
        have hb : Below w.heap.size w (ext w x4) := below_of_ext w x4
        exact hK _ _ ⟨{ V with v111 := .agg #[.slice A4 R5.length c4, .int .i64 sz] }, by simp only [e81, e79, e77, e75, cond_true, Nat.reduceBEq, Bool.false_or, Bool.or_true, Act.put, List.setIfInBounds_toArray, List.set_cons_succ, List.set_cons_zero], hB.trans (hb.mono hB.size), ⟨fun h => (F.f6 h).grow hb, fun h => (F.f13 h).grow hb, fun h => (F.f14 h).grow hb, fun h => (F.f20 h).grow hb, fun h => (F.f27 h).grow hb, fun h => (F.f28 h).grow hb, fun h => (F.f34 h).grow hb, fun h => (F.f41 h).grow hb, fun h => (F.f42 h).grow hb, fun h => (F.f49 h).grow hb, fun h => (F.f57 h).grow hb, fun h => (F.f58 h).grow hb, fun h => (F.f65 h).grow hb, fun h => (F.f73 h).grow hb, fun h => (F.f74 h).grow hb, fun _ => RowF.of hB.size hO4, fun h => (F.f89 h).grow hb, fun h => (F.f90 h).grow hb, fun h => (F.f91 h).grow hb, F.f92⟩⟩
      refine below_succ ?_ ?_
      rotate_left
      · intro L a w hI hL hd
        obtain ⟨V, ha, hB, F⟩ := hI
        have k2' := (hB.cell (p := ⟨g + 1 + 1, 2, none⟩) hz).trans k2
        have e := hd 80 (List.elem_iff.1 (by kernel_rfl))
        simp only [e, cond_true] at ha
        subst ha
        refine wpOp_at _ rfl fun K hK => ?_
        go_simp
        exact hK _ _ ⟨V, by simp only [e, cond_true, Nat.reduceBEq, Bool.false_or, Bool.true_or, BEq.rfl], hB, ⟨F.f6, F.f13, F.f14, F.f20, F.f27, F.f28, F.f34, F.f41, F.f42, F.f49, F.f57, F.f58, F.f65, F.f73, F.f74, F.f82, F.f89, F.f90, F.f91, F.f92⟩⟩
      refine below_succ ?_ ?_
      rotate_left
      · intro L a w hI hL hd
        obtain ⟨V, ha, hB, F⟩ := hI
        subst ha
        refine wpOp_at _ rfl fun K hK => ?_
        go_simp
        exact hK _ _ ⟨V, rfl, hB, ⟨F.f6, F.f13, F.f14, F.f20, F.f27, F.f28, F.f34, F.f41, F.f42, F.f49, F.f57, F.f58, F.f65, F.f73, F.f74, F.f82, F.f89, F.f90, F.f91, F.f92⟩⟩
      refine below_succ ?_ ?_
      rotate_left
      · intro L a w hI hL hd
        obtain ⟨V, ha, hB, F⟩ := hI
        have s1' := (hB.cell (p := ⟨g + 1, 1, none⟩) hz1).trans s1
        have e := hd 78 (List.elem_iff.1 (by kernel_rfl))
        simp only [e, cond_true] at ha
        subst ha
        refine wpOp_at _ rfl fun K hK => ?_
        go_simp
        exact hK _ _ ⟨V, by simp only [e, cond_true, Nat.reduceBEq, Bool.false_or, Bool.true_or, BEq.rfl], hB, ⟨F.f6, F.f13, F.f14, F.f20, F.f27, F.f28, F.f34, F.f41, F.f42, F.f49, F.f57, F.f58, F.f65, F.f73, F.f74, F.f82, F.f89, F.f90, F.f91, F.f92⟩⟩
      refine below_succ ?_ ?_
      rotate_left
      · intro L a w hI hL hd
        obtain ⟨V, ha, hB, F⟩ := hI
        subst ha
        refine wpOp_at _ rfl fun K hK => ?_
        go_simp
        exact hK _ _ ⟨V, rfl, hB, ⟨F.f6, F.f13, F.f14, F.f20, F.f27, F.f28, F.f34, F.f41, F.f42, F.f49, F.f57, F.f58, F.f65, F.f73, F.f74, F.f82, F.f89, F.f90, F.f91, F.f92⟩⟩
      refine below_succ ?_ ?_
      rotate_left
      · intro L a w hI hL hd
        obtain ⟨V, ha, hB, F⟩ := hI
        have s0' := (hB.cell (p := ⟨g + 1, 0, none⟩) hz1).trans s0
        have e := hd 76 (List.elem_iff.1 (by kernel_rfl))
        simp only [e, cond_true] at ha
        subst ha
        refine wpOp_at _ rfl fun K hK => ?_
        go_simp
        exact hK _ _ ⟨V, by simp only [e, cond_true, Nat.reduceBEq, Bool.false_or, Bool.true_or, BEq.rfl], hB, ⟨F.f6, F.f13, F.f14, F.f20, F.f27, F.f28, F.f34, F.f41, F.f42, F.f49, F.f57, F.f58, F.f65, F.f73, F.f74, F.f82, F.f89, F.f90, F.f91, F.f92⟩⟩
      refine below_succ ?_ ?_
      rotate_left
      · intro L a w hI hL hd
        obtain ⟨V, ha, hB, F⟩ := hI
        subst ha
        refine wpOp_at _ rfl fun K hK => ?_
        go_simp
        exact hK _ _ ⟨V, rfl, hB, ⟨F.f6, F.f13, F.f14, F.f20, F.f27, F.f28, F.f34, F.f41, F.f42, F.f49, F.f57, F.f58, F.f65, F.f73, F.f74, F.f82, F.f89, F.f90, F.f91, F.f92⟩⟩
      refine below_succ ?_ ?_
      rotate_left
      · intro L a w hI hL hd
        obtain ⟨V, ha, hB, F⟩ := hI
        have i0' := (hB.cell (p := ⟨HI, 0, none⟩) hI2).trans i0
        have i1' := (hB.cell (p := ⟨HI, 1, none⟩) hI2).trans i1
        subst ha
        refine wpOp_at _ rfl fun K hK => ?_
        go_simp
        exact hK _ _ ⟨V, rfl, hB, ⟨F.f6, F.f13, F.f14, F.f20, F.f27, F.f28, F.f34, F.f41, F.f42, F.f49, F.f57, F.f58, F.f65, F.f73, F.f74, F.f82, F.f89, F.f90, F.f91, F.f92⟩⟩
      refine below_succ ?_ ?_
      rotate_left
      · intro L a w hI hL hd
        obtain ⟨V, ha, hB, F⟩ := hI
        obtain ⟨A3, c3, e94, hO3⟩ := F.f65 (hd 65 (List.elem_iff.1 (by kernel_rfl)))
        obtain ⟨A5, c5, e102, hO5⟩ := F.f73 (hd 73 (List.elem_iff.1 (by kernel_rfl)))
        simp only [e94, e102] at ha
        subst ha
        refine wpOp_at _ rfl fun K hK => ?_
        go_simp
        have hb : Below w.heap.size w (w.alloc (.cells #[.slice A3 R4.length c3, .int .i64 sz, .slice A5 R4.length c5, .int .i64 sz] 70)) := (Below.refl _ _).alloc (Nat.le_refl _) _
        exact hK _ _ ⟨{ V with v103 := .slice (some ⟨w.heap.size, 0, none⟩) 2 2 }, by simp only [e94, e102, Nat.reduceBEq, Bool.false_or], hB.trans (hb.mono hB.size), ⟨fun h => (F.f6 h).grow hb, fun h => (F.f13 h).grow hb, fun h => (F.f14 h).grow hb, fun h => (F.f20 h).grow hb, fun h => (F.f27 h).grow hb, fun h => (F.f28 h).grow hb, fun h => (F.f34 h).grow hb, fun h => (F.f41 h).grow hb, fun h => (F.f42 h).grow hb, fun h => (F.f49 h).grow hb, fun h => (F.f57 h).grow hb, fun h => (F.f58 h).grow hb, fun h => (F.f65 h).grow hb, fun h => (F.f73 h).grow hb, fun _ => PairF.new hO3 hO5, fun h => (F.f82 h).grow hb, fun h => (F.f89 h).grow hb, fun h => (F.f90 h).grow hb, fun h => (F.f91 h).grow hb, F.f92⟩⟩
      refine below_succ ?_ ?_
      rotate_left
      · intro L a w hI hL hd
        obtain ⟨V, ha, hB, F⟩ := hI
        have e72 := hd 72 (List.elem_iff.1 (by kernel_rfl))
        have e71 := hd 71 (List.elem_iff.1 (by kernel_rfl))
        have e70 := hd 70 (List.elem_iff.1 (by kernel_rfl))
        have e68 := hd 68 (List.elem_iff.1 (by kernel_rfl))
        have e66 := hd 66 (List.elem_iff.1 (by kernel_rfl))
        simp only [e72, e71, e70, e68, e66, cond_true] at ha
        subst ha
        refine wpOp_at _ rfl fun K hK => ?_
        go_simp
        go_at_call 58
        refine (E4.out _ (XB.out.below hB) (XP.out.below hB)).mono ?_
        rintro _ _ ⟨A4, c4, x4, rfl, rfl, hO4⟩
        dsimp only
        have hb : Below w.heap.size w (ext w x4) := below_of_ext w x4
        exact hK _ _ ⟨{ V with v102 := .agg #[.slice A4 R4.length c4, .int .i64 sz] }, by simp only [e72, e71, e70, e68, e66, cond_true, Nat.reduceBEq, Bool.false_or, Bool.or_true, Act.put, List.setIfInBounds_toArray, List.set_cons_succ, List.set_cons_zero], hB.trans (hb.mono hB.size), ⟨fun h => (F.f6 h).grow hb, fun h => (F.f13 h).grow hb, fun h => (F.f14 h).grow hb, fun h => (F.f20 h).grow hb, fun h => (F.f27 h).grow hb, fun h => (F.f28 h).grow hb, fun h => (F.f34 h).grow hb, fun h => (F.f41 h).grow hb, fun h => (F.f42 h).grow hb, fun h => (F.f49 h).grow hb, fun h => (F.f57 h).grow hb, fun h => (F.f58 h).grow hb, fun h => (F.f65 h).grow hb, fun _ => RowF.of hB.size hO4, fun h => (F.f74 h).grow hb, fun h => (F.f82 h).grow hb, fun h => (F.f89 h).grow hb, fun h => (F.f90 h).grow hb, fun h => (F.f91 h).grow hb, F.f92⟩⟩
      refine below_succ ?_ ?_
      rotate_left
      · intro L a w hI hL hd
        obtain ⟨V, ha, hB, F⟩ := hI
        subst ha
        refine wpOp_at _ rfl fun K hK => ?_
        go_simp
        exact hK _ _ ⟨V, rfl, hB, ⟨F.f6, F.f13, F.f14, F.f20, F.f27, F.f28, F.f34, F.f41, F.f42, F.f49, F.f57, F.f58, F.f65, F.f73, F.f74, F.f82, F.f89, F.f90, F.f91, F.f92⟩⟩
      refine below_succ ?_ ?_
      rotate_left
      · intro L a w hI hL hd
        obtain ⟨V, ha, hB, F⟩ := hI
        have k0' := (hB.cell (p := ⟨g + 1 + 1, 0, none⟩) hz).trans k0
        have k1' := (hB.cell (p := ⟨g + 1 + 1, 1, none⟩) hz).trans k1
        have k2' := (hB.cell (p := ⟨g + 1 + 1, 2, none⟩) hz).trans k2
        subst ha
        refine wpOp_at _ rfl fun K hK => ?_
        go_simp
        exact hK _ _ ⟨V, rfl, hB, ⟨F.f6, F.f13, F.f14, F.f20, F.f27, F.f28, F.f34, F.f41, F.f42, F.f49, F.f57, F.f58, F.f65, F.f73, F.f74, F.f82, F.f89, F.f90, F.f91, F.f92⟩⟩
      refine below_succ ?_ ?_
      rotate_left
      · intro L a w hI hL hd
        obtain ⟨V, ha, hB, F⟩ := hI
        have s1' := (hB.cell (p := ⟨g + 1, 1, none⟩) hz1).trans s1
        have e := hd 69 (List.elem_iff.1 (by kernel_rfl))
        simp only [e, cond_true] at ha
        subst ha
        refine wpOp_at _ rfl fun K hK => ?_
        go_simp
        exact hK _ _ ⟨V, by simp only [e, cond_true, Nat.reduceBEq, Bool.false_or, Bool.true_or, BEq.rfl], hB, ⟨F.f6, F.f13, F.f14, F.f20, F.f27, F.f28, F.f34, F.f41, F.f42, F.f49, F.f57, F.f58, F.f65, F.f73, F.f74, F.f82, F.f89, F.f90, F.f91, F.f92⟩⟩
      refine below_succ ?_ ?_
      rotate_left
      · intro L a w hI hL hd
        obtain ⟨V, ha, hB, F⟩ := hI
        subst ha
        refine wpOp_at _ rfl fun K hK => ?_
        go_simp
        exact hK _ _ ⟨V, rfl, hB, ⟨F.f6, F.f13, F.f14, F.f20, F.f27, F.f28, F.f34, F.f41, F.f42, F.f49, F.f57, F.f58, F.f65, F.f73, F.f74, F.f82, F.f89, F.f90, F.f91, F.f92⟩⟩
      refine below_succ ?_ ?_
      rotate_left
      · intro L a w hI hL hd
        obtain ⟨V, ha, hB, F⟩ := hI
        have s0' := (hB.cell (p := ⟨g + 1, 0, none⟩) hz1).trans s0
        have e := hd 67 (List.elem_iff.1 (by kernel_rfl))
        simp only [e, cond_true] at ha
        subst ha
        refine wpOp_at _ rfl fun K hK => ?_
        go_simp
        exact hK _ _ ⟨V, by simp only [e, cond_true, Nat.reduceBEq, Bool.false_or, Bool.true_or, BEq.rfl], hB, ⟨F.f6, F.f13, F.f14, F.f20, F.f27, F.f28, F.f34, F.f41, F.f42, F.f49, F.f57, F.f58, F.f65, F.f73, F.f74, F.f82, F.f89, F.f90, F.f91, F.f92⟩⟩
      refine below_succ ?_ ?_
      rotate_left
      · intro L a w hI hL hd
        obtain ⟨V, ha, hB, F⟩ := hI
        subst ha
        refine wpOp_at _ rfl fun K hK => ?_
        go_simp
        exact hK _ _ ⟨V, rfl, hB, ⟨F.f6, F.f13, F.f14, F.f20, F.f27, F.f28, F.f34, F.f41, F.f42, F.f49, F.f57, F.f58, F.f65, F.f73, F.f74, F.f82, F.f89, F.f90, F.f91, F.f92⟩⟩
      refine below_succ ?_ ?_
      rotate_left
      · intro L a w hI hL hd
        obtain ⟨V, ha, hB, F⟩ := hI
        have l0' := (hB.cell (p := ⟨g, 0, none⟩) hz0).trans l0
        have l1' := (hB.cell (p := ⟨g, 1, none⟩) hz0).trans l1
        subst ha
        refine wpOp_at _ rfl fun K hK => ?_
        go_simp
        exact hK _ _ ⟨V, rfl, hB, ⟨F.f6, F.f13, F.f14, F.f20, F.f27, F.f28, F.f34, F.f41, F.f42, F.f49, F.f57, F.f58, F.f65, F.f73, F.f74, F.f82, F.f89, F.f90, F.f91, F.f92⟩⟩
      refine below_succ ?_ ?_
      rotate_left
      · intro L a w hI hL hd
        obtain ⟨V, ha, hB, F⟩ := hI
        have e64 := hd 64 (List.elem_iff.1 (by kernel_rfl))
        have e63 := hd 63 (List.elem_iff.1 (by kernel_rfl))
        have e61 := hd 61 (List.elem_iff.1 (by kernel_rfl))
        have e59 := hd 59 (List.elem_iff.1 (by kernel_rfl))
        simp only [e64, e63, e61, e59, cond_true] at ha
        subst ha
        refine wpOp_at _ rfl fun K hK => ?_
        go_simp
        go_at_call 72
        refine (CL.out _ (XI.out.below hB) (XP.out.below hB)).mono ?_
        rintro _ _ ⟨A4, c4, x4, rfl, rfl, hO4⟩
        dsimp only
        have hb : Below w.heap.size w (ext w x4) := below_of_ext w x4
        exact hK _ _ ⟨{ V with v94 := .agg #[.slice A4 R4.length c4, .int .i64 sz] }, by simp only [e64, e63, e61, e59, cond_true, Nat.reduceBEq, Bool.false_or, Bool.or_true, Act.put, List.setIfInBounds_toArray, List.set_cons_succ, List.set_cons_zero], hB.trans (hb.mono hB.size), ⟨fun h => (F.f6 h).grow hb, fun h => (F.f13 h).grow hb, fun h => (F.f14 h).grow hb, fun h => (F.f20 h).grow hb, fun h => (F.f27 h).grow hb, fun h => (F.f28 h).grow hb, fun h => (F.f34 h).grow hb, fun h => (F.f41 h).grow hb, fun h => (F.f42 h).grow hb, fun h => (F.f49 h).grow hb, fun h => (F.f57 h).grow hb, fun h => (F.f58 h).grow hb, fun _ => RowF.of hB.size hO4, fun h => (F.f73 h).grow hb, fun h => (F.f74 h).grow hb, fun h => (F.f82 h).grow hb, fun h => (F.f89 h).grow hb, fun h => (F.f90 h).grow hb, fun h => (F.f91 h).grow hb, F.f92⟩⟩
      refine below_succ ?_ ?_
      rotate_left
      · intro L a w hI hL hd
        obtain ⟨V, ha, hB, F⟩ := hI
        subst ha
        refine wpOp_at _ rfl fun K hK => ?_
        go_simp
        exact hK _ _ ⟨V, rfl, hB, ⟨F.f6, F.f13, F.f14, F.f20, F.f27, F.f28, F.f34, F.f41, F.f42, F.f49, F.f57, F.f58, F.f65, F.f73, F.f74, F.f82, F.f89, F.f90, F.f91, F.f92⟩⟩
      refine below_succ ?_ ?_
      rotate_left
      · intro L a w hI hL hd
        obtain ⟨V, ha, hB, F⟩ := hI
        have s1' := (hB.cell (p := ⟨g + 1, 1, none⟩) hz1).trans s1
        have e := hd 62 (List.elem_iff.1 (by kernel_rfl))
        simp only [e, cond_true] at ha
        subst ha
        refine wpOp_at _ rfl fun K hK => ?_
        go_simp
        exact hK _ _ ⟨V, by simp only [e, cond_true, Nat.reduceBEq, Bool.false_or, Bool.true_or, BEq.rfl], hB, ⟨F.f6, F.f13, F.f14, F.f20, F.f27, F.f28, F.f34, F.f41, F.f42, F.f49, F.f57, F.f58, F.f65, F.f73, F.f74, F.f82, F.f89, F.f90, F.f91, F.f92⟩⟩
      refine below_succ ?_ ?_
      rotate_left
      · intro L a w hI hL hd
        obtain ⟨V, ha, hB, F⟩ := hI
        subst ha
        refine wpOp_at _ rfl fun K hK => ?_
        go_simp
        exact hK _ _ ⟨V, rfl, hB, ⟨F.f6, F.f13, F.f14, F.f20, F.f27, F.f28, F.f34, F.f41, F.f42, F.f49, F.f57, F.f58, F.f65, F.f73, F.f74, F.f82, F.f89, F.f90, F.f91, F.f92⟩⟩
      refine below_succ ?_ ?_
      rotate_left
      · intro L a w hI hL hd
        obtain ⟨V, ha, hB, F⟩ := hI
        have s0' := (hB.cell (p := ⟨g + 1, 0, none⟩) hz1).trans s0
        have e := hd 60 (List.elem_iff.1 (by kernel_rfl))
        simp only [e, cond_true] at ha
        subst ha
        refine wpOp_at _ rfl fun K hK => ?_
        go_simp
        exact hK _ _ ⟨V, by simp only [e, cond_true, Nat.reduceBEq, Bool.false_or, Bool.true_or, BEq.rfl], hB, ⟨F.f6, F.f13, F.f14, F.f20, F.f27, F.f28, F.f34, F.f41, F.f42, F.f49, F.f57, F.f58, F.f65, F.f73, F.f74, F.f82, F.f89, F.f90, F.f91, F.f92⟩⟩
      refine below_succ ?_ ?_
      rotate_left
      · intro L a w hI hL hd
        obtain ⟨V, ha, hB, F⟩ := hI
        subst ha
        refine wpOp_at _ rfl fun K hK => ?_
        go_simp
        exact hK _ _ ⟨V, rfl, hB, ⟨F.f6, F.f13, F.f14, F.f20, F.f27, F.f28, F.f34, F.f41, F.f42, F.f49, F.f57, F.f58, F.f65, F.f73, F.f74, F.f82, F.f89, F.f90, F.f91, F.f92⟩⟩
      refine below_succ ?_ ?_
      rotate_left
      · intro L a w hI hL hd
        obtain ⟨V, ha, hB, F⟩ := hI
        have i0' := (hB.cell (p := ⟨HI, 0, none⟩) hI2).trans i0
        have i1' := (hB.cell (p := ⟨HI, 1, none⟩) hI2).trans i1
        subst ha
        refine wpOp_at _ rfl fun K hK => ?_
        go_simp
        exact hK _ _ ⟨V, rfl, hB, ⟨F.f6, F.f13, F.f14, F.f20, F.f27, F.f28, F.f34, F.f41, F.f42, F.f49, F.f57, F.f58, F.f65, F.f73, F.f74, F.f82, F.f89, F.f90, F.f91, F.f92⟩⟩
      refine below_succ ?_ ?_
      rotate_left
      · intro L a w hI hL hd
        obtain ⟨V, ha, hB, F⟩ := hI
        obtain ⟨A3, c3, e78, hO3⟩ := F.f49 (hd 49 (List.elem_iff.1 (by kernel_rfl)))
        obtain ⟨A5, c5, e86, hO5⟩ := F.f57 (hd 57 (List.elem_iff.1 (by kernel_rfl)))
        simp only [e78, e86] at ha
        subst ha
        refine wpOp_at _ rfl fun K hK => ?_
        go_simp
        have hb : Below w.heap.size w (w.alloc (.cells #[.slice A3 R3.length c3, .int .i64 sz, .slice A5 R3.length c5, .int .i64 sz] 70)) := (Below.refl _ _).alloc (Nat.le_refl _) _
        exact hK _ _ ⟨{ V with v87 := .slice (some ⟨w.heap.size, 0, none⟩) 2 2 }, by simp only [e78, e86, Nat.reduceBEq, Bool.false_or], hB.trans (hb.mono hB.size), ⟨fun h => (F.f6 h).grow hb, fun h => (F.f13 h).grow hb, fun h => (F.f14 h).grow hb, fun h => (F.f20 h).grow hb, fun h => (F.f27 h).grow hb, fun h => (F.f28 h).grow hb, fun h => (F.f34 h).grow hb, fun h => (F.f41 h).grow hb, fun h => (F.f42 h).grow hb, fun h => (F.f49 h).grow hb, fun h => (F.f57 h).grow hb, fun _ => PairF.new hO3 hO5, fun h => (F.f65 h).grow hb, fun h => (F.f73 h).grow hb, fun h => (F.f74 h).grow hb, fun h => (F.f82 h).grow hb, fun h => (F.f89 h).grow hb, fun h => (F.f90 h).grow hb, fun h => (F.f91 h).grow hb, F.f92⟩⟩
      refine below_succ ?_ ?_
      rotate_left
      · intro L a w hI hL hd
        obtain ⟨V, ha, hB, F⟩ := hI
        have e56 := hd 56 (List.elem_iff.1 (by kernel_rfl))
        have e55 := hd 55 (List.elem_iff.1 (by kernel_rfl))
        have e54 := hd 54 (List.elem_iff.1 (by kernel_rfl))
        have e52 := hd 52 (List.elem_iff.1 (by kernel_rfl))
        have e50 := hd 50 (List.elem_iff.1 (by kernel_rfl))
        simp only [e56, e55, e54, e52, e50, cond_true] at ha
        subst ha
        refine wpOp_at _ rfl fun K hK => ?_
        go_simp
        go_at_call 58
        refine (E3.out _ (XB.out.below hB) (XP.out.below hB)).mono ?_
        rintro _ _ ⟨A4, c4, x4, rfl, rfl, hO4⟩
        dsimp only
        have hb : Below w.heap.size w (ext w x4) := below_of_ext w x4
        exact hK _ _ ⟨{ V with v86 := .agg #[.slice A4 R3.length c4, .int .i64 sz] }, by simp only [e56, e55, e54, e52, e50, cond_true, Nat.reduceBEq, Bool.false_or, Bool.or_true, Act.put, List.setIfInBounds_toArray, List.set_cons_succ, List.set_cons_zero], hB.trans (hb.mono hB.size), ⟨fun h => (F.f6 h).grow hb, fun h => (F.f13 h).grow hb, fun h => (F.f14 h).grow hb, fun h => (F.f20 h).grow hb, fun h => (F.f27 h).grow hb, fun h => (F.f28 h).grow hb, fun h => (F.f34 h).grow hb, fun h => (F.f41 h).grow hb, fun h => (F.f42 h).grow hb, fun h => (F.f49 h).grow hb, fun _ => RowF.of hB.size hO4, fun h => (F.f58 h).grow hb, fun h => (F.f65 h).grow hb, fun h => (F.f73 h).grow hb, fun h => (F.f74 h).grow hb, fun h => (F.f82 h).grow hb, fun h => (F.f89 h).grow hb, fun h => (F.f90 h).grow hb, fun h => (F.f91 h).grow hb, F.f92⟩⟩
      refine below_succ ?_ ?_
      rotate_left
      · intro L a w hI hL hd
        obtain ⟨V, ha, hB, F⟩ := hI
        subst ha
        refine wpOp_at _ rfl fun K hK => ?_
        go_simp
        exact hK _ _ ⟨V, rfl, hB, ⟨F.f6, F.f13, F.f14, F.f20, F.f27, F.f28, F.f34, F.f41, F.f42, F.f49, F.f57, F.f58, F.f65, F.f73, F.f74, F.f82, F.f89, F.f90, F.f91, F.f92⟩⟩
      refine below_succ ?_ ?_
      rotate_left
      · intro L a w hI hL hd
        obtain ⟨V, ha, hB, F⟩ := hI
        have k0' := (hB.cell (p := ⟨g + 1 + 1, 0, none⟩) hz).trans k0
        have k1' := (hB.cell (p := ⟨g + 1 + 1, 1, none⟩) hz).trans k1
        have k2' := (hB.cell (p := ⟨g + 1 + 1, 2, none⟩) hz).trans k2
        subst ha
        refine wpOp_at _ rfl fun K hK => ?_
        go_simp
        exact hK _ _ ⟨V, rfl, hB, ⟨F.f6, F.f13, F.f14, F.f20, F.f27, F.f28, F.f34, F.f41, F.f42, F.f49, F.f57, F.f58, F.f65, F.f73, F.f74, F.f82, F.f89, F.f90, F.f91, F.f92⟩⟩
      refine below_succ ?_ ?_
      rotate_left
      · intro L a w hI hL hd
        obtain ⟨V, ha, hB, F⟩ := hI
        have s1' := (hB.cell (p := ⟨g + 1, 1, none⟩) hz1).trans s1
        have e := hd 53 (List.elem_iff.1 (by kernel_rfl))
        simp only [e, cond_true] at ha
        subst ha
        refine wpOp_at _ rfl fun K hK => ?_
        go_simp
        exact hK _ _ ⟨V, by simp only [e, cond_true, Nat.reduceBEq, Bool.false_or, Bool.true_or, BEq.rfl], hB, ⟨F.f6, F.f13, F.f14, F.f20, F.f27, F.f28, F.f34, F.f41, F.f42, F.f49, F.f57, F.f58, F.f65, F.f73, F.f74, F.f82, F.f89, F.f90, F.f91, F.f92⟩⟩
      refine below_succ ?_ ?_
      rotate_left
      · intro L a w hI hL hd
        obtain ⟨V, ha, hB, F⟩ := hI
        subst ha
        refine wpOp_at _ rfl fun K hK => ?_
        go_simp
        exact hK _ _ ⟨V, rfl, hB, ⟨F.f6, F.f13, F.f14, F.f20, F.f27, F.f28, F.f34, F.f41, F.f42, F.f49, F.f57, F.f58, F.f65, F.f73, F.f74, F.f82, F.f89, F.f90, F.f91, F.f92⟩⟩
      refine below_succ ?_ ?_
      rotate_left
      · intro L a w hI hL hd
        obtain ⟨V, ha, hB, F⟩ := hI
        have s0' := (hB.cell (p := ⟨g + 1, 0, none⟩) hz1).trans s0
        have e := hd 51 (List.elem_iff.1 (by kernel_rfl))
        simp only [e, cond_true] at ha
        subst ha
        refine wpOp_at _ rfl fun K hK => ?_
        go_simp
        exact hK _ _ ⟨V, by simp only [e, cond_true, Nat.reduceBEq, Bool.false_or, Bool.true_or, BEq.rfl], hB, ⟨F.f6, F.f13, F.f14, F.f20, F.f27, F.f28, F.f34, F.f41, F.f42, F.f49, F.f57, F.f58, F.f65, F.f73, F.f74, F.f82, F.f89, F.f90, F.f91, F.f92⟩⟩
      refine below_succ ?_ ?_
      rotate_left
      · intro L a w hI hL hd
        obtain ⟨V, ha, hB, F⟩ := hI
        subst ha
        refine wpOp_at _ rfl fun K hK => ?_
        go_simp
        exact hK _ _ ⟨V, rfl, hB, ⟨F.f6, F.f13, F.f14, F.f20, F.f27, F.f28, F.f34, F.f41, F.f42, F.f49, F.f57, F.f58, F.f65, F.f73, F.f74, F.f82, F.f89, F.f90, F.f91, F.f92⟩⟩
      refine below_succ ?_ ?_
      rotate_left
      · intro L a w hI hL hd
        obtain ⟨V, ha, hB, F⟩ := hI
        have l0' := (hB.cell (p := ⟨g, 0, none⟩) hz0).trans l0
        have l1' := (hB.cell (p := ⟨g, 1, none⟩) hz0).trans l1
        subst ha
        refine wpOp_at _ rfl fun K hK => ?_
        go_simp
        exact hK _ _ ⟨V, rfl, hB, ⟨F.f6, F.f13, F.f14, F.f20, F.f27, F.f28, F.f34, F.f41, F.f42, F.f49, F.f57, F.f58, F.f65, F.f73, F.f74, F.f82, F.f89, F.f90, F.f91, F.f92⟩⟩
      refine below_succ ?_ ?_
      rotate_left
      · intro L a w hI hL hd
        obtain ⟨V, ha, hB, F⟩ := hI
        have e48 := hd 48 (List.elem_iff.1 (by kernel_rfl))
        have e47 := hd 47 (List.elem_iff.1 (by kernel_rfl))
        have e45 := hd 45 (List.elem_iff.1 (by kernel_rfl))
        have e43 := hd 43 (List.elem_iff.1 (by kernel_rfl))
        simp only [e48, e47, e45, e43, cond_true] at ha
        subst ha
        refine wpOp_at _ rfl fun K hK => ?_
        go_simp
        go_at_call 71
        refine (CH.out _ (XI.out.below hB) (XP.out.below hB)).mono ?_
        rintro _ _ ⟨A4, c4, x4, rfl, rfl, hO4⟩
        dsimp only
        have hb : Below w.heap.size w (ext w x4) := below_of_ext w x4
        exact hK _ _ ⟨{ V with v78 := .agg #[.slice A4 R3.length c4, .int .i64 sz] }, by simp only [e48, e47, e45, e43, cond_true, Nat.reduceBEq, Bool.false_or, Bool.or_true, Act.put, List.setIfInBounds_toArray, List.set_cons_succ, List.set_cons_zero], hB.trans (hb.mono hB.size), ⟨fun h => (F.f6 h).grow hb, fun h => (F.f13 h).grow hb, fun h => (F.f14 h).grow hb, fun h => (F.f20 h).grow hb, fun h => (F.f27 h).grow hb, fun h => (F.f28 h).grow hb, fun h => (F.f34 h).grow hb, fun h => (F.f41 h).grow hb, fun h => (F.f42 h).grow hb, fun _ => RowF.of hB.size hO4, fun h => (F.f57 h).grow hb, fun h => (F.f58 h).grow hb, fun h => (F.f65 h).grow hb, fun h => (F.f73 h).grow hb, fun h => (F.f74 h).grow hb, fun h => (F.f82 h).grow hb, fun h => (F.f89 h).grow hb, fun h => (F.f90 h).grow hb, fun h => (F.f91 h).grow hb, F.f92⟩⟩
      refine below_succ ?_ ?_
      rotate_left
      · intro L a w hI hL hd
        obtain ⟨V, ha, hB, F⟩ := hI
        subst ha
        refine wpOp_at _ rfl fun K hK => ?_
        go_simp
        exact hK _ _ ⟨V, rfl, hB, ⟨F.f6, F.f13, F.f14, F.f20, F.f27, F.f28, F.f34, F.f41, F.f42, F.f49, F.f57, F.f58, F.f65, F.f73, F.f74, F.f82, F.f89, F.f90, F.f91, F.f92⟩⟩
      refine below_succ ?_ ?_
      rotate_left
      · intro L a w hI hL hd
        obtain ⟨V, ha, hB, F⟩ := hI
        have s1' := (hB.cell (p := ⟨g + 1, 1, none⟩) hz1).trans s1
        have e := hd 46 (List.elem_iff.1 (by kernel_rfl))
        simp only [e, cond_true] at ha
        subst ha
        refine wpOp_at _ rfl fun K hK => ?_
        go_simp
        exact hK _ _ ⟨V, by simp only [e, cond_true, Nat.reduceBEq, Bool.false_or, Bool.true_or, BEq.rfl], hB, ⟨F.f6, F.f13, F.f14, F.f20, F.f27, F.f28, F.f34, F.f41, F.f42, F.f49, F.f57, F.f58, F.f65, F.f73, F.f74, F.f82, F.f89, F.f90, F.f91, F.f92⟩⟩
      refine below_succ ?_ ?_
      rotate_left
      · intro L a w hI hL hd
        obtain ⟨V, ha, hB, F⟩ := hI
        subst ha
        refine wpOp_at _ rfl fun K hK => ?_
        go_simp
        exact hK _ _ ⟨V, rfl, hB, ⟨F.f6, F.f13, F.f14, F.f20, F.f27, F.f28, F.f34, F.f41, F.f42, F.f49, F.f57, F.f58, F.f65, F.f73, F.f74, F.f82, F.f89, F.f90, F.f91, F.f92⟩⟩
      refine below_succ ?_ ?_
      rotate_left
      · intro L a w hI hL hd
        obtain ⟨V, ha, hB, F⟩ := hI
        have s0' := (hB.cell (p := ⟨g + 1, 0, none⟩) hz1).trans s0
        have e := hd 44 (List.elem_iff.1 (by kernel_rfl))
        simp only [e, cond_true] at ha
        subst ha
        refine wpOp_at _ rfl fun K hK => ?_
        go_simp
        exact hK _ _ ⟨V, by simp only [e, cond_true, Nat.reduceBEq, Bool.false_or, Bool.true_or, BEq.rfl], hB, ⟨F.f6, F.f13, F.f14, F.f20, F.f27, F.f28, F.f34, F.f41, F.f42, F.f49, F.f57, F.f58, F.f65, F.f73, F.f74, F.f82, F.f89, F.f90, F.f91, F.f92⟩⟩
      refine below_succ ?_ ?_
      rotate_left
      · intro L a w hI hL hd
        obtain ⟨V, ha, hB, F⟩ := hI
        subst ha
        refine wpOp_at _ rfl fun K hK => ?_
        go_simp
        exact hK _ _ ⟨V, rfl, hB, ⟨F.f6, F.f13, F.f14, F.f20, F.f27, F.f28, F.f34, F.f41, F.f42, F.f49, F.f57, F.f58, F.f65, F.f73, F.f74, F.f82, F.f89, F.f90, F.f91, F.f92⟩⟩
      refine below_succ ?_ ?_
      rotate_left
      · intro L a w hI hL hd
        obtain ⟨V, ha, hB, F⟩ := hI
        have i0' := (hB.cell (p := ⟨HI, 0, none⟩) hI2).trans i0
        have i1' := (hB.cell (p := ⟨HI, 1, none⟩) hI2).trans i1
        subst ha
        refine wpOp_at _ rfl fun K hK => ?_
        go_simp
        exact hK _ _ ⟨V, rfl, hB, ⟨F.f6, F.f13, F.f14, F.f20, F.f27, F.f28, F.f34, F.f41, F.f42, F.f49, F.f57, F.f58, F.f65, F.f73, F.f74, F.f82, F.f89, F.f90, F.f91, F.f92⟩⟩
      refine below_succ ?_ ?_
      rotate_left
      · intro L a w hI hL hd
        obtain ⟨V, ha, hB, F⟩ := hI
        obtain ⟨A3, c3, e63, hO3⟩ := F.f34 (hd 34 (List.elem_iff.1 (by kernel_rfl)))
        obtain ⟨A5, c5, e70, hO5⟩ := F.f41 (hd 41 (List.elem_iff.1 (by kernel_rfl)))
        simp only [e63, e70] at ha
        subst ha
        refine wpOp_at _ rfl fun K hK => ?_
        go_simp
        have hb : Below w.heap.size w (w.alloc (.cells #[.slice A3 R2.length c3, .int .i64 sz, .slice A5 R2.length c5, .int .i64 sz] 70)) := (Below.refl _ _).alloc (Nat.le_refl _) _
        exact hK _ _ ⟨{ V with v71 := .slice (some ⟨w.heap.size, 0, none⟩) 2 2 }, by simp only [e63, e70, Nat.reduceBEq, Bool.false_or], hB.trans (hb.mono hB.size), ⟨fun h => (F.f6 h).grow hb, fun h => (F.f13 h).grow hb, fun h => (F.f14 h).grow hb, fun h => (F.f20 h).grow hb, fun h => (F.f27 h).grow hb, fun h => (F.f28 h).grow hb, fun h => (F.f34 h).grow hb, fun h => (F.f41 h).grow hb, fun _ => PairF.new hO3 hO5, fun h => (F.f49 h).grow hb, fun h => (F.f57 h).grow hb, fun h => (F.f58 h).grow hb, fun h => (F.f65 h).grow hb, fun h => (F.f73 h).grow hb, fun h => (F.f74 h).grow hb, fun h => (F.f82 h).grow hb, fun h => (F.f89 h).grow hb, fun h => (F.f90 h).grow hb, fun h => (F.f91 h).grow hb, F.f92⟩⟩
      refine below_succ ?_ ?_
      rotate_left
      · intro L a w hI hL hd
        obtain ⟨V, ha, hB, F⟩ := hI
        have e40 := hd 40 (List.elem_iff.1 (by kernel_rfl))
        have e39 := hd 39 (List.elem_iff.1 (by kernel_rfl))
        have e37 := hd 37 (List.elem_iff.1 (by kernel_rfl))
        have e35 := hd 35 (List.elem_iff.1 (by kernel_rfl))
        simp only [e40, e39, e37, e35, cond_true] at ha
        subst ha
        refine wpOp_at _ rfl fun K hK => ?_
        go_simp
        go_at_call 58
        refine (E2.out _ (XB.out.below hB)).mono ?_
        rintro _ _ ⟨A4, c4, x4, rfl, rfl, hO4⟩
        dsimp only
        have hb : Below w.heap.size w (ext w x4) := below_of_ext w x4
        exact hK _ _ ⟨{ V with v70 := .agg #[.slice A4 R2.length c4, .int .i64 sz] }, by simp only [e40, e39, e37, e35, cond_true, Nat.reduceBEq, Bool.false_or, Bool.or_true, Act.put, List.setIfInBounds_toArray, List.set_cons_succ, List.set_cons_zero], hB.trans (hb.mono hB.size), ⟨fun h => (F.f6 h).grow hb, fun h => (F.f13 h).grow hb, fun h => (F.f14 h).grow hb, fun h => (F.f20 h).grow hb, fun h => (F.f27 h).grow hb, fun h => (F.f28 h).grow hb, fun h => (F.f34 h).grow hb, fun _ => RowF.of hB.size hO4, fun h => (F.f42 h).grow hb, fun h => (F.f49 h).grow hb, fun h => (F.f57 h).grow hb, fun h => (F.f58 h).grow hb, fun h => (F.f65 h).grow hb, fun h => (F.f73 h).grow hb, fun h => (F.f74 h).grow hb, fun h => (F.f82 h).grow hb, fun h => (F.f89 h).grow hb, fun h => (F.f90 h).grow hb, fun h => (F.f91 h).grow hb, F.f92⟩⟩
      refine below_succ ?_ ?_
      rotate_left
      · intro L a w hI hL hd
        obtain ⟨V, ha, hB, F⟩ := hI
        have k0' := (hB.cell (p := ⟨g + 1 + 1, 0, none⟩) hz).trans k0
        have k1' := (hB.cell (p := ⟨g + 1 + 1, 1, none⟩) hz).trans k1
        have k2' := (hB.cell (p := ⟨g + 1 + 1, 2, none⟩) hz).trans k2
        subst ha
        refine wpOp_at _ rfl fun K hK => ?_
        go_simp
        exact hK _ _ ⟨V, rfl, hB, ⟨F.f6, F.f13, F.f14, F.f20, F.f27, F.f28, F.f34, F.f41, F.f42, F.f49, F.f57, F.f58, F.f65, F.f73, F.f74, F.f82, F.f89, F.f90, F.f91, F.f92⟩⟩
      refine below_succ ?_ ?_
      rotate_left
      · intro L a w hI hL hd
        obtain ⟨V, ha, hB, F⟩ := hI
        have s1' := (hB.cell (p := ⟨g + 1, 1, none⟩) hz1).trans s1
        have e := hd 38 (List.elem_iff.1 (by kernel_rfl))
        simp only [e, cond_true] at ha
        subst ha
        refine wpOp_at _ rfl fun K hK => ?_
        go_simp
        exact hK _ _ ⟨V, by simp only [e, cond_true, Nat.reduceBEq, Bool.false_or, Bool.true_or, BEq.rfl], hB, ⟨F.f6, F.f13, F.f14, F.f20, F.f27, F.f28, F.f34, F.f41, F.f42, F.f49, F.f57, F.f58, F.f65, F.f73, F.f74, F.f82, F.f89, F.f90, F.f91, F.f92⟩⟩
      refine below_succ ?_ ?_
      rotate_left
      · intro L a w hI hL hd
        obtain ⟨V, ha, hB, F⟩ := hI
        subst ha
        refine wpOp_at _ rfl fun K hK => ?_
        go_simp
        exact hK _ _ ⟨V, rfl, hB, ⟨F.f6, F.f13, F.f14, F.f20, F.f27, F.f28, F.f34, F.f41, F.f42, F.f49, F.f57, F.f58, F.f65, F.f73, F.f74, F.f82, F.f89, F.f90, F.f91, F.f92⟩⟩
      refine below_succ ?_ ?_
      rotate_left
      · intro L a w hI hL hd
        obtain ⟨V, ha, hB, F⟩ := hI
        have s0' := (hB.cell (p := ⟨g + 1, 0, none⟩) hz1).trans s0
        have e := hd 36 (List.elem_iff.1 (by kernel_rfl))
        simp only [e, cond_true] at ha
        subst ha
        refine wpOp_at _ rfl fun K hK => ?_
        go_simp
        exact hK _ _ ⟨V, by simp only [e, cond_true, Nat.reduceBEq, Bool.false_or, Bool.true_or, BEq.rfl], hB, ⟨F.f6, F.f13, F.f14, F.f20, F.f27, F.f28, F.f34, F.f41, F.f42, F.f49, F.f57, F.f58, F.f65, F.f73, F.f74, F.f82, F.f89, F.f90, F.f91, F.f92⟩⟩
      refine below_succ ?_ ?_
      rotate_left
      · intro L a w hI hL hd
        obtain ⟨V, ha, hB, F⟩ := hI
        subst ha
        refine wpOp_at _ rfl fun K hK => ?_
        go_simp
        exact hK _ _ ⟨V, rfl, hB, ⟨F.f6, F.f13, F.f14, F.f20, F.f27, F.f28, F.f34, F.f41, F.f42, F.f49, F.f57, F.f58, F.f65, F.f73, F.f74, F.f82, F.f89, F.f90, F.f91, F.f92⟩⟩
      refine below_succ ?_ ?_
      rotate_left
      · intro L a w hI hL hd
        obtain ⟨V, ha, hB, F⟩ := hI
        have l0' := (hB.cell (p := ⟨g, 0, none⟩) hz0).trans l0
        have l1' := (hB.cell (p := ⟨g, 1, none⟩) hz0).trans l1
        subst ha
        refine wpOp_at _ rfl fun K hK => ?_
        go_simp
        exact hK _ _ ⟨V, rfl, hB, ⟨F.f6, F.f13, F.f14, F.f20, F.f27, F.f28, F.f34, F.f41, F.f42, F.f49, F.f57, F.f58, F.f65, F.f73, F.f74, F.f82, F.f89, F.f90, F.f91, F.f92⟩⟩
      refine below_succ ?_ ?_
      rotate_left
      · intro L a w hI hL hd
        obtain ⟨V, ha, hB, F⟩ := hI
        have e33 := hd 33 (List.elem_iff.1 (by kernel_rfl))
        have e31 := hd 31 (List.elem_iff.1 (by kernel_rfl))
        have e29 := hd 29 (List.elem_iff.1 (by kernel_rfl))
        simp only [e33, e31, e29, cond_true] at ha
        subst ha
        refine wpOp_at _ rfl fun K hK => ?_
        go_simp
        go_at_call 70
        refine (CC.out _ (XI.out.below hB)).mono ?_
        rintro _ _ ⟨A4, c4, x4, rfl, rfl, hO4⟩
        dsimp only
        have hb : Below w.heap.size w (ext w x4) := below_of_ext w x4
        exact hK _ _ ⟨{ V with v63 := .agg #[.slice A4 R2.length c4, .int .i64 sz] }, by simp only [e33, e31, e29, cond_true, Nat.reduceBEq, Bool.false_or, Bool.or_true, Act.put, List.setIfInBounds_toArray, List.set_cons_succ, List.set_cons_zero], hB.trans (hb.mono hB.size), ⟨fun h => (F.f6 h).grow hb, fun h => (F.f13 h).grow hb, fun h => (F.f14 h).grow hb, fun h => (F.f20 h).grow hb, fun h => (F.f27 h).grow hb, fun h => (F.f28 h).grow hb, fun _ => RowF.of hB.size hO4, fun h => (F.f41 h).grow hb, fun h => (F.f42 h).grow hb, fun h => (F.f49 h).grow hb, fun h => (F.f57 h).grow hb, fun h => (F.f58 h).grow hb, fun h => (F.f65 h).grow hb, fun h => (F.f73 h).grow hb, fun h => (F.f74 h).grow hb, fun h => (F.f82 h).grow hb, fun h => (F.f89 h).grow hb, fun h => (F.f90 h).grow hb, fun h => (F.f91 h).grow hb, F.f92⟩⟩
      refine below_succ ?_ ?_
      rotate_left
      · intro L a w hI hL hd
        obtain ⟨V, ha, hB, F⟩ := hI
        have s1' := (hB.cell (p := ⟨g + 1, 1, none⟩) hz1).trans s1
        have e := hd 32 (List.elem_iff.1 (by kernel_rfl))
        simp only [e, cond_true] at ha
        subst ha
        refine wpOp_at _ rfl fun K hK => ?_
        go_simp
        exact hK _ _ ⟨V, by simp only [e, cond_true, Nat.reduceBEq, Bool.false_or, Bool.true_or, BEq.rfl], hB, ⟨F.f6, F.f13, F.f14, F.f20, F.f27, F.f28, F.f34, F.f41, F.f42, F.f49, F.f57, F.f58, F.f65, F.f73, F.f74, F.f82, F.f89, F.f90, F.f91, F.f92⟩⟩
      refine below_succ ?_ ?_
      rotate_left
      · intro L a w hI hL hd
        obtain ⟨V, ha, hB, F⟩ := hI
        subst ha
        refine wpOp_at _ rfl fun K hK => ?_
        go_simp
        exact hK _ _ ⟨V, rfl, hB, ⟨F.f6, F.f13, F.f14, F.f20, F.f27, F.f28, F.f34, F.f41, F.f42, F.f49, F.f57, F.f58, F.f65, F.f73, F.f74, F.f82, F.f89, F.f90, F.f91, F.f92⟩⟩
      refine below_succ ?_ ?_
      rotate_left
      · intro L a w hI hL hd
        obtain ⟨V, ha, hB, F⟩ := hI
        have s0' := (hB.cell (p := ⟨g + 1, 0, none⟩) hz1).trans s0
        have e := hd 30 (List.elem_iff.1 (by kernel_rfl))
        simp only [e, cond_true] at ha
        subst ha
        refine wpOp_at _ rfl fun K hK => ?_
        go_simp
        exact hK _ _ ⟨V, by simp only [e, cond_true, Nat.reduceBEq, Bool.false_or, Bool.true_or, BEq.rfl], hB, ⟨F.f6, F.f13, F.f14, F.f20, F.f27, F.f28, F.f34, F.f41, F.f42, F.f49, F.f57, F.f58, F.f65, F.f73, F.f74, F.f82, F.f89, F.f90, F.f91, F.f92⟩⟩
      refine below_succ ?_ ?_
      rotate_left
      · intro L a w hI hL hd
        obtain ⟨V, ha, hB, F⟩ := hI
        subst ha
        refine wpOp_at _ rfl fun K hK => ?_
        go_simp
        exact hK _ _ ⟨V, rfl, hB, ⟨F.f6, F.f13, F.f14, F.f20, F.f27, F.f28, F.f34, F.f41, F.f42, F.f49, F.f57, F.f58, F.f65, F.f73, F.f74, F.f82, F.f89, F.f90, F.f91, F.f92⟩⟩
      refine below_succ ?_ ?_
      rotate_left
      · intro L a w hI hL hd
        obtain ⟨V, ha, hB, F⟩ := hI
        have i0' := (hB.cell (p := ⟨HI, 0, none⟩) hI2).trans i0
        have i1' := (hB.cell (p := ⟨HI, 1, none⟩) hI2).trans i1
        subst ha
        refine wpOp_at _ rfl fun K hK => ?_
        go_simp
        exact hK _ _ ⟨V, rfl, hB, ⟨F.f6, F.f13, F.f14, F.f20, F.f27, F.f28, F.f34, F.f41, F.f42, F.f49, F.f57, F.f58, F.f65, F.f73, F.f74, F.f82, F.f89, F.f90, F.f91, F.f92⟩⟩
      refine below_succ ?_ ?_
      rotate_left
      · intro L a w hI hL hd
        obtain ⟨V, ha, hB, F⟩ := hI
        obtain ⟨A3, c3, e49, hO3⟩ := F.f20 (hd 20 (List.elem_iff.1 (by kernel_rfl)))
        obtain ⟨A5, c5, e56, hO5⟩ := F.f27 (hd 27 (List.elem_iff.1 (by kernel_rfl)))
        simp only [e49, e56] at ha
        subst ha
        refine wpOp_at _ rfl fun K hK => ?_
        go_simp
        have hb : Below w.heap.size w (w.alloc (.cells #[.slice A3 R1.length c3, .int .i64 sz, .slice A5 R1.length c5, .int .i64 sz] 70)) := (Below.refl _ _).alloc (Nat.le_refl _) _
        exact hK _ _ ⟨{ V with v57 := .slice (some ⟨w.heap.size, 0, none⟩) 2 2 }, by simp only [e49, e56, Nat.reduceBEq, Bool.false_or], hB.trans (hb.mono hB.size), ⟨fun h => (F.f6 h).grow hb, fun h => (F.f13 h).grow hb, fun h => (F.f14 h).grow hb, fun h => (F.f20 h).grow hb, fun h => (F.f27 h).grow hb, fun _ => PairF.new hO3 hO5, fun h => (F.f34 h).grow hb, fun h => (F.f41 h).grow hb, fun h => (F.f42 h).grow hb, fun h => (F.f49 h).grow hb, fun h => (F.f57 h).grow hb, fun h => (F.f58 h).grow hb, fun h => (F.f65 h).grow hb, fun h => (F.f73 h).grow hb, fun h => (F.f74 h).grow hb, fun h => (F.f82 h).grow hb, fun h => (F.f89 h).grow hb, fun h => (F.f90 h).grow hb, fun h => (F.f91 h).grow hb, F.f92⟩⟩
      refine below_succ ?_ ?_
      rotate_left
      · intro L a w hI hL hd
        obtain ⟨V, ha, hB, F⟩ := hI
        have e26 := hd 26 (List.elem_iff.1 (by kernel_rfl))
        have e25 := hd 25 (List.elem_iff.1 (by kernel_rfl))
        have e23 := hd 23 (List.elem_iff.1 (by kernel_rfl))
        have e21 := hd 21 (List.elem_iff.1 (by kernel_rfl))
        simp only [e26, e25, e23, e21, cond_true] at ha
        subst ha
        refine wpOp_at _ rfl fun K hK => ?_
        go_simp
        go_at_call 58
        refine (E1e.out _ (XB.out.below hB)).mono ?_
        rintro _ _ ⟨A4, c4, x4, rfl, rfl, hO4⟩
        dsimp only
        have hb : Below w.heap.size w (ext w x4) := below_of_ext w x4
        exact hK _ _ ⟨{ V with v56 := .agg #[.slice A4 R1.length c4, .int .i64 sz] }, by simp only [e26, e25, e23, e21, cond_true, Nat.reduceBEq, Bool.false_or, Bool.or_true, Act.put, List.setIfInBounds_toArray, List.set_cons_succ, List.set_cons_zero], hB.trans (hb.mono hB.size), ⟨fun h => (F.f6 h).grow hb, fun h => (F.f13 h).grow hb, fun h => (F.f14 h).grow hb, fun h => (F.f20 h).grow hb, fun _ => RowF.of hB.size hO4, fun h => (F.f28 h).grow hb, fun h => (F.f34 h).grow hb, fun h => (F.f41 h).grow hb, fun h => (F.f42 h).grow hb, fun h => (F.f49 h).grow hb, fun h => (F.f57 h).grow hb, fun h => (F.f58 h).grow hb, fun h => (F.f65 h).grow hb, fun h => (F.f73 h).grow hb, fun h => (F.f74 h).grow hb, fun h => (F.f82 h).grow hb, fun h => (F.f89 h).grow hb, fun h => (F.f90 h).grow hb, fun h => (F.f91 h).grow hb, F.f92⟩⟩
      refine below_succ ?_ ?_
      rotate_left
      · intro L a w hI hL hd
        obtain ⟨V, ha, hB, F⟩ := hI
        subst ha
        refine wpOp_at _ rfl fun K hK => ?_
        go_simp
        exact hK _ _ ⟨V, rfl, hB, ⟨F.f6, F.f13, F.f14, F.f20, F.f27, F.f28, F.f34, F.f41, F.f42, F.f49, F.f57, F.f58, F.f65, F.f73, F.f74, F.f82, F.f89, F.f90, F.f91, F.f92⟩⟩
      refine below_succ ?_ ?_
      rotate_left
      · intro L a w hI hL hd
        obtain ⟨V, ha, hB, F⟩ := hI
        have s1' := (hB.cell (p := ⟨g + 1, 1, none⟩) hz1).trans s1
        have e := hd 24 (List.elem_iff.1 (by kernel_rfl))
        simp only [e, cond_true] at ha
        subst ha
        refine wpOp_at _ rfl fun K hK => ?_
        go_simp
        exact hK _ _ ⟨V, by simp only [e, cond_true, Nat.reduceBEq, Bool.false_or, Bool.true_or, BEq.rfl], hB, ⟨F.f6, F.f13, F.f14, F.f20, F.f27, F.f28, F.f34, F.f41, F.f42, F.f49, F.f57, F.f58, F.f65, F.f73, F.f74, F.f82, F.f89, F.f90, F.f91, F.f92⟩⟩
      refine below_succ ?_ ?_
      rotate_left
      · intro L a w hI hL hd
        obtain ⟨V, ha, hB, F⟩ := hI
        subst ha
        refine wpOp_at _ rfl fun K hK => ?_
        go_simp
        exact hK _ _ ⟨V, rfl, hB, ⟨F.f6, F.f13, F.f14, F.f20, F.f27, F.f28, F.f34, F.f41, F.f42, F.f49, F.f57, F.f58, F.f65, F.f73, F.f74, F.f82, F.f89, F.f90, F.f91, F.f92⟩⟩
      refine below_succ ?_ ?_
      rotate_left
      · intro L a w hI hL hd
        obtain ⟨V, ha, hB, F⟩ := hI
        have s0' := (hB.cell (p := ⟨g + 1, 0, none⟩) hz1).trans s0
        have e := hd 22 (List.elem_iff.1 (by kernel_rfl))
        simp only [e, cond_true] at ha
        subst ha
        refine wpOp_at _ rfl fun K hK => ?_
        go_simp
        exact hK _ _ ⟨V, by simp only [e, cond_true, Nat.reduceBEq, Bool.false_or, Bool.true_or, BEq.rfl], hB, ⟨F.f6, F.f13, F.f14, F.f20, F.f27, F.f28, F.f34, F.f41, F.f42, F.f49, F.f57, F.f58, F.f65, F.f73, F.f74, F.f82, F.f89, F.f90, F.f91, F.f92⟩⟩
      refine below_succ ?_ ?_
      rotate_left
      · intro L a w hI hL hd
        obtain ⟨V, ha, hB, F⟩ := hI
        subst ha
        refine wpOp_at _ rfl fun K hK => ?_
        go_simp
        exact hK _ _ ⟨V, rfl, hB, ⟨F.f6, F.f13, F.f14, F.f20, F.f27, F.f28, F.f34, F.f41, F.f42, F.f49, F.f57, F.f58, F.f65, F.f73, F.f74, F.f82, F.f89, F.f90, F.f91, F.f92⟩⟩
      refine below_succ ?_ ?_
      rotate_left
      · intro L a w hI hL hd
        obtain ⟨V, ha, hB, F⟩ := hI
        have l0' := (hB.cell (p := ⟨g, 0, none⟩) hz0).trans l0
        have l1' := (hB.cell (p := ⟨g, 1, none⟩) hz0).trans l1
        subst ha
        refine wpOp_at _ rfl fun K hK => ?_
        go_simp
        exact hK _ _ ⟨V, rfl, hB, ⟨F.f6, F.f13, F.f14, F.f20, F.f27, F.f28, F.f34, F.f41, F.f42, F.f49, F.f57, F.f58, F.f65, F.f73, F.f74, F.f82, F.f89, F.f90, F.f91, F.f92⟩⟩
      refine below_succ ?_ ?_
      rotate_left
      · intro L a w hI hL hd
        obtain ⟨V, ha, hB, F⟩ := hI
        have e19 := hd 19 (List.elem_iff.1 (by kernel_rfl))
        have e17 := hd 17 (List.elem_iff.1 (by kernel_rfl))
        have e15 := hd 15 (List.elem_iff.1 (by kernel_rfl))
        simp only [e19, e17, e15, cond_true] at ha
        subst ha
        refine wpOp_at _ rfl fun K hK => ?_
        go_simp
        go_at_call 69
        refine (CE.out _ (XI.out.below hB)).mono ?_
        rintro _ _ ⟨A4, c4, x4, rfl, rfl, hO4⟩
        dsimp only
        have hb : Below w.heap.size w (ext w x4) := below_of_ext w x4
        exact hK _ _ ⟨{ V with v49 := .agg #[.slice A4 R1.length c4, .int .i64 sz] }, by simp only [e19, e17, e15, cond_true, Nat.reduceBEq, Bool.false_or, Bool.or_true, Act.put, List.setIfInBounds_toArray, List.set_cons_succ, List.set_cons_zero], hB.trans (hb.mono hB.size), ⟨fun h => (F.f6 h).grow hb, fun h => (F.f13 h).grow hb, fun h => (F.f14 h).grow hb, fun _ => RowF.of hB.size hO4, fun h => (F.f27 h).grow hb, fun h => (F.f28 h).grow hb, fun h => (F.f34 h).grow hb, fun h => (F.f41 h).grow hb, fun h => (F.f42 h).grow hb, fun h => (F.f49 h).grow hb, fun h => (F.f57 h).grow hb, fun h => (F.f58 h).grow hb, fun h => (F.f65 h).grow hb, fun h => (F.f73 h).grow hb, fun h => (F.f74 h).grow hb, fun h => (F.f82 h).grow hb, fun h => (F.f89 h).grow hb, fun h => (F.f90 h).grow hb, fun h => (F.f91 h).grow hb, F.f92⟩⟩
      refine below_succ ?_ ?_
      rotate_left
      · intro L a w hI hL hd
        obtain ⟨V, ha, hB, F⟩ := hI
        have s1' := (hB.cell (p := ⟨g + 1, 1, none⟩) hz1).trans s1
        have e := hd 18 (List.elem_iff.1 (by kernel_rfl))
        simp only [e, cond_true] at ha
        subst ha
        refine wpOp_at _ rfl fun K hK => ?_
        go_simp
        exact hK _ _ ⟨V, by simp only [e, cond_true, Nat.reduceBEq, Bool.false_or, Bool.true_or, BEq.rfl], hB, ⟨F.f6, F.f13, F.f14, F.f20, F.f27, F.f28, F.f34, F.f41, F.f42, F.f49, F.f57, F.f58, F.f65, F.f73, F.f74, F.f82, F.f89, F.f90, F.f91, F.f92⟩⟩
      refine below_succ ?_ ?_
      rotate_left
      · intro L a w hI hL hd
        obtain ⟨V, ha, hB, F⟩ := hI
        subst ha
        refine wpOp_at _ rfl fun K hK => ?_
        go_simp
        exact hK _ _ ⟨V, rfl, hB, ⟨F.f6, F.f13, F.f14, F.f20, F.f27, F.f28, F.f34, F.f41, F.f42, F.f49, F.f57, F.f58, F.f65, F.f73, F.f74, F.f82, F.f89, F.f90, F.f91, F.f92⟩⟩
      refine below_succ ?_ ?_
      rotate_left
      · intro L a w hI hL hd
        obtain ⟨V, ha, hB, F⟩ := hI
        have s0' := (hB.cell (p := ⟨g + 1, 0, none⟩) hz1).trans s0
        have e := hd 16 (List.elem_iff.1 (by kernel_rfl))
        simp only [e, cond_true] at ha
        subst ha
        refine wpOp_at _ rfl fun K hK => ?_
        go_simp
        exact hK _ _ ⟨V, by simp only [e, cond_true, Nat.reduceBEq, Bool.false_or, Bool.true_or, BEq.rfl], hB, ⟨F.f6, F.f13, F.f14, F.f20, F.f27, F.f28, F.f34, F.f41, F.f42, F.f49, F.f57, F.f58, F.f65, F.f73, F.f74, F.f82, F.f89, F.f90, F.f91, F.f92⟩⟩
      refine below_succ ?_ ?_
      rotate_left
      · intro L a w hI hL hd
        obtain ⟨V, ha, hB, F⟩ := hI
        subst ha
        refine wpOp_at _ rfl fun K hK => ?_
        go_simp
        exact hK _ _ ⟨V, rfl, hB, ⟨F.f6, F.f13, F.f14, F.f20, F.f27, F.f28, F.f34, F.f41, F.f42, F.f49, F.f57, F.f58, F.f65, F.f73, F.f74, F.f82, F.f89, F.f90, F.f91, F.f92⟩⟩
      refine below_succ ?_ ?_
      rotate_left
      · intro L a w hI hL hd
        obtain ⟨V, ha, hB, F⟩ := hI
        have i0' := (hB.cell (p := ⟨HI, 0, none⟩) hI2).trans i0
        have i1' := (hB.cell (p := ⟨HI, 1, none⟩) hI2).trans i1
        subst ha
        refine wpOp_at _ rfl fun K hK => ?_
        go_simp
        exact hK _ _ ⟨V, rfl, hB, ⟨F.f6, F.f13, F.f14, F.f20, F.f27, F.f28, F.f34, F.f41, F.f42, F.f49, F.f57, F.f58, F.f65, F.f73, F.f74, F.f82, F.f89, F.f90, F.f91, F.f92⟩⟩
      refine below_succ ?_ ?_
      rotate_left
      · intro L a w hI hL hd
        obtain ⟨V, ha, hB, F⟩ := hI
        obtain ⟨A3, c3, e35, hO3⟩ := F.f6 (hd 6 (List.elem_iff.1 (by kernel_rfl)))
        obtain ⟨A5, c5, e42, hO5⟩ := F.f13 (hd 13 (List.elem_iff.1 (by kernel_rfl)))
        simp only [e35, e42] at ha
        subst ha
        refine wpOp_at _ rfl fun K hK => ?_
        go_simp
        have hb : Below w.heap.size w (w.alloc (.cells #[.slice A3 R0.length c3, .int .i64 sz, .slice A5 R0.length c5, .int .i64 sz] 70)) := (Below.refl _ _).alloc (Nat.le_refl _) _
        exact hK _ _ ⟨{ V with v43 := .slice (some ⟨w.heap.size, 0, none⟩) 2 2 }, by simp only [e35, e42, Nat.reduceBEq, Bool.false_or], hB.trans (hb.mono hB.size), ⟨fun h => (F.f6 h).grow hb, fun h => (F.f13 h).grow hb, fun _ => PairF.new hO3 hO5, fun h => (F.f20 h).grow hb, fun h => (F.f27 h).grow hb, fun h => (F.f28 h).grow hb, fun h => (F.f34 h).grow hb, fun h => (F.f41 h).grow hb, fun h => (F.f42 h).grow hb, fun h => (F.f49 h).grow hb, fun h => (F.f57 h).grow hb, fun h => (F.f58 h).grow hb, fun h => (F.f65 h).grow hb, fun h => (F.f73 h).grow hb, fun h => (F.f74 h).grow hb, fun h => (F.f82 h).grow hb, fun h => (F.f89 h).grow hb, fun h => (F.f90 h).grow hb, fun h => (F.f91 h).grow hb, F.f92⟩⟩
      refine below_succ ?_ ?_
      rotate_left
      · intro L a w hI hL hd
        obtain ⟨V, ha, hB, F⟩ := hI
        have e12 := hd 12 (List.elem_iff.1 (by kernel_rfl))
        have e11 := hd 11 (List.elem_iff.1 (by kernel_rfl))
        have e9 := hd 9 (List.elem_iff.1 (by kernel_rfl))
        have e7 := hd 7 (List.elem_iff.1 (by kernel_rfl))
        simp only [e12, e11, e9, e7, cond_true] at ha
        subst ha
        refine wpOp_at _ rfl fun K hK => ?_
        go_simp
        go_at_call 58
        refine (E1.out _ (XB.out.below hB)).mono ?_
        rintro _ _ ⟨A4, c4, x4, rfl, rfl, hO4⟩
        dsimp only
        have hb : Below w.heap.size w (ext w x4) := below_of_ext w x4
        exact hK _ _ ⟨{ V with v42 := .agg #[.slice A4 R0.length c4, .int .i64 sz] }, by simp only [e12, e11, e9, e7, cond_true, Nat.reduceBEq, Bool.false_or, Bool.or_true, Act.put, List.setIfInBounds_toArray, List.set_cons_succ, List.set_cons_zero], hB.trans (hb.mono hB.size), ⟨fun h => (F.f6 h).grow hb, fun _ => RowF.of hB.size hO4, fun h => (F.f14 h).grow hb, fun h => (F.f20 h).grow hb, fun h => (F.f27 h).grow hb, fun h => (F.f28 h).grow hb, fun h => (F.f34 h).grow hb, fun h => (F.f41 h).grow hb, fun h => (F.f42 h).grow hb, fun h => (F.f49 h).grow hb, fun h => (F.f57 h).grow hb, fun h => (F.f58 h).grow hb, fun h => (F.f65 h).grow hb, fun h => (F.f73 h).grow hb, fun h => (F.f74 h).grow hb, fun h => (F.f82 h).grow hb, fun h => (F.f89 h).grow hb, fun h => (F.f90 h).grow hb, fun h => (F.f91 h).grow hb, F.f92⟩⟩
      refine below_succ ?_ ?_
      rotate_left
      · intro L a w hI hL hd
        obtain ⟨V, ha, hB, F⟩ := hI
        have k0' := (hB.cell (p := ⟨g + 1 + 1, 0, none⟩) hz).trans k0
        have k1' := (hB.cell (p := ⟨g + 1 + 1, 1, none⟩) hz).trans k1
        have k2' := (hB.cell (p := ⟨g + 1 + 1, 2, none⟩) hz).trans k2
        subst ha
        refine wpOp_at _ rfl fun K hK => ?_
        go_simp
        exact hK _ _ ⟨V, rfl, hB, ⟨F.f6, F.f13, F.f14, F.f20, F.f27, F.f28, F.f34, F.f41, F.f42, F.f49, F.f57, F.f58, F.f65, F.f73, F.f74, F.f82, F.f89, F.f90, F.f91, F.f92⟩⟩
      refine below_succ ?_ ?_
      rotate_left
      · intro L a w hI hL hd
        obtain ⟨V, ha, hB, F⟩ := hI
        have s1' := (hB.cell (p := ⟨g + 1, 1, none⟩) hz1).trans s1
        have e := hd 10 (List.elem_iff.1 (by kernel_rfl))
        simp only [e, cond_true] at ha
        subst ha
        refine wpOp_at _ rfl fun K hK => ?_
        go_simp
        exact hK _ _ ⟨V, by simp only [e, cond_true, Nat.reduceBEq, Bool.false_or, Bool.true_or, BEq.rfl], hB, ⟨F.f6, F.f13, F.f14, F.f20, F.f27, F.f28, F.f34, F.f41, F.f42, F.f49, F.f57, F.f58, F.f65, F.f73, F.f74, F.f82, F.f89, F.f90, F.f91, F.f92⟩⟩
      refine below_succ ?_ ?_
      rotate_left
      · intro L a w hI hL hd
        obtain ⟨V, ha, hB, F⟩ := hI
        subst ha
        refine wpOp_at _ rfl fun K hK => ?_
        go_simp
        exact hK _ _ ⟨V, rfl, hB, ⟨F.f6, F.f13, F.f14, F.f20, F.f27, F.f28, F.f34, F.f41, F.f42, F.f49, F.f57, F.f58, F.f65, F.f73, F.f74, F.f82, F.f89, F.f90, F.f91, F.f92⟩⟩
      refine below_succ ?_ ?_
      rotate_left
      · intro L a w hI hL hd
        obtain ⟨V, ha, hB, F⟩ := hI
        have s0' := (hB.cell (p := ⟨g + 1, 0, none⟩) hz1).trans s0
        have e := hd 8 (List.elem_iff.1 (by kernel_rfl))
        simp only [e, cond_true] at ha
        subst ha
        refine wpOp_at _ rfl fun K hK => ?_
        go_simp
        exact hK _ _ ⟨V, by simp only [e, cond_true, Nat.reduceBEq, Bool.false_or, Bool.true_or, BEq.rfl], hB, ⟨F.f6, F.f13, F.f14, F.f20, F.f27, F.f28, F.f34, F.f41, F.f42, F.f49, F.f57, F.f58, F.f65, F.f73, F.f74, F.f82, F.f89, F.f90, F.f91, F.f92⟩⟩
      refine below_succ ?_ ?_
      rotate_left
      · intro L a w hI hL hd
        obtain ⟨V, ha, hB, F⟩ := hI
        subst ha
        refine wpOp_at _ rfl fun K hK => ?_
        go_simp
        exact hK _ _ ⟨V, rfl, hB, ⟨F.f6, F.f13, F.f14, F.f20, F.f27, F.f28, F.f34, F.f41, F.f42, F.f49, F.f57, F.f58, F.f65, F.f73, F.f74, F.f82, F.f89, F.f90, F.f91, F.f92⟩⟩
      refine below_succ ?_ ?_
      rotate_left
      · intro L a w hI hL hd
        obtain ⟨V, ha, hB, F⟩ := hI
        have l0' := (hB.cell (p := ⟨g, 0, none⟩) hz0).trans l0
        have l1' := (hB.cell (p := ⟨g, 1, none⟩) hz0).trans l1
        subst ha
        refine wpOp_at _ rfl fun K hK => ?_
        go_simp
        exact hK _ _ ⟨V, rfl, hB, ⟨F.f6, F.f13, F.f14, F.f20, F.f27, F.f28, F.f34, F.f41, F.f42, F.f49, F.f57, F.f58, F.f65, F.f73, F.f74, F.f82, F.f89, F.f90, F.f91, F.f92⟩⟩
      refine below_succ ?_ ?_
      rotate_left
      · intro L a w hI hL hd
        obtain ⟨V, ha, hB, F⟩ := hI
        have e5 := hd 5 (List.elem_iff.1 (by kernel_rfl))
        have e4 := hd 4 (List.elem_iff.1 (by kernel_rfl))
        have e2 := hd 2 (List.elem_iff.1 (by kernel_rfl))
        have e0 := hd 0 (List.elem_iff.1 (by kernel_rfl))
        simp only [e5, e4, e2, e0, cond_true] at ha
        subst ha
        refine wpOp_at _ rfl fun K hK => ?_
        go_simp
        go_at_call 68
        refine (CF.out _ (XI.out.below hB)).mono ?_
        rintro _ _ ⟨A4, c4, x4, rfl, rfl, hO4⟩
        dsimp only
        have hb : Below w.heap.size w (ext w x4) := below_of_ext w x4
        exact hK _ _ ⟨{ V with v35 := .agg #[.slice A4 R0.length c4, .int .i64 sz] }, by simp only [e5, e4, e2, e0, cond_true, Nat.reduceBEq, Bool.false_or, Bool.or_true, Act.put, List.setIfInBounds_toArray, List.set_cons_succ, List.set_cons_zero], hB.trans (hb.mono hB.size), ⟨fun _ => RowF.of hB.size hO4, fun h => (F.f13 h).grow hb, fun h => (F.f14 h).grow hb, fun h => (F.f20 h).grow hb, fun h => (F.f27 h).grow hb, fun h => (F.f28 h).grow hb, fun h => (F.f34 h).grow hb, fun h => (F.f41 h).grow hb, fun h => (F.f42 h).grow hb, fun h => (F.f49 h).grow hb, fun h => (F.f57 h).grow hb, fun h => (F.f58 h).grow hb, fun h => (F.f65 h).grow hb, fun h => (F.f73 h).grow hb, fun h => (F.f74 h).grow hb, fun h => (F.f82 h).grow hb, fun h => (F.f89 h).grow hb, fun h => (F.f90 h).grow hb, fun h => (F.f91 h).grow hb, F.f92⟩⟩
      refine below_succ ?_ ?_
      rotate_left
      · intro L a w hI hL hd
        obtain ⟨V, ha, hB, F⟩ := hI
        have k0' := (hB.cell (p := ⟨g + 1 + 1, 0, none⟩) hz).trans k0
        have k1' := (hB.cell (p := ⟨g + 1 + 1, 1, none⟩) hz).trans k1
        have k2' := (hB.cell (p := ⟨g + 1 + 1, 2, none⟩) hz).trans k2
        subst ha
        refine wpOp_at _ rfl fun K hK => ?_
        go_simp
        exact hK _ _ ⟨V, rfl, hB, ⟨F.f6, F.f13, F.f14, F.f20, F.f27, F.f28, F.f34, F.f41, F.f42, F.f49, F.f57, F.f58, F.f65, F.f73, F.f74, F.f82, F.f89, F.f90, F.f91, F.f92⟩⟩
      refine below_succ ?_ ?_
      rotate_left
      · intro L a w hI hL hd
        obtain ⟨V, ha, hB, F⟩ := hI
        have s1' := (hB.cell (p := ⟨g + 1, 1, none⟩) hz1).trans s1
        have e := hd 3 (List.elem_iff.1 (by kernel_rfl))
        simp only [e, cond_true] at ha
        subst ha
        refine wpOp_at _ rfl fun K hK => ?_
        go_simp
        exact hK _ _ ⟨V, by simp only [e, cond_true, Nat.reduceBEq, Bool.false_or, Bool.true_or, BEq.rfl], hB, ⟨F.f6, F.f13, F.f14, F.f20, F.f27, F.f28, F.f34, F.f41, F.f42, F.f49, F.f57, F.f58, F.f65, F.f73, F.f74, F.f82, F.f89, F.f90, F.f91, F.f92⟩⟩
      refine below_succ ?_ ?_
      rotate_left
      · intro L a w hI hL hd
        obtain ⟨V, ha, hB, F⟩ := hI
        subst ha
        refine wpOp_at _ rfl fun K hK => ?_
        go_simp
        exact hK _ _ ⟨V, rfl, hB, ⟨F.f6, F.f13, F.f14, F.f20, F.f27, F.f28, F.f34, F.f41, F.f42, F.f49, F.f57, F.f58, F.f65, F.f73, F.f74, F.f82, F.f89, F.f90, F.f91, F.f92⟩⟩
      refine below_succ ?_ ?_
      rotate_left
      · intro L a w hI hL hd
        obtain ⟨V, ha, hB, F⟩ := hI
        have s0' := (hB.cell (p := ⟨g + 1, 0, none⟩) hz1).trans s0
        have e := hd 1 (List.elem_iff.1 (by kernel_rfl))
        simp only [e, cond_true] at ha
        subst ha
        refine wpOp_at _ rfl fun K hK => ?_
        go_simp
        exact hK _ _ ⟨V, by simp only [e, cond_true, Nat.reduceBEq, Bool.false_or, Bool.true_or, BEq.rfl], hB, ⟨F.f6, F.f13, F.f14, F.f20, F.f27, F.f28, F.f34, F.f41, F.f42, F.f49, F.f57, F.f58, F.f65, F.f73, F.f74, F.f82, F.f89, F.f90, F.f91, F.f92⟩⟩
      refine below_succ ?_ ?_
      rotate_left
      · intro L a w hI hL hd
        obtain ⟨V, ha, hB, F⟩ := hI
        subst ha
        refine wpOp_at _ rfl fun K hK => ?_
        go_simp
        exact hK _ _ ⟨V, rfl, hB, ⟨F.f6, F.f13, F.f14, F.f20, F.f27, F.f28, F.f34, F.f41, F.f42, F.f49, F.f57, F.f58, F.f65, F.f73, F.f74, F.f82, F.f89, F.f90, F.f91, F.f92⟩⟩
      refine below_succ ?_ ?_
      rotate_left
      · intro L a w hI hL hd
        obtain ⟨V, ha, hB, F⟩ := hI
        have i0' := (hB.cell (p := ⟨HI, 0, none⟩) hI2).trans i0
        have i1' := (hB.cell (p := ⟨HI, 1, none⟩) hI2).trans i1
        subst ha
        refine wpOp_at _ rfl fun K hK => ?_
        go_simp
        exact hK _ _ ⟨V, rfl, hB, ⟨F.f6, F.f13, F.f14, F.f20, F.f27, F.f28, F.f34, F.f41, F.f42, F.f49, F.f57, F.f58, F.f65, F.f73, F.f74, F.f82, F.f89, F.f90, F.f91, F.f92⟩⟩
      exact fun i hi => absurd hi (Nat.not_lt_zero i)
    · intro L a w hall hI
      obtain ⟨V, ha, hB, F⟩ := hI
      subst ha
      have h91 := F.f91 (hall 91 (by decide))
      have h92 := (F.f92 (hall 92 (by decide))).1
      go_wp2
      go_meet
      exact ⟨by rw [h92]; exact h91, hB⟩
  obtain ⟨hPs, hB3⟩ := hcut
  obtain ⟨G, rfl, hGs, hPt⟩ := hPs.at
  have hL : LawE w wc A1 c1 sz xs f t n ⟨cg, cr, ck⟩ := LawE.grow ⟨hbb, l0, l1, s0, s1, hs2.out, k0, k1, k2, hz, XB.out, hcapH.out⟩ hB3
  replace XI := Lib.hid (XI.out.below hB3)
  replace i0 := (hB3.cell (p := ⟨HI, 0, none⟩) hI2).trans i0
  replace i1 := (hB3.cell (p := ⟨HI, 1, none⟩) hI2).trans i1
  replace hI2 := Nat.lt_of_lt_of_le hI2 hB3.size
  clear hbb l0 l1 s0 s1 k0 k1 k2 hz hz1 hz0 XB hB3 hPs CF CE CC CH CL CK E1 E1e E2 E3 E4 E5 XP
  obtain ⟨hbd, l0, l1, s0, s1, -, k0, k1, k2, hz, XD1, -⟩ := hL
  have XD := Lib.hid XD1
  have hz1 := Nat.lt_of_succ_lt hz
  have hz0 := Nat.lt_of_succ_lt hz1
  clear XD1 s0 s1 k0 k1 k2
  have hPt := Lib.hid hPt
  have SM := Lib.hid (fun (A' : Option Addr) (c' : Nat) (A'' : Option Addr) (c'' : Nat) (R : List Cl) (hR : R.length ≤ 300) w' (h1 : Rd encC 3 w' A' R) (h2 : Rd encC 3 w' A'' R) => show Calls Try.prog 48 #[lineV A' R.length c' sz, lineV A'' R.length c'' sz] w' (Gives w' (.bool true)) by
    have h := same_lr A' A'' c' c'' R R sz sz w' h1 h2 (by omega) (by omega)
    rw [show sameL R sz R sz = true by simp [sameL]] at h
    exact h)
  go_wp2
  go_loopw [123] (fun iv wr => ∃ (j : Nat) (x : More), j ≤ 6 ∧ iv = .int .i64 j ∧ wr = ext wc x) (fun iv _ => 6 - (intOf iv).toNat)
  case atStart => exact ⟨0, ⟨#[], wc.drawn⟩, by omega, rfl, by simp [ext]⟩
  case round =>
    obtain ⟨j, x, hj, rfl, rfl⟩ := hrel
    by_cases hlt : j < 6
    · obtain ⟨R, H, A5, c5, A6, c6, q0, hR, hH, q1, q2, q3, q4, XA5, XA6⟩ := hPt.out j hlt
      have X5 := Lib.hid XA5
      have X6 := Lib.hid XA6
      have SMj := Lib.hid (fun w' h1 h2 => SM.out A5 c5 A6 c6 R hR w' h1 h2)
      clear XA5 XA6
      go_wp2
      (refine wp_region_free (by kernel_rfl) (by kernel_rfl) ?_)
      repeat (go_big_quiet_step (((go_at_call 48; with_reducible exact Calls.free (SMj.out _ (by repeat (first | exact X5.out | exact X5 | refine Rd.ext ?_ _ | refine Rd.alloc ?_ _ | refine Rd.drew ?_)) (by repeat (first | exact X6.out | exact X6 | refine Rd.ext ?_ _ | refine Rd.alloc ?_ _ | refine Rd.drew ?_)))))))
      refine wpQuiet_nil ?_; rintro _ ⟨x3, rfl⟩
      go_wp2
      go_roundw
      case rel => exact ⟨j + 1, _, by omega, by go_num, ext_ext _ _ _⟩
      case measure => simp [intOf]; omega
    · obtain rfl : j = 6 := by omega
      have SX := Lib.hid (fun w' h1 h2 => SM.out AI cI A1 c1 xs hx w' h1 h2)
      go_wp2_with (first
        | (go_at_call 48
           (with_reducible refine (SX.out _ (by repeat (first | exact XI.out | exact XI | refine Rd.ext ?_ _ | refine Rd.alloc ?_ _ | refine Rd.drew ?_)) (by repeat (first | exact XD.out | exact XD | refine Rd.ext ?_ _ | refine Rd.alloc ?_ _ | refine Rd.drew ?_))).mono ?_)
           rintro _ _ hgets
           obtain ⟨rfl, x5, rfl⟩ := hgets.get
           clear hgets))
      go_returns
      exact ⟨rfl, by (repeat' (first | (with_reducible exact Below.refl _ _) | (with_reducible refine Below.alloc ?_ ?_ _) | (with_reducible refine below_ext ?_ ?_ _) | (with_reducible refine Below.drew ?_) | (with_reducible refine below_drewN ?_ _) | (with_reducible refine Below.setCell ?_ ?_ _) | go_size | (simp only [go_sem]; omega) | (simp [go_sem]; done) | (simp [go_sem]; omega)))⟩
end Go.Proofs.Ytdlngbmgcedbpaa
