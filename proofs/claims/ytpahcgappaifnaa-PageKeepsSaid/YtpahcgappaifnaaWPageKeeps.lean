/- PageKeeps: the walk.  -/
import Derived.Test.YtpahcgappaifnaaAwake7
import Derived.Test.YtpahcgappaifnaaSpareG3
import Derived.Test.YtpahcgappaifnaaPgIs
import Derived.Test.YtpahcgappaifnaaPgE
import Derived.Test.YtpahcgappaifnaaPgPen
import Derived.Test.YtpahcgappaifnaaPgClone
import Derived.Test.YtpahcgappaifnaaPgF
import Derived.Test.YtpahcgappaifnaaInts
import Derived.Test.YtpahcgappaifnaaRowsApp
namespace Go.Proofs.Ytpahcgappaifnaa
open Go.RowKit
set_option linter.unusedVariables false
set_option linter.unusedSimpArgs false

theorem spare_take (xs : List Cl) : (spare xs).take xs.length = xs := by
  apply List.ext_getElem?
  intro i
  rcases Nat.lt_or_ge i xs.length with h | h
  · rw [List.getElem?_take_of_lt h]
    simp only [spare, List.getElem?_map]
    rw [List.getElem?_range (by omega)]
    simp [spAt, h]
  · rw [List.getElem?_eq_none (by simp; omega), List.getElem?_eq_none h]
@[go_sem] theorem line_f0 (A : Option Addr) (n c : Nat) (z : Int) (w : World) : (Instr.field 61 (.agg #[.slice A n c, .int .i64 z]) 0).run Try.prog w = .ok (.slice A n c) w := by kernel_rfl
set_option maxRecDepth 100000 in
set_option maxHeartbeats 8000000 in
theorem PageKeeps_walk (w : World) (A : Option Addr) (C : Nat) (xs : List Cl) (rd : Rd encC 3 w A xs) (hl : xs.length ≤ C) (hm : C ≤ maxLen) (ho : ∀ y ∈ xs, y.ok) (_re : C * 8 ≤ 140737488351232)
    (B : Option Addr) (D : Nat) (ns : List Int) (rn : Ints w B ns) (hl' : ns.length ≤ D) (hm' : D ≤ maxLen) (_wf : ∀ n ∈ ns, (Lit.int .i64 n).wf = true) (_re' : D * 8 ≤ 140737488351232) :
    Calls Try.prog 5 #[.slice A xs.length C, .slice B ns.length D] w (fun e w' => e = .returned (.bool true) ∧ Below w.heap.size w w') := by
  have AW := Lib.hid awake_7
  have X := Lib.hid rd
  have R := Lib.hid rn
  clear rd rn _re _re' _wf
  by_cases h100 : 100 < xs.length
  · have e1 : decide ((100 : Int) < xs.length) = true := decide_eq_true (by omega)
    go_enter Try.func5, Try.ntmps5
    go_wp2_with (go_at_call 20; ((with_reducible refine (AW.out _).mono ?_); rintro _ _ hgets; obtain ⟨rfl, x1, rfl⟩ := hgets.get; clear hgets))
    go_returns
    exact ⟨rfl, by (repeat' (first | (with_reducible exact Below.refl _ _) | (with_reducible refine Below.alloc ?_ ?_ _) | (with_reducible refine below_ext ?_ ?_ _) | (with_reducible refine Below.drew ?_) | (with_reducible refine below_drewN ?_ _) | (with_reducible refine Below.setCell ?_ ?_ _) | go_size | (simp only [go_sem]; omega) | (simp [go_sem]; done) | (simp [go_sem]; omega)))⟩
  have e1 : decide ((100 : Int) < xs.length) = false := decide_eq_false (by omega)
  by_cases h20 : 20 < ns.length
  · have e2 : decide ((20 : Int) < ns.length) = true := decide_eq_true (by omega)
    go_enter Try.func5, Try.ntmps5
    go_wp2_with (go_at_call 20; ((with_reducible refine (AW.out _).mono ?_); rintro _ _ hgets; obtain ⟨rfl, x1, rfl⟩ := hgets.get; clear hgets))
    go_returns
    exact ⟨rfl, by (repeat' (first | (with_reducible exact Below.refl _ _) | (with_reducible refine Below.alloc ?_ ?_ _) | (with_reducible refine below_ext ?_ ?_ _) | (with_reducible refine Below.drew ?_) | (with_reducible refine below_drewN ?_ _) | (with_reducible refine Below.setCell ?_ ?_ _) | go_size | (simp only [go_sem]; omega) | (simp [go_sem]; done) | (simp [go_sem]; omega)))⟩
  have e2 : decide ((20 : Int) < ns.length) = false := decide_eq_false (by omega)
  have NP := Lib.hid (fun w' => new_p 2 ((xs.length : Int) + 1) w')
  have RN := Lib.hid (fun w' => refnew_c 2 ((xs.length : Int) + 1) w')
  have okS : (resizeS ⟨[], 0⟩ 2 ((xs.length : Int) + 1)).Ok := resizeS_ok _ _ _ (fun r hr => by cases hr)
  have h2S := Lib.hid (show (resizeS ⟨[], 0⟩ 2 ((xs.length : Int) + 1)).rows.length = 2 by simp [resizeS, dimN]; rfl)
  generalize resizeS ⟨[], 0⟩ 2 ((xs.length : Int) + 1) = S at NP okS RN h2S
  have SP := Lib.hid (fun w' (h : Below w.heap.size w w') => spare_c A C xs w' (X.out.below h) (by omega))
  go_enter Try.func5, Try.ntmps5
  go_upto_region 7 with (first
    | (go_at_call 20; ((with_reducible refine (AW.out _).mono ?_); rintro _ _ hgets; obtain ⟨rfl, x1, rfl⟩ := hgets.get; clear hgets))
    | ((go_at_call 21); (with_reducible refine (NP.out _).mono ?_); (rintro _ _ ⟨p, F, x2, rfl, rfl, hFg, hPg⟩); replace hFg := Lib.hid hFg; replace hPg := Lib.hid hPg)
    | ((go_at_call 22); (with_reducible refine (SP.out _ (by (repeat' (first | (with_reducible exact Below.refl _ _) | (with_reducible refine Below.alloc ?_ ?_ _) | (with_reducible refine below_ext ?_ ?_ _) | (with_reducible refine Below.drew ?_) | (with_reducible refine below_drewN ?_ _) | (with_reducible refine Below.setCell ?_ ?_ _) | go_size | (simp only [go_sem]; omega) | (simp [go_sem]; done) | (simp [go_sem]; omega))))).mono ?_); (rintro _ _ ⟨x3, rfl, rfl, hO⟩); replace hO := Lib.hid hO))
  have hnm : ns.length ≤ 20 := by omega
  go_upto_region 8 with (first
    | (at_builtin
       refine append_rd (U := ext (ext (ext w x1) x2) x3) (.tmp 30) (.tmp 31) _ 3 _ 8 rfl rfl Try.underlying55 int_info rfl (by omega) (encI_len _) (encI_one _) [] ns _ B D rfl rfl ?_ (Own.new (encI_len _) (by simp) rfl #[] rfl (Nat.le_refl _) (by simp [maxLen])) (by repeat (first | exact R.out | exact R | refine Rd.ext ?_ _ | refine Rd.alloc ?_ _ | refine Rd.drew ?_)) (by simp [maxLen]; omega) (by simp; omega) ?_
       · (repeat' (first | (with_reducible exact Below.refl _ _) | (with_reducible refine Below.alloc ?_ ?_ _) | (with_reducible refine below_ext ?_ ?_ _) | (with_reducible refine Below.drew ?_) | (with_reducible refine below_drewN ?_ _) | (with_reducible refine Below.setCell ?_ ?_ _) | go_size | (simp only [go_sem]; omega) | (simp [go_sem]; done) | (simp [go_sem]; omega)))
       intro A4 c4 x4 zs hz hN))
  rw [List.nil_append] at hz
  subst hz
  replace hN := Lib.hid hN
  obtain ⟨Wb, hWb⟩ : ∃ Wb, Wb = ext (ext (ext (ext w x1) x2) x3) x4 := ⟨_, rfl⟩
  have hbb : Below w.heap.size w Wb := by rw [hWb]; (repeat' (first | (with_reducible exact Below.refl _ _) | (with_reducible refine Below.alloc ?_ ?_ _) | (with_reducible refine below_ext ?_ ?_ _) | (with_reducible refine Below.drew ?_) | (with_reducible refine below_drewN ?_ _) | (with_reducible refine Below.setCell ?_ ?_ _) | go_size | (simp only [go_sem]; omega) | (simp [go_sem]; done) | (simp [go_sem]; omega)))
  have PP := Lib.hid (show PageAt Wb F p S from hPg.out.grow (by rw [hWb]; (repeat' (first | (with_reducible exact Below.refl _ _) | (with_reducible refine Below.alloc ?_ ?_ _) | (with_reducible refine below_ext ?_ ?_ _) | (with_reducible refine Below.drew ?_) | (with_reducible refine below_drewN ?_ _) | (with_reducible refine Below.setCell ?_ ?_ _) | go_size | (simp only [go_sem]; omega) | (simp [go_sem]; done) | (simp [go_sem]; omega)))))
  have hF1 : ∀ b, F b → w.heap.size ≤ b ∧ b < w.heap.size + x1.sz + x2.sz := fun b f => by have h1 := hFg.out b f; have h2 := hPg.out.lt b f; simp at h1 h2; omega
  have hO2 := Lib.hid (show Own encC 3 41 (w.heap.size + x1.sz + x2.sz) Wb (.slice (some ⟨w.heap.size + x1.sz + x2.sz, 0, none⟩) (xs.length + 9) (xs.length + 9)) (spare xs) by rw [hWb]; have := hO.out.below (below_of_ext _ x4); simpa using this)
  have hN2 := Lib.hid (show Own (encI .i64) 1 3 (w.heap.size + x1.sz + x2.sz) Wb (.slice A4 zs.length c4) zs by rw [hWb]; exact hN.out.mono (by simp))
  have hsb : w.heap.size + x1.sz + x2.sz ≤ Wb.heap.size := by rw [hWb]; first | (simp; done) | (simp; omega)
  have hg0 : w.heap.size ≤ w.heap.size + x1.sz + x2.sz := by omega
  rw [← hWb]
  clear hWb hPg hFg hO hN NP SP
  generalize w.heap.size + x1.sz + x2.sz = g0 at hF1 hO2 hN2 hsb hg0 ⊢
  have XS := Lib.hid (show Rd encC 3 Wb (some ⟨g0, 0, none⟩) xs by have := (hO2.out.rd encC_len).take xs.length; rwa [spare_take] at this)
  have SL := Lib.hid (fun w' (hb : Below Wb.heap.size Wb w') => setline_p (PP.out.grow hb) okS 0 (some ⟨g0, 0, none⟩) (xs.length + 9) 0 xs (XS.out.below hb))
  have RS := Lib.hid (fun w' U (h : RefV w' U S) (hb : Below w.heap.size w w') => refset_c U 0 A C xs 0 h okS (X.out.below hb) (by omega))
  have ok1 := setLineS_ok okS 0 0 ho
  have e12 : (setLineS S 0 xs 0).rows.length = S.rows.length ∧ (setLineS S 0 xs 0).cols = S.cols := by unfold setLineS; split <;> simp [setRowS]
  generalize setLineS S 0 xs 0 = S1 at SL ok1 RS e12
  obtain ⟨e1S, e2S⟩ := e12
  replace e1S := Lib.hid e1S
  replace e2S := Lib.hid e2S
  go_upto_region 9 with (first
    | ((go_at_call 23); (with_reducible refine (SL.out _ (by (repeat' (first | (with_reducible exact Below.refl _ _) | (with_reducible refine Below.alloc ?_ ?_ _) | (with_reducible refine below_ext ?_ ?_ _) | (with_reducible refine Below.drew ?_) | (with_reducible refine below_drewN ?_ _) | (with_reducible refine Below.setCell ?_ ?_ _) | go_size | (simp only [go_sem]; omega) | (simp [go_sem]; done) | (simp [go_sem]; omega))))).mono ?_); (rintro _ W2 ⟨rfl, hD⟩); replace hD := Lib.hid hD))
  obtain ⟨F1, hF1'⟩ : ∃ F1, F1 = more F Wb W2 := ⟨_, rfl⟩
  have PP1 := Lib.hid (show PageAt W2 F1 p S1 by rw [hF1']; exact hD.out.2)
  have hs2 := hD.out.1.size
  have hF2 : ∀ b, F1 b → w.heap.size ≤ b ∧ (b < g0 ∨ Wb.heap.size ≤ b) := fun b f => by
    rw [hF1'] at f
    rcases f with f | f
    · have := hF1 b f; omega
    · have := hbb.size; omega
  have hO0 := hO2.out.lt g0 rfl
  have hN0 := Lib.hid hN2.out.lt
  have hO3 := Lib.hid (hO2.out.keep fun k hv => by injection hv with hv; subst hv; exact hD.out.1.block g0 hO0.2 (fun f => by have := hF1 g0 f; omega))
  have hN3 := Lib.hid (hN2.out.keep fun k hv => hD.out.1.block _ (hN0.out k hv).2 (fun f => by have := hF1 _ f; have := hN0.out k hv; omega))
  have hb2 : Below w.heap.size w W2 := hbb.trans (hD.out.1.below (fun b f => (hF1 b f).1) hbb.size)
  clear hD SL hO2 hN2 hF1' PP XS hF1
  obtain ⟨S2, hS2⟩ : ∃ T, T = eachS S1 (onB S1.rows.length S1.cols ⟨0, 0, S1.rows.length, S1.cols⟩) (fun xs l r => eachR xs l r (applyC zs)) := ⟨_, rfl⟩
  have ok2 : S2.Ok := by
    rw [hS2]
    exact eachS_ok ok1 _ (fun xs l r => eachR_len _ _ _ _) (fun xs l r h => eachR_ok h (fun y hy => applyC_ok hy))
  have h22 := Lib.hid (show S2.rows.length = 2 by rw [hS2]; simp [eachS, e1S.out, h2S.out])
  have BX := Lib.hid (fun w' (hb : Below W2.heap.size W2 w') => box_p (PP1.out.grow hb))
  have CH := Lib.hid (fun w' (hb : Below W2.heap.size W2 w') => change_p (PP1.out.grow hb) ok1 ⟨0, 0, S1.rows.length, S1.cols⟩ A4 c4 zs ((hN3.out.rd (encI_len _)).below hb) (fun h0 q o e f => by subst e; have := hN0.out q rfl; have := hF2 q f; omega) (by omega))
  have RE := Lib.hid (fun w' U (h : RefV w' U S1) (hb : Below w.heap.size w w') => (by
    have := refeach_c 3 U ⟨0, 0, S.rows.length, S.cols⟩ ⟨0, 0, false⟩ (.slice B zs.length D) (applyC zs) h ok1 (fun y hy w'' hb' => one_r 3 ⟨0, 0, false⟩ B D zs (applyC zs) (Deed.change _ _) y w'' hy ((R.out.below hb).below (hb'.mono (Nat.le_refl _))) (by omega))
    rw [← e1S.out, ← e2S.out, ← hS2] at this
    rw [← e1S.out, ← e2S.out]
    exact this : Calls Try.prog 27 #[.int .i64 3, U, boxV 0 0 S.rows.length S.cols, cellV ⟨0, 0, false⟩, .slice B zs.length D] w' (NewRef S2 w')))
  rw [← hS2] at CH
  clear hS2
  go_upto_region 10 with (first
    | (go_at_call 16; ((with_reducible refine (BX.out _ (by (repeat' (first | (with_reducible exact Below.refl _ _) | (with_reducible refine Below.alloc ?_ ?_ _) | (with_reducible refine below_ext ?_ ?_ _) | (with_reducible refine Below.drew ?_) | (with_reducible refine below_drewN ?_ _) | (with_reducible refine Below.setCell ?_ ?_ _) | go_size | (simp only [go_sem]; omega) | (simp [go_sem]; done) | (simp [go_sem]; omega))))).mono ?_); rintro _ _ hgets; obtain ⟨rfl, y1, rfl⟩ := hgets.get; clear hgets))
    | ((go_at_call 24); (with_reducible refine (CH.out _ (by (repeat' (first | (with_reducible exact Below.refl _ _) | (with_reducible refine Below.alloc ?_ ?_ _) | (with_reducible refine below_ext ?_ ?_ _) | (with_reducible refine Below.drew ?_) | (with_reducible refine below_drewN ?_ _) | (with_reducible refine Below.setCell ?_ ?_ _) | go_size | (simp only [go_sem]; omega) | (simp [go_sem]; done) | (simp [go_sem]; omega))))).mono ?_); (rintro _ W3 ⟨rfl, hD⟩); replace hD := Lib.hid hD))
  obtain ⟨F2, hF2'⟩ : ∃ F2, F2 = more F1 (ext W2 y1) W3 := ⟨_, rfl⟩
  have PP2 := Lib.hid (show PageAt W3 F2 p S2 by rw [hF2']; exact hD.out.2)
  have hs3 : W2.heap.size + y1.sz ≤ W3.heap.size := by have := hD.out.1.size; rwa [size_ext] at this
  have hs4 := hb2.size
  have hF3 : ∀ b, F2 b → w.heap.size ≤ b ∧ (b < g0 ∨ Wb.heap.size ≤ b) := fun b f => by
    rw [hF2'] at f
    rcases f with f | f
    · exact hF2 b f
    · rw [size_ext] at f; omega
  have hO4 := Lib.hid ((hO3.out.ext y1).keep fun k hv => by injection hv with hv; subst hv; exact hD.out.1.block g0 (by rw [size_ext]; omega) (fun f => by have := hF2 g0 f; omega))
  have hN4 := Lib.hid ((hN3.out.ext y1).keep fun k hv => hD.out.1.block k (by rw [size_ext]; have := (hN0.out k hv).2; omega) (fun f => by have := hF2 k f; have := hN0.out k hv; omega))
  have hb3 : Below w.heap.size w W3 := (below_ext hb2 hb2.size y1).trans (hD.out.1.below (fun b f => (hF2 b f).1) (by rw [size_ext]; omega))
  have hg3 : Wb.heap.size ≤ W3.heap.size := by omega
  clear hD CH BX hO3 hN3 PP1 hF2' hF2 hb2 hs3 hs4 hs2
  have KP := Lib.hid (fun w' (hb : Below W3.heap.size W3 w') => kept_c (some ⟨g0, 0, none⟩) A (xs.length + 9) C xs w' ((hO4.out.rd encC_len).below hb) (X.out.below (hb3.trans (hb.mono hb3.size))) (by omega))
  have SI := Lib.hid (fun w' (hb : Below W3.heap.size W3 w') => (by simpa using same_ints A4 B c4 D zs zs w' ((hN4.out.rd (encI_len _)).below hb) (R.out.below (hb3.trans (hb.mono hb3.size))) (by omega) (by omega) : Calls Try.prog 26 #[.slice A4 zs.length c4, .slice B zs.length D] w' (Gives w' (.bool true))))
  go_upto_region 12 with (first
    | (go_at_call 25; ((with_reducible refine (KP.out _ (by (repeat' (first | (with_reducible exact Below.refl _ _) | (with_reducible refine Below.alloc ?_ ?_ _) | (with_reducible refine below_ext ?_ ?_ _) | (with_reducible refine Below.drew ?_) | (with_reducible refine below_drewN ?_ _) | (with_reducible refine Below.setCell ?_ ?_ _) | go_size | (simp only [go_sem]; omega) | (simp [go_sem]; done) | (simp [go_sem]; omega))))).mono ?_); rintro _ _ hgets; obtain ⟨rfl, y2, rfl⟩ := hgets.get; clear hgets))
    | (go_at_call 26; ((with_reducible refine (SI.out _ (by (repeat' (first | (with_reducible exact Below.refl _ _) | (with_reducible refine Below.alloc ?_ ?_ _) | (with_reducible refine below_ext ?_ ?_ _) | (with_reducible refine Below.drew ?_) | (with_reducible refine below_drewN ?_ _) | (with_reducible refine Below.setCell ?_ ?_ _) | go_size | (simp only [go_sem]; omega) | (simp [go_sem]; done) | (simp [go_sem]; omega))))).mono ?_); rintro _ _ hgets; obtain ⟨rfl, y3, rfl⟩ := hgets.get; clear hgets)))
  clear KP SI
  go_upto_region 13 with (first
    | ((fail_if_success (have := RV)); (go_at_call 29); (with_reducible refine (RN.out _).mono ?_); (rintro _ _ ⟨V, rws, z1, rfl, rfl, hl1, hv1, -⟩); have RV := Lib.hid (show RefV _ (.agg #[V, .int .i64 S.cols]) S from ⟨V, rws, rfl, hl1, hv1⟩); clear hl1 hv1)
    | ((go_at_call 29); (with_reducible refine (RN.out _).mono ?_); (rintro _ _ ⟨V, rws, z3, rfl, rfl, hl1, hv1, -⟩); have RV := Lib.hid (show RefV _ (.agg #[V, .int .i64 S.cols]) S from ⟨V, rws, rfl, hl1, hv1⟩); clear hl1 hv1)
    | (go_at_call 30; ((with_reducible refine (refbox_c (.agg #[V, .int .i64 S.cols]) S _ (RV.out.grow (by (repeat' (first | (with_reducible exact Below.refl _ _) | (with_reducible refine Below.alloc ?_ ?_ _) | (with_reducible refine below_ext ?_ ?_ _) | (with_reducible refine Below.drew ?_) | (with_reducible refine below_drewN ?_ _) | (with_reducible refine Below.setCell ?_ ?_ _) | go_size | (simp only [go_sem]; omega) | (simp [go_sem]; done) | (simp [go_sem]; omega)))))).mono ?_); rintro _ _ hgets; obtain ⟨rfl, z2, rfl⟩ := hgets.get; clear hgets))
    | ((go_at_call 28); (with_reducible refine (RS.out _ _ (RV.out.grow (by (repeat' (first | (with_reducible exact Below.refl _ _) | (with_reducible refine Below.alloc ?_ ?_ _) | (with_reducible refine below_ext ?_ ?_ _) | (with_reducible refine Below.drew ?_) | (with_reducible refine below_drewN ?_ _) | (with_reducible refine Below.setCell ?_ ?_ _) | go_size | (simp only [go_sem]; omega) | (simp [go_sem]; done) | (simp [go_sem]; omega))))) (hb3.trans (Below.mono (B := W3.heap.size) (by (repeat' (first | (with_reducible exact Below.refl _ _) | (with_reducible refine Below.alloc ?_ ?_ _) | (with_reducible refine below_ext ?_ ?_ _) | (with_reducible refine Below.drew ?_) | (with_reducible refine below_drewN ?_ _) | (with_reducible refine Below.setCell ?_ ?_ _) | go_size | (simp only [go_sem]; omega) | (simp [go_sem]; done) | (simp [go_sem]; omega)))) hb3.size))).mono ?_); (rintro _ _ ⟨V5, rw5, z5, rfl, rfl, hl5, hv5, -⟩); have RV5 := Lib.hid (show RefV _ (.agg #[V5, .int .i64 S1.cols]) S1 from ⟨V5, rw5, rfl, hl5, hv5⟩); clear hl5 hv5)
    | ((go_at_call 27); (with_reducible refine (RE.out _ _ (RV5.out.grow (by (repeat' (first | (with_reducible exact Below.refl _ _) | (with_reducible refine Below.alloc ?_ ?_ _) | (with_reducible refine below_ext ?_ ?_ _) | (with_reducible refine Below.drew ?_) | (with_reducible refine below_drewN ?_ _) | (with_reducible refine Below.setCell ?_ ?_ _) | go_size | (simp only [go_sem]; omega) | (simp [go_sem]; done) | (simp [go_sem]; omega))))) (hb3.trans (Below.mono (B := W3.heap.size) (by (repeat' (first | (with_reducible exact Below.refl _ _) | (with_reducible refine Below.alloc ?_ ?_ _) | (with_reducible refine below_ext ?_ ?_ _) | (with_reducible refine Below.drew ?_) | (with_reducible refine below_drewN ?_ _) | (with_reducible refine Below.setCell ?_ ?_ _) | go_size | (simp only [go_sem]; omega) | (simp [go_sem]; done) | (simp [go_sem]; omega)))) hb3.size))).mono ?_); (rintro _ _ ⟨V6, rw6, z6, rfl, rfl, hl6, hv6, hf6⟩); (obtain ⟨A6, c6, rfl, -, -⟩ := hl6.form); replace hl6 := Lib.hid hl6; replace hv6 := Lib.hid hv6; replace hf6 := Lib.hid hf6))
  obtain ⟨W4, hW4⟩ : ∃ W4, W4 = (ext (ext (ext (ext (ext (ext (ext W3 y2) y3) z1) z5) z3) z2) z6).alloc (.cells #[.slice A6 rw6.length c6, .int .i64 S2.cols] 28) := ⟨_, rfl⟩
  have hb4 : Below W3.heap.size W3 W4 := by rw [hW4]; (repeat' (first | (with_reducible exact Below.refl _ _) | (with_reducible refine Below.alloc ?_ ?_ _) | (with_reducible refine below_ext ?_ ?_ _) | (with_reducible refine Below.drew ?_) | (with_reducible refine below_drewN ?_ _) | (with_reducible refine Below.setCell ?_ ?_ _) | go_size | (simp only [go_sem]; omega) | (simp [go_sem]; done) | (simp [go_sem]; omega)))
  have hWw : W4.heap[W3.heap.size + y2.sz + y3.sz + z1.sz + z5.sz + z3.sz + z2.sz + z6.sz]? = some (.cells #[.slice A6 rw6.length c6, .int .i64 S2.cols] 28 (0, 0)) := by
    rw [hW4]
    have := heap_alloc_new (ext (ext (ext (ext (ext (ext (ext W3 y2) y3) z1) z5) z3) z2) z6) (.cells #[.slice A6 rw6.length c6, .int .i64 S2.cols] 28)
    simpa only [size_ext] using this
  have hl7 := Lib.hid (show Lns W4 (.slice A6 rw6.length c6) rw6 by rw [hW4]; exact hl6.out.grow ((Below.refl _ _).alloc (Nat.le_refl _) _))
  have hf7 : ∀ b, foot (.slice A6 rw6.length c6) rw6 b → W3.heap.size ≤ b := fun b f => by have := hf6.out b f; simp only [size_ext] at this; omega
  have hw3 : W3.heap.size ≤ W3.heap.size + y2.sz + y3.sz + z1.sz + z5.sz + z3.sz + z2.sz + z6.sz := by omega
  rw [← hW4]
  clear hW4 hl6 hf6 RN RS RE
  generalize W3.heap.size + y2.sz + y3.sz + z1.sz + z5.sz + z3.sz + z2.sz + z6.sz = Hw at hWw hw3 ⊢
  generalize rw6.length = n6 at hWw hl7 hf7 ⊢
  replace hWw := Lib.hid hWw
  have PP4 := Lib.hid (PP2.out.grow hb4)
  have hO5 := Lib.hid (hO4.out.below hb4)
  have hF4 : ∀ b, F2 b → (b < g0 ∨ Wb.heap.size ≤ b) ∧ b < W3.heap.size := fun b f => ⟨(hF3 b f).2, PP2.out.lt b f⟩
  have hb5 : Below w.heap.size w W4 := hb3.trans (hb4.mono hb3.size)
  have hs4 := hb4.size
  clear PP2 hO4 hN4 hN0
  have hys : 0 < (lineOf S2 0).1.length ∧ (lineOf S2 0).1.length ≤ 500 := by
    have e : lineOf S2 ((0 : Nat) : Int) = S2.rows[0]'(by rw [h22.out]; omega) := lineOf_in (by rw [h22.out]; omega)
    rw [show (0 : Int) = ((0 : Nat) : Int) from rfl, e, ok2.len]
    exact ⟨ok2.c1, ok2.c2⟩
  have LN := Lib.hid (fun w' (hb : Below W4.heap.size W4 w') => line_p (PP4.out.grow hb) ok2 0)
  have CL := Lib.hid (fun w' (hb : Below W4.heap.size W4 w') => clone_p (PP4.out.grow hb) ok2)
  obtain ⟨ys, hysd⟩ : ∃ ys, ys = (lineOf S2 0).1 := ⟨_, rfl⟩
  obtain ⟨zz, hzd⟩ : ∃ zz, zz = (lineOf S2 0).2 := ⟨_, rfl⟩
  rw [← hysd] at LN hys
  rw [← hzd] at LN
  have LC := Lib.hid (fun w' (q : Nat) (F : Nat → Prop) (hq : PageAt w' F q S2) => (by rw [hysd, hzd]; exact line_p hq ok2 0 : Calls Try.prog 31 #[.pointer (some ⟨q, 0, none⟩), .int .i64 0] w' (NewL w' ys zz)))
  clear hysd hzd
  obtain ⟨hy0, hy5⟩ := hys
  replace hy5 := Lib.hid hy5
  go_upto_region 14 with (first
    | ((fail_if_success (have := hr1)); (go_at_call 31); (with_reducible refine (LN.out _ (by (repeat' (first | (with_reducible exact Below.refl _ _) | (with_reducible refine Below.alloc ?_ ?_ _) | (with_reducible refine below_ext ?_ ?_ _) | (with_reducible refine Below.drew ?_) | (with_reducible refine below_drewN ?_ _) | (with_reducible refine Below.setCell ?_ ?_ _) | go_size | (simp only [go_sem]; omega) | (simp [go_sem]; done) | (simp [go_sem]; omega))))).mono ?_); (intro e' w'' hq); (obtain ⟨g1, k1, u1, rfl, rfl, hr1, hg1⟩ := newL_row hq hy0); clear hq; replace hr1 := Lib.hid hr1; replace hg1 := Lib.hid hg1)
    | ((go_at_call 31); (with_reducible refine (LN.out _ (by (repeat' (first | (with_reducible exact Below.refl _ _) | (with_reducible refine Below.alloc ?_ ?_ _) | (with_reducible refine below_ext ?_ ?_ _) | (with_reducible refine Below.drew ?_) | (with_reducible refine below_drewN ?_ _) | (with_reducible refine Below.setCell ?_ ?_ _) | go_size | (simp only [go_sem]; omega) | (simp [go_sem]; done) | (simp [go_sem]; omega))))).mono ?_); (intro e' w'' hq); (obtain ⟨g2, k2, u2, rfl, rfl, hr2, hg2⟩ := newL_row hq hy0); clear hq; replace hr2 := Lib.hid hr2; replace hg2 := Lib.hid hg2)
    | ((go_at_call 32); (with_reducible refine (CL.out _ (by (repeat' (first | (with_reducible exact Below.refl _ _) | (with_reducible refine Below.alloc ?_ ?_ _) | (with_reducible refine below_ext ?_ ?_ _) | (with_reducible refine Below.drew ?_) | (with_reducible refine below_drewN ?_ _) | (with_reducible refine Below.setCell ?_ ?_ _) | go_size | (simp only [go_sem]; omega) | (simp [go_sem]; done) | (simp [go_sem]; omega))))).mono ?_); (rintro _ _ ⟨q, Fq, u3, rfl, rfl, -, hq3⟩); replace hq3 := Lib.hid hq3)
    | ((go_at_call 31); (with_reducible refine (LC.out _ _ _ hq3.out).mono ?_); (intro e' w'' hq); (obtain ⟨g4, k4, u4, rfl, rfl, hr4, hg4⟩ := newL_row hq hy0); clear hq; replace hr4 := Lib.hid hr4; replace hg4 := Lib.hid hg4))
  clear LN CL LC
  have hO5n : g0 ≤ W4.heap.size := by omega
  obtain ⟨rows0, hrows0⟩ : ∃ rows0 : List RowD, rows0 = [⟨some (g0, 0), xs.length + 9, xs.length + 9⟩, ⟨some (g1, 0), ys.length, k1⟩, ⟨some (g2, 0), ys.length, k2⟩, ⟨some (g4, 0), ys.length, k4⟩] := ⟨_, rfl⟩
  have R0 : RowsAt g0 W4 [⟨some (g0, 0), xs.length + 9, xs.length + 9⟩] := ⟨fun r hr => by rw [List.mem_singleton.1 hr]; exact row_of_all hO5.out, fun i j r s hi hj hij => by
    have h1 := (List.getElem?_eq_some_iff.1 hi).1
    have h2 := (List.getElem?_eq_some_iff.1 hj).1
    simp only [List.length_singleton] at h1 h2
    omega⟩
  have R1 := R0.snoc hO5n (below_of_ext W4 u1) (row_of_line hr1.out hg1.out)
  have R2 := R1.snoc (by rw [size_ext]; omega) (below_of_ext (ext W4 u1) u2) (row_of_line hr2.out hg2.out)
  have R3 := (R2.below (below_of_ext _ u3)).snoc (by simp only [size_ext]; omega) (below_of_ext (ext (ext (ext W4 u1) u2) u3) u4) (row_of_line hr4.out hg4.out)
  obtain ⟨U, hU⟩ : ∃ U, U = ext (ext (ext (ext W4 u1) u2) u3) u4 := ⟨_, rfl⟩
  have hbU : Below W4.heap.size W4 U := by rw [hU]; (repeat' (first | (with_reducible exact Below.refl _ _) | (with_reducible refine Below.alloc ?_ ?_ _) | (with_reducible refine below_ext ?_ ?_ _) | (with_reducible refine Below.drew ?_) | (with_reducible refine below_drewN ?_ _) | (with_reducible refine Below.setCell ?_ ?_ _) | go_size | (simp only [go_sem]; omega) | (simp [go_sem]; done) | (simp [go_sem]; omega)))
  have hsU : W4.heap.size + u1.sz + u2.sz + u3.sz + u4.sz = U.heap.size := by rw [hU]; simp only [size_ext]
  have R4 : RowsAt g0 U rows0 := by rw [hU, hrows0]; exact R3
  have hrb : ∀ r ∈ rows0, ∀ g o, r.b = some (g, o) → g = g0 ∨ W4.heap.size ≤ g := by
    have h1 := hg1.out
    have h2 := hg2.out
    have h4 := hg4.out
    simp only [size_ext] at h2 h4
    intro r hr g o e
    rw [hrows0] at hr
    simp only [List.mem_cons, List.not_mem_nil, or_false] at hr
    rcases hr with rfl | rfl | rfl | rfl <;> (injection e with e; injection e with e1 e2; subst e1)
    · exact .inl rfl
    · exact .inr h1
    · exact .inr (by omega)
    · exact .inr (by omega)
  have hrn : ∀ r ∈ rows0, r.n ≤ 9000 := by
    have := hy5.out
    intro r hr
    rw [hrows0] at hr
    simp only [List.mem_cons, List.not_mem_nil, or_false] at hr
    rcases hr with rfl | rfl | rfl | rfl <;> (simp only; omega)
  have hr4n : rows0.length = 4 := by rw [hrows0]; rfl
  obtain ⟨W6, hW6⟩ : ∃ W6, W6 = U.alloc (.cells #[.slice (some ⟨g0, 0, none⟩) (xs.length + 9) (xs.length + 9), .slice (some ⟨g1, 0, none⟩) ys.length k1, .slice (some ⟨g2, 0, none⟩) ys.length k2, .slice (some ⟨g4, 0, none⟩) ys.length k4] 54) := ⟨_, rfl⟩
  have hO6 : Own encR 1 54 U.heap.size W6 (.slice (some ⟨U.heap.size, 0, none⟩) 4 4) rows0 := by
    rw [hW6]
    exact Own.new encR_len rfl hr4n.symm _ (by rw [hrows0]; rfl) (Nat.le_refl _) (by rw [hr4n]; simp [maxLen])
  rw [← hU, ← hW6, hsU]
  have hbU6 : Below U.heap.size U W6 := by rw [hW6]; exact (Below.refl _ _).alloc (Nat.le_refl _) _
  have R6 := R4.below hbU6
  clear hU hW6 hrows0 R0 R1 R2 R3 R4 hr1 hr2 hr4 hg1 hg2 hg4 hq3 hsU
  generalize hVL : Value.slice (some ⟨U.heap.size, 0, none⟩) 4 4 = VL at hO6 ⊢
  clear hVL
  replace hO6 := Lib.hid hO6
  replace R6 := Lib.hid R6
  replace hr4n := Lib.hid hr4n
  have hb6 : Below W4.heap.size W4 W6 := hbU.trans (hbU6.mono hbU.size)
  have BX := Lib.hid (fun w' (hb : Below W6.heap.size W6 w') => box_p (PP4.out.grow (hb6.trans (hb.mono hb6.size))))
  have CS := Lib.hid (fun w' (hb : Below W6.heap.size W6 w') => cells_p (PP4.out.grow (hb6.trans (hb.mono hb6.size))) ok2 ⟨0, 0, S2.rows.length, S2.cols⟩)
  have hcl : (cellsS S2 (onB S2.rows.length S2.cols ⟨0, 0, S2.rows.length, S2.cols⟩)).length ≤ 2 ∧ ∀ l ∈ cellsS S2 (onB S2.rows.length S2.cols ⟨0, 0, S2.rows.length, S2.cols⟩), l.length ≤ 9000 := by
    have hin := onB_in S2.rows.length S2.cols ⟨0, 0, S2.rows.length, S2.cols⟩
    generalize onB S2.rows.length S2.cols ⟨0, 0, S2.rows.length, S2.cols⟩ = y at hin ⊢
    have := h22.out
    refine ⟨by simp only [cellsS, List.length_map, List.length_range]; omega, fun l hl => ?_⟩
    simp only [cellsS, List.mem_map, List.mem_range] at hl
    obtain ⟨i, hi, rfl⟩ := hl
    rw [cutR_len]
    have h500 : (S2.rows.getD (y.t.toNat + i) ([], 0)).1.length ≤ 500 := by
      rcases Nat.lt_or_ge (y.t.toNat + i) S2.rows.length with h | h
      · rw [List.getD_eq_getElem?_getD, List.getElem?_eq_getElem h]
        simp only [Option.getD_some]
        rw [ok2.len h]
        exact ok2.c2
      · rw [List.getD_eq_getElem?_getD, List.getElem?_eq_none h]
        simp
    generalize (S2.rows.getD (y.t.toNat + i) ([], 0)).1.length = m at h500 ⊢
    have := offN_le m y.l y.r (by omega)
    omega
  obtain ⟨vals, hvals⟩ : ∃ vals, vals = cellsS S2 (onB S2.rows.length S2.cols ⟨0, 0, S2.rows.length, S2.cols⟩) := ⟨_, rfl⟩
  rw [← hvals] at CS hcl
  replace hvals := Lib.hid hvals
  replace hcl := Lib.hid hcl
  go_upto_region 15 with (first
    | (go_at_call 16; ((with_reducible refine (BX.out _ (by (repeat' (first | (with_reducible exact Below.refl _ _) | (with_reducible refine Below.alloc ?_ ?_ _) | (with_reducible refine below_ext ?_ ?_ _) | (with_reducible refine Below.drew ?_) | (with_reducible refine below_drewN ?_ _) | (with_reducible refine Below.setCell ?_ ?_ _) | go_size | (simp only [go_sem]; omega) | (simp [go_sem]; done) | (simp [go_sem]; omega))))).mono ?_); rintro _ _ hgets; obtain ⟨rfl, b1, rfl⟩ := hgets.get; clear hgets))
    | ((go_at_call 33); (with_reducible refine (CS.out _ (by (repeat' (first | (with_reducible exact Below.refl _ _) | (with_reducible refine Below.alloc ?_ ?_ _) | (with_reducible refine below_ext ?_ ?_ _) | (with_reducible refine Below.drew ?_) | (with_reducible refine below_drewN ?_ _) | (with_reducible refine Below.setCell ?_ ?_ _) | go_size | (simp only [go_sem]; omega) | (simp [go_sem]; done) | (simp [go_sem]; omega))))).mono ?_); (rintro _ _ ⟨VC, rowsC, v1, rfl, rfl, hC, hCv⟩); (obtain ⟨AC, cC, rfl, -, -⟩ := hC.own.form); replace hC := Lib.hid hC; replace hCv := Lib.hid hCv)
    | (at_builtin
       refine rows_append (U := U) (base := g0) (.tmp 79) (.tmp 83) rfl rfl rows0 (rowsC.map Prod.fst) _ AC cC rowsC.length (by simp) rfl rfl ?_ ?_ ?_ ?_ ?_ ?_
       · exact hbU6.trans (Below.mono (B := W6.heap.size) (by (repeat' (first | (with_reducible exact Below.refl _ _) | (with_reducible refine Below.alloc ?_ ?_ _) | (with_reducible refine below_ext ?_ ?_ _) | (with_reducible refine Below.drew ?_) | (with_reducible refine below_drewN ?_ _) | (with_reducible refine Below.setCell ?_ ?_ _) | go_size | (simp only [go_sem]; omega) | (simp [go_sem]; done) | (simp [go_sem]; omega)))) hbU6.size)
       · exact hO6.out.below (by (repeat' (first | (with_reducible exact Below.refl _ _) | (with_reducible refine Below.alloc ?_ ?_ _) | (with_reducible refine below_ext ?_ ?_ _) | (with_reducible refine Below.drew ?_) | (with_reducible refine below_drewN ?_ _) | (with_reducible refine Below.setCell ?_ ?_ _) | go_size | (simp only [go_sem]; omega) | (simp [go_sem]; done) | (simp [go_sem]; omega))))
       · have := (ownQR hC.out.own).rd encR_len; simpa using this
       · exact (R6.out.below (by (repeat' (first | (with_reducible exact Below.refl _ _) | (with_reducible refine Below.alloc ?_ ?_ _) | (with_reducible refine below_ext ?_ ?_ _) | (with_reducible refine Below.drew ?_) | (with_reducible refine below_drewN ?_ _) | (with_reducible refine Below.setCell ?_ ?_ _) | go_size | (simp only [go_sem]; omega) | (simp [go_sem]; done) | (simp [go_sem]; omega))))).app (by have := hbU6.size; rw [size_ext]; have := hbU.size; omega) (below_of_ext _ _) hC.out.sep
       · have h1 := hcl.out.1; rw [← hCv.out] at h1; have := hr4n.out; simp at h1 ⊢; omega
       intro A7 c7 n7 x7 hO7 hn7 R7))
  have hrb7 : ∀ r ∈ rows0 ++ rowsC.map Prod.fst, ∀ g o, r.b = some (g, o) → g = g0 ∨ W4.heap.size ≤ g := by
    intro r hr g o e
    rcases List.mem_append.1 hr with hr | hr
    · exact hrb r hr g o e
    · have := ((hC.out.sep.live r hr).blk g o e).1
      rw [size_ext] at this
      have := hb6.size
      exact .inr (by omega)
  have hrn7 : ∀ r ∈ rows0 ++ rowsC.map Prod.fst, r.n ≤ 9000 := by
    intro r hr
    rcases List.mem_append.1 hr with hr | hr
    · exact hrn r hr
    · obtain ⟨s, hs, rfl⟩ := List.mem_map.1 hr
      rw [(hC.out.rd s hs).1]
      exact hcl.out.2 _ (by rw [← hCv.out]; exact List.mem_map.2 ⟨s, hs, rfl⟩)
  have hrl7 : 4 ≤ (rows0 ++ rowsC.map Prod.fst).length ∧ (rows0 ++ rowsC.map Prod.fst).length ≤ 6 := by
    have h1 := hcl.out.1
    rw [← hCv.out] at h1
    have := hr4n.out
    simp at h1 ⊢
    omega
  clear hC hCv hn7 hrb hrn hr4n hO6 R6 BX CS hbU6 hb6
  generalize rows0 ++ rowsC.map Prod.fst = rows1 at hO7 R7 hrb7 hrn7 hrl7 ⊢
  obtain ⟨W7, hW7⟩ : ∃ W7, W7 = ext U x7 := ⟨_, rfl⟩
  have hbU7 : Below U.heap.size U W7 := by rw [hW7]; exact below_of_ext U x7
  rw [← hW7] at hO7 R7 ⊢
  clear hW7
  generalize hVL : Value.slice A7 n7 c7 = VL7 at hO7 ⊢
  clear hVL
  replace hrl7 := Lib.hid hrl7
  have hb7 : Below W4.heap.size W4 W7 := hbU.trans (hbU7.mono hbU.size)
  have BX := Lib.hid (fun w' (hb : Below W7.heap.size W7 w') => box_p (PP4.out.grow (hb7.trans (hb.mono hb7.size))))
  have CS := Lib.hid (fun w' (hb : Below W7.heap.size W7 w') => (by
    have := cells_p (PP4.out.grow (hb7.trans (hb.mono hb7.size))) ok2 ⟨0, 0, S2.rows.length, S2.cols⟩
    rwa [← hvals.out] at this : Calls Try.prog 33 #[.pointer (some ⟨p, 0, none⟩), boxV 0 0 S2.rows.length S2.cols] w' (NewCells w' vals)))
  go_upto_region 16 with (first
    | (go_at_call 16; ((with_reducible refine (BX.out _ (by (repeat' (first | (with_reducible exact Below.refl _ _) | (with_reducible refine Below.alloc ?_ ?_ _) | (with_reducible refine below_ext ?_ ?_ _) | (with_reducible refine Below.drew ?_) | (with_reducible refine below_drewN ?_ _) | (with_reducible refine Below.setCell ?_ ?_ _) | go_size | (simp only [go_sem]; omega) | (simp [go_sem]; done) | (simp [go_sem]; omega))))).mono ?_); rintro _ _ hgets; obtain ⟨rfl, b2, rfl⟩ := hgets.get; clear hgets))
    | ((go_at_call 33); (with_reducible refine (CS.out _ (by (repeat' (first | (with_reducible exact Below.refl _ _) | (with_reducible refine Below.alloc ?_ ?_ _) | (with_reducible refine below_ext ?_ ?_ _) | (with_reducible refine Below.drew ?_) | (with_reducible refine below_drewN ?_ _) | (with_reducible refine Below.setCell ?_ ?_ _) | go_size | (simp only [go_sem]; omega) | (simp [go_sem]; done) | (simp [go_sem]; omega))))).mono ?_); (rintro _ _ ⟨VC2, rowsC2, v2, rfl, rfl, hC, hCv⟩); (obtain ⟨AC2, cC2, rfl, -, -⟩ := hC.own.form); replace hC := Lib.hid hC; replace hCv := Lib.hid hCv)
    | (at_builtin
       refine rows_append (U := U) (base := g0) (.tmp 85) (.tmp 89) rfl rfl rows1 (rowsC2.map Prod.fst) _ AC2 cC2 rowsC2.length (by simp) rfl rfl ?_ ?_ ?_ ?_ ?_ ?_
       · exact hbU7.trans (Below.mono (B := W7.heap.size) (by (repeat' (first | (with_reducible exact Below.refl _ _) | (with_reducible refine Below.alloc ?_ ?_ _) | (with_reducible refine below_ext ?_ ?_ _) | (with_reducible refine Below.drew ?_) | (with_reducible refine below_drewN ?_ _) | (with_reducible refine Below.setCell ?_ ?_ _) | go_size | (simp only [go_sem]; omega) | (simp [go_sem]; done) | (simp [go_sem]; omega)))) hbU7.size)
       · exact hO7.out.below (by (repeat' (first | (with_reducible exact Below.refl _ _) | (with_reducible refine Below.alloc ?_ ?_ _) | (with_reducible refine below_ext ?_ ?_ _) | (with_reducible refine Below.drew ?_) | (with_reducible refine below_drewN ?_ _) | (with_reducible refine Below.setCell ?_ ?_ _) | go_size | (simp only [go_sem]; omega) | (simp [go_sem]; done) | (simp [go_sem]; omega))))
       · have := (ownQR hC.out.own).rd encR_len; simpa using this
       · exact (R7.out.below (by (repeat' (first | (with_reducible exact Below.refl _ _) | (with_reducible refine Below.alloc ?_ ?_ _) | (with_reducible refine below_ext ?_ ?_ _) | (with_reducible refine Below.drew ?_) | (with_reducible refine below_drewN ?_ _) | (with_reducible refine Below.setCell ?_ ?_ _) | go_size | (simp only [go_sem]; omega) | (simp [go_sem]; done) | (simp [go_sem]; omega))))).app (by have := hbU7.size; rw [size_ext]; have := hbU.size; omega) (below_of_ext _ _) hC.out.sep
       · have h1 := hcl.out.1; rw [← hCv.out] at h1; have := hrl7.out; simp at h1 ⊢; omega
       intro A8 c8 n8 x8 hO8 hn8 R8))
  have hrb8 : ∀ r ∈ rows1 ++ rowsC2.map Prod.fst, ∀ g o, r.b = some (g, o) → g = g0 ∨ W4.heap.size ≤ g := by
    intro r hr g o e
    rcases List.mem_append.1 hr with hr | hr
    · exact hrb7 r hr g o e
    · have := ((hC.out.sep.live r hr).blk g o e).1
      rw [size_ext] at this
      have := hb7.size
      exact .inr (by omega)
  have hrn8 : ∀ r ∈ rows1 ++ rowsC2.map Prod.fst, r.n ≤ 9000 := by
    intro r hr
    rcases List.mem_append.1 hr with hr | hr
    · exact hrn7 r hr
    · obtain ⟨s, hs, rfl⟩ := List.mem_map.1 hr
      rw [(hC.out.rd s hs).1]
      exact hcl.out.2 _ (by rw [← hCv.out]; exact List.mem_map.2 ⟨s, hs, rfl⟩)
  have hrl8 : (rows1 ++ rowsC2.map Prod.fst).length ≤ 20 := by
    have h1 := hcl.out.1
    rw [← hCv.out] at h1
    have := hrl7.out
    simp at h1 ⊢
    omega
  have hne8 : n8 ≠ 0 := by
    have h1 := hn8.out
    have h2 := hrl7.out.1
    simp only [List.length_append] at h1
    omega
  clear hC hCv hrb7 hrn7 hrl7 hO7 R7 BX CS hbU7 hb7
  generalize rows1 ++ rowsC2.map Prod.fst = rows2 at hO8 R8 hn8 hrb8 hrn8 hrl8 ⊢
  obtain ⟨W8, hW8⟩ : ∃ W8, W8 = ext U x8 := ⟨_, rfl⟩
  have hbU8 : Below U.heap.size U W8 := by rw [hW8]; exact below_of_ext U x8
  rw [← hW8] at hO8 R8 ⊢
  clear hW8
  have hb8 : Below W4.heap.size W4 W8 := hbU.trans (hbU8.mono hbU.size)
  obtain ⟨G, rfl, hL8, hGU, hG8, hne⟩ := list_lies hO8.out (by rintro rfl; exact hne8 hn8.out)
  have hn8' := hn8.out
  subst hn8'
  have AP := Lib.hid (apart_k g0 G rows2 W8 c8 (by have := hb8.size; omega) R8.out.live hL8 R8.out.sep (fun r hr g o e => hne _ r (R8.out.live r hr) g o e) hrl8 hrn8)
  clear hL8 hO8 hn8 hne8
  have FIN := Lib.hid (fun W9 (hk9 : Keep (blkOf rows2) W8 W9) => (by
    have hkw : ∀ b, blkOf rows2 b → b = g0 ∨ W4.heap.size ≤ b := fun b ⟨r, hr, o, e⟩ => hrb8 r hr b o e
    have hH : Hw < W4.heap.size := heap_in hWw.out
    have hs8 := hb8.size
    have q : W9.heap[Hw]? = some (.cells #[.slice A6 n6 c6, .int .i64 S2.cols] 28 (0, 0)) := (hk9.block Hw (by omega) (fun f => by rcases hkw _ f with e | e <;> omega)).trans ((hb8.block Hw hH).trans hWw.out)
    have hP : PageAt W9 F2 p S2 := (PP4.out.grow hb8).keep hk9 (fun b f g => by rcases hkw _ g with e | e <;> (have := hF4 b f; omega))
    have hR : RefV W9 (.agg #[.slice A6 n6 c6, .int .i64 S2.cols]) S2 := ⟨_, rw6, rfl, (hl7.out.grow hb8).keep hk9 (fun b f g => by rcases hkw _ g with e | e <;> (have := hf7 b f; have := hl7.out.lt f; omega)), hv6.out⟩
    exact ⟨by rw [cell_in q]; rfl, by rw [cell_in q]; rfl, heap_in q, hb5.trans ((hb8.mono hb5.size).trans (hk9.below (fun b f => by rcases hkw _ f with e | e <;> (have := hb5.size; omega)) (by have := hb5.size; omega))), is_c _ hP ok2 hR⟩ :
      W9.cell? ⟨Hw, 0, none⟩ = some (.slice A6 n6 c6) ∧ W9.cell? ⟨Hw, 1, none⟩ = some (.int .i64 S2.cols) ∧ Hw < W9.heap.size ∧ Below w.heap.size w W9 ∧ Calls Try.prog 17 #[.pointer (some ⟨p, 0, none⟩), .agg #[.slice A6 n6 c6, .int .i64 S2.cols]] W9 (Gives W9 (.bool true))))
  go_wp2_with (first
    | ((go_at_call 34); (with_reducible refine AP.out.mono ?_); (rintro _ W9 ⟨rfl, hk9⟩); (obtain ⟨q0, q1, q2, hb9, IS⟩ := FIN.out _ hk9); clear hk9; replace IS := Lib.hid IS; replace hb9 := Lib.hid hb9)
    | (go_at_call 17; ((with_reducible refine (IS.out).mono ?_); rintro _ _ hgets; obtain ⟨rfl, x9, rfl⟩ := hgets.get; clear hgets)))
  go_returns
  exact ⟨rfl, below_ext hb9.out hb9.out.size x9⟩
end Go.Proofs.Ytpahcgappaifnaa
