/- LineLays: the walk. -/
import Derived.Test.YtdlngbmgcedbpaaLineLaw
import Derived.Test.YtdlngbmgcedbpaaAwake3
namespace Go.Proofs.Ytdlngbmgcedbpaa
open Go.RowKit
set_option linter.unusedVariables false
set_option linter.unusedSimpArgs false

def GrewF (we : World) (s : Value) (wx : World) : Prop := s = .bool false ∧ ∃ x, wx = ext we x
theorem Own.capNone {α : Type} {enc : α → List Value} {size : Nat} {e : TypeId} {B : Nat} {w : World} {A : Option Addr} {n c : Nat} {xs : List α} (h : Own enc size e B w (.slice A n c) xs) : (A = none → c = 0) ∧ c ≤ maxLen ∧ xs.length ≤ c := by
  rcases h.2 with ⟨h1, hn⟩ | ⟨g, cap, cur, h1, _, _, h2, h3, _⟩
  · injection h1 with e1 e2 e3
    subst e3
    exact ⟨fun _ => rfl, by simp [maxLen], by omega⟩
  · injection h1 with e1 e2 e3
    subst e1 e3
    exact ⟨fun h => by (cases h), h3, h2⟩
set_option maxRecDepth 100000 in
set_option maxHeartbeats 8000000 in
theorem LineLays_walk (w : World) (A : Option Addr) (C : Nat) (xs0 : List Cl) (sz : Int) (rd : Rd encC 3 w A xs0) (lc : xs0.length ≤ C) (cm : C ≤ maxLen) (hok : ∀ y ∈ xs0, y.ok)
    (f t n : Int) (hf : (Lit.int .i64 f).wf = true) (ht : (Lit.int .i64 t).wf = true) (hn : (Lit.int .i64 n).wf = true)
    (AY : Option Addr) (CY : Nat) (ys0 : List Cl) (ry : Rd encC 3 w AY ys0) (ly : ys0.length ≤ CY) (cy : CY ≤ maxLen) (hoky : ∀ y ∈ ys0, y.ok) (rey : CY * 8 ≤ 140737488351232) :
    Calls Try.prog 8 #[lineV A xs0.length C sz, .agg #[.int .i64 f, .int .i64 t, .int .i64 n], .slice AY ys0.length CY] w (Gives w (.bool true)) := by
  have hf2 := (bounds_i64 hf).2
  have OW := Lib.hid (fun w' (h : Rd encC 3 w' A xs0) => own_l A C sz xs0 w' h lc cm)
  have X := Lib.hid rd
  have Y := Lib.hid (ry.take 400)
  have hx : (xs0.take 300).length ≤ 300 := by simp; omega
  have hy : (ys0.take 400).length ≤ 400 ∧ (ys0.take 400).length ≤ CY ∧ ((400 < ys0.length ∧ (ys0.take 400).length = 400) ∨ (¬ 400 < ys0.length ∧ (ys0.take 400).length = ys0.length)) := by simp; omega
  simp only [maxLen] at cm cy
  generalize hxs : xs0.take 300 = xs at OW hx
  generalize hys : ys0.take 400 = ys at Y hy
  clear hxs hys rd ry hok hoky hf ht hn
  have CY1 := Lib.hid (fun w' (h : Rd encC 3 w' AY ys) => cells_c AY CY ys w' h (by omega) (by simp [maxLen]; omega))
  obtain ⟨hy1, hy2, hy3⟩ := hy
  go_enter Try.func8, Try.ntmps8
  go_upto_if 16 with (first
    | (go_at_call 43; ((with_reducible refine (awake_3 _).mono ?_); rintro _ _ hgets; obtain ⟨rfl, x0, rfl⟩ := hgets.get; clear hgets))
    | (go_at_call 44
       (with_reducible refine (OW.out _ (by repeat (first | exact X.out | exact X | refine Rd.ext ?_ _ | refine Rd.alloc ?_ _ | refine Rd.drew ?_))).mono ?_)
       rintro _ _ ⟨A1, c1, x1, rfl, rfl, hO1⟩
       have hO := Lib.hid hO1
       clear hO1))
  obtain ⟨hA1, hc1, hc2⟩ := hO.out.capNone
  simp only [maxLen] at hc1
  have hwa : ∃ wa, wa = ext (ext ((w.alloc (.cells #[.slice A1 xs.length c1, .int .i64 sz] 70)).alloc (.cells #[.int .i64 f, .int .i64 t, .int .i64 n] 72)) x0) x1 := ⟨_, rfl⟩
  obtain ⟨wa, hwa⟩ := hwa
  rw [← hwa]
  have l0 : wa.cell? ⟨w.heap.size, 0, none⟩ = some (.slice A1 xs.length c1) := by rw [hwa]; simp [go_sem]
  have l1 : wa.cell? ⟨w.heap.size, 1, none⟩ = some (.int .i64 sz) := by rw [hwa]; simp [go_sem]
  have s0 : wa.cell? ⟨w.heap.size + 1, 0, none⟩ = some (.int .i64 f) := by rw [hwa]; simp [go_sem]
  have s1 : wa.cell? ⟨w.heap.size + 1, 1, none⟩ = some (.int .i64 t) := by rw [hwa]; simp [go_sem]
  have hs : w.heap.size + 1 < wa.heap.size := by rw [hwa]; simp [go_sem]
  have hb := Lib.hid (show Below w.heap.size w wa by rw [hwa]; (repeat' (first | (with_reducible exact Below.refl _ _) | (with_reducible refine Below.alloc ?_ ?_ _) | (with_reducible refine below_ext ?_ ?_ _) | (with_reducible refine Below.drew ?_) | (with_reducible refine below_drewN ?_ _) | (with_reducible refine Below.setCell ?_ ?_ _) | go_size | (simp only [go_sem]; omega) | (simp [go_sem]; done) | (simp [go_sem]; omega))))
  have XA := Lib.hid (show Rd encC 3 wa A1 xs by
    have h := own_set_far (own_set_far hO.out w.heap.size 0 (by simp [go_sem]) (.slice A1 xs.length c1)) w.heap.size 1 (by simp [go_sem]) (.int .i64 sz)
    have h2 := h.rd encC_len
    rw [hwa]
    simpa [go_sem] using h2)
  clear hwa hO
  go_cut [2] (fun s wx => s = .slice AY ys.length CY ∧ wx = wa)
  case first =>
    rcases hy3 with ⟨h1, h2⟩ | ⟨h1, h2⟩
    · replace h2 := Lib.hid h2
      go_wp2
      go_meet
      rw [h2.out]
      exact ⟨rfl, rfl⟩
    · replace h2 := Lib.hid h2
      go_wp2
      go_meet
      rw [h2.out]
      exact ⟨rfl, rfl⟩
  obtain ⟨rfl, rfl⟩ := hcut
  have YA := Lib.hid (Y.out.below hb.out)
  have OA := Lib.hid (fun w' (h : Rd encC 3 w' A1 xs) => show Calls Try.prog 44 #[lineV A1 xs.length c1 sz] w' (NewL w' xs sz) by
    have h2 := own_l A1 c1 sz xs w' h hc2 (by simpa only [maxLen] using hc1)
    rw [List.take_of_length_le hx] at h2
    exact h2)
  go_upto_region 7 with (first
    | (go_at_call 45
       (with_reducible refine (CY1.out _ (by repeat (first | exact YA.out | exact YA | refine Rd.ext ?_ _ | refine Rd.alloc ?_ _ | refine Rd.drew ?_))).mono ?_)
       rintro _ _ ⟨AG, cG, x2, rfl, rfl, hO1⟩
       have hG := Lib.hid hO1
       clear hO1))
  have hwb : ∃ wb, wb = ext wc x2 := ⟨_, rfl⟩
  obtain ⟨wb, hwb⟩ := hwb
  rw [← hwb] at hG ⊢
  have l0 : wb.cell? ⟨w.heap.size, 0, none⟩ = some (.slice A1 xs.length c1) := by rw [hwb]; simp [go_sem, l0, hs, Nat.lt_of_succ_lt hs]
  have l1 : wb.cell? ⟨w.heap.size, 1, none⟩ = some (.int .i64 sz) := by rw [hwb]; simp [go_sem, l1, hs, Nat.lt_of_succ_lt hs]
  have s0 : wb.cell? ⟨w.heap.size + 1, 0, none⟩ = some (.int .i64 f) := by rw [hwb]; simp [go_sem, s0, hs]
  have s1 : wb.cell? ⟨w.heap.size + 1, 1, none⟩ = some (.int .i64 t) := by rw [hwb]; simp [go_sem, s1, hs]
  have hs2 : w.heap.size + 1 < wb.heap.size := by rw [hwb]; simp; omega
  have hs3 : w.heap.size < wb.heap.size := by omega
  have hb2 := Lib.hid (show Below w.heap.size w wb by rw [hwb]; exact below_ext hb.out (by omega) x2)
  have XB := Lib.hid (show Rd encC 3 wb A1 xs by rw [hwb]; exact XA.out.ext x2)
  have YB := Lib.hid (show Rd encC 3 wb AY ys by rw [hwb]; exact YA.out.ext x2)
  have GB := Lib.hid (hG.out.rd encC_len)
  obtain ⟨hg1, hg2, hg3⟩ := hG.out.capNone
  simp only [maxLen] at hg2
  clear hwb hb XA YA hG hs
  have PL := Lib.hid (fun (A' : Option Addr) (c' : Nat) (hA' : A' = none → c' = 0) w' (h1 : Rd encC 3 w' A' xs) (h2 : Rd encC 3 w' AG ys) => lay_l A' c' sz xs f t AG cG ys w' h1 hA' (by omega) hf2 h2)
  go_cut [8] (fun s wx => OutAt wb (layR xs f t ys) sz s wx)
  case first =>
    go_region_held3 (fun w' => w'.cell? ⟨w.heap.size, 0, none⟩ = some (.slice A1 xs.length c1) ∧ w'.cell? ⟨w.heap.size, 1, none⟩ = some (.int .i64 sz) ∧ w'.cell? ⟨w.heap.size + 1, 0, none⟩ = some (.int .i64 f) ∧ w'.cell? ⟨w.heap.size + 1, 1, none⟩ = some (.int .i64 t)) ((refine ⟨?_, ?_, ?_, ?_⟩ <;> simp [go_sem, *])) ((first
      | (go_at_call 44
         (with_reducible refine (OA.out _ (by repeat (first | exact XB.out | exact XB | refine Rd.ext ?_ _ | refine Rd.alloc ?_ _ | refine Rd.drew ?_))).mono ?_)
         rintro _ _ ⟨A4, c4, x4, rfl, rfl, hO1⟩
         have hO4 := Lib.hid hO1
         clear hO1)
      | (go_at_call 46
         (with_reducible refine (PL.out A4 c4 hO4.out.capNone.1 _ ?_ ?_).mono ?_)
         · repeat (first | exact hO4.out.rd encC_len | refine Rd.ext ?_ _ | refine Rd.alloc ?_ _ | refine Rd.drew ?_)
         · repeat (first | exact GB.out | refine Rd.ext ?_ _ | refine Rd.alloc ?_ _ | refine Rd.drew ?_)
         rintro _ _ ⟨A5, c5, x5, rfl, rfl, hO1⟩
         have hO5 := Lib.hid hO1
         clear hO1)))
    all_goals go_wp2
    all_goals go_meet
    all_goals first
      | exact OutAt.lower (below_of_ext wb x4) (OutAt.a rfl (by simp [go_sem]) (by simpa [go_sem] using hO5.out))
      | exact OutAt.lower (below_of_ext wb x4) (OutAt.b rfl (by simp [go_sem]) (by simpa [go_sem] using hO5.out))
      | (rw [ext_ext]; exact OutAt.b rfl (by simp [go_sem]) (by have h := hO5.out; rw [ext_ext] at h; simp only [go_sem] at h; exact h.mono (by simp [go_sem])))
  obtain ⟨H, AX, cX, rfl, hR⟩ := hcut
  replace l0 := hR.old hs3 l0
  replace l1 := hR.old hs3 l1
  replace s0 := hR.old hs2 s0
  replace s1 := hR.old hs2 s1
  have x0 := hR.h0
  have x1 := hR.h1
  have hH := hR.lt
  have hbd := Lib.hid hR.below
  have hs4 := Nat.lt_of_lt_of_le hs2 hR.below.size
  have hs5 := Nat.lt_of_lt_of_le hs3 hR.below.size
  have XD := Lib.hid (XB.out.below hbd.out)
  have YD := Lib.hid (YB.out.below hbd.out)
  have GD := Lib.hid (GB.out.below hbd.out)
  have RD := Lib.hid (hR.own.rd encC_len)
  have hl := Lib.hid (layR_len xs f t ys)
  have hXc := hR.own.capNone
  have hb3 := Lib.hid (hb2.out.trans (hbd.out.mono hb2.out.size))
  clear hR PL hs2 hs3 XB YB GB hb2 hbd
  have CU := Lib.hid (fun (A' : Option Addr) (c' : Nat) (hA' : A' = none → c' = 0) w' (h1 : Rd encC 3 w' A' xs) => cut_l A' c' sz xs f t w' h1 hA' (by omega) hf2)
  go_upto_region 8 with (fail)
  go_region_held3 (fun w' => w'.cell? ⟨w.heap.size, 0, none⟩ = some (.slice A1 xs.length c1) ∧ w'.cell? ⟨w.heap.size, 1, none⟩ = some (.int .i64 sz) ∧ w'.cell? ⟨w.heap.size + 1, 0, none⟩ = some (.int .i64 f) ∧ w'.cell? ⟨w.heap.size + 1, 1, none⟩ = some (.int .i64 t)) ((refine ⟨?_, ?_, ?_, ?_⟩ <;> simp [go_sem, *])) ((first
      | (go_at_call 44
         (with_reducible refine (OA.out _ (by repeat (first | exact XD.out | exact XD | refine Rd.ext ?_ _ | refine Rd.alloc ?_ _ | refine Rd.drew ?_))).mono ?_)
         rintro _ _ ⟨A4, c4, x4, rfl, rfl, hO1⟩
         have hO4 := Lib.hid hO1
         clear hO1)
      | (go_at_call 47
         (with_reducible refine (CU.out A4 c4 hO4.out.capNone.1 _ ?_).mono ?_)
         · repeat (first | exact hO4.out.rd encC_len | refine Rd.ext ?_ _ | refine Rd.alloc ?_ _ | refine Rd.drew ?_)
         intro _ _ hcu
         obtain ⟨AC, kC, x5, rfl, rfl, hRC1, hAC, hkC, hkC2⟩ := CutL.at (by omega) hcu
         clear hcu
         have hRC := Lib.hid hRC1
         clear hRC1)))
  go_upto_region 9 with (fail)
  have hwe : ∃ we, we = ext (ext wc x4) x5 := ⟨_, rfl⟩
  obtain ⟨we, hwe⟩ := hwe
  have hwe2 : we = ext wc ⟨x4.objs ++ x5.objs, x5.drawn⟩ := by rw [hwe, ext_ext]
  have hRC := Lib.hid (show Rd encC 3 we AC (cutR xs f t) by rw [hwe]; exact hRC.out)
  rw [← hwe]
  clear hwe hO4
  generalize (⟨x4.objs ++ x5.objs, x5.drawn⟩ : More) = x6 at hwe2
  replace l0 : we.cell? ⟨w.heap.size, 0, none⟩ = some (.slice A1 xs.length c1) := by rw [hwe2]; exact (cell_ext _ _ _ _ hs5).trans l0
  replace l1 : we.cell? ⟨w.heap.size, 1, none⟩ = some (.int .i64 sz) := by rw [hwe2]; exact (cell_ext _ _ _ _ hs5).trans l1
  replace s0 : we.cell? ⟨w.heap.size + 1, 0, none⟩ = some (.int .i64 f) := by rw [hwe2]; exact (cell_ext _ _ _ _ hs4).trans s0
  replace s1 : we.cell? ⟨w.heap.size + 1, 1, none⟩ = some (.int .i64 t) := by rw [hwe2]; exact (cell_ext _ _ _ _ hs4).trans s1
  replace x0 := (cell_ext wc x6 _ _ hH).trans x0
  replace x1 := (cell_ext wc x6 _ _ hH).trans x1
  rw [← hwe2] at x0 x1
  have XE := Lib.hid (show Rd encC 3 we A1 xs by rw [hwe2]; exact XD.out.ext _)
  have YE := Lib.hid (show Rd encC 3 we AY ys by rw [hwe2]; exact YD.out.ext _)
  have GE := Lib.hid (show Rd encC 3 we AG ys by rw [hwe2]; exact GD.out.ext _)
  have RE := Lib.hid (show Rd encC 3 we AX (layR xs f t ys) by rw [hwe2]; exact RD.out.ext _)
  have hb4 := Lib.hid (show Below w.heap.size w we by rw [hwe2]; exact below_ext hb3.out (by omega) _)
  have hH2 : H < we.heap.size := by rw [hwe2]; simp; omega
  have hs6 : w.heap.size + 1 < we.heap.size := by rw [hwe2]; simp; omega
  have hs7 : w.heap.size < we.heap.size := by omega
  clear hwe2 hs4 hs5 hH hb3 XD YD GD RD CU OA
  have hcl := cutR_len xs f t
  have hol := offN_le xs.length f t (by omega)
  have LR := Lib.hid (fun w' (h1 : Rd encC 3 w' A1 xs) (h2 : Rd encC 3 w' AY ys) => show Calls Try.prog 49 #[lineV A1 xs.length c1 sz, .int .i64 f, .int .i64 t, .slice AY ys.length CY] w' (NewL w' (layR xs f t ys) sz) by
    rw [lay_same]; exact lay_r A1 c1 sz xs f t AY CY ys w' h1 (by omega) h2 hy2 (by omega))
  have hll := layR_len xs f t ys
  have SM := Lib.hid (fun (A' : Option Addr) (c' : Nat) w' (h1 : Rd encC 3 w' AX (layR xs f t ys)) (h2 : Rd encC 3 w' A' (layR xs f t ys)) => show Calls Try.prog 48 #[lineV AX (layR xs f t ys).length cX sz, lineV A' (layR xs f t ys).length c' sz] w' (Gives w' (.bool true)) by
    have h := same_lr AX A' cX c' (layR xs f t ys) (layR xs f t ys) sz sz w' h1 h2 (by omega) (by omega)
    rw [show sameL (layR xs f t ys) sz (layR xs f t ys) sz = true by simp [sameL]] at h
    exact h)
  have S1 := Lib.hid (fun w' (h1 : Rd encC 3 w' AG ys) (h2 : Rd encC 3 w' AY ys) => show Calls Try.prog 50 #[.slice AG ys.length cG, .slice AY ys.length CY] w' (Gives w' (.bool true)) by
    have h := same_cells AG AY cG CY ys ys w' h1 h2 (by omega) (by omega)
    rw [show decide (ys = ys) = true by simp] at h
    exact h)
  have S2 := Lib.hid (fun (A' : Option Addr) (c' : Nat) w' (h1 : Rd encC 3 w' AC (cutR xs f t)) (h2 : Rd encC 3 w' A' (cutR xs f t)) => show Calls Try.prog 50 #[.slice AC (cutR xs f t).length kC, .slice A' (cutR xs f t).length c'] w' (Gives w' (.bool true)) by
    have h := same_cells AC A' kC c' (cutR xs f t) (cutR xs f t) w' h1 h2 (by omega) (by omega)
    rw [show decide (cutR xs f t = cutR xs f t) = true by simp] at h
    exact h)
  have CR := Lib.hid (fun w' (h1 : Rd encC 3 w' A1 xs) => show Calls Try.prog 51 #[lineV A1 xs.length c1 sz, .int .i64 f, .int .i64 t] w' (NewCs w' (cutR xs f t)) by
    rw [← cutTo_cutR]; exact cut_r A1 c1 sz f t xs w' h1 (by omega))
  have LB := Lib.hid (fun w' (h1 : Rd encC 3 w' AX (layR xs f t ys)) (h2 : Rd encC 3 w' AC (cutR xs f t)) => show Calls Try.prog 46 #[lineV AX (layR xs f t ys).length cX sz, .int .i64 f, .int .i64 t, .slice AC (cutR xs f t).length kC] w' (NewL w' xs sz) by
    have h := lay_l AX cX sz (layR xs f t ys) f t AC kC (cutR xs f t) w' h1 hXc.1 (by omega) hf2 h2
    rw [lay_back] at h
    exact h)
  have SB := Lib.hid (fun (A' : Option Addr) (c' : Nat) w' (h1 : Rd encC 3 w' A' xs) (h2 : Rd encC 3 w' A1 xs) => show Calls Try.prog 48 #[lineV A' xs.length c' sz, lineV A1 xs.length c1 sz] w' (Gives w' (.bool true)) by
    have h := same_lr A' A1 c' c1 xs xs sz sz w' h1 h2 (by omega) (by omega)
    rw [show sameL xs sz xs sz = true by simp [sameL]] at h
    exact h)
  clear hll hcl hl hol
  generalize cutR xs f t = cs at *
  generalize layR xs f t ys = ls at *
  go_cut [62] (fun s wx => GrewF we s wx)
  case first =>
    go_region_held3 (fun w' => w'.cell? ⟨w.heap.size, 0, none⟩ = some (.slice A1 xs.length c1) ∧ w'.cell? ⟨w.heap.size, 1, none⟩ = some (.int .i64 sz) ∧ w'.cell? ⟨w.heap.size + 1, 0, none⟩ = some (.int .i64 f) ∧ w'.cell? ⟨w.heap.size + 1, 1, none⟩ = some (.int .i64 t) ∧ w'.cell? ⟨H, 0, none⟩ = some (.slice AX ls.length cX) ∧ w'.cell? ⟨H, 1, none⟩ = some (.int .i64 sz)) ((refine ⟨?_, ?_, ?_, ?_, ?_, ?_⟩ <;> simp [go_sem, *])) ((first
      | (go_at_call 49
         (with_reducible refine (LR.out _ (by repeat (first | exact XE.out | exact XE | refine Rd.ext ?_ _ | refine Rd.alloc ?_ _ | refine Rd.drew ?_)) (by repeat (first | exact YE.out | exact YE | refine Rd.ext ?_ _ | refine Rd.alloc ?_ _ | refine Rd.drew ?_))).mono ?_)
         rintro _ _ ⟨A4, c4, x4, rfl, rfl, hO1⟩
         have hO3 := hO1.rd encC_len
         try simp only [ext_drew, ext_drewN] at hO3
         have hO4 := Lib.hid hO3
         clear hO1 hO3)
      | (go_at_call 48
         (with_reducible refine (SM.out A4 c4 _ (by repeat (first | exact RE.out | exact RE | refine Rd.ext ?_ _ | refine Rd.alloc ?_ _ | refine Rd.drew ?_)) (by repeat (first | exact hO4.out | exact hO4 | refine Rd.ext ?_ _ | refine Rd.alloc ?_ _ | refine Rd.drew ?_))).mono ?_)
         rintro _ _ hgets
         obtain ⟨rfl, x7, rfl⟩ := hgets.get
         clear hgets)
      | (go_at_call 51
         (with_reducible refine (CR.out _ (by repeat (first | exact XE.out | exact XE | refine Rd.ext ?_ _ | refine Rd.alloc ?_ _ | refine Rd.drew ?_))).mono ?_)
         rintro _ _ ⟨A5, c5, x5, rfl, rfl, hO1⟩
         have hO3 := hO1.rd encC_len
         try simp only [ext_drew, ext_drewN] at hO3
         have hO5 := Lib.hid hO3
         clear hO1 hO3)
      | (go_at_call 50
         (first
           | (with_reducible refine (S2.out A5 c5 _ (by repeat (first | exact hRC.out | exact hRC | refine Rd.ext ?_ _ | refine Rd.alloc ?_ _ | refine Rd.drew ?_)) (by repeat (first | exact hO5.out | exact hO5 | refine Rd.ext ?_ _ | refine Rd.alloc ?_ _ | refine Rd.drew ?_))).mono ?_)
           | (with_reducible refine (S1.out _ (by repeat (first | exact GE.out | exact GE | refine Rd.ext ?_ _ | refine Rd.alloc ?_ _ | refine Rd.drew ?_)) (by repeat (first | exact YE.out | exact YE | refine Rd.ext ?_ _ | refine Rd.alloc ?_ _ | refine Rd.drew ?_))).mono ?_))
         rintro _ _ hgets
         obtain ⟨rfl, x8, rfl⟩ := hgets.get
         clear hgets)))
    all_goals go_wp2
    all_goals go_meet
    all_goals exact ⟨rfl, by simp only [ext_ext]; exact ⟨_, rfl⟩⟩
  obtain ⟨rfl, x9, rfl⟩ := hcut
  go_upto_region 11 with (fail)
  go_region_held3 (fun w' => w'.cell? ⟨w.heap.size, 0, none⟩ = some (.slice A1 xs.length c1) ∧ w'.cell? ⟨w.heap.size, 1, none⟩ = some (.int .i64 sz) ∧ w'.cell? ⟨w.heap.size + 1, 0, none⟩ = some (.int .i64 f) ∧ w'.cell? ⟨w.heap.size + 1, 1, none⟩ = some (.int .i64 t) ∧ w'.cell? ⟨H, 0, none⟩ = some (.slice AX ls.length cX) ∧ w'.cell? ⟨H, 1, none⟩ = some (.int .i64 sz)) ((refine ⟨?_, ?_, ?_, ?_, ?_, ?_⟩ <;> simp [go_sem, *])) ((first
      | (go_at_call 46
         (with_reducible refine (LB.out _ (by repeat (first | exact RE.out | exact RE | refine Rd.ext ?_ _ | refine Rd.alloc ?_ _ | refine Rd.drew ?_)) (by repeat (first | exact hRC.out | exact hRC | refine Rd.ext ?_ _ | refine Rd.alloc ?_ _ | refine Rd.drew ?_))).mono ?_)
         rintro _ _ ⟨A4, c4, x4, rfl, rfl, hO1⟩
         have hO3 := hO1.rd encC_len
         try simp only [ext_drew, ext_drewN] at hO3
         have hO4 := Lib.hid hO3
         clear hO1 hO3)
      | (go_at_call 48
         (with_reducible refine (SB.out A4 c4 _ (by repeat (first | exact hO4.out | exact hO4 | refine Rd.ext ?_ _ | refine Rd.alloc ?_ _ | refine Rd.drew ?_)) (by repeat (first | exact XE.out | exact XE | refine Rd.ext ?_ _ | refine Rd.alloc ?_ _ | refine Rd.drew ?_))).mono ?_)
         rintro _ _ hgets
         obtain ⟨rfl, x7, rfl⟩ := hgets.get
         clear hgets)))
  all_goals go_wp2
  all_goals go_returns
  all_goals exact ⟨rfl, by have := hb4.out; (repeat' (first | (with_reducible exact Below.refl _ _) | (with_reducible refine Below.alloc ?_ ?_ _) | (with_reducible refine below_ext ?_ ?_ _) | (with_reducible refine Below.drew ?_) | (with_reducible refine below_drewN ?_ _) | (with_reducible refine Below.setCell ?_ ?_ _) | go_size | (simp only [go_sem]; omega) | (simp [go_sem]; done) | (simp [go_sem]; omega)))⟩
end Go.Proofs.Ytdlngbmgcedbpaa
