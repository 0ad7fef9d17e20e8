/- BookPlays: the walk.  -/
import Derived.Test.YtpahcgappaifnaaBkPl
import Derived.Test.YtpahcgappaifnaaAwake8
namespace Go.Proofs.Ytpahcgappaifnaa
open Go.RowKit
set_option linter.unusedVariables false
set_option linter.unusedSimpArgs false

set_option maxRecDepth 100000 in
set_option maxHeartbeats 8000000 in
theorem BookPlays_walk (w : World) (k : Int) (_wk : (Lit.int .i64 k).wf = true) (A : Option Addr) (C : Nat) (acts : List ActB) (rd : Rd ActB.cells 12 w A acts) (hl : acts.length ≤ C) (hm : C ≤ maxLen) (ha : ∀ a ∈ acts, a.Ok) :
    Calls Try.prog 3 #[.int .i64 k, .slice A acts.length C] w (Gives w (.bool true)) := by
  have AW := Lib.hid awake_8
  have PL := Lib.hid (fun w' (hb : Below w.heap.size w w') => played_c k acts A C w' (rd.below hb) ha (by simp only [maxLen] at hm; omega))
  have okT := playB_ok k ha
  generalize playB k acts = T at PL okT
  clear rd ha
  go_enter Try.func3, Try.ntmps3
  go_upto_region 4 with (first
    | (go_at_call 7; ((with_reducible refine (AW.out _).mono ?_); rintro _ _ hgets; obtain ⟨rfl, x1, rfl⟩ := hgets.get; clear hgets))
    | ((go_at_call 8); (with_reducible refine (PL.out _ (by (repeat' (first | (with_reducible exact Below.refl _ _) | (with_reducible refine Below.alloc ?_ ?_ _) | (with_reducible refine below_ext ?_ ?_ _) | (with_reducible refine Below.drew ?_) | (with_reducible refine below_drewN ?_ _) | (with_reducible refine Below.setCell ?_ ?_ _) | go_size | (simp only [go_sem]; omega) | (simp [go_sem]; done) | (simp [go_sem]; omega))))).mono ?_); (rintro _ w2 ⟨b, F, U, rfl, hb, hbk, hr, hF⟩); (have hr2 := hr); (obtain ⟨A2, c2, us2, ⟨tA, tm, tc, tn⟩, rfl, -⟩ := hr2); (simp only [RPg.V] at hr ⊢); replace hb := Lib.hid hb; replace hbk := Lib.hid hbk; replace hr := Lib.hid hr))
  obtain ⟨V, ps, st, hO⟩ := hbk.out
  have hbw : Below w.heap.size w w2 := (below_of_ext w x1).trans (hb.out.mono (by simp))
  have IS := Lib.hid (fun w' (hb : Below w2.heap.size w2 w') => bis_c (hO.grow hb) okT (hr.out.grow hb))
  replace hbw := Lib.hid hbw
  clear hO hb hbk hr
  go_wp2_with (go_at_call 9; ((with_reducible refine (IS.out _ (by (repeat' (first | (with_reducible exact Below.refl _ _) | (with_reducible refine Below.alloc ?_ ?_ _) | (with_reducible refine below_ext ?_ ?_ _) | (with_reducible refine Below.drew ?_) | (with_reducible refine below_drewN ?_ _) | (with_reducible refine Below.setCell ?_ ?_ _) | go_size | (simp only [go_sem]; omega) | (simp [go_sem]; done) | (simp [go_sem]; omega))))).mono ?_); rintro _ _ hgets; obtain ⟨rfl, x3, rfl⟩ := hgets.get; clear hgets))
  go_returns
  exact ⟨rfl, hbw.out.trans (Below.mono (B := w2.heap.size) (by (repeat' (first | (with_reducible exact Below.refl _ _) | (with_reducible refine Below.alloc ?_ ?_ _) | (with_reducible refine below_ext ?_ ?_ _) | (with_reducible refine Below.drew ?_) | (with_reducible refine below_drewN ?_ _) | (with_reducible refine Below.setCell ?_ ?_ _) | go_size | (simp only [go_sem]; omega) | (simp [go_sem]; done) | (simp [go_sem]; omega)))) hbw.out.size)⟩
end Go.Proofs.Ytpahcgappaifnaa
