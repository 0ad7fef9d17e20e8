/- PagePlays: the walk.  -/
import Derived.Test.YtpahcgappaifnaaGreatAwake7
import Derived.Test.YtpahcgappaifnaaGreatPgG
namespace Go.Proofs.YtpahcgappaifnaaGreat
open Go.RowKit
set_option linter.unusedVariables false
set_option linter.unusedSimpArgs false

set_option maxRecDepth 100000 in
set_option maxHeartbeats 8000000 in
theorem PagePlays_walk (w : World) (rows : Int) (_ : (Lit.int .i64 rows).wf = true) (cols : Int) (_ : (Lit.int .i64 cols).wf = true) (A : Option Addr) (C : Nat) (acts : List ActD) (rd : Rd ActD.cells 13 w A acts) (hl : acts.length ≤ C) (hm : C ≤ maxLen) (ha : ∀ a ∈ acts, a.Ok w) :
    Calls Tryz.prog 3 #[.int .i64 rows, .int .i64 cols, .slice A acts.length C] w (fun e w' => e = .returned (.bool true) ∧ Below w.heap.size w w') := by
  have hm2 : acts.length ≤ 9223372036854775807 := by simp only [maxLen] at hm; omega
  have PL := Lib.hid (fun w' (h : Below w.heap.size w w') => play_c rows cols acts A C w' (rd.below h) (fun a h' => (ha a h').below h) hm2)
  have AW := Lib.hid awake_7
  clear rd ha
  go_enter Tryz.func3, Tryz.ntmps3
  go_upto_region 3 with (first
    | (go_at_call 8; ((with_reducible refine (AW.out _).mono ?_); rintro _ _ hgets; obtain ⟨rfl, x1, rfl⟩ := hgets.get; clear hgets)))
  go_upto_region 4 with (first
    | ((go_at_call 9); (with_reducible refine (PL.out _ (below_of_ext _ _)).mono ?_); (rintro _ w2 ⟨p, _, F, rfl, hb2, -, ⟨V, ru, rfl, hl, -⟩, -⟩); (obtain ⟨A1, c1, rfl, -, -⟩ := hl.form)))
  clear PL AW
  go_wp2
  go_returns
  refine ⟨rfl, ?_⟩
  have hb : Below w.heap.size w w2 := (below_of_ext w x1).trans (hb2.mono (below_of_ext w x1).size)
  have hs := hb.size
  (repeat' (first | (with_reducible exact Below.refl _ _) | (with_reducible refine Below.alloc ?_ ?_ _) | (with_reducible refine below_ext ?_ ?_ _) | (with_reducible refine Below.drew ?_) | (with_reducible refine below_drewN ?_ _) | (with_reducible refine Below.setCell ?_ ?_ _) | go_size | (simp only [go_sem]; omega) | (simp [go_sem]; done) | (simp [go_sem]; omega)))
end Go.Proofs.YtpahcgappaifnaaGreat
