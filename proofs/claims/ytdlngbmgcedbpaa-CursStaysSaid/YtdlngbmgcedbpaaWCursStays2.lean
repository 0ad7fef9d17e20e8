/- What the law CursStays comes to. -/
import Derived.Test.YtdlngbmgcedbpaaWCursStays

namespace Go.Proofs.Ytdlngbmgcedbpaa
open Go.ChangeShapes Go.WideShapes Go.ChangeAt Go.RowKit
set_option linter.unusedVariables false
set_option linter.unusedSimpArgs false
set_option maxRecDepth 100000 in
set_option maxHeartbeats 8000000 in
theorem CursStays_walk (w : World) (row col rd : Int) (kp wp og : Bool) (a b c d l r s : Int) (wrow : (Lit.int .i64 row).wf = true) (wcol : (Lit.int .i64 col).wf = true) (pt pl pb pr mt ml mb mr : Int) (A : Option Addr) (cc : Nat) (xs : List Ac) (hx : Rd encA 3 w A xs) (lc : xs.length ≤ cc) (cm : cc ≤ maxLen) (wf : ∀ n ∈ xs, Ac.ok n) :
    Calls Try.prog 7 #[.agg #[.int .i64 row, .int .i64 col, .int .u8 rd, .bool kp, .bool wp, .bool og, .int .i64 a, .int .i64 b, .int .i64 c, .int .i64 d, .int .i64 l, .int .i64 r, .int .i64 s], .agg #[.int .i64 pt, .int .i64 pl, .int .i64 pb, .int .i64 pr, .int .i64 mt, .int .i64 ml, .int .i64 mb, .int .i64 mr], .slice A xs.length cc] w (Gives w (.bool true)) := by
  simp only [maxLen] at cm
  by_cases hsm : pb ≤ 2000 ∧ pr ≤ 2000
  · obtain ⟨hb, hr⟩ := hsm
    exact CursStays_in w row col rd kp wp og a b c d l r s pt pl pb pr mt ml mb mr A cc xs hx (by omega) wf hb hr
  · have SM := Lib.hid (show ∀ w', Calls Try.prog 20 #[.agg #[.int .i64 pt, .int .i64 pl, .int .i64 pb, .int .i64 pr, .int .i64 mt, .int .i64 ml, .int .i64 mb, .int .i64 mr]] w' (Gives w' (.bool false)) from fun w' => by have := small_c (pt := pt) (pl := pl) (pb := pb) (pr := pr) (mt := mt) (ml := ml) (mb := mb) (mr := mr) w'; rwa [show (decide (pb ≤ 2000) && decide (pr ≤ 2000)) = false by simp; omega] at this)
    clear hsm wrow wcol hx lc cm wf
    go_enter Try.func7, Try.ntmps7
    go_wp2_with (first | (go_at_call 15; ((with_reducible refine (awake13 _).mono ?_); rintro _ _ hgets; obtain ⟨rfl, _, rfl⟩ := hgets.get; clear hgets)) | (go_at_call 20; ((with_reducible refine (SM.out _).mono ?_); rintro _ _ hgets; obtain ⟨rfl, _, rfl⟩ := hgets.get; clear hgets)))
    go_returns
    exact ⟨rfl, by (repeat' (first | (with_reducible exact Below.refl _ _) | (with_reducible refine Below.alloc ?_ ?_ _) | (with_reducible refine below_ext ?_ ?_ _) | (with_reducible refine Below.drew ?_) | (with_reducible refine below_drewN ?_ _) | (with_reducible refine Below.setCell ?_ ?_ _) | go_size | (simp only [go_sem]; omega) | (simp [go_sem]; done) | (simp [go_sem]; omega)))⟩
end Go.Proofs.Ytdlngbmgcedbpaa
