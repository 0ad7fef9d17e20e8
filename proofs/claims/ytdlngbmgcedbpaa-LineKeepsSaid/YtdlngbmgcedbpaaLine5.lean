/- Lines: are they alike? what the reference counts. -/
import Derived.Test.YtdlngbmgcedbpaaLine4
namespace Go.Proofs.Ytdlngbmgcedbpaa
open Go.RowKit
set_option linter.unusedVariables false
set_option linter.unusedSimpArgs false

attribute [local go_sem ↓] cell_neq
set_option maxHeartbeats 2000000 in
theorem equal_cells (a b : Option Addr) (c d : Nat) (xs ys : List Cl) (w : World) (hx : Rd encC 3 w a xs) (hy : Rd encC 3 w b ys) (hm : xs.length ≤ 9223372036854775807) (hn : ys.length ≤ 9223372036854775807) :
    Calls Try.prog 105 #[.slice a xs.length c, .slice b ys.length d] w (Gives w (.bool (decide (xs = ys)))) := by
  have X := Lib.hid hx
  have Y := Lib.hid hy
  clear hx hy
  by_cases hl : xs.length = ys.length
  · go_enter Try.func105, Try.ntmps105
    have HL := Lib.hid hl
    rw [← hl]
    clear hl
    go_wp2
    go_loopw [13] (fun iv wr => ∃ (j : Nat) (x : More), j ≤ xs.length ∧ iv = .int .i64 j ∧ wr = ext w x ∧ Hid (∀ i, i < j → xs[i]? = ys[i]?)) (fun iv _ => xs.length - (intOf iv).toNat)
    case atStart => exact ⟨0, ⟨#[], w.drawn⟩, by omega, rfl, by simp [ext], Lib.hid (fun i hi => by omega)⟩
    case round =>
      obtain ⟨j, x, hj, rfl, rfl, hr⟩ := hrel
      by_cases hlt : j < xs.length
      · have hlt2 : j < ys.length := by rw [← HL.out]; exact hlt
        obtain ⟨b1, o1, rfl, hb1, e0, e1, e2⟩ := X.out.cell3 hlt
        obtain ⟨b2, o2, rfl, hb2, f0, f1, f2⟩ := Y.out.cell3 hlt2
        have hx1 := Lib.hid (List.getElem?_eq_getElem hlt)
        have hy1 := Lib.hid (List.getElem?_eq_getElem hlt2)
        generalize xs[j] = y at e0 e1 e2 hx1
        generalize ys[j] = z at f0 f1 f2 hy1
        obtain ⟨yg, yr, yk⟩ := y
        obtain ⟨zg, zr, zk⟩ := z
        simp only at e0 e1 e2 f0 f1 f2
        by_cases he : (⟨yg, yr, yk⟩ : Cl) = ⟨zg, zr, zk⟩
        · have he2 := eqC_t he
          have hr2 := Lib.hid (fun i (hi : i < j + 1) => by
            rcases Nat.lt_or_ge i j with h | h
            · exact hr.out i h
            · obtain rfl : i = j := by omega
              rw [hx1.out, hy1.out, he])
          clear he hlt2
          go_wp2
          (refine wp_region_free (by kernel_rfl) (by kernel_rfl) ?_)
          repeat (go_big_quiet_step (fail))
          refine wpQuiet_nil ?_; rintro _ ⟨x2, rfl⟩
          go_wp2
          go_roundw
          case rel => exact ⟨j + 1, _, by omega, by go_num, ext_ext _ _ _, Lib.hid hr2.out⟩
          case measure => simp [intOf]; omega
        · have he2 := eqC_f he
          have hne := Lib.hid (show decide (xs = ys) = false by
            simp only [decide_eq_false_iff_not]
            intro h
            rw [h] at hx1
            exact he (Option.some.inj (hx1.out.symm.trans hy1.out)))
          clear he hlt2
          go_wp2
          (refine wp_region_free (by kernel_rfl) (by kernel_rfl) ?_)
          repeat (go_big_quiet_step (fail))
          refine wpQuiet_nil ?_; rintro _ ⟨x2, rfl⟩
          go_wp2
          go_returns
          rw [hne.out]
          exact ⟨rfl, by (repeat' (first | (with_reducible exact Below.refl _ _) | (with_reducible refine Below.alloc ?_ ?_ _) | (with_reducible refine below_ext ?_ ?_ _) | (with_reducible refine Below.drew ?_) | (with_reducible refine below_drewN ?_ _) | (with_reducible refine Below.setCell ?_ ?_ _) | go_size | (simp only [go_sem]; omega) | (simp [go_sem]; done) | (simp [go_sem]; omega)))⟩
      · have hq := Lib.hid (show decide (xs = ys) = true by
          simp only [decide_eq_true_eq]
          exact eq_of_takeC HL.out j (by omega) hr.out)
        go_wp2
        go_returns
        rw [hq.out]
        exact ⟨rfl, by (repeat' (first | (with_reducible exact Below.refl _ _) | (with_reducible refine Below.alloc ?_ ?_ _) | (with_reducible refine below_ext ?_ ?_ _) | (with_reducible refine Below.drew ?_) | (with_reducible refine below_drewN ?_ _) | (with_reducible refine Below.setCell ?_ ?_ _) | go_size | (simp only [go_sem]; omega) | (simp [go_sem]; done) | (simp [go_sem]; omega)))⟩
  · have hne := Lib.hid (show decide (xs = ys) = false by
      simp only [decide_eq_false_iff_not]
      intro h
      exact hl (by rw [h]))
    have q1 : ((xs.length : Int) != (ys.length : Int)) = true := by simp; omega
    go_enter Try.func105, Try.ntmps105
    go_wp2
    go_returns
    rw [hne.out]
    exact ⟨rfl, by (repeat' (first | (with_reducible exact Below.refl _ _) | (with_reducible refine Below.alloc ?_ ?_ _) | (with_reducible refine below_ext ?_ ?_ _) | (with_reducible refine Below.drew ?_) | (with_reducible refine below_drewN ?_ _) | (with_reducible refine Below.setCell ?_ ?_ _) | go_size | (simp only [go_sem]; omega) | (simp [go_sem]; done) | (simp [go_sem]; omega)))⟩
/-- are two lines alike? -/
def sameL (xs : List Cl) (s : Int) (ys : List Cl) (t : Int) : Bool := decide (s = t) && decide (xs = ys)
set_option maxRecDepth 100000 in
theorem same_l (a b : Option Addr) (c d : Nat) (xs ys : List Cl) (s t : Int) (w : World) (hx : Rd encC 3 w a xs) (hy : Rd encC 3 w b ys) (hm : xs.length ≤ 9223372036854775807) (hn : ys.length ≤ 9223372036854775807) :
    Calls Try.prog 66 #[lineV a xs.length c s, lineV b ys.length d t] w (Gives w (.bool (sameL xs s ys t))) := by
  have E := Lib.hid (fun w' h1 h2 => equal_cells a b c d xs ys w' h1 h2 hm hn)
  have X := Lib.hid hx
  have Y := Lib.hid hy
  clear hx hy
  unfold sameL
  by_cases h : s = t
  · subst h
    simp only [decide_true, Bool.true_and]
    go_enter Try.func66, Try.ntmps66
    go_wp2_with (go_at_call 105; (with_reducible refine (E.out _ ?_ ?_).mono ?_); (focus ((repeat (first | (with_reducible exact X.out) | (with_reducible exact X) | (with_reducible refine Rd.ext ?_ _) | (with_reducible refine Rd.alloc ?_ _) | (with_reducible refine Rd.drew ?_))); done)); (focus ((repeat (first | (with_reducible exact Y.out) | (with_reducible exact Y) | (with_reducible refine Rd.ext ?_ _) | (with_reducible refine Rd.alloc ?_ _) | (with_reducible refine Rd.drew ?_))); done)); rintro _ _ hgets; obtain ⟨rfl, x1, rfl⟩ := hgets.get; clear hgets)
    go_returns
    exact ⟨rfl, by (repeat' (first | (with_reducible exact Below.refl _ _) | (with_reducible refine Below.alloc ?_ ?_ _) | (with_reducible refine below_ext ?_ ?_ _) | (with_reducible refine Below.drew ?_) | (with_reducible refine below_drewN ?_ _) | (with_reducible refine Below.setCell ?_ ?_ _) | go_size | (simp only [go_sem]; omega) | (simp [go_sem]; done) | (simp [go_sem]; omega)))⟩
  · have q : (s == t) = false := by simpa using h
    simp only [h, decide_false, Bool.false_and]
    go_enter Try.func66, Try.ntmps66
    go_wp2
    go_returns
    exact ⟨rfl, by (repeat' (first | (with_reducible exact Below.refl _ _) | (with_reducible refine Below.alloc ?_ ?_ _) | (with_reducible refine below_ext ?_ ?_ _) | (with_reducible refine Below.drew ?_) | (with_reducible refine below_drewN ?_ _) | (with_reducible refine Below.setCell ?_ ?_ _) | go_size | (simp only [go_sem]; omega) | (simp [go_sem]; done) | (simp [go_sem]; omega)))⟩
set_option maxRecDepth 100000 in
theorem same_lr (a b : Option Addr) (c d : Nat) (xs ys : List Cl) (s t : Int) (w : World) (hx : Rd encC 3 w a xs) (hy : Rd encC 3 w b ys) (hm : xs.length ≤ 9223372036854775807) (hn : ys.length ≤ 9223372036854775807) :
    Calls Try.prog 48 #[lineV a xs.length c s, lineV b ys.length d t] w (Gives w (.bool (sameL xs s ys t))) := by
  have E := Lib.hid (fun w' h1 h2 => same_cells a b c d xs ys w' h1 h2 hm hn)
  have X := Lib.hid hx
  have Y := Lib.hid hy
  clear hx hy
  unfold sameL
  by_cases h : s = t
  · subst h
    simp only [decide_true, Bool.true_and]
    go_enter Try.func48, Try.ntmps48
    go_wp2_with (go_at_call 50; (with_reducible refine (E.out _ ?_ ?_).mono ?_); (focus ((repeat (first | (with_reducible exact X.out) | (with_reducible exact X) | (with_reducible refine Rd.ext ?_ _) | (with_reducible refine Rd.alloc ?_ _) | (with_reducible refine Rd.drew ?_))); done)); (focus ((repeat (first | (with_reducible exact Y.out) | (with_reducible exact Y) | (with_reducible refine Rd.ext ?_ _) | (with_reducible refine Rd.alloc ?_ _) | (with_reducible refine Rd.drew ?_))); done)); rintro _ _ hgets; obtain ⟨rfl, x1, rfl⟩ := hgets.get; clear hgets)
    go_returns
    exact ⟨rfl, by (repeat' (first | (with_reducible exact Below.refl _ _) | (with_reducible refine Below.alloc ?_ ?_ _) | (with_reducible refine below_ext ?_ ?_ _) | (with_reducible refine Below.drew ?_) | (with_reducible refine below_drewN ?_ _) | (with_reducible refine Below.setCell ?_ ?_ _) | go_size | (simp only [go_sem]; omega) | (simp [go_sem]; done) | (simp [go_sem]; omega)))⟩
  · have q : (s == t) = false := by simpa using h
    simp only [h, decide_false, Bool.false_and]
    go_enter Try.func48, Try.ntmps48
    go_wp2
    go_returns
    exact ⟨rfl, by (repeat' (first | (with_reducible exact Below.refl _ _) | (with_reducible refine Below.alloc ?_ ?_ _) | (with_reducible refine below_ext ?_ ?_ _) | (with_reducible refine Below.drew ?_) | (with_reducible refine below_drewN ?_ _) | (with_reducible refine Below.setCell ?_ ?_ _) | go_size | (simp only [go_sem]; omega) | (simp [go_sem]; done) | (simp [go_sem]; omega)))⟩
end Go.Proofs.Ytdlngbmgcedbpaa
