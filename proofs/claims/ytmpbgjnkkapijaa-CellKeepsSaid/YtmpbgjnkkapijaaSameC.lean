/- Rows of cells, held against each other. -/
import Derived.Test.YtmpbgjnkkapijaaEnc
namespace Go.Proofs.Ytmpbgjnkkapijaa
open Go.RowKit
set_option linter.unusedVariables false
set_option linter.unusedSimpArgs false

theorem cell_neq (g r : Int) (k : Bool) (g' r' : Int) (k' : Bool) (w : World) :
    (binOp .neq 24 (.agg #[.int .i32 g, .int .u8 r, .bool k]) (.agg #[.int .i32 g', .int .u8 r', .bool k'])).run Try.prog w = .ok (.bool (!eqC ⟨g, r, k⟩ ⟨g', r', k'⟩)) w := by
  have e : eqC ⟨g, r, k⟩ ⟨g', r', k'⟩ = (decide (g = g') && (decide (r = r') && decide (k = k'))) := by
    unfold eqC
    rw [Bool.eq_iff_iff]
    simp
  rw [e]
  by_cases h1 : g = g' <;> by_cases h2 : r = r' <;> by_cases h3 : k = k' <;> simp [go_sem, h1, h2, h3]
theorem eq_of_takeC {xs ys : List Cl} (h : xs.length = ys.length) (k : Nat) (hk : k = xs.length) (hr : ∀ j, j < k → xs[j]? = ys[j]?) : xs = ys := by
  apply List.ext_getElem?
  intro i
  rcases Nat.lt_or_ge i k with h1 | h1
  · exact hr i h1
  · rw [List.getElem?_eq_none (by omega), List.getElem?_eq_none (by omega)]

attribute [local go_sem ↓] cell_neq
set_option maxHeartbeats 2000000 in
theorem same_cells (a b : Option Addr) (c d : Nat) (xs ys : List Cl) (w : World) (hx : Rd encC 3 w a xs) (hy : Rd encC 3 w b ys) (hm : xs.length ≤ 9223372036854775807) (hn : ys.length ≤ 9223372036854775807) :
    Calls Try.prog 27 #[.slice a xs.length c, .slice b ys.length d] w (Gives w (.bool (decide (xs = ys)))) := by
  have X := Lib.hid hx
  have Y := Lib.hid hy
  clear hx hy
  by_cases hl : xs.length = ys.length
  · have hb : (((xs.length : Nat) : Int) != ((ys.length : Nat) : Int)) = false := by rw [hl]; simp
    have HL := Lib.hid hl
    clear hl
    go_enter Try.func27, Try.ntmps27
    go_wp2
    go_loopw [5] (fun i wr => ∃ (k : Nat) (x : More), k ≤ xs.length ∧ i = .int .i64 k ∧ wr = ext w x ∧ Hid (∀ j, j < k → xs[j]? = ys[j]?)) (fun i _ => xs.length - (intOf i).toNat)
    case atStart => exact ⟨0, ⟨#[], w.drawn⟩, Nat.zero_le _, rfl, by simp [ext], fun j hj => by omega⟩
    case round =>
      obtain ⟨k, x, hk, rfl, rfl, hr⟩ := hrel
      by_cases hlt : k < xs.length
      · obtain ⟨b1, o1, rfl, hb1, d0, d1, d2⟩ := X.out.cell3 hlt
        have hlt2 : k < ys.length := by have := HL.out; omega
        obtain ⟨b2, o2, rfl, hb2, f0, f1, f2⟩ := Y.out.cell3 hlt2
        have hx1 := Lib.hid (show xs[k]? = some xs[k] by simp [hlt])
        have hy1 := Lib.hid (show ys[k]? = some ys[k] by simp [hlt2])
        generalize xs[k] = y at d0 d1 d2 hx1
        generalize ys[k] = z at f0 f1 f2 hy1
        obtain ⟨yg, yr, yk⟩ := y
        obtain ⟨zg, zr, zk⟩ := z
        simp only at d0 d1 d2 f0 f1 f2
        by_cases he : (⟨yg, yr, yk⟩ : Cl) = ⟨zg, zr, zk⟩
        · have he2 := eqC_t he
          have HE := Lib.hid he
          clear he
          go_wp2
          (refine wp_region_free (by kernel_rfl) (by kernel_rfl) ?_)
          repeat (go_big_quiet_step (fail))
          refine wpQuiet_nil ?_; rintro _ ⟨x2, rfl⟩
          go_wp2
          refine ⟨⟨k + 1, _, by omega, by go_num, ext_ext _ _ _, fun j hj => ?_⟩, by simp [intOf]; omega⟩
          rcases Nat.lt_or_ge j k with h1 | h1
          · exact hr.out j h1
          · obtain rfl : j = k := by omega
            rw [hx1.out, hy1.out, HE.out]
        · have he2 := eqC_f he
          have HE := Lib.hid he
          clear he
          go_wp2
          (refine wp_region_free (by kernel_rfl) (by kernel_rfl) ?_)
          repeat (go_big_quiet_step (fail))
          refine wpQuiet_nil ?_; rintro _ ⟨x2, rfl⟩
          go_wp2
          go_returns
          refine ⟨?_, by (repeat' (first | (with_reducible exact Below.refl _ _) | (with_reducible refine Below.alloc ?_ ?_ _) | (with_reducible refine below_ext ?_ ?_ _) | (with_reducible refine Below.drew ?_) | (with_reducible refine below_drewN ?_ _) | (with_reducible refine Below.setCell ?_ ?_ _) | go_size | (simp only [go_sem]; omega) | (simp [go_sem]; done) | (simp [go_sem]; omega)))⟩
          have hne : xs ≠ ys := by
            rintro rfl
            have := hx1.out.symm.trans hy1.out
            injection this with this
            exact HE.out this
          simp [hne]
      · go_wp2
        go_returns
        refine ⟨?_, by (repeat' (first | (with_reducible exact Below.refl _ _) | (with_reducible refine Below.alloc ?_ ?_ _) | (with_reducible refine below_ext ?_ ?_ _) | (with_reducible refine Below.drew ?_) | (with_reducible refine below_drewN ?_ _) | (with_reducible refine Below.setCell ?_ ?_ _) | go_size | (simp only [go_sem]; omega) | (simp [go_sem]; done) | (simp [go_sem]; omega)))⟩
        rw [eq_of_takeC HL.out k (by omega) hr.out]; simp
  · have hb : (((xs.length : Nat) : Int) != ((ys.length : Nat) : Int)) = true := by simp; omega
    have hne : xs ≠ ys := fun e => hl (by rw [e])
    have HN := Lib.hid hne
    clear hl hne
    go_enter Try.func27, Try.ntmps27
    go_wp2
    go_returns
    refine ⟨?_, by (repeat' (first | (with_reducible exact Below.refl _ _) | (with_reducible refine Below.alloc ?_ ?_ _) | (with_reducible refine below_ext ?_ ?_ _) | (with_reducible refine Below.drew ?_) | (with_reducible refine below_drewN ?_ _) | (with_reducible refine Below.setCell ?_ ?_ _) | go_size | (simp only [go_sem]; omega) | (simp [go_sem]; done) | (simp [go_sem]; omega)))⟩
    have := HN.out
    simp [this]
end Go.Proofs.Ytmpbgjnkkapijaa
