/- Lists of numbers, held against each other.  -/
import Derived.Test.YtignkkejkknddaaGreatOwn
namespace Go.Proofs.YtignkkejkknddaaGreat
open Go.RowKit
set_option linter.unusedVariables false
set_option linter.unusedSimpArgs false

theorem eq_of_take {xs ys : List Int} (h : xs.length = ys.length) (k : Nat) (hk : k = xs.length) (hr : ∀ j, j < k → xs[j]? = ys[j]?) : xs = ys := by
  apply List.ext_getElem? 
  intro i
  rcases Nat.lt_or_ge i k with h1 | h1
  · exact hr i h1
  · rw [List.getElem?_eq_none (by omega), List.getElem?_eq_none (by omega)]

set_option maxHeartbeats 1000000 in
theorem same_ints (a b : Option Addr) (c d : Nat) (xs ys : List Int) (w : World) (hx : Ints w a xs) (hy : Ints w b ys) (hm : xs.length ≤ 9223372036854775807) (hn : ys.length ≤ 9223372036854775807) :
    Calls Tryz.prog 60 #[.slice a xs.length c, .slice b ys.length d] w (Gives w (.bool (decide (xs = ys)))) := by
  by_cases hl : xs.length = ys.length
  · have hb : (((xs.length : Nat) : Int) != ((ys.length : Nat) : Int)) = false := by rw [hl]; simp
    have HL := Lib.hid hl
    clear hl
    go_enter Tryz.func60, Tryz.ntmps60
    go_wp2
    go_loopw [5] (fun i wr => ∃ (k : Nat) (x : More), k ≤ xs.length ∧ i = .int .i64 k ∧ wr = ext w x ∧ Hid (∀ j, j < k → xs[j]? = ys[j]?)) (fun i _ => xs.length - (intOf i).toNat)
    case atStart => exact ⟨0, ⟨#[], w.drawn⟩, Nat.zero_le _, rfl, by simp [ext], fun j hj => by omega⟩
    case round =>
      obtain ⟨k, x, hk, rfl, rfl, hr⟩ := hrel
      by_cases hlt : k < xs.length
      · obtain ⟨b1, o1, rfl, hb1, hc1⟩ := hx.cell hlt
        have hlt2 : k < ys.length := by have := HL.out; omega
        obtain ⟨b2, o2, rfl, hb2, hc2⟩ := hy.cell hlt2
        have hx1 := Lib.hid (show xs[k]? = some xs[k] by simp [hlt])
        have hy1 := Lib.hid (show ys[k]? = some ys[k] by simp [hlt2])
        go_wp2
        (refine wp_region_free (by kernel_rfl) (by kernel_rfl) ?_)
        repeat (go_big_quiet_step (fail))
        refine wpQuiet_nil ?_; rintro _ ⟨x2, rfl⟩
        go_wp2
        · go_returns
          refine ⟨?_, by (repeat' (first | (with_reducible exact Below.refl _ _) | (with_reducible refine Below.alloc ?_ ?_ _) | (with_reducible refine below_ext ?_ ?_ _) | (with_reducible refine Below.drew ?_) | (with_reducible refine below_drewN ?_ _) | (with_reducible refine Below.setCell ?_ ?_ _) | go_size | (simp only [go_sem]; omega) | (simp [go_sem]; done) | (simp [go_sem]; omega)))⟩
          have hne : xs ≠ ys := by
            rintro rfl
            simp at *
          simp [hne]
        · refine ⟨⟨k + 1, ⟨x.objs ++ x2.objs, x2.drawn⟩, by omega, by go_num, ext_ext _ _ _, fun j hj => ?_⟩, by simp [intOf]; omega⟩
          rcases Nat.lt_or_ge j k with h1 | h1
          · exact hr.out j h1
          · obtain rfl : j = k := by omega
            have he : xs[j] = ys[j] := by simpa using ‹(xs[j] != ys[j]) = false›
            rw [hx1.out, hy1.out, he]
      · go_wp2
        go_returns
        refine ⟨?_, by (repeat' (first | (with_reducible exact Below.refl _ _) | (with_reducible refine Below.alloc ?_ ?_ _) | (with_reducible refine below_ext ?_ ?_ _) | (with_reducible refine Below.drew ?_) | (with_reducible refine below_drewN ?_ _) | (with_reducible refine Below.setCell ?_ ?_ _) | go_size | (simp only [go_sem]; omega) | (simp [go_sem]; done) | (simp [go_sem]; omega)))⟩
        rw [eq_of_take HL.out k (by omega) hr.out]; simp
  · have hb : (((xs.length : Nat) : Int) != ((ys.length : Nat) : Int)) = true := by simp; omega
    have hne : xs ≠ ys := fun e => hl (by rw [e])
    have HL := Lib.hid hl
    have HN := Lib.hid hne
    clear hl hne
    go_enter Tryz.func60, Tryz.ntmps60
    go_wp2
    go_returns
    refine ⟨?_, by (repeat' (first | (with_reducible exact Below.refl _ _) | (with_reducible refine Below.alloc ?_ ?_ _) | (with_reducible refine below_ext ?_ ?_ _) | (with_reducible refine Below.drew ?_) | (with_reducible refine below_drewN ?_ _) | (with_reducible refine Below.setCell ?_ ?_ _) | go_size | (simp only [go_sem]; omega) | (simp [go_sem]; done) | (simp [go_sem]; omega)))⟩
    have := HN.out
    simp [this]


end Go.Proofs.YtignkkejkknddaaGreat
