/- Copies of rows, and rows cut short. -/
import Derived.Test.YtmpbgjnkkapijaaAwake2
namespace Go.Proofs.Ytmpbgjnkkapijaa
open Go.ChangeShapes Go.WideShapes Go.ChangeAt Go.RowKit
set_option linter.unusedVariables false
set_option linter.unusedSimpArgs false

theorem cell_info : (Try.prog.info? 24).map (fun i => (i.zero, i.size, i.bytes)) = some (some (.agg #[.int .i32 0, .int .u8 0, .bool false]), 3, 8) := by kernel_rfl
theorem Rd.take {α : Type} {enc : α → List Value} {size : Nat} {w : World} {a : Option Addr} {xs : List α} (h : Rd enc size w a xs) (n : Nat) : Rd enc size w a (xs.take n) := fun h0 => by
  obtain ⟨b, off, e, hlt, hc⟩ := h (by simp at h0; omega)
  exact ⟨b, off, e, hlt, fun i hi j v hv => hc i (by simp at hi; omega) j v (by simpa using hv)⟩
theorem cut_c {α : Type} (A : Option Addr) (C : Nat) (xs : List α) (N : Int) (k : Nat) (hk : N = k) (hm : xs.length ≤ C) (hc : C ≤ maxLen) (w : World) :
    Calls Try.prog 19 #[.slice A xs.length C, .int .i64 N] w (Same w (.slice A (xs.take k).length C)) := by
  subst hk
  simp only [maxLen] at hc
  rcases Nat.lt_or_ge k xs.length with h | h
  · have := cut_yes A C xs.length k w h (by omega) hm hc
    rw [show (xs.take k).length = k by simp; omega]
    exact this
  · have := cut_no A C xs.length k w (by omega) (by omega)
    rw [show (xs.take k).length = xs.length by simp; omega]
    exact this
theorem cells_c (A : Option Addr) (C : Nat) (xs : List Cl) (w : World) (rd : Rd encC 3 w A xs) (hm : xs.length * 8 ≤ 140737488355328) (h63 : xs.length ≤ maxLen) :
    Calls Try.prog 20 #[.slice A xs.length C] w (fun e w' => ∃ A' c' x, e = .returned (.slice A' xs.length c') ∧ w' = ext w x ∧ Own encC 3 24 w.heap.size (ext w x) (.slice A' xs.length c') xs) := by
  have X := Lib.hid rd
  go_enter Try.func20, Try.ntmps20
  go_wp2_with (first
    | (at_builtin
       refine append_rd (U := w) (.tmp 3) (.tmp 4) _ 24 _ 8 rfl rfl Try.underlying28 cell_info rfl (by omega) encC_len encC_one [] xs _ A C rfl rfl ?_ (Own.new encC_len (by simp) rfl #[] rfl (Nat.le_refl _) (by simp [maxLen])) (by repeat (first | exact X.out | exact X | refine Rd.ext ?_ _ | refine Rd.alloc ?_ _ | refine Rd.drew ?_)) (by simp; omega) (by simp; omega) ?_
       · (repeat' (first | (with_reducible exact Below.refl _ _) | (with_reducible refine Below.alloc ?_ ?_ _) | (with_reducible refine below_ext ?_ ?_ _) | (with_reducible refine Below.drew ?_) | (with_reducible refine below_drewN ?_ _) | (with_reducible refine Below.setCell ?_ ?_ _) | go_size | (simp only [go_sem]; omega) | (simp [go_sem]; done) | (simp [go_sem]; omega)))
       intro A' c' x3 zs hz hO))
  rw [List.nil_append] at hz
  subst hz
  go_wp2_with fail
  all_goals go_returns
  all_goals exact ⟨A', c', x3, rfl, rfl, hO⟩
end Go.Proofs.Ytmpbgjnkkapijaa
