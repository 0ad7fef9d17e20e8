/- The fixed fact of the law's package; sums of one row and of two. -/
import Derived.Test.YtmpbgjnkkapijaaFrameCell
namespace Go.Proofs.Ytmpbgjnkkapijaa
open Go.ChangeShapes Go.WideShapes Go.ChangeAt Go.RowKit
set_option linter.unusedVariables false
set_option linter.unusedSimpArgs false

set_option maxHeartbeats 1000000 in
theorem awake2 (w : World) : Calls Try.prog 15 #[] w (Gives w (.bool true)) := by
  have c0 := fun w' => cweight_c 65 1 true (by omega) (by omega) w'
  rw [show Cl.weight ⟨65, 1, true⟩ = 197 by decide] at c0
  have C0 := Lib.hid c0
  clear c0
  go_enter Try.func15, Try.ntmps15
  go_wp2_with (first
    | (go_at_call 16; ((with_reducible refine (C0.out _).mono ?_); rintro _ _ hgets; obtain ⟨rfl, _, rfl⟩ := hgets.get; clear hgets))
    | go_in)
  all_goals go_returns
  all_goals refine ⟨?_, by (repeat' (first | (with_reducible exact Below.refl _ _) | (with_reducible refine Below.alloc ?_ ?_ _) | (with_reducible refine below_ext ?_ ?_ _) | (with_reducible refine Below.drew ?_) | (with_reducible refine below_drewN ?_ _) | (with_reducible refine Below.setCell ?_ ?_ _) | go_size | (simp only [go_sem]; omega) | (simp [go_sem]; done) | (simp [go_sem]; omega)))⟩
  all_goals rfl
theorem sum_1 {a A : Option Addr} {c : Nat} {cs : List Cl} (w : World) (h1 : Rd encR 1 w A [⟨a, c, cs⟩]) (h2 : Rd encC 3 w a cs) (hm : cs.length ≤ 9223372036854775807) (hok : ∀ x ∈ cs, x.ok) :
    Calls Try.prog 18 #[.slice A 1 1] w (Gives w (.int .i64 (sumW cs % 65536))) := by
  have := sum_c A 1 [⟨a, c, cs⟩] w h1 (by simp) (by intro r hr; simp at hr; subst hr; exact ⟨h2, hm, hok⟩)
  rw [show sumR [⟨a, c, cs⟩] = sumW cs by simp [sumR]] at this
  exact this
theorem row_new {w : World} {g : Nat} (e : TypeId) (r : Rw) (hg : g = w.heap.size) (v : Value) (hv : v = .slice r.a r.cs.length r.c) : Rd encR 1 (w.alloc (.cells #[v] e)) (some ⟨g, 0, none⟩) [r] := by
  subst hv
  exact (Own.new (B := 0) (e := e) (fun _ => rfl) hg (xs := [r]) (rfl : (1 : Nat) = [r].length) _ rfl (Nat.zero_le _) (by simp [maxLen])).rd (fun _ => rfl)
theorem cell_new {w : World} {g : Nat} (e : TypeId) (c : Cl) (hg : g = w.heap.size) : Rd encC 3 (w.alloc (.cells #[.int .i32 c.g, .int .u8 c.r, .bool c.k] e)) (some ⟨g, 0, none⟩) [c] :=
  (Own.new (B := 0) (e := e) encC_len hg (xs := [c]) (rfl : (1 : Nat) = [c].length) _ rfl (Nat.zero_le _) (by simp [maxLen])).rd encC_len
end Go.Proofs.Ytmpbgjnkkapijaa
