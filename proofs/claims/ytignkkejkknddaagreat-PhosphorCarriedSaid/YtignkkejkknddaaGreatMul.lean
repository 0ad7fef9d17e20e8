/- math/bits.Mul of small numbers.  -/
import Derived.Test.YtignkkejkknddaaGreatLib
import Derived.Shelf.Bits.Mul64
namespace Go.Proofs.YtignkkejkknddaaGreat
open Go.RowKit
set_option linter.unusedVariables false

def mul_ren : Go.Shelf.Ren := ⟨fun | 264 => 147 | n => n, fun | 46 => 180 | 53 => 188 | n => n, fun | n => n⟩
theorem mul_lays : Go.Proofs.Lays.n264 Tryz.prog mul_ren := {
  mixed := by kernel_rfl
  f264 := Tryz.func147.trans (congrArg some (by kernel_rfl))
  t46 := Tryz.underlying180
  a46 := Tryz.isAgg180
  z46 := Tryz.sizeOf180
  v46 := Tryz.zeroValue180
  t53 := Tryz.underlying188
  a53 := Tryz.isAgg188
  z53 := Tryz.sizeOf188
  v53 := Tryz.zeroValue188 }
theorem mul64_c (x y : Nat) (h : x * y < 18446744073709551616) (hx : x < 18446744073709551616) (hy : y < 18446744073709551616) (w : World) :
    Calls Tryz.prog 147 #[.int .u64 x, .int .u64 y] w (Same w (.tuple #[.int .u64 0, .int .u64 ((x * y : Nat) : Int)])) :=
  (Any.bits_Mul64 mul_lays x y hx hy w).mono fun _ _ ⟨he, hw⟩ => ⟨by rw [he, Nat.div_eq_of_lt h, Nat.mod_eq_of_lt h]; rfl, hw.symm⟩
theorem mul_c (x y : Nat) (h : x * y < 18446744073709551616) (hx : x < 18446744073709551616) (hy : y < 18446744073709551616) (w : World) :
    Calls Tryz.prog 142 #[.int .u64 x, .int .u64 y] w (Same w (.tuple #[.int .u64 0, .int .u64 ((x * y : Nat) : Int)])) := by
  go_enter Tryz.func142, Tryz.ntmps142
  go_wp2_with (go_at_call 147; ((with_reducible refine (mul64_c x y h hx hy _).mono ?_); rintro _ _ ⟨rfl, rfl⟩))
  go_returns
  exact ⟨rfl, rfl⟩
theorem mul1_c (y : Nat) (hy : y < 18446744073709551616) (w : World) :
    Calls Tryz.prog 142 #[.int .u64 1, .int .u64 y] w (Same w (.tuple #[.int .u64 0, .int .u64 y])) := by
  have h := mul_c 1 y (by omega) (by omega) hy w
  rw [Nat.one_mul] at h
  exact h
end Go.Proofs.YtignkkejkknddaaGreat
