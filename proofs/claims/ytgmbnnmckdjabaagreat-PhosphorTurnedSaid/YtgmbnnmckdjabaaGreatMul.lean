/- math/bits.Mul of small numbers.  -/
import Derived.Test.YtgmbnnmckdjabaaGreatLib
import Derived.Shelf.Bits.Mul64
namespace Go.Proofs.YtgmbnnmckdjabaaGreat
open Go.RowKit
set_option linter.unusedVariables false

def mul_ren : Go.Shelf.Ren := ⟨fun | 264 => 119 | n => n, fun | 46 => 128 | 53 => 139 | n => n, fun | n => n⟩
theorem mul_lays : Go.Proofs.Lays.n264 Tryz.prog mul_ren := {
  mixed := by kernel_rfl
  f264 := Tryz.func119.trans (congrArg some (by kernel_rfl))
  t46 := Tryz.underlying128
  a46 := Tryz.isAgg128
  z46 := Tryz.sizeOf128
  v46 := Tryz.zeroValue128
  t53 := Tryz.underlying139
  a53 := Tryz.isAgg139
  z53 := Tryz.sizeOf139
  v53 := Tryz.zeroValue139 }
theorem mul64_c (x y : Nat) (h : x * y < 18446744073709551616) (hx : x < 18446744073709551616) (hy : y < 18446744073709551616) (w : World) :
    Calls Tryz.prog 119 #[.int .u64 x, .int .u64 y] w (Same w (.tuple #[.int .u64 0, .int .u64 ((x * y : Nat) : Int)])) :=
  (Any.bits_Mul64 mul_lays x y hx hy w).mono fun _ _ ⟨he, hw⟩ => ⟨by rw [he, Nat.div_eq_of_lt h, Nat.mod_eq_of_lt h]; rfl, hw.symm⟩
theorem mul_c (x y : Nat) (h : x * y < 18446744073709551616) (hx : x < 18446744073709551616) (hy : y < 18446744073709551616) (w : World) :
    Calls Tryz.prog 113 #[.int .u64 x, .int .u64 y] w (Same w (.tuple #[.int .u64 0, .int .u64 ((x * y : Nat) : Int)])) := by
  go_enter Tryz.func113, Tryz.ntmps113
  go_wp2_with (go_at_call 119; ((with_reducible refine (mul64_c x y h hx hy _).mono ?_); rintro _ _ ⟨rfl, rfl⟩))
  go_returns
  exact ⟨rfl, rfl⟩
theorem mul1_c (y : Nat) (hy : y < 18446744073709551616) (w : World) :
    Calls Tryz.prog 113 #[.int .u64 1, .int .u64 y] w (Same w (.tuple #[.int .u64 0, .int .u64 y])) := by
  have h := mul_c 1 y (by omega) (by omega) hy w
  rw [Nat.one_mul] at h
  exact h
end Go.Proofs.YtgmbnnmckdjabaaGreat
