/- math/bits.Mul of small numbers.  -/
import Derived.Test.YtignkkejkknddaaLib
import Derived.Shelf.Bits.Mul64
namespace Go.Proofs.Ytignkkejkknddaa
open Go.RowKit
set_option linter.unusedVariables false

def mul_ren : Go.Shelf.Ren := ⟨fun | 264 => 77 | n => n, fun | 46 => 121 | 53 => 134 | n => n, fun | n => n⟩
theorem mul_lays : Go.Proofs.Lays.n264 Try.prog mul_ren := {
  mixed := by kernel_rfl
  f264 := Try.func77.trans (congrArg some (by kernel_rfl))
  t46 := Try.underlying121
  a46 := Try.isAgg121
  z46 := Try.sizeOf121
  v46 := Try.zeroValue121
  t53 := Try.underlying134
  a53 := Try.isAgg134
  z53 := Try.sizeOf134
  v53 := Try.zeroValue134 }
theorem mul64_c (x y : Nat) (h : x * y < 18446744073709551616) (hx : x < 18446744073709551616) (hy : y < 18446744073709551616) (w : World) :
    Calls Try.prog 77 #[.int .u64 x, .int .u64 y] w (Same w (.tuple #[.int .u64 0, .int .u64 ((x * y : Nat) : Int)])) :=
  (Any.bits_Mul64 mul_lays x y hx hy w).mono fun _ _ ⟨he, hw⟩ => ⟨by rw [he, Nat.div_eq_of_lt h, Nat.mod_eq_of_lt h]; rfl, hw.symm⟩
theorem mul_c (x y : Nat) (h : x * y < 18446744073709551616) (hx : x < 18446744073709551616) (hy : y < 18446744073709551616) (w : World) :
    Calls Try.prog 69 #[.int .u64 x, .int .u64 y] w (Same w (.tuple #[.int .u64 0, .int .u64 ((x * y : Nat) : Int)])) := by
  go_enter Try.func69, Try.ntmps69
  go_wp2_with (go_at_call 77; ((with_reducible refine (mul64_c x y h hx hy _).mono ?_); rintro _ _ ⟨rfl, rfl⟩))
  go_returns
  exact ⟨rfl, rfl⟩
theorem mul1_c (y : Nat) (hy : y < 18446744073709551616) (w : World) :
    Calls Try.prog 69 #[.int .u64 1, .int .u64 y] w (Same w (.tuple #[.int .u64 0, .int .u64 y])) := by
  have h := mul_c 1 y (by omega) (by omega) hy w
  rw [Nat.one_mul] at h
  exact h
end Go.Proofs.Ytignkkejkknddaa
