/- Digits of base 16.  -/
import Derived.Test.YtdjkjbkmmdmipaaBStr
import Derived.Shelf.Strings.Search1
import Derived.Shelf.Small.Strs
namespace Go.Proofs.Ytdjkjbkmmdmipaa
open Go.RowKit
set_option linter.unusedVariables false
set_option linter.unusedSimpArgs false

def digsB : ByteArray := ⟨#[48, 49, 50, 51, 52, 53, 54, 55, 56, 57, 65, 66, 67, 68, 69, 70]⟩
def digK (k : Nat) : UInt8 := [48, 49, 50, 51, 52, 53, 54, 55, 56, 57, 65, 66, 67, 68, 69, 70].getD k 0
def ibx_ren : Go.Shelf.Ren := ⟨fun | 137 => 35 | 217 => 38 | 266 => 42 | n => n, fun | 9 => 9 | 5 => 5 | 3 => 3 | n => n, fun | n => n⟩
theorem ibx_lays : Go.Proofs.Lays.n137 Try.prog ibx_ren := {
  mixed := by kernel_rfl
  f137 := Try.func35.trans (congrArg some (by kernel_rfl))
  f217 := Try.func38.trans (congrArg some (by kernel_rfl))
  f266 := Try.func42.trans (congrArg some (by kernel_rfl))
  t3 := Try.underlying3
  a3 := Try.isAgg3
  z3 := Try.sizeOf3
  v3 := Try.zeroValue3
  t5 := Try.underlying5
  a5 := Try.isAgg5
  z5 := Try.sizeOf5
  v5 := Try.zeroValue5
  t9 := Try.underlying9
  a9 := Try.isAgg9
  z9 := Try.sizeOf9
  v9 := Try.zeroValue9 }
theorem ib_c (s : ByteArray) (c : Int) (v : Int) (h : Lib.indexByte s.data.toList c.toNat.toUInt8 = v) (w : World) :
    Calls Try.prog 35 #[.string s, .int .u8 c] w (Same w (.int .i64 v)) := by
  subst h
  refine (Any.strings_IndexByte ibx_lays s c w).mono ?_
  rintro e w' ⟨h1, h2⟩
  exact ⟨h1, h2.symm⟩
theorem dig_all : ((List.range 16).all fun k => (Lib.indexByte digsB.data.toList ((digK k).toNat : Int).toNat.toUInt8 == (k : Int)) && ((decide (97 ≤ ((digK k).toNat : Int)) == false))) = true := by decide +kernel
set_option maxHeartbeats 4000000 in
theorem digit_c (k : Nat) (hk : k < 16) (w : World) : Calls Try.prog 28 #[.int .u8 ((digK k).toNat : Int)] w (Gives w (.int .i64 k)) := by
  have h := List.all_eq_true.1 dig_all k (List.mem_range.2 hk)
  simp only [Bool.and_eq_true, beq_iff_eq] at h
  have IB := Lib.hid (fun w' => ib_c digsB ((digK k).toNat : Int) k h.1 w')
  have d1 := h.2
  generalize ((digK k).toNat : Int) = c at IB d1 ⊢
  unfold digsB at IB
  clear h hk
  go_enter Try.func28, Try.ntmps28
  go_wp2_with ((go_at_call 35); (refine Calls.mono (by exact IB.out _) ?_); rintro _ _ ⟨rfl, rfl⟩)
  go_returns
  exact ⟨rfl, by (repeat' (first | (with_reducible exact Below.refl _ _) | (with_reducible refine Below.alloc ?_ ?_ _) | (with_reducible refine below_ext ?_ ?_ _) | (with_reducible refine Below.drew ?_) | (with_reducible refine below_drewN ?_ _) | (with_reducible refine Below.setCell ?_ ?_ _) | go_size | (simp only [go_sem]; omega) | (simp [go_sem]; done) | (simp [go_sem]; omega)))⟩
end Go.Proofs.Ytdjkjbkmmdmipaa
