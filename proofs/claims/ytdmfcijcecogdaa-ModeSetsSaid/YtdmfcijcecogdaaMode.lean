/- The table of the modes. -/
import Derived.Test.YtdmfcijcecogdaaArr
namespace Go.Proofs.Ytdmfcijcecogdaa
open Go.RowKit
def rowV (r : Bool × Int × Int × Bool) : Value := .agg #[.bool r.1, .int .i64 r.2.1, .int .i64 r.2.2.1, .bool r.2.2.2]
def table : List (Bool × Int × Int × Bool) :=
  [(false, 2, 1, false), (false, 4, 1, false), (false, 12, 1, true), (false, 20, 1, false), (true, 1, 1, false), (true, 5, 1, false), (true, 6, 1, false), (true, 7, 1, true), (true, 8, 1, true), (true, 25, 2, true), (true, 42, 2, false), (true, 64, 3, true), (true, 66, 3, false), (true, 67, 3, false), (true, 68, 3, false), (true, 69, 4, false), (true, 95, 5, false)]
def rowsL : List Value := table.flatMap (fun r => [.bool r.1, .int .i64 r.2.1, .int .i64 r.2.2.1, .bool r.2.2.2])
def rowsV : Value := .agg rowsL.toArray
@[go_sem] theorem zeroRow (w : World) : (zeroValue 71).run Try.prog w = .ok (rowV (false, 0, 0, false)) w := by kernel_rfl
def zerosV : List Value := (List.replicate 17 [Value.bool false, .int .i64 0, .int .i64 0, .bool false]).flatten
@[go_sem] theorem zeroRows (w : World) : (zeroValue 72).run Try.prog w = .ok (.agg zerosV.toArray) w := by kernel_rfl
theorem rowsL_len : rowsL.length = 68 := by kernel_rfl
set_option maxHeartbeats 1000000 in
set_option maxRecDepth 10000 in
theorem rows_c (w : World) : Calls Try.prog 50 #[] w (Gives w rowsV) := by
  have Z := Lib.hid (zeroRows w)
  have T : (w.alloc (.cells zerosV.toArray 72)).there w.heap.size 0 rowsL.toArray.size := by
    have := there_fresh w zerosV.toArray 72
    rwa [show zerosV.toArray.size = rowsL.toArray.size by kernel_rfl] at this
  have T' := T
  simp only [List.size_toArray] at T'
  have R := World.rangeAt_setCells_same _ _ _ rowsL T'
  have B := below_setCells (b := w.heap.size) (Nat.le_refl _) rowsL 0 _ ((Below.refl w.heap.size w).alloc (Nat.le_refl _) (.cells zerosV.toArray 72))
  have T := Lib.hid T
  clear T'
  go_enter Try.func50, Try.ntmps50
  go_wp2_with (first
    | (guard_target =~ wpList _ _ _ _ _ _
       (with_reducible refine wpList_build (t := 72) (.agg rowsL.toArray) ?_ ?_)
       focus kernel_rfl)
    | (guard_target =~ wpList _ _ _ _ _ _
       (with_reducible refine wpList_store_agg (t := 72) w.heap.size rowsL ?_ ?_ ?_ ?_ ?_ ?_)
       focus rfl
       focus rfl
       focus exact T.out
       focus kernel_rfl
       focus kernel_rfl
       clear T
       generalize (World.setCells _ _ _ rowsL) = W at *))
  refine bodyPost_ret (v := rowsV) ?_ rfl ⟨rfl, B⟩
  exact results_cell rfl _ W w.heap.size rowsL _ rfl R Try.underlying72 rfl (by kernel_rfl)
end Go.Proofs.Ytdmfcijcecogdaa
