/- The sets' table: rows, of, Id, Find.  -/
import Derived.Test.YtigmdokegiomaaaAh
import Derived.Test.YtigmdokegiomaaaArr
import Derived.Deep.CutRange
namespace Go.Proofs.Ytigmdokegiomaaa
open Go.RowKit
set_option linter.unusedVariables false
set_option linter.unusedSimpArgs false

structure CRow where
  s : Int
  id : ByteArray
  wd : Bool
  nm : ByteArray
def encK (r : CRow) : List Value := [.int .i64 r.s, .string r.id, .bool r.wd, .string r.nm]
def CRow.v (r : CRow) : Value := .agg #[.int .i64 r.s, .string r.id, .bool r.wd, .string r.nm]
def rowsK : List CRow :=
  [⟨1, ⟨#[66]⟩, false, ⟨#[97, 115, 99, 105, 105]⟩⟩, ⟨2, ⟨#[48]⟩, false, ⟨#[115, 112, 101, 99, 105, 97, 108]⟩⟩, ⟨3, ⟨#[62]⟩, false, ⟨#[116, 101, 99, 104, 110, 105, 99, 97, 108]⟩⟩, ⟨4, ⟨#[37, 53]⟩, false, ⟨#[115, 117, 112, 112, 108, 101, 109, 101, 110, 116, 97, 108]⟩⟩, ⟨5, ⟨#[65]⟩, true, ⟨#[108, 97, 116, 105, 110]⟩⟩, ⟨6, ⟨#[65]⟩, false, ⟨#[98, 114, 105, 116, 105, 115, 104]⟩⟩, ⟨7, ⟨#[52]⟩, false, ⟨#[100, 117, 116, 99, 104]⟩⟩, ⟨8, ⟨#[53]⟩, false, ⟨#[102, 105, 110, 110, 105, 115, 104]⟩⟩, ⟨9, ⟨#[82]⟩, false, ⟨#[102, 114, 101, 110, 99, 104]⟩⟩, ⟨10, ⟨#[57]⟩, false, ⟨#[99, 97, 110, 97, 100, 105, 97, 110]⟩⟩, ⟨11, ⟨#[75]⟩, false, ⟨#[103, 101, 114, 109, 97, 110]⟩⟩, ⟨12, ⟨#[89]⟩, false, ⟨#[105, 116, 97, 108, 105, 97, 110]⟩⟩, ⟨13, ⟨#[96]⟩, false, ⟨#[110, 111, 114, 119, 101, 103, 105, 97, 110]⟩⟩, ⟨14, ⟨#[37, 54]⟩, false, ⟨#[112, 111, 114, 116, 117, 103, 117, 101, 115, 101]⟩⟩, ⟨15, ⟨#[90]⟩, false, ⟨#[115, 112, 97, 110, 105, 115, 104]⟩⟩, ⟨16, ⟨#[55]⟩, false, ⟨#[115, 119, 101, 100, 105, 115, 104]⟩⟩, ⟨17, ⟨#[61]⟩, false, ⟨#[115, 119, 105, 115, 115]⟩⟩, ⟨8, ⟨#[67]⟩, false, ⟨#[]⟩⟩, ⟨9, ⟨#[102]⟩, false, ⟨#[]⟩⟩, ⟨10, ⟨#[81]⟩, false, ⟨#[]⟩⟩, ⟨13, ⟨#[69]⟩, false, ⟨#[]⟩⟩, ⟨13, ⟨#[54]⟩, false, ⟨#[]⟩⟩, ⟨16, ⟨#[72]⟩, false, ⟨#[]⟩⟩, ⟨2, ⟨#[50]⟩, false, ⟨#[]⟩⟩]
def rowsL : List Value := rowsK.flatMap encK
def rowsV : Value := .agg rowsL.toArray
def zeroK : CRow := ⟨0, ⟨#[]⟩, false, ⟨#[]⟩⟩
def zerosV : List Value := (List.replicate 24 (encK zeroK)).flatten
@[go_sem] theorem zeroRow (w : World) : (zeroValue 40).run Try.prog w = .ok zeroK.v w := by kernel_rfl
@[go_sem] theorem zeroRows (w : World) : (zeroValue 52).run Try.prog w = .ok (.agg zerosV.toArray) w := by kernel_rfl
set_option maxHeartbeats 1000000 in
set_option maxRecDepth 10000 in
theorem rows_c (w : World) : Calls Try.prog 28 #[] w (Gives w rowsV) := by
  have Z := Lib.hid (zeroRows w)
  have T : (w.alloc (.cells zerosV.toArray 52)).there w.heap.size 0 rowsL.toArray.size := by
    have := there_fresh w zerosV.toArray 52
    rwa [show zerosV.toArray.size = rowsL.toArray.size by kernel_rfl] at this
  have T' := T
  simp only [List.size_toArray] at T'
  have R := World.rangeAt_setCells_same _ _ _ rowsL T'
  have B := below_setCells (b := w.heap.size) (Nat.le_refl _) rowsL 0 _ ((Below.refl w.heap.size w).alloc (Nat.le_refl _) (.cells zerosV.toArray 52))
  have T := Lib.hid T
  clear T'
  go_enter Try.func28, Try.ntmps28
  go_wp2_with (first
    | (guard_target =~ wpList _ _ _ _ _ _
       (with_reducible refine wpList_build (t := 52) (.agg rowsL.toArray) ?_ ?_)
       focus kernel_rfl)
    | (guard_target =~ wpList _ _ _ _ _ _
       (with_reducible refine wpList_store_agg (t := 52) w.heap.size rowsL ?_ ?_ ?_ ?_ ?_ ?_)
       focus rfl
       focus rfl
       focus exact T.out
       focus kernel_rfl
       focus kernel_rfl
       clear T
       generalize (World.setCells _ _ _ rowsL) = W at *))
  refine bodyPost_ret (v := rowsV) ?_ rfl ⟨rfl, B⟩
  exact results_cell rfl _ W w.heap.size rowsL _ rfl R Try.underlying52 rfl (by kernel_rfl)
end Go.Proofs.Ytigmdokegiomaaa
