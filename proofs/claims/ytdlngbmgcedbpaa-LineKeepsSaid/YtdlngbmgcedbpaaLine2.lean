/- Lines: copies, widths. -/
import Derived.Test.YtdlngbmgcedbpaaLine1
import Derived.Deep.RegionHeld3
namespace Go.Proofs.Ytdlngbmgcedbpaa
open Go.RowKit
set_option linter.unusedVariables false
set_option linter.unusedSimpArgs false

/-- a line as a value -/
abbrev lineV (A : Option Addr) (n c : Nat) (sz : Int) : Value := .agg #[.slice A n c, .int .i64 sz]
/-- a call that returns a line whose row is its own -/
def NewL (w : World) (xs : List Cl) (sz : Int) (e : Ending) (w' : World) : Prop := ∃ A' c' x, e = .returned (lineV A' xs.length c' sz) ∧ w' = ext w x ∧ Own encC 3 87 w.heap.size (ext w x) (.slice A' xs.length c') xs
theorem NewL.of {w w' : World} {A : Option Addr} {c : Nat} {xs : List Cl} {sz : Int} {B : Nat} (hb : Below w.heap.size w w') (hB : w.heap.size ≤ B) (h : Own encC 3 87 B w' (.slice A xs.length c) xs) : NewL w xs sz (.returned (lineV A xs.length c sz)) w' := by
  obtain ⟨x, rfl⟩ := ext_of hb
  exact ⟨A, c, x, rfl, rfl, h.mono hB⟩
theorem own_set_far {α : Type} {enc : α → List Value} {size : Nat} {e : TypeId} {B : Nat} {w : World} {v : Value} {xs : List α} (h : Own enc size e B w v xs) (b i : Nat) (hb : b < B) (u : Value) : Own enc size e B (w.setCell ⟨b, i, none⟩ u) v xs := by
  refine ⟨h.1, ?_⟩
  rcases h.2 with hn | ⟨g, cap, cur, rfl, hB, hg, rest⟩
  · exact .inl hn
  · refine .inr ⟨g, cap, cur, rfl, hB, ?_, rest⟩
    rw [Below.heap_setCell _ _ _ _ (fun e => by simp at e; omega)]
    exact hg

set_option maxRecDepth 100000 in
set_option maxHeartbeats 4000000 in
theorem copy_l (A : Option Addr) (C : Nat) (sz : Int) (xs : List Cl) (w : World) (rd : Rd encC 3 w A xs) (hC : A = none → C = 0) (hm : xs.length * 8 ≤ 140737488355328) (h63 : xs.length ≤ maxLen) :
    Calls Try.prog 67 #[lineV A xs.length C sz] w (NewL w xs sz) := by
  have CL := Lib.hid (fun w' (h : Rd encC 3 w' A xs) => clone_c A C xs w' h hC hm h63)
  have X := Lib.hid rd
  clear rd hC hm h63
  go_enter Try.func67, Try.ntmps67
  go_wp2
  go_region_held3 (fun w' => w'.cell? ⟨w.heap.size, 0, none⟩ = some (.slice A xs.length C) ∧ w'.cell? ⟨w.heap.size, 1, none⟩ = some (.int .i64 sz)) ((refine ⟨?_, ?_⟩ <;> simp [go_sem])) ((first
    | (go_at_call 100
       (with_reducible refine (CL.out _ (by repeat (first | exact X.out | exact X | refine Rd.ext ?_ _ | refine Rd.alloc ?_ _ | refine Rd.drew ?_))).mono ?_)
       rintro _ _ ⟨A1, c1, x1, rfl, rfl, hO1⟩
       have hO := Lib.hid hO1
       clear hO1)))
  all_goals go_wp2
  all_goals go_returns
  all_goals exact NewL.of (by (repeat' (first | (with_reducible exact Below.refl _ _) | (with_reducible refine Below.alloc ?_ ?_ _) | (with_reducible refine below_ext ?_ ?_ _) | (with_reducible refine Below.drew ?_) | (with_reducible refine below_drewN ?_ _) | (with_reducible refine Below.setCell ?_ ?_ _) | go_size | (simp only [go_sem]; omega) | (simp [go_sem]; done) | (simp [go_sem]; omega)))) (by first | (simp [go_sem]; done) | (simp [go_sem]; omega)) (own_swap (w := w.alloc (.cells #[.slice A xs.length C, .int .i64 sz] 70)) (o := .cells #[.slice none 0 0, .int .i64 0] 70) (by simpa [go_sem] using hO.out))
end Go.Proofs.Ytdlngbmgcedbpaa
