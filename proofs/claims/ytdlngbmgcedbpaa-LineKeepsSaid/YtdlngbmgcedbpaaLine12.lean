/- Lines: new ones. -/
import Derived.Test.YtdlngbmgcedbpaaLine11
namespace Go.Proofs.Ytdlngbmgcedbpaa
open Go.RowKit
set_option linter.unusedVariables false
set_option linter.unusedSimpArgs false

theorem NewCs.of {w w' : World} {A : Option Addr} {c n : Nat} {xs : List Cl} {B : Nat} {V : Value} (hV : V = .slice A n c) (hn : n = xs.length) (hb : Below w.heap.size w w') (hB : w.heap.size ≤ B) (h : Own encC 3 87 B w' (.slice A xs.length c) xs) : NewCs w xs (.returned V) w' := by
  subst hV hn
  obtain ⟨x, rfl⟩ := ext_of hb
  exact ⟨A, c, x, rfl, rfl, h.mono hB⟩
theorem NewL.at {w w' : World} {A : Option Addr} {c n : Nat} {xs : List Cl} {sz : Int} {B : Nat} {V : Value} (hV : V = lineV A n c sz) (hn : n = xs.length) (hb : Below w.heap.size w w') (hB : w.heap.size ≤ B) (h : Own encC 3 87 B w' (.slice A xs.length c) xs) : NewL w xs sz (.returned V) w' := by
  subst hV hn
  exact NewL.of hb hB h
theorem erased_c (w : World) : Calls Try.prog 108 #[] w (Gives w (.agg #[.int .i32 32, .int .u8 0, .bool false])) := by
  go_enter Try.func108, Try.ntmps108
  go_wp2
  go_returns
  exact ⟨rfl, by (repeat' (first | (with_reducible exact Below.refl _ _) | (with_reducible refine Below.alloc ?_ ?_ _) | (with_reducible refine below_ext ?_ ?_ _) | (with_reducible refine Below.drew ?_) | (with_reducible refine below_drewN ?_ _) | (with_reducible refine Below.setCell ?_ ?_ _) | go_size | (simp only [go_sem]; omega) | (simp [go_sem]; done) | (simp [go_sem]; omega)))⟩
set_option maxRecDepth 100000 in
set_option maxHeartbeats 4000000 in
theorem blank_c (n : Nat) (w : World) (hn : n ≤ 1000000) : Calls Try.prog 101 #[.int .i64 n] w (NewCs w (List.replicate n erC)) := by
  have RE := Lib.hid (fun A C w' rd => repeat_c A C erC n w' rd hn)
  go_enter Try.func101, Try.ntmps101
  go_wp2_with (first
    | (go_at_call 108; ((with_reducible refine (erased_c _).mono ?_); rintro _ _ hgets; obtain ⟨rfl, x1, rfl⟩ := hgets.get; clear hgets))
    | (go_at_call 118
       (with_reducible refine (RE.out _ _ _ ?_).mono ?_)
       · exact cell_new _ erC (by simp [go_sem])
       rintro _ _ ⟨A1, c1, x2, rfl, rfl, hO1⟩
       have hO := Lib.hid hO1
       clear hO1))
  go_returns
  exact NewCs.of (A := A1) (c := c1) (n := n) (by first | rfl | simp) (by simp) (by (repeat' (first | (with_reducible exact Below.refl _ _) | (with_reducible refine Below.alloc ?_ ?_ _) | (with_reducible refine below_ext ?_ ?_ _) | (with_reducible refine Below.drew ?_) | (with_reducible refine below_drewN ?_ _) | (with_reducible refine Below.setCell ?_ ?_ _) | go_size | (simp only [go_sem]; omega) | (simp [go_sem]; done) | (simp [go_sem]; omega)))) (by first | (simp [go_sem]; done) | (simp [go_sem]; omega)) hO.out
def newN (cols : Int) : Nat := (max 0 (min cols 500)).toNat
set_option maxRecDepth 100000 in
set_option maxHeartbeats 4000000 in
theorem new_l (cols : Int) (w : World) : Calls Try.prog 59 #[.int .i64 cols] w (NewL w (List.replicate (newN cols) erC) 0) := by
  have e : max 0 (min cols 500) = ((newN cols : Nat) : Int) := by unfold newN; omega
  have hn : newN cols ≤ 500 := by unfold newN; omega
  have BL := Lib.hid (fun w' => blank_c (newN cols) w' (by omega))
  generalize newN cols = n at e hn BL ⊢
  go_enter Try.func59, Try.ntmps59
  go_wp2_with (first
    | (go_at_call 101
       (with_reducible refine (BL.out _).mono ?_)
       rintro _ _ ⟨A1, c1, x2, rfl, rfl, hO1⟩
       have hO := Lib.hid hO1
       clear hO1))
  go_returns
  exact NewL.at (A := A1) (c := c1) (n := n) rfl (by simp) (by (repeat' (first | (with_reducible exact Below.refl _ _) | (with_reducible refine Below.alloc ?_ ?_ _) | (with_reducible refine below_ext ?_ ?_ _) | (with_reducible refine Below.drew ?_) | (with_reducible refine below_drewN ?_ _) | (with_reducible refine Below.setCell ?_ ?_ _) | go_size | (simp only [go_sem]; omega) | (simp [go_sem]; done) | (simp [go_sem]; omega)))) (by first | (simp [go_sem]; done) | (simp [go_sem]; omega)) (own_swap (w := w) (o := .cells #[.slice none 0 0, .int .i64 0] 70) (by simpa [go_sem] using hO.out))
end Go.Proofs.Ytdlngbmgcedbpaa
