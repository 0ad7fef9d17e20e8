/- The fixed fact of the law's package; numbers in memory of the call's own. -/
import Derived.Test.YtmpbgjnkkapijaaFrom
import Derived.Test.YtmpbgjnkkapijaaRend3
import Derived.Test.YtmpbgjnkkapijaaTurns2
import Derived.Test.YtmpbgjnkkapijaaFrame
namespace Go.Proofs.Ytmpbgjnkkapijaa
open Go.ChangeShapes Go.WideShapes Go.ChangeAt Go.RowKit
set_option linter.unusedVariables false
set_option linter.unusedSimpArgs false

theorem int2_new {w : World} {g : Nat} (e : TypeId) (n m : Int) (hg : g = w.heap.size) : Rd (encI .i64) 1 (w.alloc (.cells #[.int .i64 n, .int .i64 m] e)) (some ⟨g, 0, none⟩) [n, m] :=
  (Own.new (B := 0) (e := e) (encI_len _) hg (xs := [n, m]) (rfl : (2 : Nat) = [n, m].length) _ rfl (Nat.zero_le _) (by simp [maxLen])).rd (encI_len _)
theorem own_at1 {e : TypeId} {B n cap : Nat} {A : Option Addr} {w : World} {xs : List Int} (h : Own (encI .i64) 1 e B w (.slice A n cap) xs) (j : Nat) (hj : j < xs.length) :
    ∃ g, A = some ⟨g, 0, none⟩ ∧ B ≤ g ∧ g < w.heap.size ∧ w.cell? ⟨g, j, none⟩ = some (.int .i64 xs[j]) ∧ ∀ i, w.frozen? ⟨g, i, none⟩ = false := by
  have hn : n = xs.length := by
    obtain ⟨A, c, e, _, _⟩ := h.form
    injection e
  subst hn
  rcases h.2 with ⟨h1, h2⟩ | ⟨g, cap', cur, h1, hB, hg, h2, h3, h4, h5⟩
  · omega
  · injection h1 with h1 _ _
    subst h1
    have hlt := (Array.getElem?_eq_some_iff.1 hg).1
    have := h.cells (g := g) rfl (j * 1 + 0) (.int .i64 xs[j]) (by rw [flat_get (encI_len _) xs j hj 0 (by omega)]; rfl)
    rw [addr_add] at this
    exact ⟨g, rfl, hB, hlt, by simpa using this, fun i => h.frozenAt i⟩
theorem flat_set1 (y : Int) : ∀ (xs : List Int) (i : Nat), i < xs.length → (xs.flatMap (encI .i64)).set i (.int .i64 y) = (xs.set i y).flatMap (encI .i64)
  | [], i, h => by simp at h
  | x :: xs, 0, h => by simp [encI]
  | x :: xs, i + 1, h => by
    have ih := flat_set1 y xs i (by simpa using h)
    simp only [List.flatMap_cons, List.set_cons_succ]
    rw [← ih]
    simp [encI]
theorem own_set1 {e : TypeId} {B g n cap : Nat} {w : World} {xs : List Int} (h : Own (encI .i64) 1 e B w (.slice (some ⟨g, 0, none⟩) n cap) xs) (i : Nat) (hi : i < xs.length) (y : Int) :
    Own (encI .i64) 1 e B (w.setCell ⟨g, i, none⟩ (.int .i64 y)) (.slice (some ⟨g, 0, none⟩) n cap) (xs.set i y) := by
  have hn : n = xs.length := by
    obtain ⟨A, c, e, _, _⟩ := h.form
    injection e
  subst hn
  have h' : w.ownsRow B e 1 (.slice (some ⟨g, 0, none⟩) xs.length cap) xs.length (xs.flatMap (encI .i64)) := h
  have h3 := (h'.stored i (.int .i64 y)).1
  rw [flat_set1 y xs i hi] at h3
  unfold Own
  rw [List.length_set]
  exact h3

set_option maxHeartbeats 1000000 in
theorem awake1 (w : World) : Calls Try.prog 32 #[] w (Gives w (.bool true)) := by
  have A0 := Lib.hid (show ∀ w' A, Ints w' A [4, 22] → Calls Try.prog 33 #[.int .u8 1, .slice A 2 2] w' (Same w' (.int .u8 2)) from fun w' A h => apply_c 1 (by omega) (by omega) A 2 [4, 22] w' h (by simp))
  have F0 := Lib.hid (show ∀ w' A, Ints w' A [0] → Calls Try.prog 23 #[.int .u8 1, .slice A 1 1] w' (Same w' (.int .u8 14)) from fun w' A h => flip_c 1 (by omega) (by omega) A 1 [0] w' h (by simp))
  have L0 := Lib.hid (show ∀ w', Calls Try.prog 43 #[.int .u8 9] w' (Gives w' (.string ⟨#[98, 114]⟩)) from fun w' => letters_c 9 (by omega) (by omega) w')
  go_enter Try.func32, Try.ntmps32
  go_wp2_with (first
    | (go_at_call 33; (with_reducible refine (A0.out _ _ ?_).mono ?_); (focus ((repeat (first | ((with_reducible refine int2_new _ 4 22 ?_) <;> (first | (simp [go_sem]; done) | (simp [go_sem, *]; done))) | (with_reducible refine Rd.ext ?_ _) | (with_reducible refine Rd.alloc ?_ _) | (with_reducible refine Rd.drew ?_))); done)); rintro _ _ ⟨rfl, rfl⟩)
    | (go_at_call 23; (with_reducible refine (F0.out _ _ ?_).mono ?_); (focus ((repeat (first | ((with_reducible refine int_new _ 0 ?_) <;> (first | (simp [go_sem]; done) | (simp [go_sem, *]; done))) | (with_reducible refine Rd.ext ?_ _) | (with_reducible refine Rd.alloc ?_ _) | (with_reducible refine Rd.drew ?_))); done)); rintro _ _ ⟨rfl, rfl⟩)
    | (go_at_call 43; ((with_reducible refine (L0.out _).mono ?_); rintro _ _ hgets; obtain ⟨rfl, _, rfl⟩ := hgets.get; clear hgets)))
  all_goals go_returns
  all_goals refine ⟨?_, by (repeat' (first | (with_reducible exact Below.refl _ _) | (with_reducible refine Below.alloc ?_ ?_ _) | (with_reducible refine below_ext ?_ ?_ _) | (with_reducible refine Below.drew ?_) | (with_reducible refine below_drewN ?_ _) | (with_reducible refine Below.setCell ?_ ?_ _) | go_size | (simp only [go_sem]; omega) | (simp [go_sem]; done) | (simp [go_sem]; omega)))⟩
  all_goals rfl
end Go.Proofs.Ytmpbgjnkkapijaa
