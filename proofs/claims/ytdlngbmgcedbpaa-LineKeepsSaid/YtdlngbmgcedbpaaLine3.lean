/- Lines: a law's own copy, sizes, widths. -/
import Derived.Test.YtdlngbmgcedbpaaLine2
namespace Go.Proofs.Ytdlngbmgcedbpaa
open Go.RowKit
set_option linter.unusedVariables false
set_option linter.unusedSimpArgs false

theorem Rd.take {α : Type} {enc : α → List Value} {size : Nat} {w : World} {a : Option Addr} {xs : List α} (h : Rd enc size w a xs) (k : Nat) : Rd enc size w a (xs.take k) := fun h0 => by
  have h1 : 0 < xs.length := by simp at h0; omega
  obtain ⟨b, off, e, hlt, hc⟩ := h h1
  refine ⟨b, off, e, hlt, fun i hi j v hv => hc i (by simp at hi; omega) j v ?_⟩
  simpa using hv
set_option maxRecDepth 100000 in
set_option maxHeartbeats 4000000 in
theorem own_l (A : Option Addr) (C : Nat) (sz : Int) (xs : List Cl) (w : World) (rd : Rd encC 3 w A xs) (lc : xs.length ≤ C) (cm : C ≤ maxLen) :
    Calls Try.prog 44 #[lineV A xs.length C sz] w (NewL w (xs.take 300) sz) := by
  have X := Lib.hid (rd.take 300)
  have m1 : (xs.take 300).length ≤ 300 := by simp; omega
  have hq : (300 < xs.length → (xs.take 300).length = 300) ∧ (¬ 300 < xs.length → (xs.take 300).length = xs.length) := by simp; omega
  generalize xs.take 300 = q at X hq m1
  have CL := Lib.hid (fun w' (h : Rd encC 3 w' A q) => cells_c A C q w' h (by omega) (by simp [maxLen]; omega))
  simp only [maxLen] at cm
  clear rd
  by_cases h : 300 < xs.length
  · have e := Lib.hid (hq.1 h)
    clear hq
    go_enter Try.func44, Try.ntmps44
    go_upto_region 4 with (fail)
    rw [show (300 : Nat) = q.length from e.out.symm]
    go_region_held3 (fun w' => w'.cell? ⟨w.heap.size, 0, none⟩ = some (.slice A xs.length C) ∧ w'.cell? ⟨w.heap.size, 1, none⟩ = some (.int .i64 sz)) ((refine ⟨?_, ?_⟩ <;> simp [go_sem])) ((first
      | (go_at_call 45
         (with_reducible refine (CL.out _ (by repeat (first | exact X.out | exact X | refine Rd.ext ?_ _ | refine Rd.alloc ?_ _ | refine Rd.drew ?_))).mono ?_)
         rintro _ _ ⟨A1, c1, x1, rfl, rfl, hO1⟩
         have hO := Lib.hid hO1
         clear hO1)))
    all_goals go_wp2
    all_goals go_returns
    all_goals exact NewL.of (by (repeat' (first | (with_reducible exact Below.refl _ _) | (with_reducible refine Below.alloc ?_ ?_ _) | (with_reducible refine below_ext ?_ ?_ _) | (with_reducible refine Below.drew ?_) | (with_reducible refine below_drewN ?_ _) | (with_reducible refine Below.setCell ?_ ?_ _) | go_size | (simp only [go_sem]; omega) | (simp [go_sem]; done) | (simp [go_sem]; omega)))) (by first | (simp [go_sem]; done) | (simp [go_sem]; omega)) (own_swap (w := w.alloc (.cells #[.slice A xs.length C, .int .i64 sz] 70)) (o := .cells #[.slice none 0 0, .int .i64 0] 70) (by simpa [go_sem] using hO.out))
  · have e := Lib.hid (hq.2 h)
    clear hq
    go_enter Try.func44, Try.ntmps44
    go_upto_region 4 with (fail)
    rw [← e.out]
    go_region_held3 (fun w' => w'.cell? ⟨w.heap.size, 0, none⟩ = some (.slice A q.length C) ∧ w'.cell? ⟨w.heap.size, 1, none⟩ = some (.int .i64 sz)) ((refine ⟨?_, ?_⟩ <;> simp [go_sem])) ((first
      | (go_at_call 45
         (with_reducible refine (CL.out _ (by repeat (first | exact X.out | exact X | refine Rd.ext ?_ _ | refine Rd.alloc ?_ _ | refine Rd.drew ?_))).mono ?_)
         rintro _ _ ⟨A1, c1, x1, rfl, rfl, hO1⟩
         have hO := Lib.hid hO1
         clear hO1)))
    all_goals go_wp2
    all_goals go_returns
    all_goals exact NewL.of (by (repeat' (first | (with_reducible exact Below.refl _ _) | (with_reducible refine Below.alloc ?_ ?_ _) | (with_reducible refine below_ext ?_ ?_ _) | (with_reducible refine Below.drew ?_) | (with_reducible refine below_drewN ?_ _) | (with_reducible refine Below.setCell ?_ ?_ _) | go_size | (simp only [go_sem]; omega) | (simp [go_sem]; done) | (simp [go_sem]; omega)))) (by first | (simp [go_sem]; done) | (simp [go_sem]; omega)) (own_swap (w := w.alloc (.cells #[.slice A q.length C, .int .i64 sz] 70)) (o := .cells #[.slice none 0 0, .int .i64 0] 70) (by simpa [go_sem] using hO.out))
def widthI (n : Nat) (sz : Int) : Int := if sz = 0 ∨ n = 0 then n else max 1 ((n : Int) / 2)
set_option maxRecDepth 100000 in
theorem width_l (A : Option Addr) (n C : Nat) (sz : Int) (w : World) (hn : n ≤ 9223372036854775807) : Calls Try.prog 64 #[lineV A n C sz] w (Gives w (.int .i64 (widthI n sz))) := by
  unfold widthI
  by_cases h1 : sz = 0
  · rw [if_pos (.inl h1)]
    subst h1
    go_enter Try.func64, Try.ntmps64
    go_wp2
    go_returns
    exact ⟨rfl, by (repeat' (first | (with_reducible exact Below.refl _ _) | (with_reducible refine Below.alloc ?_ ?_ _) | (with_reducible refine below_ext ?_ ?_ _) | (with_reducible refine Below.drew ?_) | (with_reducible refine below_drewN ?_ _) | (with_reducible refine Below.setCell ?_ ?_ _) | go_size | (simp only [go_sem]; omega) | (simp [go_sem]; done) | (simp [go_sem]; omega)))⟩
  · have q1 : (sz == 0) = false := by simpa using h1
    by_cases h2 : n = 0
    · rw [if_pos (.inr h2)]
      subst h2
      clear h1
      go_enter Try.func64, Try.ntmps64
      go_wp2
      go_returns
      exact ⟨rfl, by (repeat' (first | (with_reducible exact Below.refl _ _) | (with_reducible refine Below.alloc ?_ ?_ _) | (with_reducible refine below_ext ?_ ?_ _) | (with_reducible refine Below.drew ?_) | (with_reducible refine below_drewN ?_ _) | (with_reducible refine Below.setCell ?_ ?_ _) | go_size | (simp only [go_sem]; omega) | (simp [go_sem]; done) | (simp [go_sem]; omega)))⟩
    · rw [if_neg (by omega)]
      have q2 : (n == 0) = false := by simpa using h2
      clear h1 h2
      go_enter Try.func64, Try.ntmps64
      go_wp2
      go_returns
      exact ⟨rfl, by (repeat' (first | (with_reducible exact Below.refl _ _) | (with_reducible refine Below.alloc ?_ ?_ _) | (with_reducible refine below_ext ?_ ?_ _) | (with_reducible refine Below.drew ?_) | (with_reducible refine below_drewN ?_ _) | (with_reducible refine Below.setCell ?_ ?_ _) | go_size | (simp only [go_sem]; omega) | (simp [go_sem]; done) | (simp [go_sem]; omega)))⟩
end Go.Proofs.Ytdlngbmgcedbpaa
