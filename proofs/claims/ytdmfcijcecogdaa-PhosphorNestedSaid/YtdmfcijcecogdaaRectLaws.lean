/- Plain facts on rectangles that were told by numbers. -/
import Derived.Test.YtdmfcijcecogdaaFrame
import Derived.Test.YtdmfcijcecogdaaAwake5
import Derived.Test.YtdmfcijcecogdaaOwn
namespace Go.Proofs.Ytdmfcijcecogdaa
open Go.ChangeShapes Go.WideShapes Go.ChangeAt Go.RowKit

theorem rect_bd {t l b r : Int} {xs : List Int} {i : Int} (h : rectOk t l b r xs i = true) :
    ∃ x y z u : Int, rectV t l b r xs i = .tuple #[.agg #[.int .i64 x, .int .i64 y, .int .i64 z, .int .i64 u], .bool true] ∧ t ≤ x ∧ x < z ∧ z ≤ b ∧ l ≤ y ∧ y < u ∧ u ≤ r ∧
      x = t + max (num0 xs i 0) 1 - 1 ∧ y = l + max (num0 xs i 1) 1 - 1 ∧ z = t + lastA (b - t) (num0 xs i 2) ∧ u = l + lastA (r - l) (num0 xs i 3) := by
  have h0 := h
  simp only [rectOk, Bool.and_eq_true, decide_eq_true_eq] at h
  obtain ⟨⟨h1, h2⟩, h3⟩ := h
  obtain ⟨_, _, p1, p2, p3, p4, p5⟩ := side_bd h2
  obtain ⟨_, _, q1, q2, q3, q4, q5⟩ := side_bd h3
  exact ⟨_, _, _, _, rectV_yes h0 rfl rfl rfl rfl, by omega, by omega, by omega, by omega, by omega, by omega, by omega, by omega, by omega, by omega⟩
theorem meet_self {x y z u t l b r : Int} (h : t ≤ x ∧ x < z ∧ z ≤ b ∧ l ≤ y ∧ y < u ∧ u ≤ r) : meetV x y z u t l b r = .agg #[.int .i64 x, .int .i64 y, .int .i64 z, .int .i64 u] := by
  unfold meetV meetI
  simp only [if_neg (show ¬ ((z ≤ x ∨ u ≤ y) ∨ (b ≤ t ∨ r ≤ l) ∨ (min z b ≤ max x t ∨ min u r ≤ max y l)) by omega)]
  exact agg4_eq (by omega) (by omega) (by omega) (by omega)
theorem wf_le {xs : List Int} (h : ∀ n ∈ xs, (Lit.int .i64 n).wf = true) : ∀ n ∈ xs, n ≤ 9223372036854775807 := fun n hn => (bounds_i64 (h n hn)).2
section
variable (a b c0 c1 c2 c3 c4 c5 c6 c7 c8 c9 c10 c11 c12 c13 c14 c15 c16 c17 c18 c19 : Nat)
@[go_sem] theorem lt_m5 (h : a < b) : (a < b + c0 + c1 + c2 + c3 + c4) = True := by simp; omega
@[go_sem] theorem lt_m6 (h : a < b) : (a < b + c0 + c1 + c2 + c3 + c4 + c5) = True := by simp; omega
@[go_sem] theorem lt_m7 (h : a < b) : (a < b + c0 + c1 + c2 + c3 + c4 + c5 + c6) = True := by simp; omega
@[go_sem] theorem lt_m8 (h : a < b) : (a < b + c0 + c1 + c2 + c3 + c4 + c5 + c6 + c7) = True := by simp; omega
@[go_sem] theorem lt_m9 (h : a < b) : (a < b + c0 + c1 + c2 + c3 + c4 + c5 + c6 + c7 + c8) = True := by simp; omega
@[go_sem] theorem lt_m10 (h : a < b) : (a < b + c0 + c1 + c2 + c3 + c4 + c5 + c6 + c7 + c8 + c9) = True := by simp; omega
@[go_sem] theorem lt_m11 (h : a < b) : (a < b + c0 + c1 + c2 + c3 + c4 + c5 + c6 + c7 + c8 + c9 + c10) = True := by simp; omega
@[go_sem] theorem lt_m12 (h : a < b) : (a < b + c0 + c1 + c2 + c3 + c4 + c5 + c6 + c7 + c8 + c9 + c10 + c11) = True := by simp; omega
@[go_sem] theorem lt_m13 (h : a < b) : (a < b + c0 + c1 + c2 + c3 + c4 + c5 + c6 + c7 + c8 + c9 + c10 + c11 + c12) = True := by simp; omega
@[go_sem] theorem lt_m14 (h : a < b) : (a < b + c0 + c1 + c2 + c3 + c4 + c5 + c6 + c7 + c8 + c9 + c10 + c11 + c12 + c13) = True := by simp; omega
@[go_sem] theorem lt_m15 (h : a < b) : (a < b + c0 + c1 + c2 + c3 + c4 + c5 + c6 + c7 + c8 + c9 + c10 + c11 + c12 + c13 + c14) = True := by simp; omega
@[go_sem] theorem lt_m16 (h : a < b) : (a < b + c0 + c1 + c2 + c3 + c4 + c5 + c6 + c7 + c8 + c9 + c10 + c11 + c12 + c13 + c14 + c15) = True := by simp; omega
@[go_sem] theorem lt_m17 (h : a < b) : (a < b + c0 + c1 + c2 + c3 + c4 + c5 + c6 + c7 + c8 + c9 + c10 + c11 + c12 + c13 + c14 + c15 + c16) = True := by simp; omega
@[go_sem] theorem lt_m18 (h : a < b) : (a < b + c0 + c1 + c2 + c3 + c4 + c5 + c6 + c7 + c8 + c9 + c10 + c11 + c12 + c13 + c14 + c15 + c16 + c17) = True := by simp; omega
@[go_sem] theorem lt_m19 (h : a < b) : (a < b + c0 + c1 + c2 + c3 + c4 + c5 + c6 + c7 + c8 + c9 + c10 + c11 + c12 + c13 + c14 + c15 + c16 + c17 + c18) = True := by simp; omega
end
theorem rect_again {t l b r x y z u : Int} (h : t ≤ x ∧ x < z ∧ z ≤ b ∧ l ≤ y ∧ y < u ∧ u ≤ r) :
    rectV t l b r [x - t + 1, y - l + 1, z - t, u - l] 0 = .tuple #[.agg #[.int .i64 x, .int .i64 y, .int .i64 z, .int .i64 u], .bool true] := by
  have n0 : num0 [x - t + 1, y - l + 1, z - t, u - l] 0 0 = x - t + 1 := rfl
  have n1 : num0 [x - t + 1, y - l + 1, z - t, u - l] 0 1 = y - l + 1 := rfl
  have n2 : num0 [x - t + 1, y - l + 1, z - t, u - l] 0 2 = z - t := rfl
  have n3 : num0 [x - t + 1, y - l + 1, z - t, u - l] 0 3 = u - l := rfl
  have a2 : lastA (b - t) (z - t) = z - t := by unfold lastA; rw [if_neg (by omega)]
  have a3 : lastA (r - l) (u - l) = u - l := by unfold lastA; rw [if_neg (by omega)]
  have s1 : sideOk (b - t) (x - t + 1) (z - t) = true := by unfold sideOk; rw [a2]; simp only [decide_eq_true_eq]; omega
  have s2 : sideOk (r - l) (y - l + 1) (u - l) = true := by unfold sideOk; rw [a3]; simp only [decide_eq_true_eq]; omega
  obtain ⟨-, -, -, -, -, p1, p2⟩ := side_bd s1
  obtain ⟨-, -, -, -, -, q1, q2⟩ := side_bd s2
  refine rectV_yes ?_ ?_ ?_ ?_ ?_
  · unfold rectOk; rw [n0, n1, n2, n3, s1, s2, decide_eq_true (by omega)]; rfl
  · rw [n0, n2, p1]; omega
  · rw [n1, n3, q1]; omega
  · rw [n0, n2, p2, a2]; omega
  · rw [n1, n3, q2, a3]; omega
theorem place_again (lo hi n : Int) (h : lo < hi) : placeI lo hi (placeI lo hi n - lo + 1) = placeI lo hi n := by unfold placeI; omega
theorem span_again {n f l : Int} (h : spanOk n f l = true) : spanV n (spanA f - 1 + 1) (lastA n l) = spanV n f l := by
  have h0 := h
  simp only [spanOk, Bool.and_eq_true, decide_eq_true_eq] at h
  have h1 : 1 ≤ spanA f := by unfold spanA; split <;> omega
  have h2 : lastA n l ≤ n := lastA_le _ _
  have e1 : spanA (spanA f - 1 + 1) = spanA f := by
    generalize spanA f = q at *
    unfold spanA; rw [if_neg (by omega)]; omega
  have e2 : lastA n (lastA n l) = lastA n l := by
    generalize lastA n l = q at *
    unfold lastA; rw [if_neg (by omega)]
  rw [spanV_yes (f := f) (l := l) ⟨h.1.1, h.1.2, h.2⟩ rfl rfl]
  refine spanV_yes ⟨by omega, by omega, by rw [e1, e2]; exact h.2⟩ (by rw [e1]) (by rw [e2])
theorem int_info : (Try.prog.info? 3).map (fun i => (i.zero, i.size, i.bytes)) = some (some (.int .i64 0), 1, 8) := by kernel_rfl
end Go.Proofs.Ytdmfcijcecogdaa
