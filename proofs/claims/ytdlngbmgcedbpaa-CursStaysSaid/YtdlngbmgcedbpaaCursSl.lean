/- What an act keeps. -/
import Derived.Test.YtdlngbmgcedbpaaCursMv

namespace Go.Proofs.Ytdlngbmgcedbpaa
open Go.ChangeShapes Go.WideShapes Go.ChangeAt Go.RowKit
set_option linter.unusedVariables false
set_option linter.unusedSimpArgs false

theorem backI_bd (p n m : Int) (hp : 0 ≤ p) (hm : 0 ≤ m) : 0 ≤ backI p n m ∧ backI p n m ≤ p ∧ (m ≤ p → m ≤ backI p n m) := by
  have := far_bd n
  unfold backI
  split <;> omega
theorem forthI_bd (p n m e : Int) (hp : p ≤ e) (hm : m ≤ e) : p ≤ forthI p n m e ∧ forthI p n m e ≤ e ∧ (p ≤ m → forthI p n m e ≤ m) := by
  have := far_bd n
  unfold forthI
  split <;> omega
theorem first_bd (q f : Int) (og : Bool) (hf : 0 ≤ f) : 0 ≤ firstCol q f og ∧ firstCol q f og ≤ f ∧ (f ≤ q → firstCol q f og = f) := by
  unfold firstCol
  split
  · rename_i h; omega
  · omega
theorem clampI_in (lo hi n : Int) (h : lo < hi) : lo ≤ clampI lo hi n ∧ clampI lo hi n ≤ hi - 1 ∧ (lo ≤ n → n ≤ hi - 1 → clampI lo hi n = n) := by unfold clampI; omega
theorem mv_on {K N M B Q : Int} {I : Bx} {og : Bool} {row col : Int} (hK : 1 ≤ K ∧ K ≤ 8) (ib : I.inn B Q) (hB : 1 ≤ B) (hQ : 1 ≤ Q) :
    (0 ≤ mvR K N M B Q I og row ∧ mvR K N M B Q I og row < B) ∧ 0 ≤ mvC K N M B Q I og col ∧ mvC K N M B Q I og col < Q := by
  obtain ⟨t, l, b, r⟩ := I
  unfold Bx.inn at ib
  simp only at ib
  have p := clampI_in 0 B row (by omega)
  have q := clampI_in 0 Q col (by omega)
  have p2 := clampI_in t b row (by omega)
  have q2 := clampI_in l r col (by omega)
  have p3 := clampI_in t b (t + farI N) (by omega)
  have q3 := clampI_in l r (l + farI N) (by omega)
  have q4 := clampI_in l r (l + farI M) (by omega)
  have p5 := clampI_in 0 B (0 + farI N) (by omega)
  have q5 := clampI_in 0 Q (0 + farI N) (by omega)
  have q6 := clampI_in 0 Q (0 + farI M) (by omega)
  have b1 := backI_bd (clampI 0 B row) N t (by omega) (by omega)
  have b2 := backI_bd (clampI 0 Q col) N l (by omega) (by omega)
  have f1 := forthI_bd (clampI 0 B row) N (b - 1) (B - 1) (by omega) (by omega)
  have f2 := forthI_bd (clampI 0 Q col) N (r - 1) (Q - 1) (by omega) (by omega)
  have g1 := first_bd (clampI 0 Q col) l og (by omega)
  have hc : K = 1 ∨ K = 2 ∨ K = 3 ∨ K = 4 ∨ K = 5 ∨ K = 6 ∨ K = 7 ∨ K = 8 := by omega
  rcases hc with rfl | rfl | rfl | rfl | rfl | rfl | rfl | rfl
  · simp [mvR, mvC]; omega
  · simp [mvR, mvC]; omega
  · simp [mvR, mvC]; omega
  · simp [mvR, mvC]; omega
  · cases og
    · have e1 : mvR 5 N M B Q ⟨t, l, b, r⟩ false row = clampI 0 B (0 + farI N) := by simp [mvR]
      have e2 : mvC 5 N M B Q ⟨t, l, b, r⟩ false col = clampI 0 Q (0 + farI M) := by simp [mvC]
      rw [e1, e2]; omega
    · simp [mvR, mvC]; omega
  · cases og
    · have e1 : mvR 6 N M B Q ⟨t, l, b, r⟩ false row = clampI 0 B (0 + farI N) := by simp [mvR]
      have e2 : mvC 6 N M B Q ⟨t, l, b, r⟩ false col = clampI 0 Q col := by simp [mvC]
      rw [e1, e2]; omega
    · simp [mvR, mvC]; omega
  · cases og
    · have e1 : mvR 7 N M B Q ⟨t, l, b, r⟩ false row = clampI 0 B row := by simp [mvR]
      have e2 : mvC 7 N M B Q ⟨t, l, b, r⟩ false col = clampI 0 Q (0 + farI N) := by simp [mvC]
      rw [e1, e2]; omega
    · simp [mvR, mvC]; omega
  · simp [mvR, mvC]; omega
/-- who was within the margins is so behind an act that keeps row or column -/
theorem mv_ins {K N M B Q : Int} {I : Bx} {og : Bool} {row col : Int} (hK : 1 ≤ K ∧ K ≤ 4 ∨ K = 8) (ib : I.inn B Q) (hB : 1 ≤ B) (hQ : 1 ≤ Q)
    (h : inB I.t I.l I.b I.r (clampI 0 B row) (clampI 0 Q col) = true) : inB I.t I.l I.b I.r (mvR K N M B Q I og row) (mvC K N M B Q I og col) = true := by
  obtain ⟨t, l, b, r⟩ := I
  unfold Bx.inn at ib
  simp only [inB, Bool.and_eq_true, decide_eq_true_eq] at h ib ⊢
  have p := clampI_in 0 B row (by omega)
  have q := clampI_in 0 Q col (by omega)
  have b1 := backI_bd (clampI 0 B row) N t (by omega) (by omega)
  have b2 := backI_bd (clampI 0 Q col) N l (by omega) (by omega)
  have f1 := forthI_bd (clampI 0 B row) N (b - 1) (B - 1) (by omega) (by omega)
  have f2 := forthI_bd (clampI 0 Q col) N (r - 1) (Q - 1) (by omega) (by omega)
  have g1 := first_bd (clampI 0 Q col) l og (by omega)
  have hc : K = 1 ∨ K = 2 ∨ K = 3 ∨ K = 4 ∨ K = 8 := by omega
  rcases hc with rfl | rfl | rfl | rfl | rfl
  all_goals (simp [mvR, mvC]; omega)
theorem mv_to {K N M B Q : Int} {I : Bx} {row col : Int} (hK : 5 ≤ K ∧ K ≤ 7) (ib : I.inn B Q) : inB I.t I.l I.b I.r (mvR K N M B Q I true row) (mvC K N M B Q I true col) = true := by
  obtain ⟨t, l, b, r⟩ := I
  unfold Bx.inn at ib
  simp only [inB, Bool.and_eq_true, decide_eq_true_eq] at ib ⊢
  have p2 := clampI_in t b row (by omega)
  have q2 := clampI_in l r col (by omega)
  have p3 := clampI_in t b (t + farI N) (by omega)
  have q3 := clampI_in l r (l + farI N) (by omega)
  have q4 := clampI_in l r (l + farI M) (by omega)
  have hc : K = 5 ∨ K = 6 ∨ K = 7 := by omega
  rcases hc with rfl | rfl | rfl
  all_goals (simp [mvR, mvC]; omega)
end Go.Proofs.Ytdlngbmgcedbpaa
