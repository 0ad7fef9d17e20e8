/- The functions' clauses: names and levels.  -/
import Derived.Test.YtngagongjejjhaaGtB
namespace Go.Proofs.Ytngagongjejjhaa
open Go.RowKit
set_option linter.unusedVariables false
set_option linter.unusedSimpArgs false

def noG : GRow := ⟨0, ⟨#[]⟩, 0, ⟨#[]⟩⟩
def scsG : GRow := ⟨0, ⟨#[]⟩, 1, ⟨#[83, 67, 83]⟩⟩
def clG (a : Int) : GRow := if a = 112 then scsG else if 1 ≤ a ∧ a ≤ 111 then allG.getD (a - 1).toNat noG else noG
def GRow.v (r : GRow) : Value := .agg #[.int .i64 r.k, .string r.id, .int .i64 r.lv, .string r.nm]
theorem store4e {W : World} {B : Nat} {u0 u1 u2 u3 : Value} {t : TypeId} (h : W.heap[B]? = some (.cells #[u0, u1, u2, u3] t (0, 0))) (v0 v1 v2 v3 : Value) :
    ∃ W', ((((W.setCell ⟨B, 0, none⟩ v0).setCell ⟨B, 1, none⟩ v1).setCell ⟨B, 2, none⟩ v2).setCell ⟨B, 3, none⟩ v3) = W' ∧ (∀ k, k ≠ B → W'.heap[k]? = W.heap[k]?) ∧ W'.os = W.os ∧ W'.tape = W.tape ∧ W'.output = W.output ∧ W'.heap.size = W.heap.size ∧ W'.heap[B]? = some (.cells #[v0, v1, v2, v3] t (0, 0)) := by
  have hl : B < W.heap.size := (Array.getElem?_eq_some_iff.1 h).1
  refine ⟨_, rfl, fun k hk => ?_, rfl, rfl, rfl, by simp [World.setCell], ?_⟩
  · simp [World.setCell, Array.getElem?_modify, Ne.symm hk]
  · simp [World.setCell, Array.getElem?_modify, h]
set_option maxRecDepth 100000 in
set_option maxHeartbeats 8000000 in
theorem clause_c (a : Int) (w : World) (h1 : -9223372036854775808 ≤ a) : Calls Try.prog 9 #[.int .i64 a] w (Gives w (clG a).v) := by
  have RC := Lib.hid (fun w' => rows_c w')
  have hlen := allG_len
  by_cases e : a = 112
  · subst e
    have hc : clG 112 = scsG := rfl
    rw [hc]
    clear hc hlen RC
    go_enter Try.func9, Try.ntmps9
    go_wp2
    simp [bodyPost, go_sem]
    exact ⟨_, by simp [results, Try.f9, go_sem] <;> rfl, rfl, by (repeat' (first | (with_reducible exact Below.refl _ _) | (with_reducible refine Below.alloc ?_ ?_ _) | (with_reducible refine below_ext ?_ ?_ _) | (with_reducible refine Below.drew ?_) | (with_reducible refine below_drewN ?_ _) | (with_reducible refine Below.setCell ?_ ?_ _) | go_size | (simp only [go_sem]; omega) | (simp [go_sem]; done) | (simp [go_sem]; omega)))⟩
  · by_cases e1 : a < 1
    · have hc : clG a = noG := by unfold clG; rw [if_neg e, if_neg (by omega)]
      have d1 : decide (a < 1) = true := decide_eq_true e1
      have d2 : (a == 112) = false := by simpa using e
      rw [hc]
      clear hc hlen RC e e1
      go_enter Try.func9, Try.ntmps9
      go_wp2
      simp [bodyPost, go_sem]
      exact ⟨_, by simp [results, Try.f9, go_sem] <;> rfl, rfl, by (repeat' (first | (with_reducible exact Below.refl _ _) | (with_reducible refine Below.alloc ?_ ?_ _) | (with_reducible refine below_ext ?_ ?_ _) | (with_reducible refine Below.drew ?_) | (with_reducible refine below_drewN ?_ _) | (with_reducible refine Below.setCell ?_ ?_ _) | go_size | (simp only [go_sem]; omega) | (simp [go_sem]; done) | (simp [go_sem]; omega)))⟩
    · have d1 : decide (a < 1) = false := decide_eq_false e1
      have d2 : (a == 112) = false := by simpa using e
      by_cases e2 : 112 < a
      · have hc : clG a = noG := by unfold clG; rw [if_neg e, if_neg (by omega)]
        have d3 : decide (112 < a) = true := decide_eq_true e2
        rw [hc]
        clear hc hlen RC e e1 e2
        go_enter Try.func9, Try.ntmps9
        go_wp2
        simp [bodyPost, go_sem]
        exact ⟨_, by simp [results, Try.f9, go_sem] <;> rfl, rfl, by (repeat' (first | (with_reducible exact Below.refl _ _) | (with_reducible refine Below.alloc ?_ ?_ _) | (with_reducible refine below_ext ?_ ?_ _) | (with_reducible refine Below.drew ?_) | (with_reducible refine below_drewN ?_ _) | (with_reducible refine Below.setCell ?_ ?_ _) | go_size | (simp only [go_sem]; omega) | (simp [go_sem]; done) | (simp [go_sem]; omega)))⟩
      · have d3 : decide (112 < a) = false := decide_eq_false e2
        obtain ⟨i, rfl⟩ : ∃ i : Nat, a = (i : Int) + 1 := ⟨(a - 1).toNat, by omega⟩
        have hi : i < allG.length := by omega
        have hc : clG ((i : Int) + 1) = allG[i] := by
          unfold clG
          rw [if_neg e, if_pos (by omega), show ((i : Int) + 1 - 1).toNat = i by omega, List.getD_eq_getElem?_getD, List.getElem?_eq_getElem hi]
          rfl
        rw [hc]
        have hw : IntKind.i64.wrap ((i : Int) + 1 - 1) = i := by rw [wrap_g (by omega) (by omega)]; omega
        have hi111 : i < 111 := by omega
        clear hc e e1 e2
        generalize allG = L at RC hi hlen ⊢
        obtain ⟨r, hr⟩ : ∃ r, r = L[i] := ⟨_, rfl⟩
        rw [← hr]
        replace hr := Lib.hid hr
        go_enter Try.func9, Try.ntmps9
        go_wp2_with ((go_at_call 12); (with_reducible refine (RC.out _).mono ?_); (intro e1 w1 hg1); (obtain ⟨A1, c1, x1, rfl, rfl, hO1⟩ := hg1.get); clear hg1; (obtain ⟨g, off, rfl, hg, hcell⟩ := hO1.rd encG_len (by omega)); have k0 := hcell i hi 0 _ rfl; have k1 := hcell i hi 1 _ rfl; have k2 := hcell i hi 2 _ rfl; have k3 := hcell i hi 3 _ rfl; simp only [Nat.add_zero, ← Nat.add_assoc] at k0 k1 k2 k3; rw [← hr.out] at k0 k1 k2 k3; clear hcell hO1 RC)
        simp [bodyPost, go_sem]
        exact ⟨_, by simp [results, Try.f9, go_sem] <;> rfl, rfl, by (repeat' (first | (with_reducible exact Below.refl _ _) | (with_reducible refine Below.alloc ?_ ?_ _) | (with_reducible refine below_ext ?_ ?_ _) | (with_reducible refine Below.drew ?_) | (with_reducible refine below_drewN ?_ _) | (with_reducible refine Below.setCell ?_ ?_ _) | go_size | (simp only [go_sem]; omega) | (simp [go_sem]; done) | (simp [go_sem]; omega)))⟩
theorem name_f3 (a b c d : Value) (w : World) : (Instr.field 34 (.agg #[a, b, c, d]) 3).run Try.prog w = .ok d w := by kernel_rfl
theorem level_f2 (a b c d : Value) (w : World) : (Instr.field 34 (.agg #[a, b, c, d]) 2).run Try.prog w = .ok c w := by kernel_rfl
attribute [local go_sem] name_f3 level_f2
set_option maxHeartbeats 4000000 in
theorem name_c (a : Int) (w : World) (h1 : -9223372036854775808 ≤ a) : Calls Try.prog 5 #[.int .i64 a] w (Gives w (.string (clG a).nm)) := by
  have CL := Lib.hid (fun w' => clause_c a w' h1)
  unfold GRow.v at CL
  generalize clG a = r at CL
  go_enter Try.func5, Try.ntmps5
  go_wp2_with (go_at_call 9; ((with_reducible refine (CL.out _).mono ?_); rintro _ _ hgets; obtain ⟨rfl, x1, rfl⟩ := hgets.get; clear hgets))
  go_returns
  exact ⟨rfl, by (repeat' (first | (with_reducible exact Below.refl _ _) | (with_reducible refine Below.alloc ?_ ?_ _) | (with_reducible refine below_ext ?_ ?_ _) | (with_reducible refine Below.drew ?_) | (with_reducible refine below_drewN ?_ _) | (with_reducible refine Below.setCell ?_ ?_ _) | go_size | (simp only [go_sem]; omega) | (simp [go_sem]; done) | (simp [go_sem]; omega)))⟩
set_option maxHeartbeats 4000000 in
theorem level_c (a : Int) (w : World) (h1 : -9223372036854775808 ≤ a) : Calls Try.prog 6 #[.int .i64 a] w (Gives w (.int .i64 (clG a).lv)) := by
  have CL := Lib.hid (fun w' => clause_c a w' h1)
  unfold GRow.v at CL
  generalize clG a = r at CL
  go_enter Try.func6, Try.ntmps6
  go_wp2_with (go_at_call 9; ((with_reducible refine (CL.out _).mono ?_); rintro _ _ hgets; obtain ⟨rfl, x1, rfl⟩ := hgets.get; clear hgets))
  go_returns
  exact ⟨rfl, by (repeat' (first | (with_reducible exact Below.refl _ _) | (with_reducible refine Below.alloc ?_ ?_ _) | (with_reducible refine below_ext ?_ ?_ _) | (with_reducible refine Below.drew ?_) | (with_reducible refine below_drewN ?_ _) | (with_reducible refine Below.setCell ?_ ?_ _) | go_size | (simp only [go_sem]; omega) | (simp [go_sem]; done) | (simp [go_sem]; omega)))⟩
end Go.Proofs.Ytngagongjejjhaa
