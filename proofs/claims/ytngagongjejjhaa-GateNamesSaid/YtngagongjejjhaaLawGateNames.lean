/- GateNames returns true for every input: unlike functions have unlike names. No condition. -/
import Derived.Test.YtngagongjejjhaaGtE
import Derived.Test.YtngagongjejjhaaFrame
namespace Go.Proofs.Ytngagongjejjhaa
open Go.ChangeShapes Go.WideShapes Go.ChangeAt Go.RowKit
set_option linter.unusedVariables false
set_option linter.unusedSimpArgs false

set_option maxRecDepth 100000 in
set_option maxHeartbeats 8000000 in
theorem GateNames_walk (w : World) (a : Int) (wa : (Lit.int .i64 a).wf = true) (b : Int) (wb : (Lit.int .i64 b).wf = true) :
    Calls Try.prog 3 #[.int .i64 a, .int .i64 b] w (Gives w (.bool true)) := by
  have AW := Lib.hid awake_23
  have ha := (bounds_i64 wa).1
  have hb := (bounds_i64 wb).1
  have NA := Lib.hid (fun w' => name_c a w' ha)
  have NB := Lib.hid (fun w' => name_c b w' hb)
  have LA := Lib.hid (fun w' => level_c a w' ha)
  by_cases ht : 1 ≤ a ∧ a ≤ 112
  · obtain ⟨p1, p2, p3⟩ := cl_props ht.1 ht.2
    have p5 : ((clG a).nm.toList == []) = false := by rwa [show (⟨#[]⟩ : ByteArray).toList = [] by rw [ByteArray.toList_eq]] at p1
    have d1 : decide (1 ≤ a) = true := decide_eq_true ht.1
    have d2 : decide (a ≤ 112) = true := decide_eq_true ht.2
    have d3 : decide (0 < (clG a).lv) = true := decide_eq_true p2
    have d4 : decide ((clG a).lv < 0) = false := decide_eq_false (by omega)
    have d5 : decide (5 < (clG a).lv) = false := decide_eq_false (by omega)
    by_cases hab : a = b
    · have d6 : (a == b) = true := by simpa using hab
      generalize clG a = r at NA LA p1 p2 p3 p5 d3 d4 d5
      clear hab ht wa wb NB
      go_enter Try.func3, Try.ntmps3
      go_wp2_with (first
        | (go_at_call 4; ((with_reducible refine (AW.out _).mono ?_); rintro _ _ hgets; obtain ⟨rfl, x1, rfl⟩ := hgets.get; clear hgets))
        | (go_at_call 5; ((with_reducible refine (NA.out _).mono ?_); rintro _ _ hgets; obtain ⟨rfl, x2, rfl⟩ := hgets.get; clear hgets))
        | (go_at_call 6; ((with_reducible refine (LA.out _).mono ?_); rintro _ _ hgets; obtain ⟨rfl, x3, rfl⟩ := hgets.get; clear hgets)))
      go_returns
      exact ⟨rfl, by (repeat' (first | (with_reducible exact Below.refl _ _) | (with_reducible refine Below.alloc ?_ ?_ _) | (with_reducible refine below_ext ?_ ?_ _) | (with_reducible refine Below.drew ?_) | (with_reducible refine below_drewN ?_ _) | (with_reducible refine Below.setCell ?_ ?_ _) | go_size | (simp only [go_sem]; omega) | (simp [go_sem]; done) | (simp [go_sem]; omega)))⟩
    · have d6 : (a == b) = false := by simpa using hab
      have p4 := cl_differ ht.1 ht.2 hab
      generalize clG a = r at NA LA p1 p2 p3 p4 p5 d3 d4 d5
      generalize clG b = s at NB p4
      clear hab ht wa wb
      go_enter Try.func3, Try.ntmps3
      go_wp2_with (first
        | (go_at_call 4; ((with_reducible refine (AW.out _).mono ?_); rintro _ _ hgets; obtain ⟨rfl, x1, rfl⟩ := hgets.get; clear hgets))
        | (go_at_call 5; ((with_reducible refine (NA.out _).mono ?_); rintro _ _ hgets; obtain ⟨rfl, x2, rfl⟩ := hgets.get; clear hgets))
        | (go_at_call 5; ((with_reducible refine (NB.out _).mono ?_); rintro _ _ hgets; obtain ⟨rfl, x4, rfl⟩ := hgets.get; clear hgets))
        | (go_at_call 6; ((with_reducible refine (LA.out _).mono ?_); rintro _ _ hgets; obtain ⟨rfl, x3, rfl⟩ := hgets.get; clear hgets)))
      go_returns
      exact ⟨rfl, by (repeat' (first | (with_reducible exact Below.refl _ _) | (with_reducible refine Below.alloc ?_ ?_ _) | (with_reducible refine below_ext ?_ ?_ _) | (with_reducible refine Below.drew ?_) | (with_reducible refine below_drewN ?_ _) | (with_reducible refine Below.setCell ?_ ?_ _) | go_size | (simp only [go_sem]; omega) | (simp [go_sem]; done) | (simp [go_sem]; omega)))⟩
  · have hn := cl_not ht
    rw [hn] at NA LA
    unfold noG at NA LA
    simp only at NA LA
    have hq : decide (1 ≤ a) = false ∨ (decide (1 ≤ a) = true ∧ decide (a ≤ 112) = false) := by
      by_cases h : 1 ≤ a
      · exact .inr ⟨decide_eq_true h, decide_eq_false (by omega)⟩
      · exact .inl (decide_eq_false h)
    clear ht hn wa wb NB
    rcases hq with d1 | ⟨d1, d2⟩
    · cases d6 : (a == b)
      all_goals (
        go_enter Try.func3, Try.ntmps3
        go_wp2_with (first
          | (go_at_call 4; ((with_reducible refine (AW.out _).mono ?_); rintro _ _ hgets; obtain ⟨rfl, x1, rfl⟩ := hgets.get; clear hgets))
          | (go_at_call 5; ((with_reducible refine (NA.out _).mono ?_); rintro _ _ hgets; obtain ⟨rfl, x2, rfl⟩ := hgets.get; clear hgets))
          | (go_at_call 6; ((with_reducible refine (LA.out _).mono ?_); rintro _ _ hgets; obtain ⟨rfl, x3, rfl⟩ := hgets.get; clear hgets)))
        go_returns
        exact ⟨rfl, by (repeat' (first | (with_reducible exact Below.refl _ _) | (with_reducible refine Below.alloc ?_ ?_ _) | (with_reducible refine below_ext ?_ ?_ _) | (with_reducible refine Below.drew ?_) | (with_reducible refine below_drewN ?_ _) | (with_reducible refine Below.setCell ?_ ?_ _) | go_size | (simp only [go_sem]; omega) | (simp [go_sem]; done) | (simp [go_sem]; omega)))⟩)
    · cases d6 : (a == b)
      all_goals (
        go_enter Try.func3, Try.ntmps3
        go_wp2_with (first
          | (go_at_call 4; ((with_reducible refine (AW.out _).mono ?_); rintro _ _ hgets; obtain ⟨rfl, x1, rfl⟩ := hgets.get; clear hgets))
          | (go_at_call 5; ((with_reducible refine (NA.out _).mono ?_); rintro _ _ hgets; obtain ⟨rfl, x2, rfl⟩ := hgets.get; clear hgets))
          | (go_at_call 6; ((with_reducible refine (LA.out _).mono ?_); rintro _ _ hgets; obtain ⟨rfl, x3, rfl⟩ := hgets.get; clear hgets)))
        go_returns
        exact ⟨rfl, by (repeat' (first | (with_reducible exact Below.refl _ _) | (with_reducible refine Below.alloc ?_ ?_ _) | (with_reducible refine below_ext ?_ ?_ _) | (with_reducible refine Below.drew ?_) | (with_reducible refine below_drewN ?_ _) | (with_reducible refine Below.setCell ?_ ?_ _) | go_size | (simp only [go_sem]; omega) | (simp [go_sem]; done) | (simp [go_sem]; omega)))⟩)
set_option maxRecDepth 100000 in
theorem GateNames_lifted (os : Os) (started : os.Started) (H : Type) (enc : TypeId × Value → H) :
    ReturnsInHanded {} Try.checked os 3 .any (Rows.gateNamesSpec.pre6 enc Try.prog Try.f3 Rows.gateNamesRow.domain false) (Rows.gateNamesSpec.post enc Try.prog Try.f3 false true false false) := by
  refine returnsInHanded_of_change_sized (C := Try.checked) own started (by kernel_rfl) Try.func3
    (ChangeSpec.witness6 (enc := enc) (C := Try.checked) false ⟨#[], #[.int .i64 0, .int .i64 0], []⟩ 8 (by kernel_rfl) (by kernel_rfl) (by kernel_rfl) (by kernel_rfl)) ?_
  intro W base args ds gs before hval0 hW hcnd hsz0 _
  have hval : ∀ (j : Nat) t v, Try.f3.params[j]? = some t → args[j]? = some v → Value.okWide Try.prog W .any base t v := hval0
  have hsz : (DataW.weightsEach Try.prog (Try.f3.params.toList ++ Rows.gateNamesSpec.plain.varTypes Try.prog) (ds ++ gs)).all (· ≤ reachBytes) = true := hsz0
  have hW' := hW
  obtain ⟨p, q, hA0, hV, rfl, hfz, hnd⟩ := hW
  have hA : DataW.TrodAll enc Try.prog W 0 (fun _ => true) true Try.f3.params.toList args.toList ds p := hA0
  rw [Try.params3] at hA hval hsz
  obtain ⟨v0, vs0, d0, ds0, p0, q0, hargs, rfl, rfl, h0, r0⟩ := trodAll_cons hA
  obtain ⟨v1, vs1, d1, ds1, p1, q1, rfl, rfl, rfl, h1, r1⟩ := trodAll_cons r0
  obtain ⟨rfl, rfl, rfl⟩ := trodAll_nil r1
  obtain rfl : args = #[v0, v1] := by cases args; simp_all
  obtain ⟨rfl, rfl⟩ := trodVars_none hV
  clear hA0 hval0 hsz0
  obtain ⟨a0, rfl, -, -, w0⟩ := open_int Try.underlying3 (hval 0 3 v0 rfl rfl) h0
  obtain ⟨a1, rfl, -, -, w1⟩ := open_int Try.underlying3 (hval 1 3 v1 rfl rfl) h1
  refine (GateNames_walk W a0 w0 a1 w1).mono fun e W' ⟨he, hb⟩ => ⟨_, he, ?_⟩
  exact law_post laidOut rfl (by kernel_rfl) (by kernel_rfl) Try.underlying4 hW' rfl hb

theorem GateNames_holds : Rows.GateNamesSaid :=
  OpenClaim.holds_of_wide 3 Try.f3 rfl rfl rfl rfl rfl rfl rfl ⟨rfl, rfl, rfl, rfl, rfl⟩ rfl rfl rfl rfl rfl (by kernel_rfl) Try.func3 (by kernel_rfl)
    (of_decide_eq_true (by kernel_rfl)) (by unfold Func.isWrapper; first | (rw [if_pos (by decide +kernel)]; kernel_rfl) | (rw [if_neg (by decide +kernel)]; exact ⟨rfl, rfl⟩))
    (fun os started H enc _ => GateNames_lifted os started H enc)
#print axioms GateNames_holds

end Go.Proofs.Ytngagongjejjhaa
