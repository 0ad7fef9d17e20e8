/- ModeFinds returns true for every input: every number is the one mode that the table says, from its level on. No condition. -/
import Derived.Test.YtdmfcijcecogdaaMode5
import Derived.Test.YtdmfcijcecogdaaFrame
namespace Go.Proofs.Ytdmfcijcecogdaa
open Go.ChangeShapes Go.WideShapes Go.ChangeAt Go.RowKit
set_option linter.unusedVariables false
set_option linter.unusedSimpArgs false

theorem find_hit {dec : Bool} {n l : Int} {j : Nat} (h : findF dec n l = some j) : j < 17 ∧ (rowT j).1 = dec ∧ (rowT j).2.1 = n := by
  unfold findF at h
  rw [List.find?_range_eq_some] at h
  obtain ⟨h1, h2, -⟩ := h
  simp [hit] at h1
  exact ⟨by simpa using h2, h1.1.1, h1.1.2⟩
set_option maxHeartbeats 1000000 in
theorem ModeFinds_walk (w : World) (dec : Bool) (n : Int) (wn : (Lit.int .i64 n).wf = true) (l : Int) (wl : (Lit.int .i64 l).wf = true) :
    Calls Try.prog 5 #[.bool dec, .int .i64 n, .int .i64 l] w (Gives w (.bool true)) := by
  clear wn wl
  have F := fun w' => find_c dec n l w'
  have R := fun w' => rfind_c dec n l w'
  have N := Lib.hid (fun w' => number_c n w')
  have W := fun w' => rrow_c n w'
  generalize hr : rowR n = r at N W
  obtain ⟨dd, nn, ll, bb⟩ := r
  simp only [rowTup] at N W
  have W := Lib.hid W
  clear hr
  cases hf : findF dec n l with
  | none =>
    rw [hf] at F R
    simp only [findV, rfindV, Option.getD_none, Option.isSome_none] at F R
    have F := Lib.hid F
    have R := Lib.hid R
    have N0 := fun w' => number_c 0 w'
    rw [show rowR 0 = (false, 2, 1, false) by decide +kernel] at N0
    have N0 := Lib.hid N0
    clear hf
    go_enter Try.func5, Try.ntmps5
    go_wp2_with (first
      | (go_at_call 14; ((with_reducible refine (awake17 _).mono ?_); rintro _ _ hgets; obtain ⟨rfl, _, rfl⟩ := hgets.get; clear hgets))
      | (go_at_call 22; ((with_reducible refine (F.out _).mono ?_); rintro _ _ hgets; obtain ⟨rfl, _, rfl⟩ := hgets.get; clear hgets))
      | (go_at_call 23; ((with_reducible refine (R.out _).mono ?_); rintro _ _ ⟨rfl, rfl⟩))
      | (go_at_call 24; ((with_reducible refine (N.out _).mono ?_); rintro _ _ hgets; obtain ⟨rfl, _, rfl⟩ := hgets.get; clear hgets))
      | (go_at_call 24; ((with_reducible refine (N0.out _).mono ?_); rintro _ _ hgets; obtain ⟨rfl, _, rfl⟩ := hgets.get; clear hgets))
      | (go_at_call 25; ((with_reducible refine (W.out _).mono ?_); rintro _ _ ⟨rfl, rfl⟩)))
    all_goals go_returns
    all_goals exact ⟨rfl, by (repeat' (first | (with_reducible exact Below.refl _ _) | (with_reducible refine Below.alloc ?_ ?_ _) | (with_reducible refine below_ext ?_ ?_ _) | (with_reducible refine Below.drew ?_) | (with_reducible refine below_drewN ?_ _) | (with_reducible refine Below.setCell ?_ ?_ _) | go_size | (simp only [go_sem]; omega) | (simp [go_sem]; done) | (simp [go_sem]; omega)))⟩
  | some j =>
    rw [hf] at F R
    obtain ⟨hj, h1, h2⟩ := find_hit hf
    simp only [findV, rfindV, Option.getD_some, Option.isSome_some] at F R
    have F := Lib.hid F
    have R := Lib.hid R
    have N0 := fun w' => number_c j w'
    rw [rowR_at j hj, h1, h2] at N0
    have N0 := Lib.hid N0
    clear hf h1 h2
    go_enter Try.func5, Try.ntmps5
    go_wp2_with (first
      | (go_at_call 14; ((with_reducible refine (awake17 _).mono ?_); rintro _ _ hgets; obtain ⟨rfl, _, rfl⟩ := hgets.get; clear hgets))
      | (go_at_call 22; ((with_reducible refine (F.out _).mono ?_); rintro _ _ hgets; obtain ⟨rfl, _, rfl⟩ := hgets.get; clear hgets))
      | (go_at_call 23; ((with_reducible refine (R.out _).mono ?_); rintro _ _ ⟨rfl, rfl⟩))
      | (go_at_call 24; ((with_reducible refine (N.out _).mono ?_); rintro _ _ hgets; obtain ⟨rfl, _, rfl⟩ := hgets.get; clear hgets))
      | (go_at_call 24; ((with_reducible refine (N0.out _).mono ?_); rintro _ _ hgets; obtain ⟨rfl, _, rfl⟩ := hgets.get; clear hgets))
      | (go_at_call 25; ((with_reducible refine (W.out _).mono ?_); rintro _ _ ⟨rfl, rfl⟩)))
    all_goals go_returns
    all_goals exact ⟨rfl, by (repeat' (first | (with_reducible exact Below.refl _ _) | (with_reducible refine Below.alloc ?_ ?_ _) | (with_reducible refine below_ext ?_ ?_ _) | (with_reducible refine Below.drew ?_) | (with_reducible refine below_drewN ?_ _) | (with_reducible refine Below.setCell ?_ ?_ _) | go_size | (simp only [go_sem]; omega) | (simp [go_sem]; done) | (simp [go_sem]; omega)))⟩

set_option maxRecDepth 100000 in
theorem ModeFinds_lifted (os : Os) (started : os.Started) (H : Type) (enc : TypeId × Value → H) :
    ReturnsInHanded {} Try.checked os 5 .any (Rows.modeFindsSpec.pre6 enc Try.prog Try.f5 Rows.modeFindsRow.domain false) (Rows.modeFindsSpec.post enc Try.prog Try.f5 false true false false) := by
  refine returnsInHanded_of_change_sized (C := Try.checked) own started (by kernel_rfl) Try.func5
    (ChangeSpec.witness6 (enc := enc) (C := Try.checked) false ⟨#[], #[.bool false, .int .i64 0, .int .i64 0], []⟩ 8 (by kernel_rfl) (by kernel_rfl) (by kernel_rfl) (by kernel_rfl)) ?_
  intro W base args ds gs before hval0 hW hcnd hsz0 _
  have hval : ∀ (j : Nat) t v, Try.f5.params[j]? = some t → args[j]? = some v → Value.okWide Try.prog W .any base t v := hval0
  have hsz : (DataW.weightsEach Try.prog (Try.f5.params.toList ++ Rows.modeFindsSpec.plain.varTypes Try.prog) (ds ++ gs)).all (· ≤ reachBytes) = true := hsz0
  have hW' := hW
  obtain ⟨p, q, hA0, hV, rfl, hfz, hnd⟩ := hW
  have hA : DataW.TrodAll enc Try.prog W 0 (fun _ => true) true Try.f5.params.toList args.toList ds p := hA0
  rw [Try.params5] at hA hval hsz
  obtain ⟨v0, vs0, d0, ds0, p0, q0, hargs, rfl, rfl, h0, r0⟩ := trodAll_cons hA
  obtain ⟨v1, vs1, d1, ds1, p1, q1, rfl, rfl, rfl, h1, r1⟩ := trodAll_cons r0
  obtain ⟨v2, vs2, d2, ds2, p2, q2, rfl, rfl, rfl, h2, r2⟩ := trodAll_cons r1
  obtain ⟨rfl, rfl, rfl⟩ := trodAll_nil r2
  obtain rfl : args = #[v0, v1, v2] := by cases args; simp_all
  obtain ⟨rfl, rfl⟩ := trodVars_none hV
  clear hA0 hval0 hsz0
  obtain ⟨a0, rfl, -, -⟩ := open_bool Try.underlying4 (hval 0 4 v0 rfl rfl) h0
  obtain ⟨a1, rfl, -, -, w1⟩ := open_int Try.underlying3 (hval 1 3 v1 rfl rfl) h1
  obtain ⟨a2, rfl, -, -, w2⟩ := open_int Try.underlying3 (hval 2 3 v2 rfl rfl) h2
  refine (ModeFinds_walk W a0 a1 w1 a2 w2).mono fun e W' ⟨he, hb⟩ => ⟨_, he, ?_⟩
  exact law_post laidOut rfl (by kernel_rfl) (by kernel_rfl) Try.underlying4 hW' rfl hb

theorem ModeFinds_holds : Rows.ModeFindsSaid :=
  OpenClaim.holds_of_wide 5 Try.f5 rfl rfl rfl rfl rfl rfl rfl ⟨rfl, rfl, rfl, rfl, rfl⟩ rfl rfl rfl rfl rfl (by kernel_rfl) Try.func5 (by kernel_rfl)
    (of_decide_eq_true (by kernel_rfl)) (by unfold Func.isWrapper; first | (rw [if_pos (by decide +kernel)]; kernel_rfl) | (rw [if_neg (by decide +kernel)]; exact ⟨rfl, rfl⟩))
    (fun os started H enc _ => ModeFinds_lifted os started H enc)
#print axioms ModeFinds_holds

end Go.Proofs.Ytdmfcijcecogdaa
