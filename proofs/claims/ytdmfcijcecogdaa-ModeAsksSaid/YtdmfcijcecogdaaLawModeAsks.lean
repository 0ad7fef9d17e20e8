/- ModeAsks returns true for every input: what is told of a mode's number is whether it is set, can be, or isn't there. No condition. -/
import Derived.Test.YtdmfcijcecogdaaMode5
import Derived.Test.YtdmfcijcecogdaaFrame
namespace Go.Proofs.Ytdmfcijcecogdaa
open Go.ChangeShapes Go.WideShapes Go.ChangeAt Go.RowKit
set_option linter.unusedVariables false
set_option linter.unusedSimpArgs false

def fx (n : Int) : Bool := decide (n = 1 ∨ n = 5 ∨ n = 7 ∨ n = 10 ∨ n = 11 ∨ (13 ≤ n ∧ n ≤ 19))
theorem fixed_c (n : Int) (w : World) : Calls Try.prog 51 #[.int .i64 n] w (Same w (.bool (fx n))) := by
  have e := Lib.hid (show fx n = decide (n = 1 ∨ n = 5 ∨ n = 7 ∨ n = 10 ∨ n = 11 ∨ (13 ≤ n ∧ n ≤ 19)) from rfl)
  generalize fx n = F at e
  go_enter Try.func51, Try.ntmps51
  go_wp2_with fail
  all_goals go_returns
  all_goals refine ⟨ret_bool ?_, rfl⟩
  all_goals rw [e.out]
  all_goals (rw [Bool.eq_iff_iff]; simp only [beq_iff_eq, beq_eq_false_iff_ne, decide_eq_true_eq, Bool.false_eq_true, true_iff, false_iff, ne_eq] at *; omega)
def askF (m : Nat) (dec : Bool) (n l : Int) : Int := match findF dec n l with | some j => (if m.testBit j then 1 else 2) | none => if !dec && fx n then 4 else 0
theorem find_hit {dec : Bool} {n l : Int} {j : Nat} (h : findF dec n l = some j) : j < 17 := by
  unfold findF at h
  rw [List.find?_range_eq_some] at h
  simpa using h.2.1
set_option maxHeartbeats 1000000 in
theorem ask_c (m : Nat) (hm : m < 4294967296) (dec : Bool) (n l : Int) (w : World) : Calls Try.prog 26 #[.int .u32 m, .bool dec, .int .i64 n, .int .i64 l] w (Gives w (.int .i64 (askF m dec n l))) := by
  have F := fun w' => find_c dec n l w'
  have X := fun w' => fixed_c n w'
  unfold askF
  generalize fx n = fn at X
  have X := Lib.hid X
  cases hf : findF dec n l with
  | none =>
    rw [hf] at F
    simp only [findV, Option.getD_none, Option.isSome_none] at F
    have F := Lib.hid F
    clear hf
    cases dec <;> cases fn
    all_goals go_enter Try.func26, Try.ntmps26
    all_goals go_wp2_with (first
      | (go_at_call 22; ((with_reducible refine (F.out _).mono ?_); rintro _ _ hgets; obtain ⟨rfl, _, rfl⟩ := hgets.get; clear hgets))
      | (go_at_call 51; ((with_reducible refine (X.out _).mono ?_); rintro _ _ ⟨rfl, rfl⟩)))
    all_goals go_returns
    all_goals exact ⟨rfl, by (repeat' (first | (with_reducible exact Below.refl _ _) | (with_reducible refine Below.alloc ?_ ?_ _) | (with_reducible refine below_ext ?_ ?_ _) | (with_reducible refine Below.drew ?_) | (with_reducible refine below_drewN ?_ _) | (with_reducible refine Below.setCell ?_ ?_ _) | go_size | (simp only [go_sem]; omega) | (simp [go_sem]; done) | (simp [go_sem]; omega)))⟩
  | some j =>
    rw [hf] at F
    have hj := find_hit hf
    have H := fun w' => has_c m hm j w'
    rw [show hasF m j = m.testBit j by unfold hasF; rw [show inM (j : Int) = true by simp [inM]; omega]; rfl] at H
    simp only [findV, Option.getD_some, Option.isSome_some] at F
    have F := Lib.hid F
    dsimp only
    generalize m.testBit j = T at H ⊢
    have H := Lib.hid H
    clear hf
    cases T
    all_goals go_enter Try.func26, Try.ntmps26
    all_goals go_wp2_with (first
      | (go_at_call 22; ((with_reducible refine (F.out _).mono ?_); rintro _ _ hgets; obtain ⟨rfl, _, rfl⟩ := hgets.get; clear hgets))
      | (go_at_call 17; ((with_reducible refine (H.out _).mono ?_); rintro _ _ ⟨rfl, rfl⟩)))
    all_goals go_returns
    all_goals exact ⟨rfl, by (repeat' (first | (with_reducible exact Below.refl _ _) | (with_reducible refine Below.alloc ?_ ?_ _) | (with_reducible refine below_ext ?_ ?_ _) | (with_reducible refine Below.drew ?_) | (with_reducible refine below_drewN ?_ _) | (with_reducible refine Below.setCell ?_ ?_ _) | go_size | (simp only [go_sem]; omega) | (simp [go_sem]; done) | (simp [go_sem]; omega)))⟩
set_option maxHeartbeats 1000000 in
theorem rask_c (m : Nat) (hm : m < 4294967296) (dec : Bool) (n l : Int) (w : World) : Calls Try.prog 27 #[.int .i64 m, .bool dec, .int .i64 n, .int .i64 l] w (Same w (.int .i64 (askF m dec n l))) := by
  have F := fun w' => rfind_c dec n l w'
  unfold askF
  cases hf : findF dec n l with
  | none =>
    rw [hf] at F
    simp only [rfindV] at F
    have F := Lib.hid F
    clear hf
    cases dec
    · have e : (if (!false && fx n) = true then (4 : Int) else 0) = if (n = 1 ∨ n = 5 ∨ n = 7 ∨ n = 10 ∨ n = 11 ∨ (13 ≤ n ∧ n ≤ 19)) then 4 else 0 := by unfold fx; simp
      generalize (if (!false && fx n) = true then (4 : Int) else 0) = V at e ⊢
      have e := Lib.hid e
      go_enter Try.func27, Try.ntmps27
      go_wp2_with (go_at_call 23; ((with_reducible refine (F.out _).mono ?_); rintro _ _ ⟨rfl, rfl⟩))
      all_goals go_returns
      all_goals refine ⟨ret_int ?_, rfl⟩
      all_goals (try rw [e.out])
      all_goals (try split)
      all_goals (first | rfl | omega | (simp only [beq_iff_eq, beq_eq_false_iff_ne, decide_eq_true_eq, decide_eq_false_iff_not, ne_eq] at *; omega))
    · simp only [Bool.not_true, Bool.false_and, Bool.false_eq_true, if_false]
      go_enter Try.func27, Try.ntmps27
      go_wp2_with (go_at_call 23; ((with_reducible refine (F.out _).mono ?_); rintro _ _ ⟨rfl, rfl⟩))
      all_goals go_returns
      all_goals exact ⟨rfl, rfl⟩
  | some j =>
    rw [hf] at F
    have hj := find_hit hf
    have H := fun w' => rhas_c m hm j w'
    rw [show hasF m j = m.testBit j by unfold hasF; rw [show inM (j : Int) = true by simp [inM]; omega]; rfl] at H
    simp only [rfindV] at F
    have F := Lib.hid F
    dsimp only
    generalize m.testBit j = T at H ⊢
    have H := Lib.hid H
    clear hf
    cases T
    all_goals go_enter Try.func27, Try.ntmps27
    all_goals go_wp2_with (first
      | (go_at_call 23; ((with_reducible refine (F.out _).mono ?_); rintro _ _ ⟨rfl, rfl⟩))
      | (go_at_call 18; ((with_reducible refine (H.out _).mono ?_); rintro _ _ ⟨rfl, rfl⟩)))
    all_goals go_returns
    all_goals exact ⟨rfl, rfl⟩
set_option maxHeartbeats 1000000 in
theorem ModeAsks_walk (w : World) (m : Int) (wm : (Lit.int .u32 m).wf = true) (n : Int) (wn : (Lit.int .i64 n).wf = true) (l : Int) (wl : (Lit.int .i64 l).wf = true) :
    Calls Try.prog 6 #[.int .u32 m, .int .i64 n, .int .i64 l] w (Gives w (.bool true)) := by
  have bm := bounds_u32 wm
  obtain ⟨M, rfl⟩ : ∃ M : Nat, m = M := ⟨m.toNat, by omega⟩
  have hM : M < 4294967296 := by omega
  have A1 := Lib.hid (fun w' => ask_c M hM true n l w')
  have A2 := Lib.hid (fun w' => ask_c M hM false n l w')
  have B1 := Lib.hid (fun w' => rask_c M hM true n l w')
  have B2 := Lib.hid (fun w' => rask_c M hM false n l w')
  clear wn wl wm
  go_enter Try.func6, Try.ntmps6
  go_wp2_with (first
    | (go_at_call 14; ((with_reducible refine (awake17 _).mono ?_); rintro _ _ hgets; obtain ⟨rfl, _, rfl⟩ := hgets.get; clear hgets))
    | (go_at_call 26; ((with_reducible refine (A1.out _).mono ?_); rintro _ _ hgets; obtain ⟨rfl, _, rfl⟩ := hgets.get; clear hgets))
    | (go_at_call 26; ((with_reducible refine (A2.out _).mono ?_); rintro _ _ hgets; obtain ⟨rfl, _, rfl⟩ := hgets.get; clear hgets))
    | (go_at_call 27; ((with_reducible refine (B1.out _).mono ?_); rintro _ _ ⟨rfl, rfl⟩))
    | (go_at_call 27; ((with_reducible refine (B2.out _).mono ?_); rintro _ _ ⟨rfl, rfl⟩)))
  all_goals go_returns
  all_goals exact ⟨rfl, by (repeat' (first | (with_reducible exact Below.refl _ _) | (with_reducible refine Below.alloc ?_ ?_ _) | (with_reducible refine below_ext ?_ ?_ _) | (with_reducible refine Below.drew ?_) | (with_reducible refine below_drewN ?_ _) | (with_reducible refine Below.setCell ?_ ?_ _) | go_size | (simp only [go_sem]; omega) | (simp [go_sem]; done) | (simp [go_sem]; omega)))⟩

set_option maxRecDepth 100000 in
theorem ModeAsks_lifted (os : Os) (started : os.Started) (H : Type) (enc : TypeId × Value → H) :
    ReturnsInHanded {} Try.checked os 6 .any (Rows.modeAsksSpec.pre6 enc Try.prog Try.f6 Rows.modeAsksRow.domain false) (Rows.modeAsksSpec.post enc Try.prog Try.f6 false true false false) := by
  refine returnsInHanded_of_change_sized (C := Try.checked) own started (by kernel_rfl) Try.func6
    (ChangeSpec.witness6 (enc := enc) (C := Try.checked) false ⟨#[], #[.int .u32 0, .int .i64 0, .int .i64 0], []⟩ 8 (by kernel_rfl) (by kernel_rfl) (by kernel_rfl) (by kernel_rfl)) ?_
  intro W base args ds gs before hval0 hW hcnd hsz0 _
  have hval : ∀ (j : Nat) t v, Try.f6.params[j]? = some t → args[j]? = some v → Value.okWide Try.prog W .any base t v := hval0
  have hsz : (DataW.weightsEach Try.prog (Try.f6.params.toList ++ Rows.modeAsksSpec.plain.varTypes Try.prog) (ds ++ gs)).all (· ≤ reachBytes) = true := hsz0
  have hW' := hW
  obtain ⟨p, q, hA0, hV, rfl, hfz, hnd⟩ := hW
  have hA : DataW.TrodAll enc Try.prog W 0 (fun _ => true) true Try.f6.params.toList args.toList ds p := hA0
  rw [Try.params6] at hA hval hsz
  obtain ⟨v0, vs0, d0, ds0, p0, q0, hargs, rfl, rfl, h0, r0⟩ := trodAll_cons hA
  obtain ⟨v1, vs1, d1, ds1, p1, q1, rfl, rfl, rfl, h1, r1⟩ := trodAll_cons r0
  obtain ⟨v2, vs2, d2, ds2, p2, q2, rfl, rfl, rfl, h2, r2⟩ := trodAll_cons r1
  obtain ⟨rfl, rfl, rfl⟩ := trodAll_nil r2
  obtain rfl : args = #[v0, v1, v2] := by cases args; simp_all
  obtain ⟨rfl, rfl⟩ := trodVars_none hV
  clear hA0 hval0 hsz0
  obtain ⟨a0, rfl, -, -, w0⟩ := open_int Try.underlying23 (hval 0 23 v0 rfl rfl) h0
  obtain ⟨a1, rfl, -, -, w1⟩ := open_int Try.underlying3 (hval 1 3 v1 rfl rfl) h1
  obtain ⟨a2, rfl, -, -, w2⟩ := open_int Try.underlying3 (hval 2 3 v2 rfl rfl) h2
  refine (ModeAsks_walk W a0 w0 a1 w1 a2 w2).mono fun e W' ⟨he, hb⟩ => ⟨_, he, ?_⟩
  exact law_post laidOut rfl (by kernel_rfl) (by kernel_rfl) Try.underlying4 hW' rfl hb

theorem ModeAsks_holds : Rows.ModeAsksSaid :=
  OpenClaim.holds_of_wide 6 Try.f6 rfl rfl rfl rfl rfl rfl rfl ⟨rfl, rfl, rfl, rfl, rfl⟩ rfl rfl rfl rfl rfl (by kernel_rfl) Try.func6 (by kernel_rfl)
    (of_decide_eq_true (by kernel_rfl)) (by unfold Func.isWrapper; first | (rw [if_pos (by decide +kernel)]; kernel_rfl) | (rw [if_neg (by decide +kernel)]; exact ⟨rfl, rfl⟩))
    (fun os started H enc _ => ModeAsks_lifted os started H enc)
#print axioms ModeAsks_holds

end Go.Proofs.Ytdmfcijcecogdaa
