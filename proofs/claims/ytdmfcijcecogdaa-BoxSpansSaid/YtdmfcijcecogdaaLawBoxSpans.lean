/- BoxSpans returns true for every input: margins are taken from numbers just where the first line lies ahead of the last one. No condition. -/
import Derived.Test.YtdmfcijcecogdaaFrame
import Derived.Test.YtdmfcijcecogdaaAwake5
namespace Go.Proofs.Ytdmfcijcecogdaa
open Go.ChangeShapes Go.WideShapes Go.ChangeAt Go.RowKit
set_option linter.unusedVariables false
set_option linter.unusedSimpArgs false

set_option maxHeartbeats 1000000 in
theorem BoxSpans_walk (w : World) (n : Int) (hn : (Lit.int .i64 n).wf = true) (f : Int) (hf : (Lit.int .i64 f).wf = true) (l : Int) (hl : (Lit.int .i64 l).wf = true) :
    Calls Try.prog 7 #[.int .i64 n, .int .i64 f, .int .i64 l] w (Gives w (.bool true)) := by
  have hf' := bounds_i64 hf
  have c1 := fun w' => span_c n f l w' hf'.2
  have c2 := fun w' => span_r n f l w' hf'.2
  by_cases ho : spanOk n f l = true
  · have e : spanV n f l = .tuple #[.int .i64 (spanA f - 1), .int .i64 (lastA n l), .bool true] := by simp [spanV, ho]
    have ho' := ho
    simp only [spanOk, Bool.and_eq_true, decide_eq_true_eq] at ho'
    have h1 : lastA n l ≤ n := by unfold lastA; split <;> omega
    have h2 : 1 ≤ spanA f := by unfold spanA; split <;> omega
    have h3 : spanA f ≤ 9223372036854775807 := by unfold spanA; split <;> omega
    have h4 := ho'.2
    rw [e] at c1 c2
    have C1 := Lib.hid c1
    have C2 := Lib.hid c2
    clear c1 c2 e ho' ho hf'
    go_enter Try.func7, Try.ntmps7
    go_wp2_with (first
      | (go_at_call 28; ((with_reducible refine (awake5 _).mono ?_); rintro _ _ hgets; obtain ⟨rfl, _, rfl⟩ := hgets.get; clear hgets))
      | (go_at_call 29; ((with_reducible refine (C1.out _).mono ?_); rintro _ _ ⟨rfl, rfl⟩))
      | (go_at_call 30; ((with_reducible refine (C2.out _).mono ?_); rintro _ _ ⟨rfl, rfl⟩)))
    all_goals go_returns
    all_goals refine ⟨?_, by (repeat' (first | (with_reducible exact Below.refl _ _) | (with_reducible refine Below.alloc ?_ ?_ _) | (with_reducible refine below_ext ?_ ?_ _) | (with_reducible refine Below.drew ?_) | (with_reducible refine below_drewN ?_ _) | (with_reducible refine Below.setCell ?_ ?_ _) | go_size | (simp only [go_sem]; omega) | (simp [go_sem]; done) | (simp [go_sem]; omega)))⟩
    all_goals rfl
  · have e : spanV n f l = .tuple #[.int .i64 0, .int .i64 0, .bool false] := by simp [spanV, ho]
    rw [e] at c1 c2
    have C1 := Lib.hid c1
    have C2 := Lib.hid c2
    clear c1 c2 e ho hf'
    go_enter Try.func7, Try.ntmps7
    go_wp2_with (first
      | (go_at_call 28; ((with_reducible refine (awake5 _).mono ?_); rintro _ _ hgets; obtain ⟨rfl, _, rfl⟩ := hgets.get; clear hgets))
      | (go_at_call 29; ((with_reducible refine (C1.out _).mono ?_); rintro _ _ ⟨rfl, rfl⟩))
      | (go_at_call 30; ((with_reducible refine (C2.out _).mono ?_); rintro _ _ ⟨rfl, rfl⟩)))
    all_goals go_returns
    all_goals refine ⟨?_, by (repeat' (first | (with_reducible exact Below.refl _ _) | (with_reducible refine Below.alloc ?_ ?_ _) | (with_reducible refine below_ext ?_ ?_ _) | (with_reducible refine Below.drew ?_) | (with_reducible refine below_drewN ?_ _) | (with_reducible refine Below.setCell ?_ ?_ _) | go_size | (simp only [go_sem]; omega) | (simp [go_sem]; done) | (simp [go_sem]; omega)))⟩
    all_goals rfl

set_option maxRecDepth 100000 in
theorem BoxSpans_lifted (os : Os) (started : os.Started) (H : Type) (enc : TypeId × Value → H) :
    ReturnsInHanded {} Try.checked os 7 .any (Rows.boxSpansSpec.pre6 enc Try.prog Try.f7 Rows.boxSpansRow.domain false) (Rows.boxSpansSpec.post enc Try.prog Try.f7 false true false false) := by
  refine returnsInHanded_of_change_sized (C := Try.checked) own started (by kernel_rfl) Try.func7
    (ChangeSpec.witness6 (enc := enc) (C := Try.checked) false ⟨#[], #[.int .i64 0, .int .i64 0, .int .i64 0], []⟩ 8 (by kernel_rfl) (by kernel_rfl) (by kernel_rfl) (by kernel_rfl)) ?_
  intro W base args ds gs before hval0 hW hcnd hsz0 _
  have hval : ∀ (j : Nat) t v, Try.f7.params[j]? = some t → args[j]? = some v → Value.okWide Try.prog W .any base t v := hval0
  have hsz : (DataW.weightsEach Try.prog (Try.f7.params.toList ++ Rows.boxSpansSpec.plain.varTypes Try.prog) (ds ++ gs)).all (· ≤ reachBytes) = true := hsz0
  have hW' := hW
  obtain ⟨p, q, hA0, hV, rfl, hfz, hnd⟩ := hW
  have hA : DataW.TrodAll enc Try.prog W 0 (fun _ => true) true Try.f7.params.toList args.toList ds p := hA0
  rw [Try.params7] at hA hval hsz
  obtain ⟨v0, vs0, d0, ds0, p0, q0, hargs, rfl, rfl, h0, r0⟩ := trodAll_cons hA
  obtain ⟨v1, vs1, d1, ds1, p1, q1, rfl, rfl, rfl, h1, r1⟩ := trodAll_cons r0
  obtain ⟨v2, vs2, d2, ds2, p2, q2, rfl, rfl, rfl, h2, r2⟩ := trodAll_cons r1
  obtain ⟨rfl, rfl, rfl⟩ := trodAll_nil r2
  obtain rfl : args = #[v0, v1, v2] := by cases args; simp_all
  obtain ⟨rfl, rfl⟩ := trodVars_none hV
  clear hA0 hval0 hsz0
  obtain ⟨a0, rfl, -, -, w0⟩ := open_int Try.underlying3 (hval 0 3 v0 rfl rfl) h0
  obtain ⟨a1, rfl, -, -, w1⟩ := open_int Try.underlying3 (hval 1 3 v1 rfl rfl) h1
  obtain ⟨a2, rfl, -, -, w2⟩ := open_int Try.underlying3 (hval 2 3 v2 rfl rfl) h2
  refine (BoxSpans_walk W a0 w0 a1 w1 a2 w2).mono fun e W' ⟨he, hb⟩ => ⟨_, he, ?_⟩
  exact law_post laidOut rfl (by kernel_rfl) (by kernel_rfl) Try.underlying4 hW' rfl hb

theorem BoxSpans_holds : Rows.BoxSpansSaid :=
  OpenClaim.holds_of_wide 7 Try.f7 rfl rfl rfl rfl rfl rfl rfl ⟨rfl, rfl, rfl, rfl, rfl⟩ rfl rfl rfl rfl rfl (by kernel_rfl) Try.func7 (by kernel_rfl)
    (of_decide_eq_true (by kernel_rfl)) (by unfold Func.isWrapper; first | (rw [if_pos (by decide +kernel)]; kernel_rfl) | (rw [if_neg (by decide +kernel)]; exact ⟨rfl, rfl⟩))
    (fun os started H enc _ => BoxSpans_lifted os started H enc)
#print axioms BoxSpans_holds

end Go.Proofs.Ytdmfcijcecogdaa
