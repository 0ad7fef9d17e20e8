/- RendWeights returns true for every input: unlike renditions have unlike weights, as the document adds them. No condition. -/
import Derived.Test.YtmpbgjnkkapijaaAwake1
import Derived.Test.YtmpbgjnkkapijaaWeighed
import Derived.Test.YtmpbgjnkkapijaaFlagsEq
namespace Go.Proofs.Ytmpbgjnkkapijaa
open Go.ChangeShapes Go.WideShapes Go.ChangeAt Go.RowKit
set_option linter.unusedVariables false
set_option linter.unusedSimpArgs false

set_option maxRecDepth 100000 in
set_option maxHeartbeats 4000000 in
theorem RendWeights_walk (w : World) (a : Int) (wa : (Lit.int .u8 a).wf = true) (b : Int) (wb : (Lit.int .u8 b).wf = true) :
    Calls Try.prog 11 #[.int .u8 a, .int .u8 b] w (Gives w (.bool true)) := by
  obtain ⟨a0, a1⟩ := bounds_u8 wa
  obtain ⟨b0, b1⟩ := bounds_u8 wb
  clear wa wb
  have W1 := Lib.hid (fun w' => weight_c a a0 a1 w')
  have W2 := Lib.hid (fun w' => weight_c b b0 b1 w')
  have V1 := Lib.hid (fun w' => weight_r a a0 a1 w')
  have V2 := Lib.hid (fun w' => weight_r b b0 b1 w')
  have o1 := fun w' => of_r a a0 a1 w'
  have o2 := fun w' => of_r b b0 b1 w'
  have HT := weigh_tells 0 (Fl.of a) (Fl.of b) false false
  generalize Fl.of a = f at W1 V1 o1 HT
  generalize Fl.of b = g at W2 V2 o2 HT
  have HE : (f.weight == g.weight) = decide (f = g) := by
    rw [Bool.eq_iff_iff, beq_iff_eq, decide_eq_true_eq]
    exact ⟨fun h => (HT (by omega)).1, fun h => by rw [h]⟩
  clear HT
  obtain ⟨fb, fu, fk, fr, fh⟩ := f
  obtain ⟨gb, gu, gk, gr, gh⟩ := g
  have HF : (decide ((⟨fb, fu, fk, fr, fh⟩ : Fl) = ⟨gb, gu, gk, gr, gh⟩)) = (fb == gb && (fu == gu && (fk == gk && (fr == gr && fh == gh)))) := by
    cases fb <;> cases fu <;> cases fk <;> cases fr <;> cases fh <;> cases gb <;> cases gu <;> cases gk <;> cases gr <;> cases gh <;> rfl
  rw [HF] at HE
  clear HF
  have O1 := Lib.hid o1
  have O2 := Lib.hid o2
  clear o1 o2
  generalize (Fl.mk fb fu fk fr fh).weight = P at W1 V1 HE
  generalize (Fl.mk gb gu gk gr gh).weight = R at W2 V2 HE
  replace HE := Lib.hid HE
  go_enter Try.func11, Try.ntmps11
  go_wp2_with (first
    | (go_at_call 32; ((with_reducible refine (awake1 _).mono ?_); rintro _ _ hgets; obtain ⟨rfl, x1, rfl⟩ := hgets.get; clear hgets))
    | (go_at_call 41; ((with_reducible refine (W1.out _).mono ?_); rintro _ _ ⟨rfl, rfl⟩))
    | (go_at_call 41; ((with_reducible refine (W2.out _).mono ?_); rintro _ _ ⟨rfl, rfl⟩))
    | (go_at_call 42; ((with_reducible refine (V1.out _).mono ?_); rintro _ _ hgets; obtain ⟨rfl, _, rfl⟩ := hgets.get; clear hgets))
    | (go_at_call 42; ((with_reducible refine (V2.out _).mono ?_); rintro _ _ hgets; obtain ⟨rfl, _, rfl⟩ := hgets.get; clear hgets))
    | (go_at_call 38; ((with_reducible refine (O1.out _).mono ?_); rintro _ _ hgets; obtain ⟨rfl, _, rfl⟩ := hgets.get; clear hgets))
    | (go_at_call 38; ((with_reducible refine (O2.out _).mono ?_); rintro _ _ hgets; obtain ⟨rfl, _, rfl⟩ := hgets.get; clear hgets)))
  all_goals go_returns
  all_goals refine ⟨ret_bool ?_, by (repeat' (first | (with_reducible exact Below.refl _ _) | (with_reducible refine Below.alloc ?_ ?_ _) | (with_reducible refine below_ext ?_ ?_ _) | (with_reducible refine Below.drew ?_) | (with_reducible refine below_drewN ?_ _) | (with_reducible refine Below.setCell ?_ ?_ _) | go_size | (simp only [go_sem]; omega) | (simp [go_sem]; done) | (simp [go_sem]; omega)))⟩
  all_goals
    have e := HE.out
    clear HE
    simp_all
set_option maxRecDepth 100000 in
theorem RendWeights_lifted (os : Os) (started : os.Started) (H : Type) (enc : TypeId × Value → H) :
    ReturnsInHanded {} Try.checked os 11 .any (Rows.rendWeightsSpec.pre6 enc Try.prog Try.f11 Rows.rendWeightsRow.domain false) (Rows.rendWeightsSpec.post enc Try.prog Try.f11 false true false false) := by
  refine returnsInHanded_of_change_sized (C := Try.checked) own started (by kernel_rfl) Try.func11
    (ChangeSpec.witness6 (enc := enc) (C := Try.checked) false ⟨#[], #[.int .u8 0, .int .u8 0], []⟩ 8 (by kernel_rfl) (by kernel_rfl) (by kernel_rfl) (by kernel_rfl)) ?_
  intro W base args ds gs before hval0 hW hcnd hsz0 _
  have hval : ∀ (j : Nat) t v, Try.f11.params[j]? = some t → args[j]? = some v → Value.okWide Try.prog W .any base t v := hval0
  have hsz : (DataW.weightsEach Try.prog (Try.f11.params.toList ++ Rows.rendWeightsSpec.plain.varTypes Try.prog) (ds ++ gs)).all (· ≤ reachBytes) = true := hsz0
  have hW' := hW
  obtain ⟨p, q, hA0, hV, rfl, hfz, hnd⟩ := hW
  have hA : DataW.TrodAll enc Try.prog W 0 (fun _ => true) true Try.f11.params.toList args.toList ds p := hA0
  rw [Try.params11] at hA hval hsz
  obtain ⟨v0, vs0, d0, ds0, p0, q0, hargs, rfl, rfl, h0, r0⟩ := trodAll_cons hA
  obtain ⟨v1, vs1, d1, ds1, p1, q1, rfl, rfl, rfl, h1, r1⟩ := trodAll_cons r0
  obtain ⟨rfl, rfl, rfl⟩ := trodAll_nil r1
  obtain rfl : args = #[v0, v1] := by cases args; simp_all
  obtain ⟨rfl, rfl⟩ := trodVars_none hV
  clear hA0 hval0 hsz0
  obtain ⟨a0, rfl, -, -, w0⟩ := open_int Try.underlying22 (hval 0 22 v0 rfl rfl) h0
  obtain ⟨a1, rfl, -, -, w1⟩ := open_int Try.underlying22 (hval 1 22 v1 rfl rfl) h1
  refine (RendWeights_walk W a0 w0 a1 w1).mono fun e W' ⟨he, hb⟩ => ⟨_, he, ?_⟩
  exact law_post laidOut rfl (by kernel_rfl) (by kernel_rfl) Try.underlying4 hW' rfl hb

theorem RendWeights_holds : Rows.RendWeightsSaid :=
  OpenClaim.holds_of_wide 11 Try.f11 rfl rfl rfl rfl rfl rfl rfl ⟨rfl, rfl, rfl, rfl, rfl⟩ rfl rfl rfl rfl rfl (by kernel_rfl) Try.func11 (by kernel_rfl)
    (of_decide_eq_true (by kernel_rfl)) (by unfold Func.isWrapper; first | (rw [if_pos (by decide +kernel)]; kernel_rfl) | (rw [if_neg (by decide +kernel)]; exact ⟨rfl, rfl⟩))
    (fun os started H enc _ => RendWeights_lifted os started H enc)
#print axioms RendWeights_holds

end Go.Proofs.Ytmpbgjnkkapijaa
