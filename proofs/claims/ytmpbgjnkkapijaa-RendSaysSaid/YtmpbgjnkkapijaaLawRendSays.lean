/- RendSays returns true for every input: the letters of a rendition tell it, and its numbers make it: both say the same. No condition. -/
import Derived.Test.YtmpbgjnkkapijaaAwake1
namespace Go.Proofs.Ytmpbgjnkkapijaa
open Go.ChangeShapes Go.WideShapes Go.ChangeAt Go.RowKit
set_option linter.unusedVariables false
set_option linter.unusedSimpArgs false

set_option maxRecDepth 100000 in
set_option maxHeartbeats 4000000 in
theorem RendSays_walk (w : World) (r : Int) (wr : (Lit.int .u8 r).wf = true) (s : ByteArray) (ws : s.size ≤ maxLen) :
    Calls Try.prog 14 #[.int .u8 r, .string s] w (Gives w (.bool true)) := by
  obtain ⟨r0, r1⟩ := bounds_u8 wr
  simp only [maxLen] at ws
  clear wr
  have L1 := Lib.hid (fun w' => letters_c r r0 r1 w')
  have P1 := Lib.hid (fun w' => params_c r r0 r1 w')
  have b1 := fun w' => froms_c ⟨(lettersTo (Fl.of r) 5).toArray⟩ (by have := lettersTo_len (Fl.of r) 5; simp [ByteArray.size]; omega) w'
  rw [show fromF 0 Fl.no ({ data := (lettersTo (Fl.of r) 5).toArray } : ByteArray).data.toList = some (Fl.of r) from from_letters _] at b1
  simp only [FromRes] at b1
  have hl := numsTo_len (Fl.of r) 5
  have hs := letters_size (Fl.of r)
  have hb := lettersTo_len (Fl.of r) 5
  have A1 := fun w' A C (h : Ints w' A (numsTo (Fl.of r) 5)) => apply_c 0 (by omega) (by omega) A C (numsTo (Fl.of r) 5) w' h (by omega)
  rw [nums_make] at A1
  replace A1 := Lib.hid A1
  generalize Fl.of r = f at L1 P1 b1 A1 hl hs hb
  have B1 := Lib.hid b1
  clear b1
  generalize f.num = M at A1 B1
  generalize numsTo f 5 = N at P1 A1 hl hs
  generalize lettersTo f 5 = l at L1 B1 hs hb
  have hs' : ((N.length : Int) != (l.length : Int) + 1) = false := by simp; omega
  clear hs
  have X1 := fun w' => froms_c s ws w'
  cases hf : fromF 0 Fl.no s.data.toList
  case none =>
    rw [hf] at X1
    simp only [FromRes] at X1
    replace X1 := Lib.hid X1
    clear hf
    go_enter Try.func14, Try.ntmps14
    go_wp2_with (first
      | (go_at_call 32; ((with_reducible refine (awake1 _).mono ?_); rintro _ _ hgets; obtain ⟨rfl, x1, rfl⟩ := hgets.get; clear hgets))
      | (go_at_call 43; ((with_reducible refine (L1.out _).mono ?_); rintro _ _ hgets; obtain ⟨rfl, _, rfl⟩ := hgets.get; clear hgets))
      | (go_at_call 44; ((with_reducible refine (B1.out _).mono ?_); rintro _ _ hgets; obtain ⟨rfl, _, rfl⟩ := hgets.get; clear hgets))
      | (go_at_call 44; ((with_reducible refine (X1.out _).mono ?_); rintro _ _ hgets; obtain ⟨rfl, _, rfl⟩ := hgets.get; clear hgets))
      | (go_at_call 39; (with_reducible refine (P1.out _).mono ?_); rintro _ _ ⟨s', rfl, hN⟩; obtain ⟨B3, c3, x4, rfl, rfl, hO1⟩ := hN.get; clear hN; have R3 := Lib.hid (hO1.rd (encI_len _)); clear hO1)
      | (go_at_call 33; (with_reducible refine (A1.out _ _ _ ?_).mono ?_); (focus ((repeat (first | (with_reducible exact R3.out) | (with_reducible exact R3) | (with_reducible refine Rd.ext ?_ _) | (with_reducible refine Rd.alloc ?_ _) | (with_reducible refine Rd.drew ?_))); done)); rintro _ _ ⟨rfl, rfl⟩))
    all_goals go_returns
    all_goals refine ⟨?_, by (repeat' (first | (with_reducible exact Below.refl _ _) | (with_reducible refine Below.alloc ?_ ?_ _) | (with_reducible refine below_ext ?_ ?_ _) | (with_reducible refine Below.drew ?_) | (with_reducible refine below_drewN ?_ _) | (with_reducible refine Below.setCell ?_ ?_ _) | go_size | (simp only [go_sem]; omega) | (simp [go_sem]; done) | (simp [go_sem]; omega)))⟩
    all_goals rfl
  case some g =>
    have g0 := Fl.num_bd g
    rw [hf] at X1
    simp only [FromRes] at X1
    replace X1 := Lib.hid X1
    have L3 := fun w' => letters_c g.num (by omega) (by omega) w'
    rw [Fl.num_of, ← from_only hf] at L3
    have W1 := fun w' => weight_c g.num (by omega) (by omega) w'
    have W2 := fun w' => weight_r g.num (by omega) (by omega) w'
    rw [Fl.num_of] at W1 W2
    replace L3 := Lib.hid (show ∀ w', Calls Try.prog 43 #[.int .u8 g.num] w' (Gives w' (.string s)) from fun w' => by have := L3 w'; simpa using this)
    replace W1 := Lib.hid W1
    replace W2 := Lib.hid W2
    generalize g.num = G at X1 L3 W1 W2
    generalize g.weight = H at W1 W2
    clear hf g0
    go_enter Try.func14, Try.ntmps14
    go_wp2_with (first
      | (go_at_call 32; ((with_reducible refine (awake1 _).mono ?_); rintro _ _ hgets; obtain ⟨rfl, x1, rfl⟩ := hgets.get; clear hgets))
      | (go_at_call 43; ((with_reducible refine (L1.out _).mono ?_); rintro _ _ hgets; obtain ⟨rfl, _, rfl⟩ := hgets.get; clear hgets))
      | (go_at_call 43; ((with_reducible refine (L3.out _).mono ?_); rintro _ _ hgets; obtain ⟨rfl, _, rfl⟩ := hgets.get; clear hgets))
      | (go_at_call 44; ((with_reducible refine (B1.out _).mono ?_); rintro _ _ hgets; obtain ⟨rfl, _, rfl⟩ := hgets.get; clear hgets))
      | (go_at_call 44; ((with_reducible refine (X1.out _).mono ?_); rintro _ _ hgets; obtain ⟨rfl, _, rfl⟩ := hgets.get; clear hgets))
      | (go_at_call 41; ((with_reducible refine (W1.out _).mono ?_); rintro _ _ ⟨rfl, rfl⟩))
      | (go_at_call 42; ((with_reducible refine (W2.out _).mono ?_); rintro _ _ hgets; obtain ⟨rfl, _, rfl⟩ := hgets.get; clear hgets))
      | (go_at_call 39; (with_reducible refine (P1.out _).mono ?_); rintro _ _ ⟨s', rfl, hN⟩; obtain ⟨B3, c3, x4, rfl, rfl, hO1⟩ := hN.get; clear hN; have R3 := Lib.hid (hO1.rd (encI_len _)); clear hO1)
      | (go_at_call 33; (with_reducible refine (A1.out _ _ _ ?_).mono ?_); (focus ((repeat (first | (with_reducible exact R3.out) | (with_reducible exact R3) | (with_reducible refine Rd.ext ?_ _) | (with_reducible refine Rd.alloc ?_ _) | (with_reducible refine Rd.drew ?_))); done)); rintro _ _ ⟨rfl, rfl⟩))
    all_goals go_returns
    all_goals refine ⟨?_, by (repeat' (first | (with_reducible exact Below.refl _ _) | (with_reducible refine Below.alloc ?_ ?_ _) | (with_reducible refine below_ext ?_ ?_ _) | (with_reducible refine Below.drew ?_) | (with_reducible refine below_drewN ?_ _) | (with_reducible refine Below.setCell ?_ ?_ _) | go_size | (simp only [go_sem]; omega) | (simp [go_sem]; done) | (simp [go_sem]; omega)))⟩
    all_goals rfl
set_option maxRecDepth 100000 in
theorem RendSays_lifted (os : Os) (started : os.Started) (H : Type) (enc : TypeId × Value → H) :
    ReturnsInHanded {} Try.checked os 14 .any (Rows.rendSaysSpec.pre6 enc Try.prog Try.f14 Rows.rendSaysRow.domain false) (Rows.rendSaysSpec.post enc Try.prog Try.f14 false true false false) := by
  refine returnsInHanded_of_change_sized (C := Try.checked) own started (by kernel_rfl) Try.func14
    (ChangeSpec.witness6 (enc := enc) (C := Try.checked) false ⟨#[], #[.int .u8 0, .string ByteArray.empty], []⟩ 8 (by kernel_rfl) (by kernel_rfl) (by kernel_rfl) (by kernel_rfl)) ?_
  intro W base args ds gs before hval0 hW hcnd hsz0 _
  have hval : ∀ (j : Nat) t v, Try.f14.params[j]? = some t → args[j]? = some v → Value.okWide Try.prog W .any base t v := hval0
  have hsz : (DataW.weightsEach Try.prog (Try.f14.params.toList ++ Rows.rendSaysSpec.plain.varTypes Try.prog) (ds ++ gs)).all (· ≤ reachBytes) = true := hsz0
  have hW' := hW
  obtain ⟨p, q, hA0, hV, rfl, hfz, hnd⟩ := hW
  have hA : DataW.TrodAll enc Try.prog W 0 (fun _ => true) true Try.f14.params.toList args.toList ds p := hA0
  rw [Try.params14] at hA hval hsz
  obtain ⟨v0, vs0, d0, ds0, p0, q0, hargs, rfl, rfl, h0, r0⟩ := trodAll_cons hA
  obtain ⟨v1, vs1, d1, ds1, p1, q1, rfl, rfl, rfl, h1, r1⟩ := trodAll_cons r0
  obtain ⟨rfl, rfl, rfl⟩ := trodAll_nil r1
  obtain rfl : args = #[v0, v1] := by cases args; simp_all
  obtain ⟨rfl, rfl⟩ := trodVars_none hV
  clear hA0 hval0 hsz0
  obtain ⟨a0, rfl, -, -, w0⟩ := open_int Try.underlying22 (hval 0 22 v0 rfl rfl) h0
  obtain ⟨a1, rfl, rfl, -, w1⟩ := Go.ChangeMaps.open_string Try.underlying9 (hval 1 9 v1 rfl rfl) h1
  refine (RendSays_walk W a0 w0 a1 w1).mono fun e W' ⟨he, hb⟩ => ⟨_, he, ?_⟩
  exact law_post laidOut rfl (by kernel_rfl) (by kernel_rfl) Try.underlying4 hW' rfl hb

theorem RendSays_holds : Rows.RendSaysSaid :=
  OpenClaim.holds_of_wide 14 Try.f14 rfl rfl rfl rfl rfl rfl rfl ⟨rfl, rfl, rfl, rfl, rfl⟩ rfl rfl rfl rfl rfl (by kernel_rfl) Try.func14 (by kernel_rfl)
    (of_decide_eq_true (by kernel_rfl)) (by unfold Func.isWrapper; first | (rw [if_pos (by decide +kernel)]; kernel_rfl) | (rw [if_neg (by decide +kernel)]; exact ⟨rfl, rfl⟩))
    (fun os started H enc _ => RendSays_lifted os started H enc)
#print axioms RendSays_holds

end Go.Proofs.Ytmpbgjnkkapijaa
