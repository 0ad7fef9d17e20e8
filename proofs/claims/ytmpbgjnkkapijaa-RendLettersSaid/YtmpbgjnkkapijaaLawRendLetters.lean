/- RendLetters returns true for every input: a rendition has its letters, and each text of letters is at most one rendition. No condition. -/
import Derived.Test.YtmpbgjnkkapijaaAwake1
namespace Go.Proofs.Ytmpbgjnkkapijaa
open Go.ChangeShapes Go.WideShapes Go.ChangeAt Go.RowKit
set_option linter.unusedVariables false
set_option linter.unusedSimpArgs false

set_option maxRecDepth 100000 in
set_option maxHeartbeats 4000000 in
theorem RendLetters_walk (w : World) (r : Int) (wr : (Lit.int .u8 r).wf = true) (s : ByteArray) (ws : s.size ≤ maxLen) :
    Calls Try.prog 13 #[.int .u8 r, .string s] w (Gives w (.bool true)) := by
  obtain ⟨r0, r1⟩ := bounds_u8 wr
  simp only [maxLen] at ws
  clear wr
  have L1 := Lib.hid (fun w' => letters_c r r0 r1 w')
  have L2 := Lib.hid (fun w' => letters_r r r0 r1 w')
  have o := fun w' => of_r r r0 r1 w'
  have b1 := fun w' => froms_c ⟨(lettersTo (Fl.of r) 5).toArray⟩ (by have := lettersTo_len (Fl.of r) 5; simp [ByteArray.size]; omega) w'
  rw [show fromF 0 Fl.no ({ data := (lettersTo (Fl.of r) 5).toArray } : ByteArray).data.toList = some (Fl.of r) from from_letters _] at b1
  simp only [FromRes] at b1
  generalize Fl.of r = f at o L1 L2 b1
  have ss : (lettersTo f 5 == lettersTo f 5) = true := by simp
  generalize lettersTo f 5 = l at L1 L2 b1 ss
  obtain ⟨fb, fu, fk, fr, fh⟩ := f
  have O := Lib.hid o
  have B1 := Lib.hid b1
  clear o b1
  have Q := Lib.hid (fun w' => rend_r ⟨fb, fu, fk, fr, fh⟩ w')
  generalize (Fl.mk fb fu fk fr fh).num = M at B1 Q
  have X1 := fun w' => froms_c s ws w'
  have X2 := fun w' => froms_r s w'
  cases hf : fromF 0 Fl.no s.data.toList
  case none =>
    rw [hf] at X1 X2
    simp only [FromRes, FromRef] at X1 X2
    replace X1 := Lib.hid X1
    replace X2 := Lib.hid X2
    clear hf
    go_enter Try.func13, Try.ntmps13
    go_wp2_with (first
      | (go_at_call 32; ((with_reducible refine (awake1 _).mono ?_); rintro _ _ hgets; obtain ⟨rfl, x1, rfl⟩ := hgets.get; clear hgets))
      | (go_at_call 43; ((with_reducible refine (L1.out _).mono ?_); rintro _ _ hgets; obtain ⟨rfl, _, rfl⟩ := hgets.get; clear hgets))
      | (go_at_call 45; ((with_reducible refine (L2.out _).mono ?_); rintro _ _ hgets; obtain ⟨rfl, _, rfl⟩ := hgets.get; clear hgets))
      | (go_at_call 44; ((with_reducible refine (B1.out _).mono ?_); rintro _ _ hgets; obtain ⟨rfl, _, rfl⟩ := hgets.get; clear hgets))
      | (go_at_call 44; ((with_reducible refine (X1.out _).mono ?_); rintro _ _ hgets; obtain ⟨rfl, _, rfl⟩ := hgets.get; clear hgets))
      | (go_at_call 46; ((with_reducible refine (X2.out _).mono ?_); rintro _ _ hgets; obtain ⟨rfl, _, rfl⟩ := hgets.get; clear hgets))
      | (go_at_call 38; ((with_reducible refine (O.out _).mono ?_); rintro _ _ hgets; obtain ⟨rfl, _, rfl⟩ := hgets.get; clear hgets))
      | (go_at_call 37; ((with_reducible refine (Q.out _).mono ?_); rintro _ _ hgets; obtain ⟨rfl, _, rfl⟩ := hgets.get; clear hgets)))
    all_goals go_returns
    all_goals refine ⟨?_, by (repeat' (first | (with_reducible exact Below.refl _ _) | (with_reducible refine Below.alloc ?_ ?_ _) | (with_reducible refine below_ext ?_ ?_ _) | (with_reducible refine Below.drew ?_) | (with_reducible refine below_drewN ?_ _) | (with_reducible refine Below.setCell ?_ ?_ _) | go_size | (simp only [go_sem]; omega) | (simp [go_sem]; done) | (simp [go_sem]; omega)))⟩
    all_goals rfl
  case some g =>
    rw [hf] at X1 X2
    simp only [FromRes, FromRef] at X1 X2
    generalize g.num = G at X1 X2
    replace X1 := Lib.hid X1
    replace X2 := Lib.hid X2
    clear hf
    go_enter Try.func13, Try.ntmps13
    go_wp2_with (first
      | (go_at_call 32; ((with_reducible refine (awake1 _).mono ?_); rintro _ _ hgets; obtain ⟨rfl, x1, rfl⟩ := hgets.get; clear hgets))
      | (go_at_call 43; ((with_reducible refine (L1.out _).mono ?_); rintro _ _ hgets; obtain ⟨rfl, _, rfl⟩ := hgets.get; clear hgets))
      | (go_at_call 45; ((with_reducible refine (L2.out _).mono ?_); rintro _ _ hgets; obtain ⟨rfl, _, rfl⟩ := hgets.get; clear hgets))
      | (go_at_call 44; ((with_reducible refine (B1.out _).mono ?_); rintro _ _ hgets; obtain ⟨rfl, _, rfl⟩ := hgets.get; clear hgets))
      | (go_at_call 44; ((with_reducible refine (X1.out _).mono ?_); rintro _ _ hgets; obtain ⟨rfl, _, rfl⟩ := hgets.get; clear hgets))
      | (go_at_call 46; ((with_reducible refine (X2.out _).mono ?_); rintro _ _ hgets; obtain ⟨rfl, _, rfl⟩ := hgets.get; clear hgets))
      | (go_at_call 38; ((with_reducible refine (O.out _).mono ?_); rintro _ _ hgets; obtain ⟨rfl, _, rfl⟩ := hgets.get; clear hgets))
      | (go_at_call 37; ((with_reducible refine (Q.out _).mono ?_); rintro _ _ hgets; obtain ⟨rfl, _, rfl⟩ := hgets.get; clear hgets)))
    all_goals go_returns
    all_goals refine ⟨?_, by (repeat' (first | (with_reducible exact Below.refl _ _) | (with_reducible refine Below.alloc ?_ ?_ _) | (with_reducible refine below_ext ?_ ?_ _) | (with_reducible refine Below.drew ?_) | (with_reducible refine below_drewN ?_ _) | (with_reducible refine Below.setCell ?_ ?_ _) | go_size | (simp only [go_sem]; omega) | (simp [go_sem]; done) | (simp [go_sem]; omega)))⟩
    all_goals rfl
set_option maxRecDepth 100000 in
theorem RendLetters_lifted (os : Os) (started : os.Started) (H : Type) (enc : TypeId × Value → H) :
    ReturnsInHanded {} Try.checked os 13 .any (Rows.rendLettersSpec.pre6 enc Try.prog Try.f13 Rows.rendLettersRow.domain false) (Rows.rendLettersSpec.post enc Try.prog Try.f13 false true false false) := by
  refine returnsInHanded_of_change_sized (C := Try.checked) own started (by kernel_rfl) Try.func13
    (ChangeSpec.witness6 (enc := enc) (C := Try.checked) false ⟨#[], #[.int .u8 0, .string ByteArray.empty], []⟩ 8 (by kernel_rfl) (by kernel_rfl) (by kernel_rfl) (by kernel_rfl)) ?_
  intro W base args ds gs before hval0 hW hcnd hsz0 _
  have hval : ∀ (j : Nat) t v, Try.f13.params[j]? = some t → args[j]? = some v → Value.okWide Try.prog W .any base t v := hval0
  have hsz : (DataW.weightsEach Try.prog (Try.f13.params.toList ++ Rows.rendLettersSpec.plain.varTypes Try.prog) (ds ++ gs)).all (· ≤ reachBytes) = true := hsz0
  have hW' := hW
  obtain ⟨p, q, hA0, hV, rfl, hfz, hnd⟩ := hW
  have hA : DataW.TrodAll enc Try.prog W 0 (fun _ => true) true Try.f13.params.toList args.toList ds p := hA0
  rw [Try.params13] at hA hval hsz
  obtain ⟨v0, vs0, d0, ds0, p0, q0, hargs, rfl, rfl, h0, r0⟩ := trodAll_cons hA
  obtain ⟨v1, vs1, d1, ds1, p1, q1, rfl, rfl, rfl, h1, r1⟩ := trodAll_cons r0
  obtain ⟨rfl, rfl, rfl⟩ := trodAll_nil r1
  obtain rfl : args = #[v0, v1] := by cases args; simp_all
  obtain ⟨rfl, rfl⟩ := trodVars_none hV
  clear hA0 hval0 hsz0
  obtain ⟨a0, rfl, -, -, w0⟩ := open_int Try.underlying22 (hval 0 22 v0 rfl rfl) h0
  obtain ⟨a1, rfl, rfl, -, w1⟩ := Go.ChangeMaps.open_string Try.underlying9 (hval 1 9 v1 rfl rfl) h1
  refine (RendLetters_walk W a0 w0 a1 w1).mono fun e W' ⟨he, hb⟩ => ⟨_, he, ?_⟩
  exact law_post laidOut rfl (by kernel_rfl) (by kernel_rfl) Try.underlying4 hW' rfl hb

theorem RendLetters_holds : Rows.RendLettersSaid :=
  OpenClaim.holds_of_wide 13 Try.f13 rfl rfl rfl rfl rfl rfl rfl ⟨rfl, rfl, rfl, rfl, rfl⟩ rfl rfl rfl rfl rfl (by kernel_rfl) Try.func13 (by kernel_rfl)
    (of_decide_eq_true (by kernel_rfl)) (by unfold Func.isWrapper; first | (rw [if_pos (by decide +kernel)]; kernel_rfl) | (rw [if_neg (by decide +kernel)]; exact ⟨rfl, rfl⟩))
    (fun os started H enc _ => RendLetters_lifted os started H enc)
#print axioms RendLetters_holds

end Go.Proofs.Ytmpbgjnkkapijaa
