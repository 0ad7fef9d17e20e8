/- RendParams returns true for every input: the numbers of a rendition make it from any other one. No condition. -/
import Derived.Test.YtmpbgjnkkapijaaAwake1
namespace Go.Proofs.Ytmpbgjnkkapijaa
open Go.ChangeShapes Go.WideShapes Go.ChangeAt Go.RowKit
set_option linter.unusedVariables false
set_option linter.unusedSimpArgs false

set_option maxRecDepth 100000 in
set_option maxHeartbeats 4000000 in
theorem RendParams_walk (w : World) (r : Int) (wr : (Lit.int .u8 r).wf = true) (q : Int) (wq : (Lit.int .u8 q).wf = true) :
    Calls Try.prog 10 #[.int .u8 r, .int .u8 q] w (Gives w (.bool true)) := by
  obtain ⟨r0, r1⟩ := bounds_u8 wr
  obtain ⟨q0, q1⟩ := bounds_u8 wq
  clear wr wq
  have P1 := Lib.hid (fun w' => params_c r r0 r1 w')
  have P2 := Lib.hid (fun w' => params_r r r0 r1 w')
  have o := fun w' => of_r r r0 r1 w'
  have hl := numsTo_len (Fl.of r) 5
  have hm := nums_make (Fl.of r) (Fl.of q)
  generalize Fl.of r = f at o P1 P2 hl hm
  have A1 := fun w' A C (h : Ints w' A (numsTo f 5)) => apply_c q q0 q1 A C (numsTo f 5) w' h (by omega)
  rw [hm] at A1
  replace A1 := Lib.hid A1
  clear hm
  generalize numsTo f 5 = L at P1 P2 A1 hl
  obtain ⟨fb, fu, fk, fr, fh⟩ := f
  have O := Lib.hid o
  clear o
  have Q := Lib.hid (fun w' => rend_r ⟨fb, fu, fk, fr, fh⟩ w')
  generalize (Fl.mk fb fu fk fr fh).num = M at A1 Q
  have S := Lib.hid (show ∀ w' A C B D, Ints w' A L → Ints w' B L → Calls Try.prog 35 #[.slice A L.length C, .slice B L.length D] w' (Gives w' (.bool true)) from
    fun w' A C B D h1 h2 => by have := same_ints A B C D L L w' h1 h2 (by omega) (by omega); simpa using this)
  go_enter Try.func10, Try.ntmps10
  go_wp2_with (first
    | (go_at_call 32; ((with_reducible refine (awake1 _).mono ?_); rintro _ _ hgets; obtain ⟨rfl, x1, rfl⟩ := hgets.get; clear hgets))
    | (go_at_call 39; (with_reducible refine (P1.out _).mono ?_); rintro _ _ ⟨s, rfl, hN⟩; obtain ⟨B1, c1, x2, rfl, rfl, hO1⟩ := hN.get; clear hN; have R1 := Lib.hid (hO1.rd (encI_len _)); replace hO1 := Lib.hid hO1)
    | (go_at_call 40; (with_reducible refine (P2.out _).mono ?_); rintro _ _ ⟨s, rfl, hN⟩; obtain ⟨B2, c2, x3, rfl, rfl, hO2⟩ := hN.get; clear hN; have R2 := Lib.hid (hO2.rd (encI_len _)); clear hO2)
    | (go_at_call 33; (with_reducible refine (A1.out _ _ _ ?_).mono ?_); (focus ((repeat (first | (with_reducible exact R1.out) | (with_reducible exact R1) | (with_reducible refine Rd.ext ?_ _) | (with_reducible refine Rd.alloc ?_ _) | (with_reducible refine Rd.drew ?_))); done)); rintro _ _ ⟨rfl, rfl⟩)
    | (go_at_call 38; ((with_reducible refine (O.out _).mono ?_); rintro _ _ hgets; obtain ⟨rfl, _, rfl⟩ := hgets.get; clear hgets))
    | (go_at_call 37; ((with_reducible refine (Q.out _).mono ?_); rintro _ _ hgets; obtain ⟨rfl, _, rfl⟩ := hgets.get; clear hgets))
    | (go_at_call 35; (with_reducible refine (S.out _ _ _ _ _ ?_ ?_).mono ?_); (focus ((repeat (first | (with_reducible exact R1.out) | (with_reducible exact R1) | (with_reducible refine Rd.ext ?_ _) | (with_reducible refine Rd.alloc ?_ _) | (with_reducible refine Rd.drew ?_))); done)); (focus ((repeat (first | (with_reducible exact R2.out) | (with_reducible exact R2) | (with_reducible refine Rd.ext ?_ _) | (with_reducible refine Rd.alloc ?_ _) | (with_reducible refine Rd.drew ?_))); done)); rintro _ _ hgets; obtain ⟨rfl, _, rfl⟩ := hgets.get; clear hgets))
  go_loopw [27] (fun i wr => ∃ (j : Nat) (zs : List Int), j ≤ L.length ∧ i = .int .i64 j ∧ Below w.heap.size w wr ∧ zs.length = L.length ∧ Own (encI .i64) 1 3 w.heap.size wr (.slice B1 L.length c1) zs) (fun i _ => L.length - (intOf i).toNat)
  case atStart => exact ⟨0, L, by omega, rfl, by (repeat' (first | (with_reducible exact Below.refl _ _) | (with_reducible refine Below.alloc ?_ ?_ _) | (with_reducible refine below_ext ?_ ?_ _) | (with_reducible refine Below.drew ?_) | (with_reducible refine below_drewN ?_ _) | (with_reducible refine Below.setCell ?_ ?_ _) | go_size | (simp only [go_sem]; omega) | (simp [go_sem]; done) | (simp [go_sem]; omega))), rfl, by repeat (first | exact hO1.out.mono (by simp [go_sem]) | refine Own.ext ?_ _)⟩
  case round =>
    obtain ⟨j, zs, hj, rfl, hB, hz, hW⟩ := hrel
    obtain ⟨x', rfl⟩ := ext_of hB
    clear hB
    by_cases hlt : j < L.length
    · obtain ⟨g, rfl, hg1, hg2, d0, hfz⟩ := own_at1 hW j (by omega)
      have f0 := hfz j
      have hz := Lib.hid hz
      have HW := Lib.hid hW
      clear hW hfz
      rw [size_ext] at hg2
      go_wp2
      go_roundw
      case rel =>
        refine ⟨j + 1, zs.set j 99, by omega, by go_num, ?_, by rw [List.length_set]; exact hz.out, ?_⟩
        · (repeat' (first | (with_reducible exact Below.refl _ _) | (with_reducible refine Below.alloc ?_ ?_ _) | (with_reducible refine below_ext ?_ ?_ _) | (with_reducible refine Below.drew ?_) | (with_reducible refine below_drewN ?_ _) | (with_reducible refine Below.setCell ?_ ?_ _) | go_size | (simp only [go_sem]; omega) | (simp [go_sem]; done) | (simp [go_sem]; omega)))
        · exact own_set1 HW.out j (by rw [hz.out]; exact hlt) 99
      case measure => simp [intOf]; omega
    · clear hz hW
      go_wp2_with (first
        | (go_at_call 39; (with_reducible refine (P1.out _).mono ?_); rintro _ _ ⟨s, rfl, hN⟩; obtain ⟨B3, c3, x4, rfl, rfl, hO1⟩ := hN.get; clear hN; have R3 := Lib.hid (hO1.rd (encI_len _)); clear hO1)
        | (go_at_call 40; (with_reducible refine (P2.out _).mono ?_); rintro _ _ ⟨s, rfl, hN⟩; obtain ⟨B4, c4, x5, rfl, rfl, hO2⟩ := hN.get; clear hN; have R4 := Lib.hid (hO2.rd (encI_len _)); clear hO2)
        | (go_at_call 35; (with_reducible refine (S.out _ _ _ _ _ ?_ ?_).mono ?_); (focus ((repeat (first | (with_reducible exact R3.out) | (with_reducible exact R3) | (with_reducible refine Rd.ext ?_ _) | (with_reducible refine Rd.alloc ?_ _) | (with_reducible refine Rd.drew ?_))); done)); (focus ((repeat (first | (with_reducible exact R4.out) | (with_reducible exact R4) | (with_reducible refine Rd.ext ?_ _) | (with_reducible refine Rd.alloc ?_ _) | (with_reducible refine Rd.drew ?_))); done)); rintro _ _ hgets; obtain ⟨rfl, _, rfl⟩ := hgets.get; clear hgets))
      all_goals go_returns
      exact ⟨rfl, by (repeat' (first | (with_reducible exact Below.refl _ _) | (with_reducible refine Below.alloc ?_ ?_ _) | (with_reducible refine below_ext ?_ ?_ _) | (with_reducible refine Below.drew ?_) | (with_reducible refine below_drewN ?_ _) | (with_reducible refine Below.setCell ?_ ?_ _) | go_size | (simp only [go_sem]; omega) | (simp [go_sem]; done) | (simp [go_sem]; omega)))⟩
set_option maxRecDepth 100000 in
theorem RendParams_lifted (os : Os) (started : os.Started) (H : Type) (enc : TypeId × Value → H) :
    ReturnsInHanded {} Try.checked os 10 .any (Rows.rendParamsSpec.pre6 enc Try.prog Try.f10 Rows.rendParamsRow.domain false) (Rows.rendParamsSpec.post enc Try.prog Try.f10 false true false false) := by
  refine returnsInHanded_of_change_sized (C := Try.checked) own started (by kernel_rfl) Try.func10
    (ChangeSpec.witness6 (enc := enc) (C := Try.checked) false ⟨#[], #[.int .u8 0, .int .u8 0], []⟩ 8 (by kernel_rfl) (by kernel_rfl) (by kernel_rfl) (by kernel_rfl)) ?_
  intro W base args ds gs before hval0 hW hcnd hsz0 _
  have hval : ∀ (j : Nat) t v, Try.f10.params[j]? = some t → args[j]? = some v → Value.okWide Try.prog W .any base t v := hval0
  have hsz : (DataW.weightsEach Try.prog (Try.f10.params.toList ++ Rows.rendParamsSpec.plain.varTypes Try.prog) (ds ++ gs)).all (· ≤ reachBytes) = true := hsz0
  have hW' := hW
  obtain ⟨p, q, hA0, hV, rfl, hfz, hnd⟩ := hW
  have hA : DataW.TrodAll enc Try.prog W 0 (fun _ => true) true Try.f10.params.toList args.toList ds p := hA0
  rw [Try.params10] at hA hval hsz
  obtain ⟨v0, vs0, d0, ds0, p0, q0, hargs, rfl, rfl, h0, r0⟩ := trodAll_cons hA
  obtain ⟨v1, vs1, d1, ds1, p1, q1, rfl, rfl, rfl, h1, r1⟩ := trodAll_cons r0
  obtain ⟨rfl, rfl, rfl⟩ := trodAll_nil r1
  obtain rfl : args = #[v0, v1] := by cases args; simp_all
  obtain ⟨rfl, rfl⟩ := trodVars_none hV
  clear hA0 hval0 hsz0
  obtain ⟨a0, rfl, -, -, w0⟩ := open_int Try.underlying22 (hval 0 22 v0 rfl rfl) h0
  obtain ⟨a1, rfl, -, -, w1⟩ := open_int Try.underlying22 (hval 1 22 v1 rfl rfl) h1
  refine (RendParams_walk W a0 w0 a1 w1).mono fun e W' ⟨he, hb⟩ => ⟨_, he, ?_⟩
  exact law_post laidOut rfl (by kernel_rfl) (by kernel_rfl) Try.underlying4 hW' rfl hb

theorem RendParams_holds : Rows.RendParamsSaid :=
  OpenClaim.holds_of_wide 10 Try.f10 rfl rfl rfl rfl rfl rfl rfl ⟨rfl, rfl, rfl, rfl, rfl⟩ rfl rfl rfl rfl rfl (by kernel_rfl) Try.func10 (by kernel_rfl)
    (of_decide_eq_true (by kernel_rfl)) (by unfold Func.isWrapper; first | (rw [if_pos (by decide +kernel)]; kernel_rfl) | (rw [if_neg (by decide +kernel)]; exact ⟨rfl, rfl⟩))
    (fun os started H enc _ => RendParams_lifted os started H enc)
#print axioms RendParams_holds

end Go.Proofs.Ytmpbgjnkkapijaa
