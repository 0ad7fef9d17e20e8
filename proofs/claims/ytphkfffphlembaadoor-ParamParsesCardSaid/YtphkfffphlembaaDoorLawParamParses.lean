/- ParamParses: texts of numbers are read as the document says, never beyond what may be. Every text. -/
import Derived.Test.YtphkfffphlembaaDoorAwake4
import Derived.Test.YtphkfffphlembaaDoorFrameCard
import Derived.Deep.DeepCutAuto
namespace Go.Proofs.YtphkfffphlembaaDoor
open Go.ChangeShapes Go.WideShapes Go.ChangeAt Go.RowKit
set_option linter.unusedVariables false
set_option linter.unusedSimpArgs false

set_option maxRecDepth 100000 in
set_option maxHeartbeats 4000000 in
theorem ParamParses_walk (W : World) (ht : Tab W) (s : ByteArray) (ws : s.size ≤ maxLen) :
    Calls Tryd.prog 3 #[.string s] W (Gives W (.bool true)) := by
  have AW := Lib.hid (awake_4 W ht)
  simp only [maxLen] at ws
  clear ht
  go_enter Tryd.func3, Tryd.ntmps3
  go_upto_if 13 with (go_at_call 10; ((with_reducible refine (AW.out).mono ?_); rintro _ _ hgets; obtain ⟨rfl, x1, rfl⟩ := hgets.get; clear hgets))
  go_cut [0] (fun sv wx => ∃ (t : ByteArray) (x : More), sv = .string t ∧ t.size ≤ 2000 ∧ wx = ext W x)
  case first =>
    by_cases h : 2000 < s.size
    · go_wp2
      go_meet
      exact ⟨_, _, rfl, by rw [ByteArray.size_extract]; omega, rfl⟩
    · go_wp2
      go_meet
      exact ⟨_, _, rfl, by omega, rfl⟩
  obtain ⟨t, x, rfl, hts, rfl⟩ := hcut
  have PA := Lib.hid (fun w' => parse_c t (by omega) w')
  have PR := Lib.hid (fun w' => parse_r t (by omega) w')
  have hok := parseV_ok (bytesOf t)
  have hl := hok.1
  have HB := Lib.hid hok.2
  clear hok
  generalize parseV (bytesOf t) = xs at PA PR hl HB
  generalize parseE (bytesOf t) = er at PA PR
  have SI : Hid (∀ (w' : World) (A B : Option Addr) (c d : Nat), Ints w' A xs → Ints w' B xs → Calls Tryd.prog 13 #[.slice A xs.length c, .slice B xs.length d] w' (Gives w' (.bool true))) := Lib.hid (fun w' A B c d h1 h2 => by
    have := same_ints A B c d xs xs w' h1 h2 (by omega) (by omega)
    simpa using this)
  go_wp2_with (first
    | (go_at_call 11; (with_reducible refine (PA.out _).mono ?_); (rintro _ _ ⟨A1, x2, rfl, rfl, hC⟩); replace hC := Lib.hid hC)
    | (go_at_call 12; (with_reducible refine (PR.out _).mono ?_); (rintro _ _ ⟨A2, c2, x3, rfl, rfl, hD⟩); replace hD := Lib.hid hD)
    | (go_at_call 13; ((with_reducible refine (SI.out _ _ _ _ _ (hC.out.rd.ext _) (hD.out.rd (encI_len _))).mono ?_); rintro _ _ hgets; obtain ⟨rfl, x4, rfl⟩ := hgets.get; clear hgets)))
  have hR := Lib.hid ((hC.out.rd.ext x3).ext x4)
  go_loopw [37] (fun i wr => ∃ (k : Nat), k ≤ xs.length ∧ i = .int .i64 k ∧ Hid (Below W.heap.size W wr) ∧ Hid (Ints wr A1 xs)) (fun i _ => xs.length - (intOf i).toNat)
  case atStart => exact ⟨0, by omega, rfl, Lib.hid (by (repeat' (first | (with_reducible exact Below.refl _ _) | (with_reducible refine Below.alloc ?_ ?_ _) | (with_reducible refine below_ext ?_ ?_ _) | (with_reducible refine Below.drew ?_) | (with_reducible refine below_drewN ?_ _) | (with_reducible refine Below.setCell ?_ ?_ _) | go_size | (simp only [go_sem]; omega) | (simp [go_sem]; done) | (simp [go_sem]; omega)))), hR⟩
  case round =>
    obtain ⟨k, hk, rfl, hB, hI⟩ := hrel
    by_cases hlt : k < xs.length
    · obtain ⟨b, o, rfl, hb, hc⟩ := hI.out.cell hlt
      obtain ⟨h0, h1⟩ := HB.out xs[k] (List.getElem_mem hlt)
      generalize xs[k] = v at hc h0 h1
      go_wp2
      go_roundw
      case rel => exact ⟨k + 1, by omega, by go_num, hB, hI⟩
      case measure => simp [intOf]; omega
    · obtain rfl : k = xs.length := by omega
      go_wp2
      go_returns
      exact ⟨ret_of (by have : (xs.length : Int) ≤ 30 := by omega
                        simp [this]), hB.out⟩
theorem ParamParses_laid (os : Os) : laidMet Tryd.prog Rows.paramParsesRow.laid ((laidWorld os).forCall (fun _ _ => 0) ⟨#[], #[.string ByteArray.empty], []⟩).memory :=
  laidMet_of_run' 8 (by kernel_rfl) (by kernel_rfl)
set_option maxRecDepth 100000 in
theorem ParamParses_lifted (os : Os) (started : os.Started) (H : Type) (enc : TypeId × Value → H) (F : Stop.Interp) :
    ReturnsInHanded {} Tryd.checked os 3 .any ((OpenSpec.ofChange Rows.paramParsesSpec).preRow enc Tryd.prog Tryd.f3 Rows.paramParsesRow.domain false Rows.paramParsesRow.laid) (((OpenSpec.ofChange Rows.paramParsesSpec).at F).post enc Tryd.prog Tryd.f3 false true false false) := by
  obtain ⟨places, hx⟩ : ∃ places, DataW.whole enc Tryd.prog ((laidWorld os).forCall (fun _ _ => 0) ⟨#[], #[.string ByteArray.empty], []⟩).memory Tryd.f3.params.toList Rows.paramParsesSpec.vars false #[.string ByteArray.empty].toList 8 = some ([.lit (.string [])], [], places) := ⟨[], by kernel_rfl⟩
  refine returnsInHanded_of_row (C := Tryd.checked) (s := OpenSpec.ofChange Rows.paramParsesSpec) own started (by kernel_rfl) Tryd.func3
    (witness_row_at (enc := enc) (C := Tryd.checked) false (laidWorld os) #[.string ByteArray.empty] rfl (by kernel_rfl) (by kernel_rfl) (by kernel_rfl)
      (OpenSpec.preRow_of_cond 8 hx (by kernel_rfl) (fun k hk => by cases hk) (by kernel_rfl) (ParamParses_laid os))) ?_
  intro W base args ds gs before hval0 hW _ _ hsz0 hL _ _
  have hval : ∀ (j : Nat) t v, Tryd.f3.params[j]? = some t → args[j]? = some v → Value.okWide Tryd.prog W .any base t v := hval0
  have hsz : (DataW.weightsEach Tryd.prog (Tryd.f3.params.toList ++ Rows.paramParsesSpec.plain.varTypes Tryd.prog) (ds ++ gs)).all (· ≤ reachBytes) = true := hsz0
  have hW' := hW
  obtain ⟨p, q, hA0, hV, rfl, hfz, hnd⟩ := hW
  have hA : DataW.TrodAll enc Tryd.prog W 0 (fun _ => true) true Tryd.f3.params.toList args.toList ds p := hA0
  rw [Tryd.params3] at hA hval hsz
  obtain ⟨v0, vs0, d0, ds0, p0, q0, hargs, rfl, rfl, h0, r0⟩ := trodAll_cons hA
  obtain ⟨rfl, rfl, rfl⟩ := trodAll_nil r0
  obtain rfl : args = #[v0] := by cases args; simp_all
  obtain ⟨rfl, rfl⟩ := trodVars_none hV
  have htab := laid_table hL
  clear hA0 hval0 hsz0
  obtain ⟨a0, rfl, rfl, -, w0⟩ := Go.ChangeMaps.open_string Tryd.underlying9 (hval 0 9 v0 rfl rfl) h0
  refine (ParamParses_walk W htab a0 w0).mono fun e W' ⟨he, hb⟩ => ⟨_, he, ?_⟩
  exact law_post laidOut rfl (by kernel_rfl) (by kernel_rfl) Tryd.underlying4 hW' rfl hb


theorem ParamParses_said : Rows.ParamParsesSaid :=
  OpenClaim.holds_of_cond 3 Tryd.f3 rfl rfl rfl rfl rfl rfl rfl ⟨rfl, rfl, rfl, rfl, rfl⟩ rfl rfl rfl rfl rfl (by kernel_rfl) Tryd.func3 (by kernel_rfl)
    (of_decide_eq_true (by kernel_rfl)) (by unfold Func.isWrapper; first | (rw [if_pos (by decide +kernel)]; kernel_rfl) | (rw [if_neg (by decide +kernel)]; exact ⟨rfl, rfl⟩))
    (fun os started H enc _ F => by rw [OpenClaim.pre_eq_preRow]; exact ParamParses_lifted os started H enc F)
theorem ParamParses_plain (f : FuncId) (fn : Func) (hf : Tryd.pinned.checked.prog.funcNamed "phosphor/phosphorlaw04.ParamParses" = some f) (hfn : Tryd.pinned.checked.prog.funcs[f]? = some fn) :
    false = Tryd.pinned.checked.prog.looks [] ∧ ∀ (j : Nat) t, fn.params[j]? = some t → Tryd.pinned.checked.prog.wantsStandIn t = false := by
  obtain rfl : f = 3 := Option.some.inj ((show Tryd.prog.funcNamed "phosphor/phosphorlaw04.ParamParses" = some 3 by kernel_rfl).symm.trans hf) |>.symm
  obtain rfl : fn = Tryd.f3 := (Option.some.inj (Tryd.func3.symm.trans hfn)).symm
  refine ⟨by kernel_rfl, fun j t ht => ?_⟩
  have hall : ∀ x ∈ Tryd.f3.params.toList, Tryd.prog.wantsStandIn x = false := by
    rw [Tryd.params3]
    simp only [List.mem_cons, List.not_mem_nil, or_false, forall_eq_or_imp, forall_eq]
    exact (by kernel_rfl)
  exact hall t (by simpa using Array.mem_of_getElem? ht)
theorem ParamParses_card : Rows.ParamParsesCardSaid :=
  Claim7.holds_tied_plain_at .later [] _ _ _ _ ParamParses_said (fun _ h => by cases h) (by kernel_rfl) (fun _ h => by cases h) paramParses_row_tie rfl ⟨rfl, rfl⟩ (by kernel_rfl) rfl ParamParses_plain (by kernel_rfl)
#print axioms ParamParses_card

end Go.Proofs.YtphkfffphlembaaDoor
