/- ParamGets: numbers that are wanting, or nought, have what stands for them. Every list, every two numbers. -/
import Derived.Test.YtphkfffphlembaaDoorAwake4
import Derived.Test.YtphkfffphlembaaDoorFrameCard
namespace Go.Proofs.YtphkfffphlembaaDoor
open Go.ChangeShapes Go.WideShapes Go.ChangeAt Go.RowKit
set_option linter.unusedVariables false
set_option linter.unusedSimpArgs false

theorem getI_zero (xs : List Int) (i : Int) : getI xs i 0 = rawI xs i := by
  unfold getI
  split
  · rename_i h; exact h.symm
  · rfl
set_option maxRecDepth 100000 in
theorem ParamGets_walk (W : World) (ht : Tab W) (a : Option Addr) (c : Nat) (xs : List Int) (rd : Ints W a xs) (hc : xs.length ≤ c) (hm : c ≤ maxLen) (wf : ∀ z ∈ xs, (Lit.int .i64 z).wf = true) (re : c * 8 ≤ 140737488351232) (i : Int) (wi : (Lit.int .i64 i).wf = true) (d : Int) (wd : (Lit.int .i64 d).wf = true) :
    Calls Tryd.prog 7 #[.slice a xs.length c, .int .i64 i, .int .i64 d] W (Gives W (.bool true)) := by
  have hm2 : xs.length ≤ 9223372036854775807 := by omega
  have AW := Lib.hid (awake_4 W ht)
  have G1 := Lib.hid (fun x => get_c (c := c) i d (ext W x) (rd.ext x) hm2)
  have G2 := Lib.hid (fun x => get_r (c := c) i d (ext W x) (rd.ext x) hm2)
  have G3 := Lib.hid (fun x => raw_c (c := c) i (ext W x) (rd.ext x) hm2)
  have G4 := Lib.hid (fun x => get_r (c := c) i 0 (ext W x) (rd.ext x) hm2)
  rw [getI_zero] at G4
  clear rd wf
  generalize getI xs i d = g at G1 G2
  generalize rawI xs i = r at G3 G4
  go_enter Tryd.func7, Tryd.ntmps7
  go_wp2_with (first
    | (go_at_call 10; ((with_reducible refine (AW.out).mono ?_); rintro _ _ hgets; obtain ⟨rfl, x1, rfl⟩ := hgets.get; clear hgets))
    | (go_at_call 17; ((with_reducible refine (G1.out _).mono ?_); rintro _ _ ⟨rfl, rfl⟩))
    | (go_at_call 18; ((with_reducible refine (G2.out _).mono ?_); rintro _ _ ⟨rfl, rfl⟩))
    | (go_at_call 18; ((with_reducible refine (G4.out _).mono ?_); rintro _ _ ⟨rfl, rfl⟩))
    | (go_at_call 19; ((with_reducible refine (G3.out _).mono ?_); rintro _ _ ⟨rfl, rfl⟩)))
  go_returns
  exact ⟨rfl, by (repeat' (first | (with_reducible exact Below.refl _ _) | (with_reducible refine Below.alloc ?_ ?_ _) | (with_reducible refine below_ext ?_ ?_ _) | (with_reducible refine Below.drew ?_) | (with_reducible refine below_drewN ?_ _) | (with_reducible refine Below.setCell ?_ ?_ _) | go_size | (simp only [go_sem]; omega) | (simp [go_sem]; done) | (simp [go_sem]; omega)))⟩
theorem ParamGets_laid (os : Os) : laidMet Tryd.prog Rows.paramGetsRow.laid ((laidWorld os).forCall (fun _ _ => 0) ⟨#[], #[.slice none 0 0, .int .i64 0, .int .i64 0], []⟩).memory :=
  laidMet_of_run' 8 (by kernel_rfl) (by kernel_rfl)
set_option maxRecDepth 100000 in
theorem ParamGets_lifted (os : Os) (started : os.Started) (H : Type) (enc : TypeId × Value → H) (F : Stop.Interp) :
    ReturnsInHanded {} Tryd.checked os 7 .any ((OpenSpec.ofChange Rows.paramGetsSpec).preRow enc Tryd.prog Tryd.f7 Rows.paramGetsRow.domain false Rows.paramGetsRow.laid) (((OpenSpec.ofChange Rows.paramGetsSpec).at F).post enc Tryd.prog Tryd.f7 false true false false) := by
  obtain ⟨places, hx⟩ : ∃ places, DataW.whole enc Tryd.prog ((laidWorld os).forCall (fun _ _ => 0) ⟨#[], #[.slice none 0 0, .int .i64 0, .int .i64 0], []⟩).memory Tryd.f7.params.toList Rows.paramGetsSpec.vars false #[.slice none 0 0, .int .i64 0, .int .i64 0].toList 8 = some ([.nil, .lit (.int .i64 0), .lit (.int .i64 0)], [], places) := ⟨[], by kernel_rfl⟩
  refine returnsInHanded_of_row (C := Tryd.checked) (s := OpenSpec.ofChange Rows.paramGetsSpec) own started (by kernel_rfl) Tryd.func7
    (witness_row_at (enc := enc) (C := Tryd.checked) false (laidWorld os) #[.slice none 0 0, .int .i64 0, .int .i64 0] rfl (by kernel_rfl) (by kernel_rfl) (by kernel_rfl)
      (OpenSpec.preRow_of_cond 8 hx (by kernel_rfl) (fun k hk => by cases hk) (by kernel_rfl) (ParamGets_laid os))) ?_
  intro W base args ds gs before hval0 hW _ _ hsz0 hL _ _
  have hval : ∀ (j : Nat) t v, Tryd.f7.params[j]? = some t → args[j]? = some v → Value.okWide Tryd.prog W .any base t v := hval0
  have hsz : (DataW.weightsEach Tryd.prog (Tryd.f7.params.toList ++ Rows.paramGetsSpec.plain.varTypes Tryd.prog) (ds ++ gs)).all (· ≤ reachBytes) = true := hsz0
  have hW' := hW
  obtain ⟨p, q, hA0, hV, rfl, hfz, hnd⟩ := hW
  have hA : DataW.TrodAll enc Tryd.prog W 0 (fun _ => true) true Tryd.f7.params.toList args.toList ds p := hA0
  rw [Tryd.params7] at hA hval hsz
  obtain ⟨v0, vs0, d0, ds0, p0, q0, hargs, rfl, rfl, h0, r0⟩ := trodAll_cons hA
  obtain ⟨v1, vs1, d1, ds1, p1, q1, rfl, rfl, rfl, h1, r1⟩ := trodAll_cons r0
  obtain ⟨v2, vs2, d2, ds2, p2, q2, rfl, rfl, rfl, h2, r2⟩ := trodAll_cons r1
  obtain ⟨rfl, rfl, rfl⟩ := trodAll_nil r2
  obtain rfl : args = #[v0, v1, v2] := by cases args; simp_all
  obtain ⟨rfl, rfl⟩ := trodVars_none hV
  have htab := laid_table hL
  clear hA0 hval0 hsz0
  obtain ⟨a0, c0, xs0, rfl, rd0, lc0, cm0, wf0, dd0⟩ := open_ints_rd Tryd.underlying23 Tryd.underlying3 (by kernel_rfl) (okWide_slice Tryd.underlying23 (hval 0 23 v0 rfl rfl)) h0
  have re0 : c0 * 8 ≤ 140737488351232 := by
    rcases dd0 with ⟨-, e⟩ | ⟨es, sp, rfl, e⟩
    · omega
    · have := sized_slice hsz (j := 0) (t := 23) (e := 3) rfl rfl Tryd.underlying23
      rw [show Tryd.prog.bytesOf 3 = 8 by kernel_rfl] at this
      simp only [reachBytes] at this
      omega
  obtain ⟨a1, rfl, -, -, w1⟩ := open_int Tryd.underlying3 (hval 1 3 v1 rfl rfl) h1
  obtain ⟨a2, rfl, -, -, w2⟩ := open_int Tryd.underlying3 (hval 2 3 v2 rfl rfl) h2
  refine (ParamGets_walk W htab a0 c0 xs0 rd0 lc0 cm0 wf0 re0 a1 w1 a2 w2).mono fun e W' ⟨he, hb⟩ => ⟨_, he, ?_⟩
  exact law_post laidOut rfl (by kernel_rfl) (by kernel_rfl) Tryd.underlying4 hW' rfl hb


theorem ParamGets_said : Rows.ParamGetsSaid :=
  OpenClaim.holds_of_cond 7 Tryd.f7 rfl rfl rfl rfl rfl rfl rfl ⟨rfl, rfl, rfl, rfl, rfl⟩ rfl rfl rfl rfl rfl (by kernel_rfl) Tryd.func7 (by kernel_rfl)
    (of_decide_eq_true (by kernel_rfl)) (by unfold Func.isWrapper; first | (rw [if_pos (by decide +kernel)]; kernel_rfl) | (rw [if_neg (by decide +kernel)]; exact ⟨rfl, rfl⟩))
    (fun os started H enc _ F => by rw [OpenClaim.pre_eq_preRow]; exact ParamGets_lifted os started H enc F)
theorem ParamGets_plain (f : FuncId) (fn : Func) (hf : Tryd.pinned.checked.prog.funcNamed "phosphor/phosphorlaw04.ParamGets" = some f) (hfn : Tryd.pinned.checked.prog.funcs[f]? = some fn) :
    false = Tryd.pinned.checked.prog.looks [] ∧ ∀ (j : Nat) t, fn.params[j]? = some t → Tryd.pinned.checked.prog.wantsStandIn t = false := by
  obtain rfl : f = 7 := Option.some.inj ((show Tryd.prog.funcNamed "phosphor/phosphorlaw04.ParamGets" = some 7 by kernel_rfl).symm.trans hf) |>.symm
  obtain rfl : fn = Tryd.f7 := (Option.some.inj (Tryd.func7.symm.trans hfn)).symm
  refine ⟨by kernel_rfl, fun j t ht => ?_⟩
  have hall : ∀ x ∈ Tryd.f7.params.toList, Tryd.prog.wantsStandIn x = false := by
    rw [Tryd.params7]
    simp only [List.mem_cons, List.not_mem_nil, or_false, forall_eq_or_imp, forall_eq]
    exact ⟨by kernel_rfl, by kernel_rfl, by kernel_rfl⟩
  exact hall t (by simpa using Array.mem_of_getElem? ht)
theorem ParamGets_card : Rows.ParamGetsCardSaid :=
  Claim7.holds_tied_plain_at .later [] _ _ _ _ ParamGets_said (fun _ h => by cases h) (by kernel_rfl) (fun _ h => by cases h) paramGets_row_tie rfl ⟨rfl, rfl⟩ (by kernel_rfl) rfl ParamGets_plain (by kernel_rfl)
#print axioms ParamGets_card

end Go.Proofs.YtphkfffphlembaaDoor
