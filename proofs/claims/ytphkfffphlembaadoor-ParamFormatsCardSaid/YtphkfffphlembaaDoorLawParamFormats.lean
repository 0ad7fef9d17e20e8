/- ParamFormats: numbers that are written are read back, as far as they may go. Every list. -/
import Derived.Test.YtphkfffphlembaaDoorAwake4
import Derived.Test.YtphkfffphlembaaDoorFrameCard
import Derived.Deep.DeepCutAuto
namespace Go.Proofs.YtphkfffphlembaaDoor
open Go.ChangeShapes Go.WideShapes Go.ChangeAt Go.RowKit
set_option linter.unusedVariables false
set_option linter.unusedSimpArgs false

theorem Rd.take {α : Type} {enc : α → List Value} {size : Nat} {w : World} {A : Option Addr} {xs : List α} (h : Rd enc size w A xs) (m : Nat) : Rd enc size w A (xs.take m) := fun h0 => by
  have hl : 0 < xs.length := by rw [List.length_take] at h0; omega
  obtain ⟨b, o, e, hb, hc⟩ := h hl
  refine ⟨b, o, e, hb, fun i hi j v hv => ?_⟩
  have hi2 : i < xs.length := by rw [List.length_take] at hi; omega
  exact hc i hi2 j v (by rw [List.getElem_take] at hv; exact hv)
theorem fmtL_len (xs : List Int) : (fmtL xs).length ≤ 180 := by
  have h := txt_size xs 30
  rw [txt_all xs 30 (.inr (Nat.le_refl _))] at h
  have e : (⟨(fmtL xs).toArray⟩ : ByteArray).size = (fmtL xs).length := by show (fmtL xs).toArray.size = _; simp
  omega
set_option maxRecDepth 100000 in
set_option maxHeartbeats 4000000 in
theorem ParamFormats_walk (W : World) (ht : Tab W) (a : Option Addr) (c : Nat) (xs : List Int) (rd : Ints W a xs) (hc : xs.length ≤ c) (hm : c ≤ maxLen) (wf : ∀ z ∈ xs, (Lit.int .i64 z).wf = true) (re : c * 8 ≤ 140737488351232) :
    Calls Tryd.prog 4 #[.slice a xs.length c] W (Gives W (.bool true)) := by
  have AW := Lib.hid (awake_4 W ht)
  have HT := Lib.hid ht
  have RD := Lib.hid (rd.take 60)
  have hYl : (xs.take 60).length = min 60 xs.length := List.length_take
  clear ht rd wf
  go_enter Tryd.func4, Tryd.ntmps4
  go_upto_if 13 with (go_at_call 10; ((with_reducible refine (AW.out).mono ?_); rintro _ _ hgets; obtain ⟨rfl, x1, rfl⟩ := hgets.get; clear hgets))
  go_cut [0] (fun lv wx => ∃ (x : More), lv = .slice a (xs.take 60).length c ∧ wx = ext W x)
  case first =>
    by_cases h : 60 < xs.length
    · have e : (xs.take 60).length = 60 := by omega
      have HE := Lib.hid e
      clear e hYl
      go_wp2
      go_meet
      rw [HE.out]
      exact ⟨_, rfl, rfl⟩
    · have e : (xs.take 60).length = xs.length := by omega
      have HE := Lib.hid e
      clear e hYl
      go_wp2
      go_meet
      rw [HE.out]
      exact ⟨_, rfl, rfl⟩
  obtain ⟨x, rfl, rfl⟩ := hcut
  have hy60 : (xs.take 60).length ≤ 60 := by omega
  have hyc : (xs.take 60).length ≤ c := by omega
  clear hYl AW
  generalize xs.take 60 = ys at RD hy60 hyc ⊢
  have hfl := fmtL_len ys
  have hsz : (⟨(fmtL ys).toArray⟩ : ByteArray).size ≤ 180 := by show (fmtL ys).toArray.size ≤ 180; simpa using hfl
  have PA := Lib.hid (fun w' => parse_c ⟨(fmtL ys).toArray⟩ (by omega) w')
  have hb : bytesOf ⟨(fmtL ys).toArray⟩ = fmtL ys := rfl
  rw [hb, parse_fmt, parse_fmtE] at PA
  have FM := Lib.hid (fun (w' : World) (A : Option Addr) (d : Nat) (rd : Ints w' A ys) (h1 : ys.length ≤ d) (h2 : d ≤ 9223372036854775807) (h3 : Tab w') => fmt_c w' rd h1 h2 h3)
  have FR := Lib.hid (fun (w' : World) (rd : Ints w' a ys) => fmt_r (c := c) w' rd (by omega))
  have SI : Hid (∀ (w' : World) (A : Option Addr) (d : Nat), Ints w' A ys → Ints w' a ys → Calls Tryd.prog 13 #[.slice A ys.length d, .slice a ys.length c] w' (Gives w' (.bool true))) := Lib.hid (fun w' A d h1 h2 => by
    have := same_ints A a d c ys ys w' h1 h2 (by omega) (by omega)
    simpa using this)
  have hzl : ((ys.take 30).map clipP).length = min 30 ys.length := by simp
  have HZ : Hid (∀ (k : Nat) (h : k < ((ys.take 30).map clipP).length) (h2 : k < ys.length), ((ys.take 30).map clipP)[k] = max 0 (min ys[k] 65535)) := Lib.hid (fun k h h2 => by
    rw [List.getElem_map, List.getElem_take]; rfl)
  generalize (ys.take 30).map clipP = zs at PA hzl HZ
  generalize (⟨(fmtL ys).toArray⟩ : ByteArray) = T at PA FM FR hsz
  have hcond : (((zs.length : Nat) : Int) != min (ys.length : Int) 30) = false := by
    have : ((zs.length : Nat) : Int) = min (ys.length : Int) 30 := by omega
    rw [this]
    simp
  have HL := Lib.hid hzl
  clear hzl hb
  go_wp2_with (first
    | (at_builtin
       refine append_rd (U := W) (.tmp 16) (.tmp 17) _ 3 _ 8 rfl rfl Tryd.underlying23 int_info rfl (by omega) (encI_len _) (encI_one _) [] ys _ a c rfl rfl ?_ (Own.new (encI_len _) (by simp) rfl #[] rfl (by simp [go_sem]) (by simp [maxLen])) ((RD.out.ext _).alloc _) (by simp only [maxLen, List.length_nil]; omega) (by simp only [List.length_nil]; omega) ?_
       · (repeat' (first | (with_reducible exact Below.refl _ _) | (with_reducible refine Below.alloc ?_ ?_ _) | (with_reducible refine below_ext ?_ ?_ _) | (with_reducible refine Below.drew ?_) | (with_reducible refine below_drewN ?_ _) | (with_reducible refine Below.setCell ?_ ?_ _) | go_size | (simp only [go_sem]; omega) | (simp [go_sem]; done) | (simp [go_sem]; omega)))
       intro A5 c5 x5 zs5 hz5 hO5
       rw [List.nil_append] at hz5
       replace hz5 := hz5.symm
       subst hz5
       have hcs := hO5.caps
       have hc5 := hcs.1
       have hc6 := hcs.2
       clear hcs
       replace hO5 := Lib.hid hO5)
    | (go_at_call 14; ((with_reducible refine (FM.out _ _ _ (hO5.out.rd (encI_len _)) hc5 (by simp only [maxLen] at hc6; omega) (HT.out.ext _)).mono ?_); rintro _ _ hgets; obtain ⟨rfl, x6, rfl⟩ := hgets.get; clear hgets))
    | (go_at_call 11; (with_reducible refine (PA.out _).mono ?_); (rintro _ _ ⟨A7, x7, rfl, rfl, hC⟩); replace hC := Lib.hid hC)
    | (go_at_call 15; ((with_reducible refine (FR.out _ (((RD.out.ext _).ext _).ext _)).mono ?_); rintro _ _ hgets; obtain ⟨rfl, x8, rfl⟩ := hgets.get; clear hgets))
    | (go_at_call 13; ((with_reducible refine (SI.out _ _ _ (((hO5.out.rd (encI_len _)).ext _).ext _ |>.ext _) ((((RD.out.ext _).ext _).ext _).ext _)).mono ?_); rintro _ _ hgets; obtain ⟨rfl, x9, rfl⟩ := hgets.get; clear hgets)))
  have hR := Lib.hid ((hC.out.rd.ext x8).ext x9)
  have hY := Lib.hid (((((RD.out.ext x5).ext x6).ext x7).ext x8).ext x9)
  go_loopw [50] (fun i wr => ∃ (k : Nat), k ≤ zs.length ∧ i = .int .i64 k ∧ Hid (Below W.heap.size W wr) ∧ Hid (Ints wr A7 zs) ∧ Hid (Ints wr a ys)) (fun i _ => zs.length - (intOf i).toNat)
  case atStart => exact ⟨0, by omega, rfl, Lib.hid (by (repeat' (first | (with_reducible exact Below.refl _ _) | (with_reducible refine Below.alloc ?_ ?_ _) | (with_reducible refine below_ext ?_ ?_ _) | (with_reducible refine Below.drew ?_) | (with_reducible refine below_drewN ?_ _) | (with_reducible refine Below.setCell ?_ ?_ _) | go_size | (simp only [go_sem]; omega) | (simp [go_sem]; done) | (simp [go_sem]; omega)))), hR, hY⟩
  case round =>
    obtain ⟨k, hk, rfl, hB, hI, hJ⟩ := hrel
    by_cases hlt : k < zs.length
    · have hlt2 : k < ys.length := by have := HL.out; omega
      obtain ⟨b1, o1, rfl, hb1, hc1⟩ := hI.out.cell hlt
      obtain ⟨b2, o2, rfl, hb2, hc2⟩ := hJ.out.cell hlt2
      have hz := HZ.out k hlt hlt2
      generalize zs[k] = v at hc1 hz
      generalize ys[k] = u at hc2 hz
      have hne : (v != max 0 (min u 65535)) = false := by rw [hz]; simp
      clear hz
      go_wp2
      go_roundw
      case rel => exact ⟨k + 1, by omega, by go_num, hB, hI, hJ⟩
      case measure => simp [intOf]; omega
    · obtain rfl : k = zs.length := by omega
      go_wp2
      go_returns
      exact ⟨rfl, hB.out⟩
theorem ParamFormats_laid (os : Os) : laidMet Tryd.prog Rows.paramFormatsRow.laid ((laidWorld os).forCall (fun _ _ => 0) ⟨#[], #[.slice none 0 0], []⟩).memory :=
  laidMet_of_run' 8 (by kernel_rfl) (by kernel_rfl)
set_option maxRecDepth 100000 in
theorem ParamFormats_lifted (os : Os) (started : os.Started) (H : Type) (enc : TypeId × Value → H) (F : Stop.Interp) :
    ReturnsInHanded {} Tryd.checked os 4 .any ((OpenSpec.ofChange Rows.paramFormatsSpec).preRow enc Tryd.prog Tryd.f4 Rows.paramFormatsRow.domain false Rows.paramFormatsRow.laid) (((OpenSpec.ofChange Rows.paramFormatsSpec).at F).post enc Tryd.prog Tryd.f4 false true false false) := by
  obtain ⟨places, hx⟩ : ∃ places, DataW.whole enc Tryd.prog ((laidWorld os).forCall (fun _ _ => 0) ⟨#[], #[.slice none 0 0], []⟩).memory Tryd.f4.params.toList Rows.paramFormatsSpec.vars false #[.slice none 0 0].toList 8 = some ([.nil], [], places) := ⟨[], by kernel_rfl⟩
  refine returnsInHanded_of_row (C := Tryd.checked) (s := OpenSpec.ofChange Rows.paramFormatsSpec) own started (by kernel_rfl) Tryd.func4
    (witness_row_at (enc := enc) (C := Tryd.checked) false (laidWorld os) #[.slice none 0 0] rfl (by kernel_rfl) (by kernel_rfl) (by kernel_rfl)
      (OpenSpec.preRow_of_cond 8 hx (by kernel_rfl) (fun k hk => by cases hk) (by kernel_rfl) (ParamFormats_laid os))) ?_
  intro W base args ds gs before hval0 hW _ _ hsz0 hL _ _
  have hval : ∀ (j : Nat) t v, Tryd.f4.params[j]? = some t → args[j]? = some v → Value.okWide Tryd.prog W .any base t v := hval0
  have hsz : (DataW.weightsEach Tryd.prog (Tryd.f4.params.toList ++ Rows.paramFormatsSpec.plain.varTypes Tryd.prog) (ds ++ gs)).all (· ≤ reachBytes) = true := hsz0
  have hW' := hW
  obtain ⟨p, q, hA0, hV, rfl, hfz, hnd⟩ := hW
  have hA : DataW.TrodAll enc Tryd.prog W 0 (fun _ => true) true Tryd.f4.params.toList args.toList ds p := hA0
  rw [Tryd.params4] at hA hval hsz
  obtain ⟨v0, vs0, d0, ds0, p0, q0, hargs, rfl, rfl, h0, r0⟩ := trodAll_cons hA
  obtain ⟨rfl, rfl, rfl⟩ := trodAll_nil r0
  obtain rfl : args = #[v0] := by cases args; simp_all
  obtain ⟨rfl, rfl⟩ := trodVars_none hV
  have htab := laid_table hL
  clear hA0 hval0 hsz0
  obtain ⟨a0, c0, xs0, rfl, rd0, lc0, cm0, wf0, dd0⟩ := open_ints_rd Tryd.underlying23 Tryd.underlying3 (by kernel_rfl) (okWide_slice Tryd.underlying23 (hval 0 23 v0 rfl rfl)) h0
  have re0 : c0 * 8 ≤ 140737488351232 := by
    rcases dd0 with ⟨-, e⟩ | ⟨es, sp, rfl, e⟩
    · omega
    · have := sized_slice hsz (j := 0) (t := 23) (e := 3) rfl rfl Tryd.underlying23
      rw [show Tryd.prog.bytesOf 3 = 8 by kernel_rfl] at this
      simp only [reachBytes] at this
      omega
  refine (ParamFormats_walk W htab a0 c0 xs0 rd0 lc0 cm0 wf0 re0).mono fun e W' ⟨he, hb⟩ => ⟨_, he, ?_⟩
  exact law_post laidOut rfl (by kernel_rfl) (by kernel_rfl) Tryd.underlying4 hW' rfl hb


theorem ParamFormats_said : Rows.ParamFormatsSaid :=
  OpenClaim.holds_of_cond 4 Tryd.f4 rfl rfl rfl rfl rfl rfl rfl ⟨rfl, rfl, rfl, rfl, rfl⟩ rfl rfl rfl rfl rfl (by kernel_rfl) Tryd.func4 (by kernel_rfl)
    (of_decide_eq_true (by kernel_rfl)) (by unfold Func.isWrapper; first | (rw [if_pos (by decide +kernel)]; kernel_rfl) | (rw [if_neg (by decide +kernel)]; exact ⟨rfl, rfl⟩))
    (fun os started H enc _ F => by rw [OpenClaim.pre_eq_preRow]; exact ParamFormats_lifted os started H enc F)
theorem ParamFormats_plain (f : FuncId) (fn : Func) (hf : Tryd.pinned.checked.prog.funcNamed "phosphor/phosphorlaw04.ParamFormats" = some f) (hfn : Tryd.pinned.checked.prog.funcs[f]? = some fn) :
    false = Tryd.pinned.checked.prog.looks [] ∧ ∀ (j : Nat) t, fn.params[j]? = some t → Tryd.pinned.checked.prog.wantsStandIn t = false := by
  obtain rfl : f = 4 := Option.some.inj ((show Tryd.prog.funcNamed "phosphor/phosphorlaw04.ParamFormats" = some 4 by kernel_rfl).symm.trans hf) |>.symm
  obtain rfl : fn = Tryd.f4 := (Option.some.inj (Tryd.func4.symm.trans hfn)).symm
  refine ⟨by kernel_rfl, fun j t ht => ?_⟩
  have hall : ∀ x ∈ Tryd.f4.params.toList, Tryd.prog.wantsStandIn x = false := by
    rw [Tryd.params4]
    simp only [List.mem_cons, List.not_mem_nil, or_false, forall_eq_or_imp, forall_eq]
    exact (by kernel_rfl)
  exact hall t (by simpa using Array.mem_of_getElem? ht)
theorem ParamFormats_card : Rows.ParamFormatsCardSaid :=
  Claim7.holds_tied_plain_at .later [] _ _ _ _ ParamFormats_said (fun _ h => by cases h) (by kernel_rfl) (fun _ h => by cases h) paramFormats_row_tie rfl ⟨rfl, rfl⟩ (by kernel_rfl) rfl ParamFormats_plain (by kernel_rfl)
#print axioms ParamFormats_card

end Go.Proofs.YtphkfffphlembaaDoor
