/- RendApplies returns true for every input: numbers change a rendition one by one, just as the document says. No condition. -/
import Derived.Test.YtmpbgjnkkapijaaAwake1
namespace Go.Proofs.Ytmpbgjnkkapijaa
open Go.ChangeShapes Go.WideShapes Go.ChangeAt Go.RowKit
set_option linter.unusedVariables false
set_option linter.unusedSimpArgs false

set_option maxRecDepth 100000 in
set_option maxHeartbeats 4000000 in
theorem RendApplies_walk (w : World) (r : Int) (wr : (Lit.int .u8 r).wf = true) (a : Option Addr) (c : Nat) (xs : List Int) (rd : Ints w a xs) (lc : xs.length ≤ c) (cm : c ≤ maxLen) (wf : ∀ n ∈ xs, (Lit.int .i64 n).wf = true) (re : c * 8 ≤ 140737488351232) :
    Calls Try.prog 8 #[.int .u8 r, .slice a xs.length c] w (Gives w (.bool true)) := by
  obtain ⟨r0, r1⟩ := bounds_u8 wr
  have X := Lib.hid rd
  simp only [maxLen] at cm
  clear rd wf wr
  have A1 := Lib.hid (fun w' A C (h : Ints w' A xs) => apply_c r r0 r1 A C xs w' h (by omega))
  have A2 := Lib.hid (fun w' A C (h : Ints w' A xs) => apply_r r r0 r1 A C xs w' h (by omega))
  generalize (foldR oneF (Fl.of r) xs).num = N at A1 A2
  have S := Lib.hid (show ∀ w' A C B D, Ints w' A xs → Ints w' B xs → Calls Try.prog 35 #[.slice A xs.length C, .slice B xs.length D] w' (Gives w' (.bool true)) from
    fun w' A C B D h1 h2 => by have := same_ints A B C D xs xs w' h1 h2 (by omega) (by omega); simpa using this)
  go_enter Try.func8, Try.ntmps8
  go_wp2_with (first
    | (go_at_call 32; ((with_reducible refine (awake1 _).mono ?_); rintro _ _ hgets; obtain ⟨rfl, x1, rfl⟩ := hgets.get; clear hgets))
    | (at_builtin
       refine append_rd (U := ext w x1) (.tmp 8) (.tmp 9) _ 3 _ 8 rfl rfl Try.underlying34 int_info rfl (by omega) (encI_len _) (encI_one _) [] xs _ a c rfl rfl ?_ (Own.new (encI_len _) (by simp) rfl #[] rfl (Nat.le_refl _) (by simp [maxLen])) (by repeat (first | exact X.out | exact X | refine Rd.ext ?_ _ | refine Rd.alloc ?_ _ | refine Rd.drew ?_)) (by simp [maxLen]; omega) (by simp; omega) ?_
       · (repeat' (first | (with_reducible exact Below.refl _ _) | (with_reducible refine Below.alloc ?_ ?_ _) | (with_reducible refine below_ext ?_ ?_ _) | (with_reducible refine Below.drew ?_) | (with_reducible refine below_drewN ?_ _) | (with_reducible refine Below.setCell ?_ ?_ _) | go_size | (simp only [go_sem]; omega) | (simp [go_sem]; done) | (simp [go_sem]; omega)))
       intro A' c' x3 zs hz hO
       rw [List.nil_append] at hz
       subst zs
       have R := Lib.hid (hO.rd (encI_len _))
       clear hO)
    | (go_at_call 33; (with_reducible refine (A1.out _ _ _ ?_).mono ?_); (focus ((repeat (first | (with_reducible exact R.out) | (with_reducible exact R) | (with_reducible refine Rd.ext ?_ _) | (with_reducible refine Rd.alloc ?_ _) | (with_reducible refine Rd.drew ?_))); done)); rintro _ _ ⟨rfl, rfl⟩)
    | (go_at_call 34; (with_reducible refine (A2.out _ _ _ ?_).mono ?_); (focus ((repeat (first | (with_reducible exact X.out) | (with_reducible exact X) | (with_reducible refine Rd.ext ?_ _) | (with_reducible refine Rd.alloc ?_ _) | (with_reducible refine Rd.drew ?_))); done)); rintro _ _ hgets; obtain ⟨rfl, _, rfl⟩ := hgets.get; clear hgets)
    | (go_at_call 35; (with_reducible refine (S.out _ _ _ _ _ ?_ ?_).mono ?_); (focus ((repeat (first | (with_reducible exact R.out) | (with_reducible exact R) | (with_reducible refine Rd.ext ?_ _) | (with_reducible refine Rd.alloc ?_ _) | (with_reducible refine Rd.drew ?_))); done)); (focus ((repeat (first | (with_reducible exact X.out) | (with_reducible exact X) | (with_reducible refine Rd.ext ?_ _) | (with_reducible refine Rd.alloc ?_ _) | (with_reducible refine Rd.drew ?_))); done)); rintro _ _ hgets; obtain ⟨rfl, _, rfl⟩ := hgets.get; clear hgets))
  all_goals go_returns
  all_goals refine ⟨?_, by (repeat' (first | (with_reducible exact Below.refl _ _) | (with_reducible refine Below.alloc ?_ ?_ _) | (with_reducible refine below_ext ?_ ?_ _) | (with_reducible refine Below.drew ?_) | (with_reducible refine below_drewN ?_ _) | (with_reducible refine Below.setCell ?_ ?_ _) | go_size | (simp only [go_sem]; omega) | (simp [go_sem]; done) | (simp [go_sem]; omega)))⟩
  all_goals rfl
set_option maxRecDepth 100000 in
theorem RendApplies_lifted (os : Os) (started : os.Started) (H : Type) (enc : TypeId × Value → H) :
    ReturnsInHanded {} Try.checked os 8 .any (Rows.rendAppliesSpec.pre6 enc Try.prog Try.f8 Rows.rendAppliesRow.domain false) (Rows.rendAppliesSpec.post enc Try.prog Try.f8 false true false false) := by
  refine returnsInHanded_of_change_sized (C := Try.checked) own started (by kernel_rfl) Try.func8
    (ChangeSpec.witness6 (enc := enc) (C := Try.checked) false ⟨#[], #[.int .u8 0, .slice none 0 0], []⟩ 8 (by kernel_rfl) (by kernel_rfl) (by kernel_rfl) (by kernel_rfl)) ?_
  intro W base args ds gs before hval0 hW hcnd hsz0 _
  have hval : ∀ (j : Nat) t v, Try.f8.params[j]? = some t → args[j]? = some v → Value.okWide Try.prog W .any base t v := hval0
  have hsz : (DataW.weightsEach Try.prog (Try.f8.params.toList ++ Rows.rendAppliesSpec.plain.varTypes Try.prog) (ds ++ gs)).all (· ≤ reachBytes) = true := hsz0
  have hW' := hW
  obtain ⟨p, q, hA0, hV, rfl, hfz, hnd⟩ := hW
  have hA : DataW.TrodAll enc Try.prog W 0 (fun _ => true) true Try.f8.params.toList args.toList ds p := hA0
  rw [Try.params8] at hA hval hsz
  obtain ⟨v0, vs0, d0, ds0, p0, q0, hargs, rfl, rfl, h0, r0⟩ := trodAll_cons hA
  obtain ⟨v1, vs1, d1, ds1, p1, q1, rfl, rfl, rfl, h1, r1⟩ := trodAll_cons r0
  obtain ⟨rfl, rfl, rfl⟩ := trodAll_nil r1
  obtain rfl : args = #[v0, v1] := by cases args; simp_all
  obtain ⟨rfl, rfl⟩ := trodVars_none hV
  clear hA0 hval0 hsz0
  obtain ⟨a0, rfl, -, -, w0⟩ := open_int Try.underlying22 (hval 0 22 v0 rfl rfl) h0
  obtain ⟨a1, c1, xs1, rfl, rd1, lc1, cm1, wf1, dd1⟩ := open_ints_rd Try.underlying34 Try.underlying3 (by kernel_rfl) (okWide_slice Try.underlying34 (hval 1 34 v1 rfl rfl)) h1
  have re1 : c1 * 8 ≤ 140737488351232 := by
    rcases dd1 with ⟨-, e⟩ | ⟨es, sp, rfl, e⟩
    · omega
    · have := sized_slice hsz (j := 1) (t := 34) (e := 3) rfl rfl Try.underlying34
      rw [show Try.prog.bytesOf 3 = 8 by kernel_rfl] at this
      simp only [reachBytes] at this
      omega
  refine (RendApplies_walk W a0 w0 a1 c1 xs1 rd1 lc1 cm1 wf1 re1).mono fun e W' ⟨he, hb⟩ => ⟨_, he, ?_⟩
  exact law_post laidOut rfl (by kernel_rfl) (by kernel_rfl) Try.underlying4 hW' rfl hb

theorem RendApplies_holds : Rows.RendAppliesSaid :=
  OpenClaim.holds_of_wide 8 Try.f8 rfl rfl rfl rfl rfl rfl rfl ⟨rfl, rfl, rfl, rfl, rfl⟩ rfl rfl rfl rfl rfl (by kernel_rfl) Try.func8 (by kernel_rfl)
    (of_decide_eq_true (by kernel_rfl)) (by unfold Func.isWrapper; first | (rw [if_pos (by decide +kernel)]; kernel_rfl) | (rw [if_neg (by decide +kernel)]; exact ⟨rfl, rfl⟩))
    (fun os started H enc _ => RendApplies_lifted os started H enc)
#print axioms RendApplies_holds

end Go.Proofs.Ytmpbgjnkkapijaa
