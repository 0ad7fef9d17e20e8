/- PageKeeps returns true for every input: a page keeps no memory of what it is handed, and what it answers is memory of its own. No condition. -/
import Derived.Test.YtpahcgappaifnaaWPageKeeps
import Derived.Test.YtpahcgappaifnaaFramePg
namespace Go.Proofs.Ytpahcgappaifnaa
open Go.ChangeShapes Go.WideShapes Go.ChangeAt Go.RowKit
set_option linter.unusedVariables false
set_option linter.unusedSimpArgs false

set_option maxRecDepth 100000 in
theorem PageKeeps_lifted (os : Os) (started : os.Started) (H : Type) (enc : TypeId × Value → H) :
    ReturnsInHanded {} Try.checked os 5 .any (Rows.pageKeepsSpec.pre6 enc Try.prog Try.f5 Rows.pageKeepsRow.domain false) (Rows.pageKeepsSpec.post enc Try.prog Try.f5 false true false false) := by
  refine returnsInHanded_of_change_sized (C := Try.checked) own started (by kernel_rfl) Try.func5
    (ChangeSpec.witness6 (enc := enc) (C := Try.checked) false ⟨#[], #[.slice none 0 0, .slice none 0 0], []⟩ 8 (by kernel_rfl) (by kernel_rfl) (by kernel_rfl) (by kernel_rfl)) ?_
  intro W base args ds gs before hval0 hW hcnd hsz0 _
  have hval : ∀ (j : Nat) t v, Try.f5.params[j]? = some t → args[j]? = some v → Value.okWide Try.prog W .any base t v := hval0
  have hsz : (DataW.weightsEach Try.prog (Try.f5.params.toList ++ Rows.pageKeepsSpec.plain.varTypes Try.prog) (ds ++ gs)).all (· ≤ reachBytes) = true := hsz0
  have hW' := hW
  obtain ⟨p, q, hA0, hV, rfl, hfz, hnd⟩ := hW
  have hA : DataW.TrodAll enc Try.prog W 0 (fun _ => true) true Try.f5.params.toList args.toList ds p := hA0
  rw [Try.params5] at hA hval hsz
  obtain ⟨v0, vs0, d0, ds0, p0, q0, hargs, rfl, rfl, h0, r0⟩ := trodAll_cons hA
  obtain ⟨v1, vs1, d1, ds1, p1, q1, rfl, rfl, rfl, h1, r1⟩ := trodAll_cons r0
  obtain ⟨rfl, rfl, rfl⟩ := trodAll_nil r1
  obtain rfl : args = #[v0, v1] := by cases args; simp_all
  obtain ⟨rfl, rfl⟩ := trodVars_none hV
  clear hA0 hval0 hsz0
  obtain ⟨a0, c0, xs0, rfl, rd0, lc0, cm0, wf0, dd0⟩ := open_cells (okWide_slice Try.underlying54 (hval 0 54 v0 rfl rfl)) h0
  have re0 : c0 * 8 ≤ 140737488351232 := by
    rcases dd0 with ⟨-, e⟩ | ⟨es, sp, rfl, e⟩
    · omega
    · have := sized_slice hsz (j := 0) (t := 54) (e := 41) rfl rfl Try.underlying54
      rw [show Try.prog.bytesOf 41 = 8 by kernel_rfl] at this
      simp only [reachBytes] at this
      omega
  obtain ⟨a1, c1, xs1, rfl, rd1, lc1, cm1, wf1, dd1⟩ := open_ints_rd Try.underlying55 Try.underlying3 (by kernel_rfl) (okWide_slice Try.underlying55 (hval 1 55 v1 rfl rfl)) h1
  have re1 : c1 * 8 ≤ 140737488351232 := by
    rcases dd1 with ⟨-, e⟩ | ⟨es, sp, rfl, e⟩
    · omega
    · have := sized_slice hsz (j := 1) (t := 55) (e := 3) rfl rfl Try.underlying55
      rw [show Try.prog.bytesOf 3 = 8 by kernel_rfl] at this
      simp only [reachBytes] at this
      omega
  refine (PageKeeps_walk W a0 c0 xs0 rd0 lc0 cm0 wf0 re0 a1 c1 xs1 rd1 lc1 cm1 wf1 re1).mono fun e W' ⟨he, hb⟩ => ⟨_, he, ?_⟩
  exact law_post laidOut rfl (by kernel_rfl) (by kernel_rfl) Try.underlying4 hW' rfl hb

theorem PageKeeps_holds : Rows.PageKeepsSaid :=
  OpenClaim.holds_of_wide 5 Try.f5 rfl rfl rfl rfl rfl rfl rfl ⟨rfl, rfl, rfl, rfl, rfl⟩ rfl rfl rfl rfl rfl (by kernel_rfl) Try.func5 (by kernel_rfl)
    (of_decide_eq_true (by kernel_rfl)) (by unfold Func.isWrapper; first | (rw [if_pos (by decide +kernel)]; kernel_rfl) | (rw [if_neg (by decide +kernel)]; exact ⟨rfl, rfl⟩))
    (fun os started H enc _ => PageKeeps_lifted os started H enc)
#print axioms PageKeeps_holds

end Go.Proofs.Ytpahcgappaifnaa
