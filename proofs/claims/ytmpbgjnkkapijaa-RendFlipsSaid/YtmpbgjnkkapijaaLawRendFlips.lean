/- RendFlips returns true for every input: numbers turn parts of a rendition over, and the same numbers turn them back. No condition. -/
import Derived.Test.YtmpbgjnkkapijaaAwake1
namespace Go.Proofs.Ytmpbgjnkkapijaa
open Go.ChangeShapes Go.WideShapes Go.ChangeAt Go.RowKit
set_option linter.unusedVariables false
set_option linter.unusedSimpArgs false

set_option maxRecDepth 100000 in
set_option maxHeartbeats 4000000 in
theorem RendFlips_walk (w : World) (r : Int) (wr : (Lit.int .u8 r).wf = true) (a : Option Addr) (c : Nat) (xs : List Int) (rd : Ints w a xs) (lc : xs.length ≤ c) (cm : c ≤ maxLen) (wf : ∀ n ∈ xs, (Lit.int .i64 n).wf = true) (re : c * 8 ≤ 140737488351232) :
    Calls Try.prog 9 #[.int .u8 r, .slice a xs.length c] w (Gives w (.bool true)) := by
  obtain ⟨r0, r1⟩ := bounds_u8 wr
  have X := Lib.hid rd
  simp only [maxLen] at cm
  clear rd wf wr
  have A1 := Lib.hid (fun w' (h : Ints w' a xs) => flip_c r r0 r1 a c xs w' h (by omega))
  have A2 := Lib.hid (fun w' (h : Ints w' a xs) => flip_r r r0 r1 a c xs w' h (by omega))
  have f2 := fun w' (h : Ints w' a xs) => flip_c (foldR turnF (Fl.of r) xs).num (by have := Fl.num_bd (foldR turnF (Fl.of r) xs); omega) (by have := Fl.num_bd (foldR turnF (Fl.of r) xs); omega) a c xs w' h (by omega)
  rw [Fl.num_of, foldR_twice] at f2
  have A3 := Lib.hid f2
  clear f2
  generalize (foldR turnF (Fl.of r) xs).num = N at A1 A2 A3
  have o := fun w' => of_r r r0 r1 w'
  generalize Fl.of r = f at o A3
  obtain ⟨fb, fu, fk, fr, fh⟩ := f
  have O := Lib.hid o
  clear o
  have Q := Lib.hid (fun w' => rend_r ⟨fb, fu, fk, fr, fh⟩ w')
  generalize (Fl.mk fb fu fk fr fh).num = M at A3 Q
  go_enter Try.func9, Try.ntmps9
  go_wp2_with (first
    | (go_at_call 32; ((with_reducible refine (awake1 _).mono ?_); rintro _ _ hgets; obtain ⟨rfl, x1, rfl⟩ := hgets.get; clear hgets))
    | (go_at_call 23; (with_reducible refine (A1.out _ ?_).mono ?_); (focus ((repeat (first | (with_reducible exact X.out) | (with_reducible exact X) | (with_reducible refine Rd.ext ?_ _) | (with_reducible refine Rd.alloc ?_ _) | (with_reducible refine Rd.drew ?_))); done)); rintro _ _ ⟨rfl, rfl⟩)
    | (go_at_call 23; (with_reducible refine (A3.out _ ?_).mono ?_); (focus ((repeat (first | (with_reducible exact X.out) | (with_reducible exact X) | (with_reducible refine Rd.ext ?_ _) | (with_reducible refine Rd.alloc ?_ _) | (with_reducible refine Rd.drew ?_))); done)); rintro _ _ ⟨rfl, rfl⟩)
    | (go_at_call 36; (with_reducible refine (A2.out _ ?_).mono ?_); (focus ((repeat (first | (with_reducible exact X.out) | (with_reducible exact X) | (with_reducible refine Rd.ext ?_ _) | (with_reducible refine Rd.alloc ?_ _) | (with_reducible refine Rd.drew ?_))); done)); rintro _ _ hgets; obtain ⟨rfl, _, rfl⟩ := hgets.get; clear hgets)
    | (go_at_call 38; ((with_reducible refine (O.out _).mono ?_); rintro _ _ hgets; obtain ⟨rfl, _, rfl⟩ := hgets.get; clear hgets))
    | (go_at_call 37; ((with_reducible refine (Q.out _).mono ?_); rintro _ _ hgets; obtain ⟨rfl, _, rfl⟩ := hgets.get; clear hgets)))
  all_goals go_returns
  all_goals refine ⟨?_, by (repeat' (first | (with_reducible exact Below.refl _ _) | (with_reducible refine Below.alloc ?_ ?_ _) | (with_reducible refine below_ext ?_ ?_ _) | (with_reducible refine Below.drew ?_) | (with_reducible refine below_drewN ?_ _) | (with_reducible refine Below.setCell ?_ ?_ _) | go_size | (simp only [go_sem]; omega) | (simp [go_sem]; done) | (simp [go_sem]; omega)))⟩
  all_goals rfl
set_option maxRecDepth 100000 in
theorem RendFlips_lifted (os : Os) (started : os.Started) (H : Type) (enc : TypeId × Value → H) :
    ReturnsInHanded {} Try.checked os 9 .any (Rows.rendFlipsSpec.pre6 enc Try.prog Try.f9 Rows.rendFlipsRow.domain false) (Rows.rendFlipsSpec.post enc Try.prog Try.f9 false true false false) := by
  refine returnsInHanded_of_change_sized (C := Try.checked) own started (by kernel_rfl) Try.func9
    (ChangeSpec.witness6 (enc := enc) (C := Try.checked) false ⟨#[], #[.int .u8 0, .slice none 0 0], []⟩ 8 (by kernel_rfl) (by kernel_rfl) (by kernel_rfl) (by kernel_rfl)) ?_
  intro W base args ds gs before hval0 hW hcnd hsz0 _
  have hval : ∀ (j : Nat) t v, Try.f9.params[j]? = some t → args[j]? = some v → Value.okWide Try.prog W .any base t v := hval0
  have hsz : (DataW.weightsEach Try.prog (Try.f9.params.toList ++ Rows.rendFlipsSpec.plain.varTypes Try.prog) (ds ++ gs)).all (· ≤ reachBytes) = true := hsz0
  have hW' := hW
  obtain ⟨p, q, hA0, hV, rfl, hfz, hnd⟩ := hW
  have hA : DataW.TrodAll enc Try.prog W 0 (fun _ => true) true Try.f9.params.toList args.toList ds p := hA0
  rw [Try.params9] at hA hval hsz
  obtain ⟨v0, vs0, d0, ds0, p0, q0, hargs, rfl, rfl, h0, r0⟩ := trodAll_cons hA
  obtain ⟨v1, vs1, d1, ds1, p1, q1, rfl, rfl, rfl, h1, r1⟩ := trodAll_cons r0
  obtain ⟨rfl, rfl, rfl⟩ := trodAll_nil r1
  obtain rfl : args = #[v0, v1] := by cases args; simp_all
  obtain ⟨rfl, rfl⟩ := trodVars_none hV
  clear hA0 hval0 hsz0
  obtain ⟨a0, rfl, -, -, w0⟩ := open_int Try.underlying22 (hval 0 22 v0 rfl rfl) h0
  obtain ⟨a1, c1, xs1, rfl, rd1, lc1, cm1, wf1, dd1⟩ := open_ints_rd Try.underlying34 Try.underlying3 (by kernel_rfl) (okWide_slice Try.underlying34 (hval 1 34 v1 rfl rfl)) h1
  have re1 : c1 * 8 ≤ 140737488351232 := by
    rcases dd1 with ⟨-, e⟩ | ⟨es, sp, rfl, e⟩
    · omega
    · have := sized_slice hsz (j := 1) (t := 34) (e := 3) rfl rfl Try.underlying34
      rw [show Try.prog.bytesOf 3 = 8 by kernel_rfl] at this
      simp only [reachBytes] at this
      omega
  refine (RendFlips_walk W a0 w0 a1 c1 xs1 rd1 lc1 cm1 wf1 re1).mono fun e W' ⟨he, hb⟩ => ⟨_, he, ?_⟩
  exact law_post laidOut rfl (by kernel_rfl) (by kernel_rfl) Try.underlying4 hW' rfl hb

theorem RendFlips_holds : Rows.RendFlipsSaid :=
  OpenClaim.holds_of_wide 9 Try.f9 rfl rfl rfl rfl rfl rfl rfl ⟨rfl, rfl, rfl, rfl, rfl⟩ rfl rfl rfl rfl rfl (by kernel_rfl) Try.func9 (by kernel_rfl)
    (of_decide_eq_true (by kernel_rfl)) (by unfold Func.isWrapper; first | (rw [if_pos (by decide +kernel)]; kernel_rfl) | (rw [if_neg (by decide +kernel)]; exact ⟨rfl, rfl⟩))
    (fun os started H enc _ => RendFlips_lifted os started H enc)
#print axioms RendFlips_holds

end Go.Proofs.Ytmpbgjnkkapijaa
