/- BoxRects returns true for every input: a rectangle that is told by numbers lies within its frame, just where the document says. No condition. -/
import Derived.Test.YtdmfcijcecogdaaFrame
import Derived.Test.YtdmfcijcecogdaaRectLaws
namespace Go.Proofs.Ytdmfcijcecogdaa
open Go.ChangeShapes Go.WideShapes Go.ChangeAt Go.RowKit
set_option linter.unusedVariables false
set_option linter.unusedSimpArgs false

set_option maxHeartbeats 2000000 in
theorem BoxRects_walk (w : World) (t l b r : Int) (wt : (Lit.int .i64 t).wf = true) (wl : (Lit.int .i64 l).wf = true) (wb : (Lit.int .i64 b).wf = true) (wr : (Lit.int .i64 r).wf = true) (a : Option Addr) (c : Nat) (xs : List Int) (rd : Rd (encI .i64) 1 w a xs) (lc : xs.length ≤ c) (cm : c ≤ maxLen) (wf : ∀ n ∈ xs, (Lit.int .i64 n).wf = true) (re : c * 8 ≤ 140737488351232) (i : Int) (wi : (Lit.int .i64 i).wf = true) :
    Calls Try.prog 8 #[.agg #[.int .i64 t, .int .i64 l, .int .i64 b, .int .i64 r], .slice a xs.length c, .int .i64 i] w (Gives w (.bool true)) := by
  unfold maxLen at cm
  have X := Lib.hid rd
  have WF := Lib.hid (wf_le wf)
  clear rd wf
  by_cases hs : (-1000000 ≤ t ∧ t ≤ 1000000) ∧ (-1000000 ≤ l ∧ l ≤ 1000000) ∧ (-1000000 ≤ b ∧ b ≤ 1000000) ∧ (-1000000 ≤ r ∧ r ≤ 1000000)
  · have c0 := fun w' => small_c t l b r w'
    rw [decide_eq_true hs] at c0
    have C0 := Lib.hid c0
    clear c0
    have c2 := fun w' (h : Ints w' a xs) => rect_r t l b r a c xs i w' hs.1 hs.2.1 hs.2.2.1 hs.2.2.2 h (by omega) WF.out
    have c1 := fun A' c' w' (h : Ints w' A' xs) (h1 : xs.length ≤ c') (h2 : c' ≤ maxLen) => rect_c t l b r A' c' xs i w' hs.1 hs.2.1 hs.2.2.1 hs.2.2.2 h (by omega) h1 (by unfold maxLen at h2; omega) WF.out
    have SI := Lib.hid (fun w' A' c' (h1 : Ints w' A' xs) (h2 : Ints w' a xs) => same_ints A' a c' c xs xs w' h1 h2 (by omega) (by omega))
    clear hs
    by_cases ho : rectOk t l b r xs i = true
    · obtain ⟨x, y, z, u, e, h1, h2, h3, h4, h5, h6, -, -, -, -⟩ := rect_bd ho
      have e0 := fun w' => empty_c x y z u w'
      rw [show (decide (z ≤ x) || decide (u ≤ y)) = false by simp; omega] at e0
      have m0 := fun w' => meet_c x y z u t l b r w'
      rw [meet_self ⟨h1, h2, h3, h4, h5, h6⟩] at m0
      rw [e] at c1 c2
      have C1 := Lib.hid c1
      have C2 := Lib.hid c2
      have E0 := Lib.hid e0
      have M0 := Lib.hid m0
      clear c1 c2 e0 m0 ho e h1 h2 h3 h4 h5 h6
      go_enter Try.func8, Try.ntmps8
      go_wp2_with (first
        | (go_at_call 28; ((with_reducible refine (awake5 _).mono ?_); rintro _ _ hgets; obtain ⟨rfl, x1, rfl⟩ := hgets.get; clear hgets))
        | (go_at_call 31; ((with_reducible refine (C0.out _).mono ?_); rintro _ _ hgets; obtain ⟨rfl, x2, rfl⟩ := hgets.get; clear hgets))
        | (at_builtin
           refine append_rd (U := ext (ext (w.alloc (.cells #[.int .i64 t, .int .i64 l, .int .i64 b, .int .i64 r] 50)) x1) x2) (.tmp 17) (.tmp 18) _ 3 (.int .i64 0) 8 rfl rfl Try.underlying24 int_info rfl (by omega) (encI_len .i64) (encI_one .i64) [] xs _ a c rfl rfl ?_ (Own.new (encI_len .i64) (by simp) rfl #[] rfl (Nat.le_refl _) (by simp [maxLen])) (by repeat (first | exact X.out | exact X | refine Rd.ext ?_ _ | refine Rd.alloc ?_ _ | refine Rd.drew ?_)) (by simp [maxLen]; omega) (by simp; omega) ?_
           · (repeat' (first | (with_reducible exact Below.refl _ _) | (with_reducible refine Below.alloc ?_ ?_ _) | (with_reducible refine below_ext ?_ ?_ _) | (with_reducible refine Below.drew ?_) | (with_reducible refine below_drewN ?_ _) | (with_reducible refine Below.setCell ?_ ?_ _) | go_size | (simp only [go_sem]; omega) | (simp [go_sem]; done) | (simp [go_sem]; omega)))
           intro A' c' x3 zs hz hO))
      rw [List.nil_append] at hz
      subst hz
      obtain ⟨A2, c2, ev, l1, l2⟩ := hO.form
      injection ev with e1 _ e3
      subst e1 e3
      have XI := Lib.hid (hO.rd (encI_len .i64))
      clear hO
      go_wp2_with (first
        | (go_at_call 32; ((with_reducible refine (C1.out _ _ _ (by repeat (first | exact XI.out | exact XI | refine Rd.ext ?_ _ | refine Rd.alloc ?_ _ | refine Rd.drew ?_)) l1 l2).mono ?_); rintro _ _ hgets; obtain ⟨rfl, _, rfl⟩ := hgets.get; clear hgets))
        | (go_at_call 33; ((with_reducible refine (C2.out _ (by repeat (first | exact X.out | exact X | refine Rd.ext ?_ _ | refine Rd.alloc ?_ _ | refine Rd.drew ?_))).mono ?_); rintro _ _ hgets; obtain ⟨rfl, _, rfl⟩ := hgets.get; clear hgets))
        | (go_at_call 34; ((with_reducible refine (SI.out _ _ _ (by repeat (first | exact XI.out | exact XI | refine Rd.ext ?_ _ | refine Rd.alloc ?_ _ | refine Rd.drew ?_)) (by repeat (first | exact X.out | exact X | refine Rd.ext ?_ _ | refine Rd.alloc ?_ _ | refine Rd.drew ?_))).mono ?_); rintro _ _ hgets; obtain ⟨rfl, _, rfl⟩ := hgets.get; clear hgets)))
      (refine wp_region_free (by kernel_rfl) (by kernel_rfl) ?_)
      repeat (go_big_quiet_step (first | ((go_at_call 35; with_reducible exact Calls.free (E0.out _))) | ((go_at_call 36; with_reducible exact Calls.free (M0.out _)))))
      refine wpQuiet_nil ?_; rintro _ ⟨x5, rfl⟩
      go_wp2
      all_goals go_returns
      all_goals refine ⟨?_, by (repeat' (first | (with_reducible exact Below.refl _ _) | (with_reducible refine Below.alloc ?_ ?_ _) | (with_reducible refine below_ext ?_ ?_ _) | (with_reducible refine Below.drew ?_) | (with_reducible refine below_drewN ?_ _) | (with_reducible refine Below.setCell ?_ ?_ _) | go_size | (simp only [go_sem]; omega) | (simp [go_sem]; done) | (simp [go_sem]; omega)))⟩
      all_goals rfl
    · have e : rectV t l b r xs i = .tuple #[.agg #[.int .i64 0, .int .i64 0, .int .i64 0, .int .i64 0], .bool false] := rectV_no (by simpa using ho)
      rw [e] at c1 c2
      have C1 := Lib.hid c1
      have C2 := Lib.hid c2
      clear c1 c2 ho e
      go_enter Try.func8, Try.ntmps8
      go_wp2_with (first
        | (go_at_call 28; ((with_reducible refine (awake5 _).mono ?_); rintro _ _ hgets; obtain ⟨rfl, x1, rfl⟩ := hgets.get; clear hgets))
        | (go_at_call 31; ((with_reducible refine (C0.out _).mono ?_); rintro _ _ hgets; obtain ⟨rfl, x2, rfl⟩ := hgets.get; clear hgets))
        | (at_builtin
           refine append_rd (U := ext (ext (w.alloc (.cells #[.int .i64 t, .int .i64 l, .int .i64 b, .int .i64 r] 50)) x1) x2) (.tmp 17) (.tmp 18) _ 3 (.int .i64 0) 8 rfl rfl Try.underlying24 int_info rfl (by omega) (encI_len .i64) (encI_one .i64) [] xs _ a c rfl rfl ?_ (Own.new (encI_len .i64) (by simp) rfl #[] rfl (Nat.le_refl _) (by simp [maxLen])) (by repeat (first | exact X.out | exact X | refine Rd.ext ?_ _ | refine Rd.alloc ?_ _ | refine Rd.drew ?_)) (by simp [maxLen]; omega) (by simp; omega) ?_
           · (repeat' (first | (with_reducible exact Below.refl _ _) | (with_reducible refine Below.alloc ?_ ?_ _) | (with_reducible refine below_ext ?_ ?_ _) | (with_reducible refine Below.drew ?_) | (with_reducible refine below_drewN ?_ _) | (with_reducible refine Below.setCell ?_ ?_ _) | go_size | (simp only [go_sem]; omega) | (simp [go_sem]; done) | (simp [go_sem]; omega)))
           intro A' c' x3 zs hz hO))
      rw [List.nil_append] at hz
      subst hz
      obtain ⟨A2, c2, ev, l1, l2⟩ := hO.form
      injection ev with e1 _ e3
      subst e1 e3
      have XI := Lib.hid (hO.rd (encI_len .i64))
      clear hO
      go_wp2_with (first
        | (go_at_call 32; ((with_reducible refine (C1.out _ _ _ (by repeat (first | exact XI.out | exact XI | refine Rd.ext ?_ _ | refine Rd.alloc ?_ _ | refine Rd.drew ?_)) l1 l2).mono ?_); rintro _ _ hgets; obtain ⟨rfl, _, rfl⟩ := hgets.get; clear hgets))
        | (go_at_call 33; ((with_reducible refine (C2.out _ (by repeat (first | exact X.out | exact X | refine Rd.ext ?_ _ | refine Rd.alloc ?_ _ | refine Rd.drew ?_))).mono ?_); rintro _ _ hgets; obtain ⟨rfl, _, rfl⟩ := hgets.get; clear hgets))
        | (go_at_call 34; ((with_reducible refine (SI.out _ _ _ (by repeat (first | exact XI.out | exact XI | refine Rd.ext ?_ _ | refine Rd.alloc ?_ _ | refine Rd.drew ?_)) (by repeat (first | exact X.out | exact X | refine Rd.ext ?_ _ | refine Rd.alloc ?_ _ | refine Rd.drew ?_))).mono ?_); rintro _ _ hgets; obtain ⟨rfl, _, rfl⟩ := hgets.get; clear hgets)))
      (refine wp_region_free (by kernel_rfl) (by kernel_rfl) ?_)
      repeat (go_big_quiet_step (fail))
      refine wpQuiet_nil ?_; rintro _ ⟨x5, rfl⟩
      go_wp2
      all_goals go_returns
      all_goals refine ⟨?_, by (repeat' (first | (with_reducible exact Below.refl _ _) | (with_reducible refine Below.alloc ?_ ?_ _) | (with_reducible refine below_ext ?_ ?_ _) | (with_reducible refine Below.drew ?_) | (with_reducible refine below_drewN ?_ _) | (with_reducible refine Below.setCell ?_ ?_ _) | go_size | (simp only [go_sem]; omega) | (simp [go_sem]; done) | (simp [go_sem]; omega)))⟩
      all_goals rfl
  · have c0 := fun w' => small_c t l b r w'
    rw [decide_eq_false hs] at c0
    have C0 := Lib.hid c0
    clear c0 hs
    go_enter Try.func8, Try.ntmps8
    go_wp2_with (first
      | (go_at_call 28; ((with_reducible refine (awake5 _).mono ?_); rintro _ _ hgets; obtain ⟨rfl, _, rfl⟩ := hgets.get; clear hgets))
      | (go_at_call 31; ((with_reducible refine (C0.out _).mono ?_); rintro _ _ hgets; obtain ⟨rfl, _, rfl⟩ := hgets.get; clear hgets)))
    go_returns
    exact ⟨rfl, by (repeat' (first | (with_reducible exact Below.refl _ _) | (with_reducible refine Below.alloc ?_ ?_ _) | (with_reducible refine below_ext ?_ ?_ _) | (with_reducible refine Below.drew ?_) | (with_reducible refine below_drewN ?_ _) | (with_reducible refine Below.setCell ?_ ?_ _) | go_size | (simp only [go_sem]; omega) | (simp [go_sem]; done) | (simp [go_sem]; omega)))⟩

set_option maxRecDepth 100000 in
theorem BoxRects_lifted (os : Os) (started : os.Started) (H : Type) (enc : TypeId × Value → H) :
    ReturnsInHanded {} Try.checked os 8 .any (Rows.boxRectsSpec.pre6 enc Try.prog Try.f8 Rows.boxRectsRow.domain false) (Rows.boxRectsSpec.post enc Try.prog Try.f8 false true false false) := by
  refine returnsInHanded_of_change_sized (C := Try.checked) own started (by kernel_rfl) Try.func8
    (ChangeSpec.witness6 (enc := enc) (C := Try.checked) false ⟨#[], #[.agg #[.int .i64 0, .int .i64 0, .int .i64 0, .int .i64 0], .slice none 0 0, .int .i64 0], []⟩ 8 (by kernel_rfl) (by kernel_rfl) (by kernel_rfl) (by kernel_rfl)) ?_
  intro W base args ds gs before hval0 hW hcnd hsz0 _
  have hval : ∀ (j : Nat) t v, Try.f8.params[j]? = some t → args[j]? = some v → Value.okWide Try.prog W .any base t v := hval0
  have hsz : (DataW.weightsEach Try.prog (Try.f8.params.toList ++ Rows.boxRectsSpec.plain.varTypes Try.prog) (ds ++ gs)).all (· ≤ reachBytes) = true := hsz0
  have hW' := hW
  obtain ⟨p, q, hA0, hV, rfl, hfz, hnd⟩ := hW
  have hA : DataW.TrodAll enc Try.prog W 0 (fun _ => true) true Try.f8.params.toList args.toList ds p := hA0
  rw [Try.params8] at hA hval hsz
  obtain ⟨v0, vs0, d0, ds0, p0, q0, hargs, rfl, rfl, h0, r0⟩ := trodAll_cons hA
  obtain ⟨v1, vs1, d1, ds1, p1, q1, rfl, rfl, rfl, h1, r1⟩ := trodAll_cons r0
  obtain ⟨v2, vs2, d2, ds2, p2, q2, rfl, rfl, rfl, h2, r2⟩ := trodAll_cons r1
  obtain ⟨rfl, rfl, rfl⟩ := trodAll_nil r2
  obtain rfl : args = #[v0, v1, v2] := by cases args; simp_all
  obtain ⟨rfl, rfl⟩ := trodVars_none hV
  clear hA0 hval0 hsz0
  obtain ⟨bt0, bl0, bb0, br0, rfl, wt0, wl0, wb0, wr0⟩ := open_box (hval 0 50 v0 rfl rfl) h0
  obtain ⟨a1, c1, xs1, rfl, rd1, lc1, cm1, wf1, dd1⟩ := open_ints_rd Try.underlying24 Try.underlying3 (by kernel_rfl) (okWide_slice Try.underlying24 (hval 1 24 v1 rfl rfl)) h1
  have re1 : c1 * 8 ≤ 140737488351232 := by
    rcases dd1 with ⟨-, e⟩ | ⟨es, sp, rfl, e⟩
    · omega
    · have := sized_slice hsz (j := 1) (t := 24) (e := 3) rfl rfl Try.underlying24
      rw [show Try.prog.bytesOf 3 = 8 by kernel_rfl] at this
      simp only [reachBytes] at this
      omega
  obtain ⟨a2, rfl, -, -, w2⟩ := open_int Try.underlying3 (hval 2 3 v2 rfl rfl) h2
  refine (BoxRects_walk W bt0 bl0 bb0 br0 wt0 wl0 wb0 wr0 a1 c1 xs1 rd1 lc1 cm1 wf1 re1 a2 w2).mono fun e W' ⟨he, hb⟩ => ⟨_, he, ?_⟩
  exact law_post laidOut rfl (by kernel_rfl) (by kernel_rfl) Try.underlying4 hW' rfl hb

theorem BoxRects_holds : Rows.BoxRectsSaid :=
  OpenClaim.holds_of_wide 8 Try.f8 rfl rfl rfl rfl rfl rfl rfl ⟨rfl, rfl, rfl, rfl, rfl⟩ rfl rfl rfl rfl rfl (by kernel_rfl) Try.func8 (by kernel_rfl)
    (of_decide_eq_true (by kernel_rfl)) (by unfold Func.isWrapper; first | (rw [if_pos (by decide +kernel)]; kernel_rfl) | (rw [if_neg (by decide +kernel)]; exact ⟨rfl, rfl⟩))
    (fun os started H enc _ => BoxRects_lifted os started H enc)
#print axioms BoxRects_holds

end Go.Proofs.Ytdmfcijcecogdaa
