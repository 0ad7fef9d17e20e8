/- BoxMeets returns true for every input: what two boxes both have is a box, and a place is in it just if it is in both. No condition. -/
import Derived.Test.YtdmfcijcecogdaaFrame
import Derived.Test.YtdmfcijcecogdaaAwake5
namespace Go.Proofs.Ytdmfcijcecogdaa
open Go.ChangeShapes Go.WideShapes Go.ChangeAt Go.RowKit
set_option linter.unusedVariables false
set_option linter.unusedSimpArgs false

set_option maxHeartbeats 2000000 in
theorem BoxMeets_walk (w : World) (t l b r : Int) (wt : (Lit.int .i64 t).wf = true) (wl : (Lit.int .i64 l).wf = true) (wb : (Lit.int .i64 b).wf = true) (wr : (Lit.int .i64 r).wf = true) (t' l' b' r' : Int) (wt' : (Lit.int .i64 t').wf = true) (wl' : (Lit.int .i64 l').wf = true) (wb' : (Lit.int .i64 b').wf = true) (wr' : (Lit.int .i64 r').wf = true) (x y : Int) (wx : (Lit.int .i64 x).wf = true) (wy : (Lit.int .i64 y).wf = true) :
    Calls Try.prog 10 #[.agg #[.int .i64 t, .int .i64 l, .int .i64 b, .int .i64 r], .agg #[.int .i64 t', .int .i64 l', .int .i64 b', .int .i64 r'], .agg #[.int .i64 x, .int .i64 y]] w (Gives w (.bool true)) := by
  have c1 := fun w' => meet_c t l b r t' l' b' r' w'
  have c2 := fun w' => meet_r t l b r t' l' b' r' w'
  have c3 := fun w' => meet_c t' l' b' r' t l b r w'
  obtain ⟨m1, m2, m3, m4, hm, e1, e2, ein, eaw⟩ : ∃ m1 m2 m3 m4 : Int, meetV t l b r t' l' b' r' = .agg #[.int .i64 m1, .int .i64 m2, .int .i64 m3, .int .i64 m4] ∧ meetV t' l' b' r' t l b r = .agg #[.int .i64 m1, .int .i64 m2, .int .i64 m3, .int .i64 m4] ∧
      meetV m1 m2 m3 m4 t l b r = .agg #[.int .i64 m1, .int .i64 m2, .int .i64 m3, .int .i64 m4] ∧
      (¬ (m3 ≤ m1 ∨ m4 ≤ m2) → inB m1 m2 m3 m4 x y = (inB t l b r x y && inB t' l' b' r' x y)) ∧ ((m3 ≤ m1 ∨ m4 ≤ m2) → (inB t l b r x y && inB t' l' b' r' x y) = false) := by
    by_cases h : (b ≤ t ∨ r ≤ l) ∨ (b' ≤ t' ∨ r' ≤ l') ∨ (min b b' ≤ max t t' ∨ min r r' ≤ max l l')
    · refine ⟨0, 0, 0, 0, ?_, ?_, ?_, fun h' => absurd (.inl (by omega)) h', fun _ => ?_⟩
      · unfold meetV meetI; simp only [if_pos h]
      · unfold meetV meetI
        simp only [if_pos (show (b' ≤ t' ∨ r' ≤ l') ∨ (b ≤ t ∨ r ≤ l) ∨ (min b' b ≤ max t' t ∨ min r' r ≤ max l' l) by omega)]
      · unfold meetV meetI
        simp only [if_pos (show ((0 : Int) ≤ 0 ∨ (0 : Int) ≤ 0) ∨ (b ≤ t ∨ r ≤ l) ∨ (min 0 b ≤ max 0 t ∨ min 0 r ≤ max 0 l) by omega)]
      · unfold inB
        rw [← Bool.not_eq_true]
        simp only [Bool.and_eq_true, decide_eq_true_eq]
        omega
    · refine ⟨max t t', max l l', min b b', min r r', ?_, ?_, ?_, fun h' => ?_, fun h' => ?_⟩
      · unfold meetV meetI; simp only [if_neg h]
      · unfold meetV meetI
        simp only [if_neg (show ¬ ((b' ≤ t' ∨ r' ≤ l') ∨ (b ≤ t ∨ r ≤ l) ∨ (min b' b ≤ max t' t ∨ min r' r ≤ max l' l)) by omega)]
        exact agg4_eq (by omega) (by omega) (by omega) (by omega)
      · unfold meetV meetI
        simp only [if_neg (show ¬ ((min b b' ≤ max t t' ∨ min r r' ≤ max l l') ∨ (b ≤ t ∨ r ≤ l) ∨ (min (min b b') b ≤ max (max t t') t ∨ min (min r r') r ≤ max (max l l') l)) by omega)]
        exact agg4_eq (by omega) (by omega) (by omega) (by omega)
      · unfold inB
        rw [Bool.eq_iff_iff]
        simp only [Bool.and_eq_true, decide_eq_true_eq]
        omega
      · omega
  rw [hm] at c1 c2
  rw [e1] at c3
  have c4 := fun w' => meet_c m1 m2 m3 m4 t l b r w'
  rw [e2] at c4
  have C1 := Lib.hid c1
  have C2 := Lib.hid c2
  have C3 := Lib.hid c3
  have C4 := Lib.hid c4
  clear c1 c2 c3 c4 hm e1 e2
  have wh := fun w' => whole_c x y w'
  rw [Int.max_comm 0 x, Int.max_comm 0 y] at wh
  have WH := Lib.hid wh
  clear wh
  by_cases he : m3 ≤ m1 ∨ m4 ≤ m2
  · have e0 := fun w' => empty_c m1 m2 m3 m4 w'
    rw [show (decide (m3 ≤ m1) || decide (m4 ≤ m2)) = true by simpa using he] at e0
    have E0 := Lib.hid e0
    replace eaw := eaw he
    clear e0 ein he
    rcases Bool.eq_false_or_eq_true (inB t l b r x y) with hA | hA <;> rcases Bool.eq_false_or_eq_true (inB t' l' b' r' x y) with hB | hB
    · rw [hA, hB] at eaw; simp at eaw
    all_goals
      have a0 := fun w' => in_c t l b r x y w'
      have b0 := fun w' => in_c t' l' b' r' x y w'
      have a1 := fun w' => in_r t l b r x y w'
      rw [hA] at a0 a1
      rw [hB] at b0
      have A := Lib.hid a0
      have B := Lib.hid b0
      have A1 := Lib.hid a1
      clear a0 b0 a1 hA hB eaw
      go_enter Try.func10, Try.ntmps10
      go_wp2_with (first
        | (go_at_call 28; ((with_reducible refine (awake5 _).mono ?_); rintro _ _ hgets; obtain ⟨rfl, _, rfl⟩ := hgets.get; clear hgets))
        | (go_at_call 36; ((with_reducible refine (C1.out _).mono ?_); rintro _ _ hgets; obtain ⟨rfl, _, rfl⟩ := hgets.get; clear hgets)))
      (refine wp_region_free (by kernel_rfl) (by kernel_rfl) ?_)
      repeat (go_big_quiet_step (first | ((go_at_call 38; with_reducible exact Calls.free (C2.out _))) | ((go_at_call 36; with_reducible exact Calls.free (C3.out _))) | ((go_at_call 36; with_reducible exact Calls.free (C4.out _))) | ((go_at_call 35; with_reducible exact Calls.free (E0.out _))) | ((go_at_call 40; with_reducible exact Calls.free (A.out _))) | ((go_at_call 40; with_reducible exact Calls.free (B.out _))) | ((go_at_call 42; with_reducible exact Calls.free (whole_c _ _ _))) | ((go_at_call 35; with_reducible exact Calls.free (empty_c _ _ _ _ _))) | ((go_at_call 39; with_reducible exact Calls.free (empty_r _ _ _ _ _))) | ((go_at_call 41; with_reducible exact Calls.free (A1.out _)))))
      refine wpQuiet_nil ?_; rintro _ ⟨x2, rfl⟩
      go_wp2
      (refine wp_region_free (by kernel_rfl) (by kernel_rfl) ?_)
      repeat (go_big_quiet_step (first | ((go_at_call 38; with_reducible exact Calls.free (C2.out _))) | ((go_at_call 36; with_reducible exact Calls.free (C3.out _))) | ((go_at_call 36; with_reducible exact Calls.free (C4.out _))) | ((go_at_call 35; with_reducible exact Calls.free (E0.out _))) | ((go_at_call 40; with_reducible exact Calls.free (A.out _))) | ((go_at_call 40; with_reducible exact Calls.free (B.out _))) | ((go_at_call 42; with_reducible exact Calls.free (whole_c _ _ _))) | ((go_at_call 35; with_reducible exact Calls.free (empty_c _ _ _ _ _))) | ((go_at_call 39; with_reducible exact Calls.free (empty_r _ _ _ _ _))) | ((go_at_call 41; with_reducible exact Calls.free (A1.out _)))))
      refine wpQuiet_nil ?_; rintro _ ⟨x3, rfl⟩
      go_wp2
      (refine wp_region_free (by kernel_rfl) (by kernel_rfl) ?_)
      repeat (go_big_quiet_step (first | ((go_at_call 36; with_reducible exact Calls.free (C3.out _))) | ((go_at_call 36; with_reducible exact Calls.free (C4.out _))) | ((go_at_call 42; with_reducible exact Calls.free (WH.out _)))))
      refine wpQuiet_nil ?_; rintro _ ⟨x4, rfl⟩
      go_wp2
      all_goals go_returns
      all_goals refine ⟨?_, by (repeat' (first | (with_reducible exact Below.refl _ _) | (with_reducible refine Below.alloc ?_ ?_ _) | (with_reducible refine below_ext ?_ ?_ _) | (with_reducible refine Below.drew ?_) | (with_reducible refine below_drewN ?_ _) | (with_reducible refine Below.setCell ?_ ?_ _) | go_size | (simp only [go_sem]; omega) | (simp [go_sem]; done) | (simp [go_sem]; omega)))⟩
      all_goals rfl
  · have e0 := fun w' => empty_c m1 m2 m3 m4 w'
    rw [show (decide (m3 ≤ m1) || decide (m4 ≤ m2)) = false by simpa using he] at e0
    have E0 := Lib.hid e0
    have ein' := ein he
    clear e0 ein eaw he
    rcases Bool.eq_false_or_eq_true (inB t l b r x y) with hA | hA <;> rcases Bool.eq_false_or_eq_true (inB t' l' b' r' x y) with hB | hB
    all_goals
      have a0 := fun w' => in_c t l b r x y w'
      have b0 := fun w' => in_c t' l' b' r' x y w'
      have a1 := fun w' => in_r t l b r x y w'
      have v0 := fun w' => in_c m1 m2 m3 m4 x y w'
      rw [hA] at a0 a1
      rw [hB] at b0
      rw [ein', hA, hB] at v0
      simp only [Bool.and_true, Bool.true_and, Bool.and_false, Bool.false_and] at v0
      have A := Lib.hid a0
      have B := Lib.hid b0
      have A1 := Lib.hid a1
      have M := Lib.hid v0
      clear a0 b0 a1 v0 hA hB ein'
      go_enter Try.func10, Try.ntmps10
      go_wp2_with (first
        | (go_at_call 28; ((with_reducible refine (awake5 _).mono ?_); rintro _ _ hgets; obtain ⟨rfl, _, rfl⟩ := hgets.get; clear hgets))
        | (go_at_call 36; ((with_reducible refine (C1.out _).mono ?_); rintro _ _ hgets; obtain ⟨rfl, _, rfl⟩ := hgets.get; clear hgets)))
      (refine wp_region_free (by kernel_rfl) (by kernel_rfl) ?_)
      repeat (go_big_quiet_step (first | ((go_at_call 38; with_reducible exact Calls.free (C2.out _))) | ((go_at_call 36; with_reducible exact Calls.free (C3.out _))) | ((go_at_call 36; with_reducible exact Calls.free (C4.out _))) | ((go_at_call 35; with_reducible exact Calls.free (E0.out _))) | ((go_at_call 40; with_reducible exact Calls.free (A.out _))) | ((go_at_call 40; with_reducible exact Calls.free (B.out _))) | ((go_at_call 40; with_reducible exact Calls.free (M.out _))) | ((go_at_call 42; with_reducible exact Calls.free (whole_c _ _ _))) | ((go_at_call 35; with_reducible exact Calls.free (empty_c _ _ _ _ _))) | ((go_at_call 39; with_reducible exact Calls.free (empty_r _ _ _ _ _))) | ((go_at_call 41; with_reducible exact Calls.free (A1.out _)))))
      refine wpQuiet_nil ?_; rintro _ ⟨x2, rfl⟩
      go_wp2
      (refine wp_region_free (by kernel_rfl) (by kernel_rfl) ?_)
      repeat (go_big_quiet_step (first | ((go_at_call 38; with_reducible exact Calls.free (C2.out _))) | ((go_at_call 36; with_reducible exact Calls.free (C3.out _))) | ((go_at_call 36; with_reducible exact Calls.free (C4.out _))) | ((go_at_call 35; with_reducible exact Calls.free (E0.out _))) | ((go_at_call 40; with_reducible exact Calls.free (A.out _))) | ((go_at_call 40; with_reducible exact Calls.free (B.out _))) | ((go_at_call 40; with_reducible exact Calls.free (M.out _))) | ((go_at_call 42; with_reducible exact Calls.free (whole_c _ _ _))) | ((go_at_call 35; with_reducible exact Calls.free (empty_c _ _ _ _ _))) | ((go_at_call 39; with_reducible exact Calls.free (empty_r _ _ _ _ _))) | ((go_at_call 41; with_reducible exact Calls.free (A1.out _)))))
      refine wpQuiet_nil ?_; rintro _ ⟨x3, rfl⟩
      go_wp2
      (refine wp_region_free (by kernel_rfl) (by kernel_rfl) ?_)
      repeat (go_big_quiet_step (first | ((go_at_call 36; with_reducible exact Calls.free (C3.out _))) | ((go_at_call 36; with_reducible exact Calls.free (C4.out _))) | ((go_at_call 42; with_reducible exact Calls.free (WH.out _)))))
      refine wpQuiet_nil ?_; rintro _ ⟨x4, rfl⟩
      go_wp2
      all_goals go_returns
      all_goals refine ⟨?_, by (repeat' (first | (with_reducible exact Below.refl _ _) | (with_reducible refine Below.alloc ?_ ?_ _) | (with_reducible refine below_ext ?_ ?_ _) | (with_reducible refine Below.drew ?_) | (with_reducible refine below_drewN ?_ _) | (with_reducible refine Below.setCell ?_ ?_ _) | go_size | (simp only [go_sem]; omega) | (simp [go_sem]; done) | (simp [go_sem]; omega)))⟩
      all_goals rfl

set_option maxRecDepth 100000 in
theorem BoxMeets_lifted (os : Os) (started : os.Started) (H : Type) (enc : TypeId × Value → H) :
    ReturnsInHanded {} Try.checked os 10 .any (Rows.boxMeetsSpec.pre6 enc Try.prog Try.f10 Rows.boxMeetsRow.domain false) (Rows.boxMeetsSpec.post enc Try.prog Try.f10 false true false false) := by
  refine returnsInHanded_of_change_sized (C := Try.checked) own started (by kernel_rfl) Try.func10
    (ChangeSpec.witness6 (enc := enc) (C := Try.checked) false ⟨#[], #[.agg #[.int .i64 0, .int .i64 0, .int .i64 0, .int .i64 0], .agg #[.int .i64 0, .int .i64 0, .int .i64 0, .int .i64 0], .agg #[.int .i64 0, .int .i64 0]], []⟩ 8 (by kernel_rfl) (by kernel_rfl) (by kernel_rfl) (by kernel_rfl)) ?_
  intro W base args ds gs before hval0 hW hcnd hsz0 _
  have hval : ∀ (j : Nat) t v, Try.f10.params[j]? = some t → args[j]? = some v → Value.okWide Try.prog W .any base t v := hval0
  have hsz : (DataW.weightsEach Try.prog (Try.f10.params.toList ++ Rows.boxMeetsSpec.plain.varTypes Try.prog) (ds ++ gs)).all (· ≤ reachBytes) = true := hsz0
  have hW' := hW
  obtain ⟨p, q, hA0, hV, rfl, hfz, hnd⟩ := hW
  have hA : DataW.TrodAll enc Try.prog W 0 (fun _ => true) true Try.f10.params.toList args.toList ds p := hA0
  rw [Try.params10] at hA hval hsz
  obtain ⟨v0, vs0, d0, ds0, p0, q0, hargs, rfl, rfl, h0, r0⟩ := trodAll_cons hA
  obtain ⟨v1, vs1, d1, ds1, p1, q1, rfl, rfl, rfl, h1, r1⟩ := trodAll_cons r0
  obtain ⟨v2, vs2, d2, ds2, p2, q2, rfl, rfl, rfl, h2, r2⟩ := trodAll_cons r1
  obtain ⟨rfl, rfl, rfl⟩ := trodAll_nil r2
  obtain rfl : args = #[v0, v1, v2] := by cases args; simp_all
  obtain ⟨rfl, rfl⟩ := trodVars_none hV
  clear hA0 hval0 hsz0
  obtain ⟨bt0, bl0, bb0, br0, rfl, wt0, wl0, wb0, wr0⟩ := open_box (hval 0 50 v0 rfl rfl) h0
  obtain ⟨bt1, bl1, bb1, br1, rfl, wt1, wl1, wb1, wr1⟩ := open_box (hval 1 50 v1 rfl rfl) h1
  obtain ⟨x2, y2, rfl, wx2, wy2⟩ := open_pos (hval 2 58 v2 rfl rfl) h2
  refine (BoxMeets_walk W bt0 bl0 bb0 br0 wt0 wl0 wb0 wr0 bt1 bl1 bb1 br1 wt1 wl1 wb1 wr1 x2 y2 wx2 wy2).mono fun e W' ⟨he, hb⟩ => ⟨_, he, ?_⟩
  exact law_post laidOut rfl (by kernel_rfl) (by kernel_rfl) Try.underlying4 hW' rfl hb

theorem BoxMeets_holds : Rows.BoxMeetsSaid :=
  OpenClaim.holds_of_wide 10 Try.f10 rfl rfl rfl rfl rfl rfl rfl ⟨rfl, rfl, rfl, rfl, rfl⟩ rfl rfl rfl rfl rfl (by kernel_rfl) Try.func10 (by kernel_rfl)
    (of_decide_eq_true (by kernel_rfl)) (by unfold Func.isWrapper; first | (rw [if_pos (by decide +kernel)]; kernel_rfl) | (rw [if_neg (by decide +kernel)]; exact ⟨rfl, rfl⟩))
    (fun os started H enc _ => BoxMeets_lifted os started H enc)
#print axioms BoxMeets_holds

end Go.Proofs.Ytdmfcijcecogdaa
