/- BoxClamps returns true for every input: a place is brought to the nearest one of a box, and stays where it is, if it is in it. No condition. -/
import Derived.Test.YtdmfcijcecogdaaFrame
import Derived.Test.YtdmfcijcecogdaaAwake5
namespace Go.Proofs.Ytdmfcijcecogdaa
open Go.ChangeShapes Go.WideShapes Go.ChangeAt Go.RowKit
set_option linter.unusedVariables false
set_option linter.unusedSimpArgs false

theorem clamp_in {t l b r : Int} (h : ¬(b ≤ t ∨ r ≤ l)) (x y : Int) : inB t l b r (clampI t b x) (clampI l r y) = true := by
  unfold inB clampI
  simp only [Bool.and_eq_true, decide_eq_true_eq]
  omega
theorem in_clamp {t l b r : Int} (h : ¬(b ≤ t ∨ r ≤ l)) (x y : Int) : inB t l b r x y = (clampI t b x == x && clampI l r y == y) := by
  rw [Bool.eq_iff_iff]
  unfold inB clampI
  simp only [Bool.and_eq_true, decide_eq_true_eq, beq_iff_eq]
  omega

set_option maxHeartbeats 2000000 in
theorem BoxClamps_walk (w : World) (t l b r : Int) (wt : (Lit.int .i64 t).wf = true) (wl : (Lit.int .i64 l).wf = true) (wb : (Lit.int .i64 b).wf = true) (wr : (Lit.int .i64 r).wf = true) (x y : Int) (wx : (Lit.int .i64 x).wf = true) (wy : (Lit.int .i64 y).wf = true) :
    Calls Try.prog 11 #[.agg #[.int .i64 t, .int .i64 l, .int .i64 b, .int .i64 r], .agg #[.int .i64 x, .int .i64 y]] w (Gives w (.bool true)) := by
  by_cases hs : (-1000000 ≤ t ∧ t ≤ 1000000) ∧ (-1000000 ≤ l ∧ l ≤ 1000000) ∧ (-1000000 ≤ b ∧ b ≤ 1000000) ∧ (-1000000 ≤ r ∧ r ≤ 1000000)
  · have c0 := fun w' => small_c t l b r w'
    rw [decide_eq_true hs] at c0
    have c1 := fun w' => clamp_c t l b r x y w' hs.2.2.1 hs.2.2.2
    have c2 := fun w' => clamp_r t l b r x y w' hs.2.2.1 hs.2.2.2
    have c3 := fun w' => size_c t l b r w' hs.1 hs.2.1 hs.2.2.1 hs.2.2.2
    have e0 := fun w' => empty_c t l b r w'
    by_cases he : b ≤ t ∨ r ≤ l
    · simp only [if_pos he] at c1 c2 c3
      rw [show (decide (b ≤ t) || decide (r ≤ l)) = true by simpa using he] at e0
      have C0 := Lib.hid c0
      have C1 := Lib.hid c1
      have C2 := Lib.hid c2
      have C3 := Lib.hid c3
      have E0 := Lib.hid e0
      clear c0 c1 c2 c3 e0 hs he
      go_enter Try.func11, Try.ntmps11
      go_wp2_with (first
        | (go_at_call 28; ((with_reducible refine (awake5 _).mono ?_); rintro _ _ hgets; obtain ⟨rfl, _, rfl⟩ := hgets.get; clear hgets))
        | (go_at_call 31; ((with_reducible refine (C0.out _).mono ?_); rintro _ _ hgets; obtain ⟨rfl, _, rfl⟩ := hgets.get; clear hgets))
        | (go_at_call 43; ((with_reducible refine (C1.out _).mono ?_); rintro _ _ hgets; obtain ⟨rfl, _, rfl⟩ := hgets.get; clear hgets))
        | (go_at_call 45; ((with_reducible refine (C2.out _).mono ?_); rintro _ _ hgets; obtain ⟨rfl, _, rfl⟩ := hgets.get; clear hgets))
        | (go_at_call 44; ((with_reducible refine (C3.out _).mono ?_); rintro _ _ hgets; obtain ⟨rfl, _, rfl⟩ := hgets.get; clear hgets))
        | (go_at_call 35; ((with_reducible refine (E0.out _).mono ?_); rintro _ _ hgets; obtain ⟨rfl, _, rfl⟩ := hgets.get; clear hgets)))
      (refine wp_region_free (by kernel_rfl) (by kernel_rfl) ?_)
      repeat (go_big_quiet_step (first | ((go_at_call 45; with_reducible exact Calls.free (C2.out _))) | ((go_at_call 35; with_reducible exact Calls.free (E0.out _)))))
      refine wpQuiet_nil ?_; rintro _ ⟨x2, rfl⟩
      go_wp2_with (first
        | (go_at_call 28; ((with_reducible refine (awake5 _).mono ?_); rintro _ _ hgets; obtain ⟨rfl, _, rfl⟩ := hgets.get; clear hgets))
        | (go_at_call 31; ((with_reducible refine (C0.out _).mono ?_); rintro _ _ hgets; obtain ⟨rfl, _, rfl⟩ := hgets.get; clear hgets))
        | (go_at_call 43; ((with_reducible refine (C1.out _).mono ?_); rintro _ _ hgets; obtain ⟨rfl, _, rfl⟩ := hgets.get; clear hgets))
        | (go_at_call 45; ((with_reducible refine (C2.out _).mono ?_); rintro _ _ hgets; obtain ⟨rfl, _, rfl⟩ := hgets.get; clear hgets))
        | (go_at_call 44; ((with_reducible refine (C3.out _).mono ?_); rintro _ _ hgets; obtain ⟨rfl, _, rfl⟩ := hgets.get; clear hgets))
        | (go_at_call 35; ((with_reducible refine (E0.out _).mono ?_); rintro _ _ hgets; obtain ⟨rfl, _, rfl⟩ := hgets.get; clear hgets)))
      all_goals go_returns
      all_goals refine ⟨?_, by (repeat' (first | (with_reducible exact Below.refl _ _) | (with_reducible refine Below.alloc ?_ ?_ _) | (with_reducible refine below_ext ?_ ?_ _) | (with_reducible refine Below.drew ?_) | (with_reducible refine below_drewN ?_ _) | (with_reducible refine Below.setCell ?_ ?_ _) | go_size | (simp only [go_sem]; omega) | (simp [go_sem]; done) | (simp [go_sem]; omega)))⟩
      all_goals rfl
    · simp only [if_neg he] at c1 c2 c3
      rw [show (decide (b ≤ t) || decide (r ≤ l)) = false by simpa using he] at e0
      have i0 := fun w' => in_c t l b r (clampI t b x) (clampI l r y) w'
      rw [clamp_in he] at i0
      have i1 := fun w' => in_c t l b r x y w'
      rw [in_clamp he] at i1
      have n1 : (b - t == 0) = false := by simp; omega
      have n2 : (r - l == 0) = false := by simp; omega
      by_cases hx : clampI t b x = x
      · by_cases hy : clampI l r y = y
        · rw [hx, hy] at c1 c2 i0
          rw [hx, hy, beq_self_eq_true, beq_self_eq_true] at i1
          clear hx hy
          have C0 := Lib.hid c0
          have C1 := Lib.hid c1
          have C2 := Lib.hid c2
          have C3 := Lib.hid c3
          have E0 := Lib.hid e0
          have I0 := Lib.hid i0
          have I1 := Lib.hid i1
          obtain ⟨⟨_, _⟩, ⟨_, _⟩, ⟨_, _⟩, ⟨_, _⟩⟩ := hs
          clear c0 c1 c2 c3 e0 i0 i1 he
          go_enter Try.func11, Try.ntmps11
          go_wp2_with (first
            | (go_at_call 28; ((with_reducible refine (awake5 _).mono ?_); rintro _ _ hgets; obtain ⟨rfl, _, rfl⟩ := hgets.get; clear hgets))
            | (go_at_call 31; ((with_reducible refine (C0.out _).mono ?_); rintro _ _ hgets; obtain ⟨rfl, _, rfl⟩ := hgets.get; clear hgets))
            | (go_at_call 43; ((with_reducible refine (C1.out _).mono ?_); rintro _ _ hgets; obtain ⟨rfl, _, rfl⟩ := hgets.get; clear hgets))
            | (go_at_call 45; ((with_reducible refine (C2.out _).mono ?_); rintro _ _ hgets; obtain ⟨rfl, _, rfl⟩ := hgets.get; clear hgets))
            | (go_at_call 44; ((with_reducible refine (C3.out _).mono ?_); rintro _ _ hgets; obtain ⟨rfl, _, rfl⟩ := hgets.get; clear hgets))
            | (go_at_call 35; ((with_reducible refine (E0.out _).mono ?_); rintro _ _ hgets; obtain ⟨rfl, _, rfl⟩ := hgets.get; clear hgets)))
          (refine wp_region_free (by kernel_rfl) (by kernel_rfl) ?_)
          repeat (go_big_quiet_step (first | ((go_at_call 45; with_reducible exact Calls.free (C2.out _))) | ((go_at_call 35; with_reducible exact Calls.free (E0.out _)))))
          refine wpQuiet_nil ?_; rintro _ ⟨x2, rfl⟩
          go_wp2_with (first
            | (go_at_call 28; ((with_reducible refine (awake5 _).mono ?_); rintro _ _ hgets; obtain ⟨rfl, _, rfl⟩ := hgets.get; clear hgets))
            | (go_at_call 31; ((with_reducible refine (C0.out _).mono ?_); rintro _ _ hgets; obtain ⟨rfl, _, rfl⟩ := hgets.get; clear hgets))
            | (go_at_call 43; ((with_reducible refine (C1.out _).mono ?_); rintro _ _ hgets; obtain ⟨rfl, _, rfl⟩ := hgets.get; clear hgets))
            | (go_at_call 45; ((with_reducible refine (C2.out _).mono ?_); rintro _ _ hgets; obtain ⟨rfl, _, rfl⟩ := hgets.get; clear hgets))
            | (go_at_call 44; ((with_reducible refine (C3.out _).mono ?_); rintro _ _ hgets; obtain ⟨rfl, _, rfl⟩ := hgets.get; clear hgets))
            | (go_at_call 35; ((with_reducible refine (E0.out _).mono ?_); rintro _ _ hgets; obtain ⟨rfl, _, rfl⟩ := hgets.get; clear hgets)))
          (refine wp_region_free (by kernel_rfl) (by kernel_rfl) ?_)
          repeat (go_big_quiet_step (first | ((go_at_call 40; with_reducible exact Calls.free (I0.out _))) | ((go_at_call 40; with_reducible exact Calls.free (I1.out _)))))
          refine wpQuiet_nil ?_; rintro _ ⟨x3, rfl⟩
          go_wp2
          all_goals go_returns
          all_goals refine ⟨?_, by (repeat' (first | (with_reducible exact Below.refl _ _) | (with_reducible refine Below.alloc ?_ ?_ _) | (with_reducible refine below_ext ?_ ?_ _) | (with_reducible refine Below.drew ?_) | (with_reducible refine below_drewN ?_ _) | (with_reducible refine Below.setCell ?_ ?_ _) | go_size | (simp only [go_sem]; omega) | (simp [go_sem]; done) | (simp [go_sem]; omega)))⟩
          all_goals rfl
        · rw [hx] at c1 c2 i0
          rw [hx, beq_self_eq_true, beq_eq_false_iff_ne.2 hy] at i1
          clear hx
          have C0 := Lib.hid c0
          have C1 := Lib.hid c1
          have C2 := Lib.hid c2
          have C3 := Lib.hid c3
          have E0 := Lib.hid e0
          have I0 := Lib.hid i0
          have I1 := Lib.hid i1
          obtain ⟨⟨_, _⟩, ⟨_, _⟩, ⟨_, _⟩, ⟨_, _⟩⟩ := hs
          clear c0 c1 c2 c3 e0 i0 i1 he
          go_enter Try.func11, Try.ntmps11
          go_wp2_with (first
            | (go_at_call 28; ((with_reducible refine (awake5 _).mono ?_); rintro _ _ hgets; obtain ⟨rfl, _, rfl⟩ := hgets.get; clear hgets))
            | (go_at_call 31; ((with_reducible refine (C0.out _).mono ?_); rintro _ _ hgets; obtain ⟨rfl, _, rfl⟩ := hgets.get; clear hgets))
            | (go_at_call 43; ((with_reducible refine (C1.out _).mono ?_); rintro _ _ hgets; obtain ⟨rfl, _, rfl⟩ := hgets.get; clear hgets))
            | (go_at_call 45; ((with_reducible refine (C2.out _).mono ?_); rintro _ _ hgets; obtain ⟨rfl, _, rfl⟩ := hgets.get; clear hgets))
            | (go_at_call 44; ((with_reducible refine (C3.out _).mono ?_); rintro _ _ hgets; obtain ⟨rfl, _, rfl⟩ := hgets.get; clear hgets))
            | (go_at_call 35; ((with_reducible refine (E0.out _).mono ?_); rintro _ _ hgets; obtain ⟨rfl, _, rfl⟩ := hgets.get; clear hgets)))
          (refine wp_region_free (by kernel_rfl) (by kernel_rfl) ?_)
          repeat (go_big_quiet_step (first | ((go_at_call 45; with_reducible exact Calls.free (C2.out _))) | ((go_at_call 35; with_reducible exact Calls.free (E0.out _)))))
          refine wpQuiet_nil ?_; rintro _ ⟨x2, rfl⟩
          go_wp2_with (first
            | (go_at_call 28; ((with_reducible refine (awake5 _).mono ?_); rintro _ _ hgets; obtain ⟨rfl, _, rfl⟩ := hgets.get; clear hgets))
            | (go_at_call 31; ((with_reducible refine (C0.out _).mono ?_); rintro _ _ hgets; obtain ⟨rfl, _, rfl⟩ := hgets.get; clear hgets))
            | (go_at_call 43; ((with_reducible refine (C1.out _).mono ?_); rintro _ _ hgets; obtain ⟨rfl, _, rfl⟩ := hgets.get; clear hgets))
            | (go_at_call 45; ((with_reducible refine (C2.out _).mono ?_); rintro _ _ hgets; obtain ⟨rfl, _, rfl⟩ := hgets.get; clear hgets))
            | (go_at_call 44; ((with_reducible refine (C3.out _).mono ?_); rintro _ _ hgets; obtain ⟨rfl, _, rfl⟩ := hgets.get; clear hgets))
            | (go_at_call 35; ((with_reducible refine (E0.out _).mono ?_); rintro _ _ hgets; obtain ⟨rfl, _, rfl⟩ := hgets.get; clear hgets)))
          (refine wp_region_free (by kernel_rfl) (by kernel_rfl) ?_)
          repeat (go_big_quiet_step (first | ((go_at_call 40; with_reducible exact Calls.free (I0.out _))) | ((go_at_call 40; with_reducible exact Calls.free (I1.out _)))))
          refine wpQuiet_nil ?_; rintro _ ⟨x3, rfl⟩
          go_wp2
          all_goals go_returns
          all_goals refine ⟨?_, by (repeat' (first | (with_reducible exact Below.refl _ _) | (with_reducible refine Below.alloc ?_ ?_ _) | (with_reducible refine below_ext ?_ ?_ _) | (with_reducible refine Below.drew ?_) | (with_reducible refine below_drewN ?_ _) | (with_reducible refine Below.setCell ?_ ?_ _) | go_size | (simp only [go_sem]; omega) | (simp [go_sem]; done) | (simp [go_sem]; omega)))⟩
          all_goals rfl
      · rw [beq_eq_false_iff_ne.2 hx, Bool.false_and] at i1
        have C0 := Lib.hid c0
        have C1 := Lib.hid c1
        have C2 := Lib.hid c2
        have C3 := Lib.hid c3
        have E0 := Lib.hid e0
        have I0 := Lib.hid i0
        have I1 := Lib.hid i1
        obtain ⟨⟨_, _⟩, ⟨_, _⟩, ⟨_, _⟩, ⟨_, _⟩⟩ := hs
        clear c0 c1 c2 c3 e0 i0 i1 he
        go_enter Try.func11, Try.ntmps11
        go_wp2_with (first
          | (go_at_call 28; ((with_reducible refine (awake5 _).mono ?_); rintro _ _ hgets; obtain ⟨rfl, _, rfl⟩ := hgets.get; clear hgets))
          | (go_at_call 31; ((with_reducible refine (C0.out _).mono ?_); rintro _ _ hgets; obtain ⟨rfl, _, rfl⟩ := hgets.get; clear hgets))
          | (go_at_call 43; ((with_reducible refine (C1.out _).mono ?_); rintro _ _ hgets; obtain ⟨rfl, _, rfl⟩ := hgets.get; clear hgets))
          | (go_at_call 45; ((with_reducible refine (C2.out _).mono ?_); rintro _ _ hgets; obtain ⟨rfl, _, rfl⟩ := hgets.get; clear hgets))
          | (go_at_call 44; ((with_reducible refine (C3.out _).mono ?_); rintro _ _ hgets; obtain ⟨rfl, _, rfl⟩ := hgets.get; clear hgets))
          | (go_at_call 35; ((with_reducible refine (E0.out _).mono ?_); rintro _ _ hgets; obtain ⟨rfl, _, rfl⟩ := hgets.get; clear hgets)))
        (refine wp_region_free (by kernel_rfl) (by kernel_rfl) ?_)
        repeat (go_big_quiet_step (first | ((go_at_call 45; with_reducible exact Calls.free (C2.out _))) | ((go_at_call 35; with_reducible exact Calls.free (E0.out _)))))
        refine wpQuiet_nil ?_; rintro _ ⟨x2, rfl⟩
        go_wp2_with (first
          | (go_at_call 28; ((with_reducible refine (awake5 _).mono ?_); rintro _ _ hgets; obtain ⟨rfl, _, rfl⟩ := hgets.get; clear hgets))
          | (go_at_call 31; ((with_reducible refine (C0.out _).mono ?_); rintro _ _ hgets; obtain ⟨rfl, _, rfl⟩ := hgets.get; clear hgets))
          | (go_at_call 43; ((with_reducible refine (C1.out _).mono ?_); rintro _ _ hgets; obtain ⟨rfl, _, rfl⟩ := hgets.get; clear hgets))
          | (go_at_call 45; ((with_reducible refine (C2.out _).mono ?_); rintro _ _ hgets; obtain ⟨rfl, _, rfl⟩ := hgets.get; clear hgets))
          | (go_at_call 44; ((with_reducible refine (C3.out _).mono ?_); rintro _ _ hgets; obtain ⟨rfl, _, rfl⟩ := hgets.get; clear hgets))
          | (go_at_call 35; ((with_reducible refine (E0.out _).mono ?_); rintro _ _ hgets; obtain ⟨rfl, _, rfl⟩ := hgets.get; clear hgets)))
        (refine wp_region_free (by kernel_rfl) (by kernel_rfl) ?_)
        repeat (go_big_quiet_step (first | ((go_at_call 40; with_reducible exact Calls.free (I0.out _))) | ((go_at_call 40; with_reducible exact Calls.free (I1.out _)))))
        refine wpQuiet_nil ?_; rintro _ ⟨x3, rfl⟩
        go_wp2
        all_goals go_returns
        all_goals refine ⟨?_, by (repeat' (first | (with_reducible exact Below.refl _ _) | (with_reducible refine Below.alloc ?_ ?_ _) | (with_reducible refine below_ext ?_ ?_ _) | (with_reducible refine Below.drew ?_) | (with_reducible refine below_drewN ?_ _) | (with_reducible refine Below.setCell ?_ ?_ _) | go_size | (simp only [go_sem]; omega) | (simp [go_sem]; done) | (simp [go_sem]; omega)))⟩
        all_goals rfl
  · have c0 := fun w' => small_c t l b r w'
    rw [decide_eq_false hs] at c0
    have C0 := Lib.hid c0
    clear c0 hs
    go_enter Try.func11, Try.ntmps11
    go_wp2_with (first
      | (go_at_call 28; ((with_reducible refine (awake5 _).mono ?_); rintro _ _ hgets; obtain ⟨rfl, _, rfl⟩ := hgets.get; clear hgets))
      | (go_at_call 31; ((with_reducible refine (C0.out _).mono ?_); rintro _ _ hgets; obtain ⟨rfl, _, rfl⟩ := hgets.get; clear hgets)))
    go_returns
    exact ⟨rfl, by (repeat' (first | (with_reducible exact Below.refl _ _) | (with_reducible refine Below.alloc ?_ ?_ _) | (with_reducible refine below_ext ?_ ?_ _) | (with_reducible refine Below.drew ?_) | (with_reducible refine below_drewN ?_ _) | (with_reducible refine Below.setCell ?_ ?_ _) | go_size | (simp only [go_sem]; omega) | (simp [go_sem]; done) | (simp [go_sem]; omega)))⟩

set_option maxRecDepth 100000 in
theorem BoxClamps_lifted (os : Os) (started : os.Started) (H : Type) (enc : TypeId × Value → H) :
    ReturnsInHanded {} Try.checked os 11 .any (Rows.boxClampsSpec.pre6 enc Try.prog Try.f11 Rows.boxClampsRow.domain false) (Rows.boxClampsSpec.post enc Try.prog Try.f11 false true false false) := by
  refine returnsInHanded_of_change_sized (C := Try.checked) own started (by kernel_rfl) Try.func11
    (ChangeSpec.witness6 (enc := enc) (C := Try.checked) false ⟨#[], #[.agg #[.int .i64 0, .int .i64 0, .int .i64 0, .int .i64 0], .agg #[.int .i64 0, .int .i64 0]], []⟩ 8 (by kernel_rfl) (by kernel_rfl) (by kernel_rfl) (by kernel_rfl)) ?_
  intro W base args ds gs before hval0 hW hcnd hsz0 _
  have hval : ∀ (j : Nat) t v, Try.f11.params[j]? = some t → args[j]? = some v → Value.okWide Try.prog W .any base t v := hval0
  have hsz : (DataW.weightsEach Try.prog (Try.f11.params.toList ++ Rows.boxClampsSpec.plain.varTypes Try.prog) (ds ++ gs)).all (· ≤ reachBytes) = true := hsz0
  have hW' := hW
  obtain ⟨p, q, hA0, hV, rfl, hfz, hnd⟩ := hW
  have hA : DataW.TrodAll enc Try.prog W 0 (fun _ => true) true Try.f11.params.toList args.toList ds p := hA0
  rw [Try.params11] at hA hval hsz
  obtain ⟨v0, vs0, d0, ds0, p0, q0, hargs, rfl, rfl, h0, r0⟩ := trodAll_cons hA
  obtain ⟨v1, vs1, d1, ds1, p1, q1, rfl, rfl, rfl, h1, r1⟩ := trodAll_cons r0
  obtain ⟨rfl, rfl, rfl⟩ := trodAll_nil r1
  obtain rfl : args = #[v0, v1] := by cases args; simp_all
  obtain ⟨rfl, rfl⟩ := trodVars_none hV
  clear hA0 hval0 hsz0
  obtain ⟨bt0, bl0, bb0, br0, rfl, wt0, wl0, wb0, wr0⟩ := open_box (hval 0 50 v0 rfl rfl) h0
  obtain ⟨x1, y1, rfl, wx1, wy1⟩ := open_pos (hval 1 58 v1 rfl rfl) h1
  refine (BoxClamps_walk W bt0 bl0 bb0 br0 wt0 wl0 wb0 wr0 x1 y1 wx1 wy1).mono fun e W' ⟨he, hb⟩ => ⟨_, he, ?_⟩
  exact law_post laidOut rfl (by kernel_rfl) (by kernel_rfl) Try.underlying4 hW' rfl hb

theorem BoxClamps_holds : Rows.BoxClampsSaid :=
  OpenClaim.holds_of_wide 11 Try.f11 rfl rfl rfl rfl rfl rfl rfl ⟨rfl, rfl, rfl, rfl, rfl⟩ rfl rfl rfl rfl rfl (by kernel_rfl) Try.func11 (by kernel_rfl)
    (of_decide_eq_true (by kernel_rfl)) (by unfold Func.isWrapper; first | (rw [if_pos (by decide +kernel)]; kernel_rfl) | (rw [if_neg (by decide +kernel)]; exact ⟨rfl, rfl⟩))
    (fun os started H enc _ => BoxClamps_lifted os started H enc)
#print axioms BoxClamps_holds

end Go.Proofs.Ytdmfcijcecogdaa
