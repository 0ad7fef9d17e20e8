/- PhosphorNested returns true for every input: a rectangle within a rectangle lies within the frame of both, and so does every place that is told in it. No condition. -/
import Derived.Test.YtdmfcijcecogdaaRectLaws
namespace Go.Proofs.Ytdmfcijcecogdaa
open Go.ChangeShapes Go.WideShapes Go.ChangeAt Go.RowKit
set_option linter.unusedVariables false
set_option linter.unusedSimpArgs false

theorem inB_place {x y z u : Int} (m n : Int) (h1 : x < z) (h2 : y < u) : inB x y z u (placeI x z m) (placeI y u n) = true := by
  unfold inB placeI
  simp only [Bool.and_eq_true, decide_eq_true_eq]
  omega
theorem cl3 (n lo hi : Int) (h : lo ≤ hi) : lo ≤ (if n < lo then lo else if hi < n then hi else n) ∧ (if n < lo then lo else if hi < n then hi else n) ≤ hi := by
  (repeat' split) <;> omega

set_option maxRecDepth 100000 in
set_option maxHeartbeats 4000000 in
theorem PhosphorNested_walk (w : World) (t l b r : Int) (wt : (Lit.int .i64 t).wf = true) (wl : (Lit.int .i64 l).wf = true) (wb : (Lit.int .i64 b).wf = true) (wr : (Lit.int .i64 r).wf = true) (a : Option Addr) (c : Nat) (xs : List Int) (rd : Rd (encI .i64) 1 w a xs) (lc : xs.length ≤ c) (cm : c ≤ maxLen) (wf : ∀ n ∈ xs, (Lit.int .i64 n).wf = true) (re : c * 8 ≤ 140737488351232)
    (a' : Option Addr) (c' : Nat) (ys : List Int) (rd' : Rd (encI .i64) 1 w a' ys) (lc' : ys.length ≤ c') (cm' : c' ≤ maxLen) (wf' : ∀ n ∈ ys, (Lit.int .i64 n).wf = true) (re' : c' * 8 ≤ 140737488351232) :
    Calls Try.prog 13 #[.agg #[.int .i64 t, .int .i64 l, .int .i64 b, .int .i64 r], .slice a xs.length c, .slice a' ys.length c'] w (Gives w (.bool true)) := by
  unfold maxLen at cm cm'
  have X := Lib.hid rd
  have Y := Lib.hid rd'
  have WF := Lib.hid (wf_le wf)
  have WF' := Lib.hid (wf_le wf')
  clear rd wf rd' wf' wt wl wb wr re re'
  have k1 := fun w' => clamp3_r t 0 50 w'
  have k2 := fun w' => clamp3_r l 0 50 w'
  have k3 := fun w' => clamp3_r b 0 99 w'
  have k4 := fun w' => clamp3_r r 0 99 w'
  have q1 := cl3 t 0 50 (by omega)
  have q2 := cl3 l 0 50 (by omega)
  have q3 := cl3 b 0 99 (by omega)
  have q4 := cl3 r 0 99 (by omega)
  generalize (if t < 0 then 0 else if 50 < t then 50 else t) = T at k1 q1
  generalize (if l < 0 then 0 else if 50 < l then 50 else l) = L at k2 q2
  generalize (if b < 0 then 0 else if 99 < b then 99 else b) = B at k3 q3
  generalize (if r < 0 then 0 else if 99 < r then 99 else r) = R at k4 q4
  have K1 := Lib.hid k1
  have K2 := Lib.hid k2
  have K3 := Lib.hid k3
  have K4 := Lib.hid k4
  clear k1 k2 k3 k4
  have d0 : ∀ A' w', Ints w' A' [2, 2] → Calls Try.prog 32 #[.agg #[.int .i64 0, .int .i64 0, .int .i64 3, .int .i64 4], .slice A' 2 2, .int .i64 0] w' (Gives w' (.tuple #[.agg #[.int .i64 1, .int .i64 1, .int .i64 3, .int .i64 4], .bool true])) := by
    intro A' w' h
    exact rect_c 0 0 3 4 A' 2 [2, 2] 0 w' (by omega) (by omega) (by omega) (by omega) h (by simp) (by simp) (by omega) (by intro n hn; simp at hn; omega)
  have D0 := Lib.hid d0
  clear d0
  have c1 := fun w' (h : Ints w' a xs) => rect_c T L B R a c xs 0 w' (by omega) (by omega) (by omega) (by omega) h (by omega) (by omega) (by omega) WF.out
  by_cases ho : rectOk T L B R xs 0 = true
  · obtain ⟨x, y, z, u, e, h1, h2, h3, h4, h5, h6, -, -, -, -⟩ := rect_bd ho
    rw [e] at c1
    have C1 := Lib.hid c1
    clear c1 e ho
    have c2 := fun w' (h : Ints w' a' ys) => rect_c x y z u a' c' ys 0 w' (by omega) (by omega) (by omega) (by omega) h (by omega) (by omega) (by omega) WF'.out
    by_cases ho2 : rectOk x y z u ys 0 = true
    · obtain ⟨x2, y2, z2, u2, e, g1, g2, g3, g4, g5, g6, -, -, -, -⟩ := rect_bd ho2
      rw [e] at c2
      have C2 := Lib.hid c2
      clear c2 e ho2
      have m1 := fun w' => meet_c x2 y2 z2 u2 x y z u w'
      rw [meet_self ⟨g1, g2, g3, g4, g5, g6⟩] at m1
      have m2 := fun w' => meet_c x2 y2 z2 u2 T L B R w'
      rw [meet_self ⟨by omega, g2, by omega, by omega, g5, by omega⟩] at m2
      obtain ⟨X0, Y0, ep, ein, hX, hY⟩ : ∃ X0 Y0 : Int, placeV x2 y2 z2 u2 ys 2 = .agg #[.int .i64 X0, .int .i64 Y0] ∧ inB x2 y2 z2 u2 X0 Y0 = true ∧ (x2 ≤ X0 ∧ X0 < z2) ∧ (y2 ≤ Y0 ∧ Y0 < u2) :=
        ⟨_, _, by unfold placeV; rw [if_neg (by omega)], inB_place _ _ g2 g5, by unfold placeI; omega, by unfold placeI; omega⟩
      have p1 := fun w' (h : Ints w' a' ys) => place_c x2 y2 z2 u2 a' c' ys 2 w' (by omega) (by omega) (by omega) (by omega) h (by omega) (by omega) (by omega)
      rw [ep] at p1
      have i1 := fun w' => in_r x2 y2 z2 u2 X0 Y0 w'
      rw [ein] at i1
      have cl := fun w' => clamp_c T L B R X0 Y0 w' (by omega) (by omega)
      simp only [if_neg (show ¬ (B ≤ T ∨ R ≤ L) by omega), show clampI T B X0 = X0 by unfold clampI; omega, show clampI L R Y0 = Y0 by unfold clampI; omega] at cl
      have M1 := Lib.hid m1
      have M2 := Lib.hid m2
      have P1 := Lib.hid p1
      have I1 := Lib.hid i1
      have CL := Lib.hid cl
      clear m1 m2 p1 i1 cl ep ein
      go_enter Try.func13, Try.ntmps13
      go_wp2_with (first
        | (go_at_call 32; ((with_reducible refine (D0.out _ _ (by exact (Own.new (encI_len .i64) (by simp) rfl _ rfl (Nat.zero_le _) (by simp [maxLen])).rd (encI_len .i64))).mono ?_); rintro _ _ hgets; obtain ⟨rfl, _, rfl⟩ := hgets.get; clear hgets)))
      (refine wp_region_tail 13 (by kernel_rfl) (by kernel_rfl) ?_; simp only [List.take_succ_cons, List.take_zero, List.drop_succ_cons, List.drop_zero])
      repeat (go_big_quiet_step (first | ((go_at_call 47; with_reducible exact Calls.free_same (K1.out _))) | ((go_at_call 47; with_reducible exact Calls.free_same (K2.out _))) | ((go_at_call 47; with_reducible exact Calls.free_same (K3.out _))) | ((go_at_call 47; with_reducible exact Calls.free_same (K4.out _)))))
      refine wpQuiet_nil ?_; rintro _ ⟨x9, rfl⟩
      go_wp2_with (first
        | (go_at_call 32; ((with_reducible refine (C1.out _ (by repeat (first | exact X.out | exact X | refine Rd.ext ?_ _ | refine Rd.alloc ?_ _ | refine Rd.drew ?_))).mono ?_); rintro _ _ hgets; obtain ⟨rfl, _, rfl⟩ := hgets.get; clear hgets))
        | (go_at_call 32; ((with_reducible refine (C2.out _ (by repeat (first | exact Y.out | exact Y | refine Rd.ext ?_ _ | refine Rd.alloc ?_ _ | refine Rd.drew ?_))).mono ?_); rintro _ _ hgets; obtain ⟨rfl, _, rfl⟩ := hgets.get; clear hgets))
        | (go_at_call 37; ((with_reducible refine (P1.out _ (by repeat (first | exact Y.out | exact Y | refine Rd.ext ?_ _ | refine Rd.alloc ?_ _ | refine Rd.drew ?_))).mono ?_); rintro _ _ hgets; obtain ⟨rfl, _, rfl⟩ := hgets.get; clear hgets)))
      (refine wp_region_free (by kernel_rfl) (by kernel_rfl) ?_)
      repeat (go_big_quiet_step (first | ((go_at_call 36; with_reducible exact Calls.free (M1.out _))) | ((go_at_call 36; with_reducible exact Calls.free (M2.out _))) | ((go_at_call 41; with_reducible exact Calls.free (I1.out _))) | ((go_at_call 43; with_reducible exact Calls.free (CL.out _)))))
      refine wpQuiet_nil ?_; rintro _ ⟨x8, rfl⟩
      go_wp2
      all_goals go_returns
      all_goals refine ⟨?_, by (repeat' (first | (with_reducible exact Below.refl _ _) | (with_reducible refine Below.alloc ?_ ?_ _) | (with_reducible refine below_ext ?_ ?_ _) | (with_reducible refine Below.drew ?_) | (with_reducible refine below_drewN ?_ _) | (with_reducible refine Below.setCell ?_ ?_ _) | go_size | (simp only [go_sem]; omega) | (simp [go_sem]; done) | (simp [go_sem]; omega)))⟩
      all_goals rfl
    · have e : rectV x y z u ys 0 = .tuple #[.agg #[.int .i64 0, .int .i64 0, .int .i64 0, .int .i64 0], .bool false] := rectV_no (by simpa using ho2)
      rw [e] at c2
      have C2 := Lib.hid c2
      clear c2 e ho2
      go_enter Try.func13, Try.ntmps13
      go_wp2_with (first
        | (go_at_call 32; ((with_reducible refine (D0.out _ _ (by exact (Own.new (encI_len .i64) (by simp) rfl _ rfl (Nat.zero_le _) (by simp [maxLen])).rd (encI_len .i64))).mono ?_); rintro _ _ hgets; obtain ⟨rfl, _, rfl⟩ := hgets.get; clear hgets)))
      (refine wp_region_tail 13 (by kernel_rfl) (by kernel_rfl) ?_; simp only [List.take_succ_cons, List.take_zero, List.drop_succ_cons, List.drop_zero])
      repeat (go_big_quiet_step (first | ((go_at_call 47; with_reducible exact Calls.free_same (K1.out _))) | ((go_at_call 47; with_reducible exact Calls.free_same (K2.out _))) | ((go_at_call 47; with_reducible exact Calls.free_same (K3.out _))) | ((go_at_call 47; with_reducible exact Calls.free_same (K4.out _)))))
      refine wpQuiet_nil ?_; rintro _ ⟨x9, rfl⟩
      go_wp2_with (first
        | (go_at_call 32; ((with_reducible refine (C1.out _ (by repeat (first | exact X.out | exact X | refine Rd.ext ?_ _ | refine Rd.alloc ?_ _ | refine Rd.drew ?_))).mono ?_); rintro _ _ hgets; obtain ⟨rfl, _, rfl⟩ := hgets.get; clear hgets))
        | (go_at_call 32; ((with_reducible refine (C2.out _ (by repeat (first | exact Y.out | exact Y | refine Rd.ext ?_ _ | refine Rd.alloc ?_ _ | refine Rd.drew ?_))).mono ?_); rintro _ _ hgets; obtain ⟨rfl, _, rfl⟩ := hgets.get; clear hgets)))
      all_goals go_returns
      all_goals refine ⟨?_, by (repeat' (first | (with_reducible exact Below.refl _ _) | (with_reducible refine Below.alloc ?_ ?_ _) | (with_reducible refine below_ext ?_ ?_ _) | (with_reducible refine Below.drew ?_) | (with_reducible refine below_drewN ?_ _) | (with_reducible refine Below.setCell ?_ ?_ _) | go_size | (simp only [go_sem]; omega) | (simp [go_sem]; done) | (simp [go_sem]; omega)))⟩
      all_goals rfl
  · have e : rectV T L B R xs 0 = .tuple #[.agg #[.int .i64 0, .int .i64 0, .int .i64 0, .int .i64 0], .bool false] := rectV_no (by simpa using ho)
    rw [e] at c1
    have C1 := Lib.hid c1
    clear c1 e ho
    have c2 := fun w' (h : Ints w' a' ys) => rect_c 0 0 0 0 a' c' ys 0 w' (by omega) (by omega) (by omega) (by omega) h (by omega) (by omega) (by omega) WF'.out
    have e : rectV 0 0 0 0 ys 0 = .tuple #[.agg #[.int .i64 0, .int .i64 0, .int .i64 0, .int .i64 0], .bool false] := rectV_no (by unfold rectOk; rw [decide_eq_false (by omega)]; rfl)
    rw [e] at c2
    have C2 := Lib.hid c2
    clear c2 e
    go_enter Try.func13, Try.ntmps13
    go_wp2_with (first
      | (go_at_call 32; ((with_reducible refine (D0.out _ _ (by exact (Own.new (encI_len .i64) (by simp) rfl _ rfl (Nat.zero_le _) (by simp [maxLen])).rd (encI_len .i64))).mono ?_); rintro _ _ hgets; obtain ⟨rfl, _, rfl⟩ := hgets.get; clear hgets)))
    (refine wp_region_tail 13 (by kernel_rfl) (by kernel_rfl) ?_; simp only [List.take_succ_cons, List.take_zero, List.drop_succ_cons, List.drop_zero])
    repeat (go_big_quiet_step (first | ((go_at_call 47; with_reducible exact Calls.free_same (K1.out _))) | ((go_at_call 47; with_reducible exact Calls.free_same (K2.out _))) | ((go_at_call 47; with_reducible exact Calls.free_same (K3.out _))) | ((go_at_call 47; with_reducible exact Calls.free_same (K4.out _)))))
    refine wpQuiet_nil ?_; rintro _ ⟨x9, rfl⟩
    go_wp2_with (first
      | (go_at_call 32; ((with_reducible refine (C1.out _ (by repeat (first | exact X.out | exact X | refine Rd.ext ?_ _ | refine Rd.alloc ?_ _ | refine Rd.drew ?_))).mono ?_); rintro _ _ hgets; obtain ⟨rfl, _, rfl⟩ := hgets.get; clear hgets))
      | (go_at_call 32; ((with_reducible refine (C2.out _ (by repeat (first | exact Y.out | exact Y | refine Rd.ext ?_ _ | refine Rd.alloc ?_ _ | refine Rd.drew ?_))).mono ?_); rintro _ _ hgets; obtain ⟨rfl, _, rfl⟩ := hgets.get; clear hgets)))
    all_goals go_returns
    all_goals refine ⟨?_, by (repeat' (first | (with_reducible exact Below.refl _ _) | (with_reducible refine Below.alloc ?_ ?_ _) | (with_reducible refine below_ext ?_ ?_ _) | (with_reducible refine Below.drew ?_) | (with_reducible refine below_drewN ?_ _) | (with_reducible refine Below.setCell ?_ ?_ _) | go_size | (simp only [go_sem]; omega) | (simp [go_sem]; done) | (simp [go_sem]; omega)))⟩
    all_goals rfl

set_option maxRecDepth 100000 in
theorem PhosphorNested_lifted (os : Os) (started : os.Started) (H : Type) (enc : TypeId × Value → H) :
    ReturnsInHanded {} Try.checked os 13 .any (Rows.phosphorNestedSpec.pre6 enc Try.prog Try.f13 Rows.phosphorNestedRow.domain false) (Rows.phosphorNestedSpec.post enc Try.prog Try.f13 false true false false) := by
  refine returnsInHanded_of_change_sized (C := Try.checked) own started (by kernel_rfl) Try.func13
    (ChangeSpec.witness6 (enc := enc) (C := Try.checked) false ⟨#[], #[.agg #[.int .i64 0, .int .i64 0, .int .i64 0, .int .i64 0], .slice none 0 0, .slice none 0 0], []⟩ 8 (by kernel_rfl) (by kernel_rfl) (by kernel_rfl) (by kernel_rfl)) ?_
  intro W base args ds gs before hval0 hW hcnd hsz0 _
  have hval : ∀ (j : Nat) t v, Try.f13.params[j]? = some t → args[j]? = some v → Value.okWide Try.prog W .any base t v := hval0
  have hsz : (DataW.weightsEach Try.prog (Try.f13.params.toList ++ Rows.phosphorNestedSpec.plain.varTypes Try.prog) (ds ++ gs)).all (· ≤ reachBytes) = true := hsz0
  have hW' := hW
  obtain ⟨p, q, hA0, hV, rfl, hfz, hnd⟩ := hW
  have hA : DataW.TrodAll enc Try.prog W 0 (fun _ => true) true Try.f13.params.toList args.toList ds p := hA0
  rw [Try.params13] at hA hval hsz
  obtain ⟨v0, vs0, d0, ds0, p0, q0, hargs, rfl, rfl, h0, r0⟩ := trodAll_cons hA
  obtain ⟨v1, vs1, d1, ds1, p1, q1, rfl, rfl, rfl, h1, r1⟩ := trodAll_cons r0
  obtain ⟨v2, vs2, d2, ds2, p2, q2, rfl, rfl, rfl, h2, r2⟩ := trodAll_cons r1
  obtain ⟨rfl, rfl, rfl⟩ := trodAll_nil r2
  obtain rfl : args = #[v0, v1, v2] := by cases args; simp_all
  obtain ⟨rfl, rfl⟩ := trodVars_none hV
  clear hA0 hval0 hsz0
  obtain ⟨bt0, bl0, bb0, br0, rfl, wt0, wl0, wb0, wr0⟩ := open_box (hval 0 50 v0 rfl rfl) h0
  obtain ⟨a1, c1, xs1, rfl, rd1, lc1, cm1, wf1, dd1⟩ := open_ints_rd Try.underlying24 Try.underlying3 (by kernel_rfl) (okWide_slice Try.underlying24 (hval 1 24 v1 rfl rfl)) h1
  have re1 : c1 * 8 ≤ 140737488351232 := by
    rcases dd1 with ⟨-, e⟩ | ⟨es, sp, rfl, e⟩
    · omega
    · have := sized_slice hsz (j := 1) (t := 24) (e := 3) rfl rfl Try.underlying24
      rw [show Try.prog.bytesOf 3 = 8 by kernel_rfl] at this
      simp only [reachBytes] at this
      omega
  obtain ⟨a2, c2, xs2, rfl, rd2, lc2, cm2, wf2, dd2⟩ := open_ints_rd Try.underlying24 Try.underlying3 (by kernel_rfl) (okWide_slice Try.underlying24 (hval 2 24 v2 rfl rfl)) h2
  have re2 : c2 * 8 ≤ 140737488351232 := by
    rcases dd2 with ⟨-, e⟩ | ⟨es, sp, rfl, e⟩
    · omega
    · have := sized_slice hsz (j := 2) (t := 24) (e := 3) rfl rfl Try.underlying24
      rw [show Try.prog.bytesOf 3 = 8 by kernel_rfl] at this
      simp only [reachBytes] at this
      omega
  refine (PhosphorNested_walk W bt0 bl0 bb0 br0 wt0 wl0 wb0 wr0 a1 c1 xs1 rd1 lc1 cm1 wf1 re1 a2 c2 xs2 rd2 lc2 cm2 wf2 re2).mono fun e W' ⟨he, hb⟩ => ⟨_, he, ?_⟩
  exact law_post laidOut rfl (by kernel_rfl) (by kernel_rfl) Try.underlying4 hW' rfl hb

theorem PhosphorNested_holds : Rows.PhosphorNestedSaid :=
  OpenClaim.holds_of_wide 13 Try.f13 rfl rfl rfl rfl rfl rfl rfl ⟨rfl, rfl, rfl, rfl, rfl⟩ rfl rfl rfl rfl rfl (by kernel_rfl) Try.func13 (by kernel_rfl)
    (of_decide_eq_true (by kernel_rfl)) (by unfold Func.isWrapper; first | (rw [if_pos (by decide +kernel)]; kernel_rfl) | (rw [if_neg (by decide +kernel)]; exact ⟨rfl, rfl⟩))
    (fun os started H enc _ => PhosphorNested_lifted os started H enc)
#print axioms PhosphorNested_holds

end Go.Proofs.Ytdmfcijcecogdaa
