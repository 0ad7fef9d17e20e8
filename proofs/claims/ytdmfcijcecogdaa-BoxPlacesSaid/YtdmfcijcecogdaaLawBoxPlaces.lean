/- BoxPlaces returns true for every input: a place that is told by numbers lies within its frame. No condition. -/
import Derived.Test.YtdmfcijcecogdaaFrame
import Derived.Test.YtdmfcijcecogdaaAwake5
namespace Go.Proofs.Ytdmfcijcecogdaa
open Go.ChangeShapes Go.WideShapes Go.ChangeAt Go.RowKit
set_option linter.unusedVariables false
set_option linter.unusedSimpArgs false

theorem place_in {t l b r : Int} (h : ¬(b ≤ t ∨ r ≤ l)) (m n : Int) : inB t l b r (placeI t b m) (placeI l r n) = true := by
  unfold inB placeI
  simp only [Bool.and_eq_true, decide_eq_true_eq]
  omega

set_option maxHeartbeats 1000000 in
theorem BoxPlaces_walk (w : World) (t l b r : Int) (wt : (Lit.int .i64 t).wf = true) (wl : (Lit.int .i64 l).wf = true) (wb : (Lit.int .i64 b).wf = true) (wr : (Lit.int .i64 r).wf = true) (a : Option Addr) (c : Nat) (xs : List Int) (rd : Rd (encI .i64) 1 w a xs) (lc : xs.length ≤ c) (cm : c ≤ maxLen) (wf : ∀ n ∈ xs, (Lit.int .i64 n).wf = true) (re : c * 8 ≤ 140737488351232) (i : Int) (wi : (Lit.int .i64 i).wf = true) :
    Calls Try.prog 12 #[.agg #[.int .i64 t, .int .i64 l, .int .i64 b, .int .i64 r], .slice a xs.length c, .int .i64 i] w (Gives w (.bool true)) := by
  unfold maxLen at cm
  have X := Lib.hid rd
  clear rd
  by_cases hs : (-1000000 ≤ t ∧ t ≤ 1000000) ∧ (-1000000 ≤ l ∧ l ≤ 1000000) ∧ (-1000000 ≤ b ∧ b ≤ 1000000) ∧ (-1000000 ≤ r ∧ r ≤ 1000000)
  · have c0 := fun w' => small_c t l b r w'
    rw [decide_eq_true hs] at c0
    have c1 := fun w' (h : Ints w' a xs) => place_c t l b r a c xs i w' hs.1 hs.2.1 hs.2.2.1 hs.2.2.2 h (by omega) (by omega) (by omega)
    have c2 := fun w' (h : Ints w' a xs) => place_r t l b r a c xs i w' hs.1 hs.2.1 hs.2.2.1 hs.2.2.2 h (by omega)
    have e0 := fun w' => empty_c t l b r w'
    by_cases he : b ≤ t ∨ r ≤ l
    · have e : placeV t l b r xs i = .agg #[.int .i64 t, .int .i64 l] := by unfold placeV; rw [if_pos he]
      rw [e] at c1 c2
      rw [show (decide (b ≤ t) || decide (r ≤ l)) = true by simpa using he] at e0
      have C0 := Lib.hid c0
      have C1 := Lib.hid c1
      have C2 := Lib.hid c2
      have E0 := Lib.hid e0
      clear c0 c1 c2 e0 hs e he wf
      go_enter Try.func12, Try.ntmps12
      go_wp2_with (first
        | (go_at_call 28; ((with_reducible refine (awake5 _).mono ?_); rintro _ _ hgets; obtain ⟨rfl, _, rfl⟩ := hgets.get; clear hgets))
        | (go_at_call 31; ((with_reducible refine (C0.out _).mono ?_); rintro _ _ hgets; obtain ⟨rfl, _, rfl⟩ := hgets.get; clear hgets))
        | (go_at_call 37; ((with_reducible refine (C1.out _ (by repeat (first | exact X.out | exact X | refine Rd.ext ?_ _ | refine Rd.alloc ?_ _ | refine Rd.drew ?_))).mono ?_); rintro _ _ hgets; obtain ⟨rfl, _, rfl⟩ := hgets.get; clear hgets)))
      (refine wp_region_free (by kernel_rfl) (by kernel_rfl) ?_)
      repeat (go_big_quiet_step (first | ((go_at_call 46; exact Calls.free (C2.out _ (by repeat (first | exact X.out | exact X | refine Rd.ext ?_ _ | refine Rd.alloc ?_ _ | refine Rd.drew ?_))))) | ((go_at_call 35; exact Calls.free (E0.out _)))))
      refine wpQuiet_nil ?_; rintro _ ⟨x2, rfl⟩
      go_wp2
      all_goals go_returns
      all_goals refine ⟨?_, by (repeat' (first | (with_reducible exact Below.refl _ _) | (with_reducible refine Below.alloc ?_ ?_ _) | (with_reducible refine below_ext ?_ ?_ _) | (with_reducible refine Below.drew ?_) | (with_reducible refine below_drewN ?_ _) | (with_reducible refine Below.setCell ?_ ?_ _) | go_size | (simp only [go_sem]; omega) | (simp [go_sem]; done) | (simp [go_sem]; omega)))⟩
      all_goals rfl
    · have e : placeV t l b r xs i = .agg #[.int .i64 (placeI t b (num0 xs i 0)), .int .i64 (placeI l r (num0 xs i 1))] := by unfold placeV; rw [if_neg he]
      have i0 := fun w' => in_c t l b r (placeI t b (num0 xs i 0)) (placeI l r (num0 xs i 1)) w'
      rw [place_in he] at i0
      rw [e] at c1 c2
      rw [show (decide (b ≤ t) || decide (r ≤ l)) = false by simpa using he] at e0
      have C0 := Lib.hid c0
      have C1 := Lib.hid c1
      have C2 := Lib.hid c2
      have E0 := Lib.hid e0
      have I0 := Lib.hid i0
      clear c0 c1 c2 e0 i0 hs e he wf
      go_enter Try.func12, Try.ntmps12
      go_wp2_with (first
        | (go_at_call 28; ((with_reducible refine (awake5 _).mono ?_); rintro _ _ hgets; obtain ⟨rfl, _, rfl⟩ := hgets.get; clear hgets))
        | (go_at_call 31; ((with_reducible refine (C0.out _).mono ?_); rintro _ _ hgets; obtain ⟨rfl, _, rfl⟩ := hgets.get; clear hgets))
        | (go_at_call 37; ((with_reducible refine (C1.out _ (by repeat (first | exact X.out | exact X | refine Rd.ext ?_ _ | refine Rd.alloc ?_ _ | refine Rd.drew ?_))).mono ?_); rintro _ _ hgets; obtain ⟨rfl, _, rfl⟩ := hgets.get; clear hgets)))
      (refine wp_region_free (by kernel_rfl) (by kernel_rfl) ?_)
      repeat (go_big_quiet_step (first | ((go_at_call 46; exact Calls.free (C2.out _ (by repeat (first | exact X.out | exact X | refine Rd.ext ?_ _ | refine Rd.alloc ?_ _ | refine Rd.drew ?_))))) | ((go_at_call 35; exact Calls.free (E0.out _))) | ((go_at_call 40; exact Calls.free (I0.out _)))))
      refine wpQuiet_nil ?_; rintro _ ⟨x2, rfl⟩
      go_wp2
      all_goals go_returns
      all_goals refine ⟨?_, by (repeat' (first | (with_reducible exact Below.refl _ _) | (with_reducible refine Below.alloc ?_ ?_ _) | (with_reducible refine below_ext ?_ ?_ _) | (with_reducible refine Below.drew ?_) | (with_reducible refine below_drewN ?_ _) | (with_reducible refine Below.setCell ?_ ?_ _) | go_size | (simp only [go_sem]; omega) | (simp [go_sem]; done) | (simp [go_sem]; omega)))⟩
      all_goals rfl
  · have c0 := fun w' => small_c t l b r w'
    rw [decide_eq_false hs] at c0
    have C0 := Lib.hid c0
    clear c0 hs
    go_enter Try.func12, Try.ntmps12
    go_wp2_with (first
      | (go_at_call 28; ((with_reducible refine (awake5 _).mono ?_); rintro _ _ hgets; obtain ⟨rfl, _, rfl⟩ := hgets.get; clear hgets))
      | (go_at_call 31; ((with_reducible refine (C0.out _).mono ?_); rintro _ _ hgets; obtain ⟨rfl, _, rfl⟩ := hgets.get; clear hgets)))
    go_returns
    exact ⟨rfl, by (repeat' (first | (with_reducible exact Below.refl _ _) | (with_reducible refine Below.alloc ?_ ?_ _) | (with_reducible refine below_ext ?_ ?_ _) | (with_reducible refine Below.drew ?_) | (with_reducible refine below_drewN ?_ _) | (with_reducible refine Below.setCell ?_ ?_ _) | go_size | (simp only [go_sem]; omega) | (simp [go_sem]; done) | (simp [go_sem]; omega)))⟩

set_option maxRecDepth 100000 in
theorem BoxPlaces_lifted (os : Os) (started : os.Started) (H : Type) (enc : TypeId × Value → H) :
    ReturnsInHanded {} Try.checked os 12 .any (Rows.boxPlacesSpec.pre6 enc Try.prog Try.f12 Rows.boxPlacesRow.domain false) (Rows.boxPlacesSpec.post enc Try.prog Try.f12 false true false false) := by
  refine returnsInHanded_of_change_sized (C := Try.checked) own started (by kernel_rfl) Try.func12
    (ChangeSpec.witness6 (enc := enc) (C := Try.checked) false ⟨#[], #[.agg #[.int .i64 0, .int .i64 0, .int .i64 0, .int .i64 0], .slice none 0 0, .int .i64 0], []⟩ 8 (by kernel_rfl) (by kernel_rfl) (by kernel_rfl) (by kernel_rfl)) ?_
  intro W base args ds gs before hval0 hW hcnd hsz0 _
  have hval : ∀ (j : Nat) t v, Try.f12.params[j]? = some t → args[j]? = some v → Value.okWide Try.prog W .any base t v := hval0
  have hsz : (DataW.weightsEach Try.prog (Try.f12.params.toList ++ Rows.boxPlacesSpec.plain.varTypes Try.prog) (ds ++ gs)).all (· ≤ reachBytes) = true := hsz0
  have hW' := hW
  obtain ⟨p, q, hA0, hV, rfl, hfz, hnd⟩ := hW
  have hA : DataW.TrodAll enc Try.prog W 0 (fun _ => true) true Try.f12.params.toList args.toList ds p := hA0
  rw [Try.params12] at hA hval hsz
  obtain ⟨v0, vs0, d0, ds0, p0, q0, hargs, rfl, rfl, h0, r0⟩ := trodAll_cons hA
  obtain ⟨v1, vs1, d1, ds1, p1, q1, rfl, rfl, rfl, h1, r1⟩ := trodAll_cons r0
  obtain ⟨v2, vs2, d2, ds2, p2, q2, rfl, rfl, rfl, h2, r2⟩ := trodAll_cons r1
  obtain ⟨rfl, rfl, rfl⟩ := trodAll_nil r2
  obtain rfl : args = #[v0, v1, v2] := by cases args; simp_all
  obtain ⟨rfl, rfl⟩ := trodVars_none hV
  clear hA0 hval0 hsz0
  obtain ⟨bt0, bl0, bb0, br0, rfl, wt0, wl0, wb0, wr0⟩ := open_box (hval 0 50 v0 rfl rfl) h0
  obtain ⟨a1, c1, xs1, rfl, rd1, lc1, cm1, wf1, dd1⟩ := open_ints_rd Try.underlying24 Try.underlying3 (by kernel_rfl) (okWide_slice Try.underlying24 (hval 1 24 v1 rfl rfl)) h1
  have re1 : c1 * 8 ≤ 140737488351232 := by
    rcases dd1 with ⟨-, e⟩ | ⟨es, sp, rfl, e⟩
    · omega
    · have := sized_slice hsz (j := 1) (t := 24) (e := 3) rfl rfl Try.underlying24
      rw [show Try.prog.bytesOf 3 = 8 by kernel_rfl] at this
      simp only [reachBytes] at this
      omega
  obtain ⟨a2, rfl, -, -, w2⟩ := open_int Try.underlying3 (hval 2 3 v2 rfl rfl) h2
  refine (BoxPlaces_walk W bt0 bl0 bb0 br0 wt0 wl0 wb0 wr0 a1 c1 xs1 rd1 lc1 cm1 wf1 re1 a2 w2).mono fun e W' ⟨he, hb⟩ => ⟨_, he, ?_⟩
  exact law_post laidOut rfl (by kernel_rfl) (by kernel_rfl) Try.underlying4 hW' rfl hb

theorem BoxPlaces_holds : Rows.BoxPlacesSaid :=
  OpenClaim.holds_of_wide 12 Try.f12 rfl rfl rfl rfl rfl rfl rfl ⟨rfl, rfl, rfl, rfl, rfl⟩ rfl rfl rfl rfl rfl (by kernel_rfl) Try.func12 (by kernel_rfl)
    (of_decide_eq_true (by kernel_rfl)) (by unfold Func.isWrapper; first | (rw [if_pos (by decide +kernel)]; kernel_rfl) | (rw [if_neg (by decide +kernel)]; exact ⟨rfl, rfl⟩))
    (fun os started H enc _ => BoxPlaces_lifted os started H enc)
#print axioms BoxPlaces_holds

end Go.Proofs.Ytdmfcijcecogdaa
