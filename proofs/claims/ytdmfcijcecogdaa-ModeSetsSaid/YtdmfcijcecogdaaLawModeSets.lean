/- ModeSets returns true for every input: a mode is set and reset without touching any other one. No condition. -/
import Derived.Test.YtdmfcijcecogdaaMode5
import Derived.Test.YtdmfcijcecogdaaFrameBools
namespace Go.Proofs.Ytdmfcijcecogdaa
open Go.ChangeShapes Go.WideShapes Go.ChangeAt Go.RowKit
set_option linter.unusedVariables false
set_option linter.unusedSimpArgs false

def mF (m : Nat) (xs : List Int) (fs : List Bool) : Nat → Nat
  | 0 => m
  | k + 1 => withF (mF m xs fs k) (xs.getD k 0) (fs.getD k false)
theorem mF_next (m : Nat) (xs : List Int) (fs : List Bool) (k : Nat) (h1 : k < xs.length) (h2 : k < fs.length) : mF m xs fs (k + 1) = withF (mF m xs fs k) xs[k] fs[k] := by
  simp [mF, List.getD_eq_getElem?_getD, h1, h2]
theorem mF_lt {m : Nat} (xs : List Int) (fs : List Bool) (hm : m < 4294967296) : ∀ k, mF m xs fs k < 4294967296
  | 0 => hm
  | k + 1 => withF_lt _ _ (mF_lt xs fs hm k)
theorem mF_zero (m : Nat) (xs : List Int) (fs : List Bool) : mF m xs fs 0 = m := rfl
attribute [irreducible] mF
theorem Rd.cellB {w : World} {a : Option Addr} {xs : List Bool} (h : Rd encB 1 w a xs) {k : Nat} (hk : k < xs.length) :
    ∃ b off, a = some ⟨b, off, none⟩ ∧ b < w.heap.size ∧ w.cell? ⟨b, off + k, none⟩ = some (.bool xs[k]) := by
  obtain ⟨b, off, e, hlt, hc⟩ := h (by omega)
  exact ⟨b, off, e, hlt, by simpa using hc k hk 0 _ rfl⟩
set_option maxRecDepth 100000 in
set_option maxHeartbeats 4000000 in
theorem ModeSets_walk (w : World) (m : Int) (wm : (Lit.int .u32 m).wf = true) (a : Option Addr) (c : Nat) (xs : List Int) (rd : Ints w a xs) (lc : xs.length ≤ c) (cm : c ≤ maxLen) (wf : ∀ n ∈ xs, (Lit.int .i64 n).wf = true) (re : c * 8 ≤ 140737488351232)
    (b : Option Addr) (d : Nat) (fs : List Bool) (rd' : Rd encB 1 w b fs) (lc' : fs.length ≤ d) (cm' : d ≤ maxLen) :
    Calls Try.prog 3 #[.int .u32 m, .slice a xs.length c, .slice b fs.length d] w (Gives w (.bool true)) := by
  have bm := bounds_u32 wm
  obtain ⟨M, rfl⟩ : ∃ M : Nat, m = M := ⟨m.toNat, by omega⟩
  have hM : M < 4294967296 := by omega
  have z1 := Lib.hid (mF_zero M xs fs)
  have X := Lib.hid rd
  have Y := Lib.hid rd'
  simp only [maxLen] at cm cm'
  have l1 : xs.length ≤ 9223372036854775807 := by omega
  have l2 : fs.length ≤ 9223372036854775807 := by omega
  clear wm wf rd rd' lc lc' cm cm' re
  go_enter Try.func3, Try.ntmps3
  go_wp2_with (go_at_call 14; ((with_reducible refine (awake17 _).mono ?_); rintro _ _ hgets; obtain ⟨rfl, x1, rfl⟩ := hgets.get; clear hgets))
  go_loopw [0, 7, 8] (fun mm ww i wr => ∃ j : Nat, j ≤ xs.length ∧ j ≤ fs.length ∧ j ≤ 40 ∧ i = .int .i64 j ∧ mm = .int .u32 (mF M xs fs j) ∧ ww = .int .i64 (mF M xs fs j) ∧ Below w.heap.size w wr) (fun _ _ i _ => 40 - (intOf i).toNat)
  case atStart => exact ⟨0, by omega, by omega, by omega, rfl, by rw [z1.out], by rw [z1.out], by (repeat' (first | (with_reducible exact Below.refl _ _) | (with_reducible refine Below.alloc ?_ ?_ _) | (with_reducible refine below_ext ?_ ?_ _) | (with_reducible refine Below.drew ?_) | (with_reducible refine below_drewN ?_ _) | (with_reducible refine Below.setCell ?_ ?_ _) | go_size | (simp only [go_sem]; omega) | (simp [go_sem]; done) | (simp [go_sem]; omega)))⟩
  case round =>
    obtain ⟨j, hj1, hj2, hj3, rfl, rfl, rfl, hB⟩ := hrel
    obtain ⟨x, rfl⟩ := ext_of hB
    clear hB x1
    by_cases hall : j < xs.length ∧ j < fs.length ∧ j < 40
    · obtain ⟨h1, h2, h3⟩ := hall
      have t1 : decide ((j : Int) < (xs.length : Int)) = true := by simp; omega
      have t2 : decide ((j : Int) < (fs.length : Int)) = true := by simp; omega
      have t3 : decide ((j : Int) < 40) = true := by simp; omega
      obtain ⟨b1, o1, rfl, hb1, q1⟩ := X.out.cell h1
      obtain ⟨b2, o2, rfl, hb2, q2⟩ := Y.out.cellB h2
      have HE := Lib.hid (mF_next M xs fs j h1 h2)
      have hm1 := mF_lt xs fs hM j
      generalize xs[j] = y at q1 HE
      generalize fs[j] = f at q2 HE
      generalize mF M xs fs j = p at HE hm1
      have C1 := Lib.hid (fun w' => with_c p hm1 y f w')
      have C2 := Lib.hid (fun w' => rwith_c p hm1 y f w')
      have HW := Lib.hid (fun t => has_with p y t f)
      have hm2 := withF_lt y f hm1
      have C3 := Lib.hid (fun w' => has_c (withF p y f) hm2 y w')
      have C4 := Lib.hid (fun w' => rhas_c (withF p y f) hm2 y w')
      generalize withF p y f = q at C1 C2 C3 C4 HW HE hm2
      generalize hh : hasF q y = hq at C3 C4
      clear hh
      go_wp2
      (refine wp_region_free (by kernel_rfl) (by kernel_rfl) ?_)
      repeat (go_big_quiet_step ((go_at_call 15; with_reducible exact Calls.free_same (C1.out _))))
      refine wpQuiet_nil ?_; rintro _ ⟨x2, rfl⟩
      go_wp2
      (refine wp_region_free (by kernel_rfl) (by kernel_rfl) ?_)
      repeat (go_big_quiet_step ((go_at_call 16; with_reducible exact Calls.free_same (C2.out _))))
      refine wpQuiet_nil ?_; rintro _ ⟨x3, rfl⟩
      go_wp2
      (refine wp_region_free (by kernel_rfl) (by kernel_rfl) ?_)
      repeat (go_big_quiet_step (first | ((go_at_call 17; with_reducible exact Calls.free_same (C3.out _))) | ((go_at_call 18; with_reducible exact Calls.free_same (C4.out _)))))
      refine wpQuiet_nil ?_; rintro _ ⟨x4, rfl⟩
      go_wp2
      go_loopw [10] (fun k wr => ∃ t : Nat, t ≤ 17 ∧ k = .int .i64 t ∧ Below w.heap.size w wr) (fun k _ => 17 - (intOf k).toNat)
      case atStart => exact ⟨0, by omega, rfl, by (repeat' (first | (with_reducible exact Below.refl _ _) | (with_reducible refine Below.alloc ?_ ?_ _) | (with_reducible refine below_ext ?_ ?_ _) | (with_reducible refine Below.drew ?_) | (with_reducible refine below_drewN ?_ _) | (with_reducible refine Below.setCell ?_ ?_ _) | go_size | (simp only [go_sem]; omega) | (simp [go_sem]; done) | (simp [go_sem]; omega)))⟩
      case round =>
        obtain ⟨t, ht, rfl, hB⟩ := hrel
        obtain ⟨x', rfl⟩ := ext_of hB
        clear hB
        by_cases hlt : t < 17
        · have HWt := HW.out t
          by_cases hy : (t : Int) = y
          · have hb : ((t : Int) != y) = false := by simpa using hy
            clear HWt
            go_wp2
            go_roundw
            case rel => exact ⟨t + 1, by omega, by go_num, by (repeat' (first | (with_reducible exact Below.refl _ _) | (with_reducible refine Below.alloc ?_ ?_ _) | (with_reducible refine below_ext ?_ ?_ _) | (with_reducible refine Below.drew ?_) | (with_reducible refine below_drewN ?_ _) | (with_reducible refine Below.setCell ?_ ?_ _) | go_size | (simp only [go_sem]; omega) | (simp [go_sem]; done) | (simp [go_sem]; omega)))⟩
            case measure => simp [intOf]; omega
          · have hb : ((t : Int) != y) = true := by simpa using hy
            rw [if_neg hy] at HWt
            have H1 := fun w' => has_c q hm2 t w'
            rw [HWt] at H1
            have H2 := fun w' => has_c p hm1 t w'
            generalize hasF p t = v at H1 H2
            have H1 := Lib.hid H1
            have H2 := Lib.hid H2
            clear HWt
            go_wp2_with (first
              | (go_at_call 17; ((with_reducible refine (H1.out _).mono ?_); rintro _ _ ⟨rfl, rfl⟩))
              | (go_at_call 17; ((with_reducible refine (H2.out _).mono ?_); rintro _ _ ⟨rfl, rfl⟩)))
            go_roundw
            case rel => exact ⟨t + 1, by omega, by go_num, by (repeat' (first | (with_reducible exact Below.refl _ _) | (with_reducible refine Below.alloc ?_ ?_ _) | (with_reducible refine below_ext ?_ ?_ _) | (with_reducible refine Below.drew ?_) | (with_reducible refine below_drewN ?_ _) | (with_reducible refine Below.setCell ?_ ?_ _) | go_size | (simp only [go_sem]; omega) | (simp [go_sem]; done) | (simp [go_sem]; omega)))⟩
            case measure => simp [intOf]; omega
        · go_wp2
          go_roundw
          case rel => exact ⟨j + 1, by omega, by omega, by omega, by go_num, by rw [HE.out], by rw [HE.out], by (repeat' (first | (with_reducible exact Below.refl _ _) | (with_reducible refine Below.alloc ?_ ?_ _) | (with_reducible refine below_ext ?_ ?_ _) | (with_reducible refine Below.drew ?_) | (with_reducible refine below_drewN ?_ _) | (with_reducible refine Below.setCell ?_ ?_ _) | go_size | (simp only [go_sem]; omega) | (simp [go_sem]; done) | (simp [go_sem]; omega)))⟩
          case measure => simp [intOf]; omega
    · have hm1 := mF_lt xs fs hM j
      generalize mF M xs fs j = p at hm1
      have C := Lib.hid (fun w' => clear_c p hm1 w')
      rcases Nat.lt_or_ge j xs.length with h1 | h1
      · have t1 : decide ((j : Int) < (xs.length : Int)) = true := by simp; omega
        rcases Nat.lt_or_ge j fs.length with h2 | h2
        · have t2 : decide ((j : Int) < (fs.length : Int)) = true := by simp; omega
          have t3 : decide ((j : Int) < 40) = false := by simp; omega
          go_wp2_with (first
            | (go_at_call 19; ((with_reducible refine (C.out _).mono ?_); rintro _ _ ⟨rfl, rfl⟩))
            | (go_at_call 20; ((with_reducible refine (begin_c _).mono ?_); rintro _ _ hgets; obtain ⟨rfl, _, rfl⟩ := hgets.get; clear hgets))
            | (go_at_call 21; ((with_reducible refine (rbegin_c _).mono ?_); rintro _ _ ⟨rfl, rfl⟩)))
          all_goals go_returns
          all_goals exact ⟨rfl, by (repeat' (first | (with_reducible exact Below.refl _ _) | (with_reducible refine Below.alloc ?_ ?_ _) | (with_reducible refine below_ext ?_ ?_ _) | (with_reducible refine Below.drew ?_) | (with_reducible refine below_drewN ?_ _) | (with_reducible refine Below.setCell ?_ ?_ _) | go_size | (simp only [go_sem]; omega) | (simp [go_sem]; done) | (simp [go_sem]; omega)))⟩
        · have t2 : decide ((j : Int) < (fs.length : Int)) = false := by simp; omega
          go_wp2_with (first
            | (go_at_call 19; ((with_reducible refine (C.out _).mono ?_); rintro _ _ ⟨rfl, rfl⟩))
            | (go_at_call 20; ((with_reducible refine (begin_c _).mono ?_); rintro _ _ hgets; obtain ⟨rfl, _, rfl⟩ := hgets.get; clear hgets))
            | (go_at_call 21; ((with_reducible refine (rbegin_c _).mono ?_); rintro _ _ ⟨rfl, rfl⟩)))
          all_goals go_returns
          all_goals exact ⟨rfl, by (repeat' (first | (with_reducible exact Below.refl _ _) | (with_reducible refine Below.alloc ?_ ?_ _) | (with_reducible refine below_ext ?_ ?_ _) | (with_reducible refine Below.drew ?_) | (with_reducible refine below_drewN ?_ _) | (with_reducible refine Below.setCell ?_ ?_ _) | go_size | (simp only [go_sem]; omega) | (simp [go_sem]; done) | (simp [go_sem]; omega)))⟩
      · have t1 : decide ((j : Int) < (xs.length : Int)) = false := by simp; omega
        go_wp2_with (first
          | (go_at_call 19; ((with_reducible refine (C.out _).mono ?_); rintro _ _ ⟨rfl, rfl⟩))
          | (go_at_call 20; ((with_reducible refine (begin_c _).mono ?_); rintro _ _ hgets; obtain ⟨rfl, _, rfl⟩ := hgets.get; clear hgets))
          | (go_at_call 21; ((with_reducible refine (rbegin_c _).mono ?_); rintro _ _ ⟨rfl, rfl⟩)))
        all_goals go_returns
        all_goals exact ⟨rfl, by (repeat' (first | (with_reducible exact Below.refl _ _) | (with_reducible refine Below.alloc ?_ ?_ _) | (with_reducible refine below_ext ?_ ?_ _) | (with_reducible refine Below.drew ?_) | (with_reducible refine below_drewN ?_ _) | (with_reducible refine Below.setCell ?_ ?_ _) | go_size | (simp only [go_sem]; omega) | (simp [go_sem]; done) | (simp [go_sem]; omega)))⟩

set_option maxRecDepth 100000 in
theorem ModeSets_lifted (os : Os) (started : os.Started) (H : Type) (enc : TypeId × Value → H) :
    ReturnsInHanded {} Try.checked os 3 .any (Rows.modeSetsSpec.pre6 enc Try.prog Try.f3 Rows.modeSetsRow.domain false) (Rows.modeSetsSpec.post enc Try.prog Try.f3 false true false false) := by
  refine returnsInHanded_of_change_sized (C := Try.checked) own started (by kernel_rfl) Try.func3
    (ChangeSpec.witness6 (enc := enc) (C := Try.checked) false ⟨#[], #[.int .u32 0, .slice none 0 0, .slice none 0 0], []⟩ 8 (by kernel_rfl) (by kernel_rfl) (by kernel_rfl) (by kernel_rfl)) ?_
  intro W base args ds gs before hval0 hW hcnd hsz0 _
  have hval : ∀ (j : Nat) t v, Try.f3.params[j]? = some t → args[j]? = some v → Value.okWide Try.prog W .any base t v := hval0
  have hsz : (DataW.weightsEach Try.prog (Try.f3.params.toList ++ Rows.modeSetsSpec.plain.varTypes Try.prog) (ds ++ gs)).all (· ≤ reachBytes) = true := hsz0
  have hW' := hW
  obtain ⟨p, q, hA0, hV, rfl, hfz, hnd⟩ := hW
  have hA : DataW.TrodAll enc Try.prog W 0 (fun _ => true) true Try.f3.params.toList args.toList ds p := hA0
  rw [Try.params3] at hA hval hsz
  obtain ⟨v0, vs0, d0, ds0, p0, q0, hargs, rfl, rfl, h0, r0⟩ := trodAll_cons hA
  obtain ⟨v1, vs1, d1, ds1, p1, q1, rfl, rfl, rfl, h1, r1⟩ := trodAll_cons r0
  obtain ⟨v2, vs2, d2, ds2, p2, q2, rfl, rfl, rfl, h2, r2⟩ := trodAll_cons r1
  obtain ⟨rfl, rfl, rfl⟩ := trodAll_nil r2
  obtain rfl : args = #[v0, v1, v2] := by cases args; simp_all
  obtain ⟨rfl, rfl⟩ := trodVars_none hV
  clear hA0 hval0 hsz0
  obtain ⟨a0, rfl, -, -, w0⟩ := open_int Try.underlying23 (hval 0 23 v0 rfl rfl) h0
  obtain ⟨a1, c1, xs1, rfl, rd1, lc1, cm1, wf1, dd1⟩ := open_ints_rd Try.underlying24 Try.underlying3 (by kernel_rfl) (okWide_slice Try.underlying24 (hval 1 24 v1 rfl rfl)) h1
  have re1 : c1 * 8 ≤ 140737488351232 := by
    rcases dd1 with ⟨-, e⟩ | ⟨es, sp, rfl, e⟩
    · omega
    · have := sized_slice hsz (j := 1) (t := 24) (e := 3) rfl rfl Try.underlying24
      rw [show Try.prog.bytesOf 3 = 8 by kernel_rfl] at this
      simp only [reachBytes] at this
      omega
  obtain ⟨a2, c2, xs2, rfl, rd2, lc2, cm2, wf2, dd2⟩ := open_bools (okWide_slice Try.underlying25 (hval 2 25 v2 rfl rfl)) h2
  refine (ModeSets_walk W a0 w0 a1 c1 xs1 rd1 lc1 cm1 wf1 re1 a2 c2 xs2 rd2 lc2 cm2).mono fun e W' ⟨he, hb⟩ => ⟨_, he, ?_⟩
  exact law_post laidOut rfl (by kernel_rfl) (by kernel_rfl) Try.underlying4 hW' rfl hb

theorem ModeSets_holds : Rows.ModeSetsSaid :=
  OpenClaim.holds_of_wide 3 Try.f3 rfl rfl rfl rfl rfl rfl rfl ⟨rfl, rfl, rfl, rfl, rfl⟩ rfl rfl rfl rfl rfl (by kernel_rfl) Try.func3 (by kernel_rfl)
    (of_decide_eq_true (by kernel_rfl)) (by unfold Func.isWrapper; first | (rw [if_pos (by decide +kernel)]; kernel_rfl) | (rw [if_neg (by decide +kernel)]; exact ⟨rfl, rfl⟩))
    (fun os started H enc _ => ModeSets_lifted os started H enc)
#print axioms ModeSets_holds

end Go.Proofs.Ytdmfcijcecogdaa
