/- Renditions: the loops over the numbers, and what turns a rendition into parts and back.  -/
import Derived.Test.YtjnjoclpimcblaaDoorRend
namespace Go.Proofs.YtjnjoclpimcblaaDoor
open Go.RowKit
set_option linter.unusedVariables false
set_option linter.unusedSimpArgs false

set_option maxHeartbeats 1000000 in
theorem each_one (r : Int) (hr0 : 0 ≤ r) (hr1 : r ≤ 255) (a : Option Addr) (c : Nat) (xs : List Int) (w : World) (hx : Ints w a xs) (hm : xs.length ≤ 9223372036854775807) :
    Calls Tryd.prog 34 #[.int .u8 r, .slice a xs.length c, .func (.func 35) #[] #[]] w (Same w (.int .u8 (foldR oneF (Fl.of r) xs).num)) := by
  have hand := and31 ⟨hr0, hr1⟩
  by_cases h0 : xs = []
  · subst h0
    have H := Lib.hid hand
    have hb := fun w => one_c (Fl.of r) 0 w
    rw [← hand] at hb
    have HB := Lib.hid hb
    clear hb hand
    go_enter Tryd.func34, Tryd.ntmps34
    go_wp2_with (go_at_call 35; ((with_reducible refine (HB.out _).mono ?_); rintro _ _ ⟨rfl, rfl⟩))
    go_returns
    exact ⟨rfl, rfl⟩
  · have hl : 0 < xs.length := by rcases xs with _ | _ <;> simp_all
    have hne : ((xs.length : Int) == 0) = false := by simp; omega
    have H := Lib.hid hand
    have HE := Lib.hid (show foldR oneF (Fl.of r) xs = xs.foldl oneF (Fl.of r) by unfold foldR; rw [if_neg h0])
    clear hand h0
    go_enter Tryd.func34, Tryd.ntmps34
    go_wp2
    go_loop [0, 19] (fun v i => ∃ k : Nat, k ≤ xs.length ∧ i = .int .i64 k ∧ v = .int .u8 ((xs.take k).foldl oneF (Fl.of r)).num) (fun _ i => xs.length - (intOf i).toNat)
    case atStart => exact ⟨0, by omega, rfl, by rw [H.out]; rfl⟩
    case round =>
      obtain ⟨k, hk, rfl, rfl⟩ := hrel
      by_cases hlt : k < xs.length
      · obtain ⟨b1, o1, rfl, hb1, hc1⟩ := hx.cell hlt
        have HF := Lib.hid (foldl_take oneF (Fl.of r) xs k hlt)
        go_wp2_with (go_at_call 35; ((with_reducible refine (one_c _ _ _).mono ?_); rintro _ _ ⟨rfl, rfl⟩))
        go_round
        case rel => exact ⟨k + 1, by omega, by go_num, by rw [HF.out]⟩
        case measure => simp [intOf]; omega
      · go_wp2
        go_returns
        refine ⟨ret_int ?_, rfl⟩
        rw [HE.out, List.take_of_length_le (by omega)]

set_option maxHeartbeats 400000 in
theorem apply_c (r : Int) (hr0 : 0 ≤ r) (hr1 : r ≤ 255) (a : Option Addr) (c : Nat) (xs : List Int) (w : World) (hx : Ints w a xs) (hm : xs.length ≤ 9223372036854775807) :
    Calls Tryd.prog 28 #[.int .u8 r, .slice a xs.length c] w (Same w (.int .u8 (foldR oneF (Fl.of r) xs).num)) := by
  have E := Lib.hid (fun w' (h : Ints w' a xs) => each_one r hr0 hr1 a c xs w' h hm)
  have X := Lib.hid hx
  clear hx
  go_enter Tryd.func28, Tryd.ntmps28
  go_wp2_with (go_at_call 34; ((with_reducible refine (E.out _ (by repeat (first | exact X.out | exact X | refine Rd.ext ?_ _ | refine Rd.alloc ?_ _ | refine Rd.drew ?_))).mono ?_); rintro _ _ ⟨rfl, rfl⟩))
  go_returns
  exact ⟨rfl, rfl⟩
def Fl.v (f : Fl) : Value := .agg #[.bool f.b, .bool f.u, .bool f.k, .bool f.r, .bool f.h]
set_option maxHeartbeats 400000 in
theorem of_r (r : Int) (hr0 : 0 ≤ r) (hr1 : r ≤ 255) (w : World) :
    Calls Tryd.prog 11 #[.int .u8 r] w (Gives w (.agg #[.bool (Fl.of r).b, .bool (Fl.of r).u, .bool (Fl.of r).k, .bool (Fl.of r).r, .bool (Fl.of r).h])) := by
  go_enter Tryd.func11, Tryd.ntmps11
  go_wp2
  go_returns
  refine ⟨ret_of ?_, by (repeat' (first | (with_reducible exact Below.refl _ _) | (with_reducible refine Below.alloc ?_ ?_ _) | (with_reducible refine below_ext ?_ ?_ _) | (with_reducible refine Below.drew ?_) | (with_reducible refine below_drewN ?_ _) | (with_reducible refine Below.setCell ?_ ?_ _) | go_size | (simp only [go_sem]; omega) | (simp [go_sem]; done) | (simp [go_sem]; omega)))⟩
  simp [Fl.of]

set_option maxRecDepth 100000 in
set_option maxHeartbeats 2000000 in
theorem rend_r (f : Fl) (w : World) :
    Calls Tryd.prog 10 #[.agg #[.bool f.b, .bool f.u, .bool f.k, .bool f.r, .bool f.h]] w (Gives w (.int .u8 f.num)) := by
  obtain ⟨b, u, k, r, h⟩ := f
  go_enter Tryd.func10, Tryd.ntmps10
  go_upto_if 5 with fail
  go_cut [3] (fun s wx => s = .int .i64 (bi b 1) ∧ wx = w.alloc (.cells #[.bool b, .bool u, .bool k, .bool r, .bool h] 41))
  case first =>
    cases b
    · go_wp2
      go_meet
      exact ⟨by simp [bi], rfl⟩
    · go_wp2
      go_meet
      exact ⟨by simp [bi], rfl⟩
  obtain ⟨rfl, rfl⟩ := hcut
  have q0 : 0 ≤ bi b 1 ∧ bi b 1 ≤ 1 := by unfold bi; cases b <;> simp <;> omega
  obtain ⟨q0a, q0b⟩ := q0
  go_upto_if 9 with fail
  go_cut [3] (fun s wx => s = .int .i64 (bi b 1 + bi u 2) ∧ wx = w.alloc (.cells #[.bool b, .bool u, .bool k, .bool r, .bool h] 41))
  case first =>
    cases u
    · go_wp2
      go_meet
      exact ⟨by simp [bi], rfl⟩
    · go_wp2
      go_meet
      exact ⟨by simp [bi], rfl⟩
  obtain ⟨rfl, rfl⟩ := hcut
  have q1a : 0 ≤ bi b 1 + bi u 2 := by have : 0 ≤ bi u 2 := (by unfold bi; cases u <;> simp); omega
  have q1b : bi b 1 + bi u 2 ≤ 3 := by have : bi u 2 ≤ 2 := (by unfold bi; cases u <;> simp); omega
  go_upto_if 13 with fail
  go_cut [3] (fun s wx => s = .int .i64 (bi b 1 + bi u 2 + bi k 4) ∧ wx = w.alloc (.cells #[.bool b, .bool u, .bool k, .bool r, .bool h] 41))
  case first =>
    cases k
    · go_wp2
      go_meet
      exact ⟨by simp [bi], rfl⟩
    · go_wp2
      go_meet
      exact ⟨by simp [bi], rfl⟩
  obtain ⟨rfl, rfl⟩ := hcut
  have q2a : 0 ≤ bi b 1 + bi u 2 + bi k 4 := by have : 0 ≤ bi k 4 := (by unfold bi; cases k <;> simp); omega
  have q2b : bi b 1 + bi u 2 + bi k 4 ≤ 7 := by have : bi k 4 ≤ 4 := (by unfold bi; cases k <;> simp); omega
  go_upto_if 17 with fail
  go_cut [3] (fun s wx => s = .int .i64 (bi b 1 + bi u 2 + bi k 4 + bi r 8) ∧ wx = w.alloc (.cells #[.bool b, .bool u, .bool k, .bool r, .bool h] 41))
  case first =>
    cases r
    · go_wp2
      go_meet
      exact ⟨by simp [bi], rfl⟩
    · go_wp2
      go_meet
      exact ⟨by simp [bi], rfl⟩
  obtain ⟨rfl, rfl⟩ := hcut
  have q3a : 0 ≤ bi b 1 + bi u 2 + bi k 4 + bi r 8 := by have : 0 ≤ bi r 8 := (by unfold bi; cases r <;> simp); omega
  have q3b : bi b 1 + bi u 2 + bi k 4 + bi r 8 ≤ 15 := by have : bi r 8 ≤ 8 := (by unfold bi; cases r <;> simp); omega
  go_upto_if 21 with fail
  go_cut [3] (fun s wx => s = .int .i64 (bi b 1 + bi u 2 + bi k 4 + bi r 8 + bi h 16) ∧ wx = w.alloc (.cells #[.bool b, .bool u, .bool k, .bool r, .bool h] 41))
  case first =>
    cases h
    · go_wp2
      go_meet
      exact ⟨by simp [bi], rfl⟩
    · go_wp2
      go_meet
      exact ⟨by simp [bi], rfl⟩
  obtain ⟨rfl, rfl⟩ := hcut
  have q4a : 0 ≤ bi b 1 + bi u 2 + bi k 4 + bi r 8 + bi h 16 := by have : 0 ≤ bi h 16 := (by unfold bi; cases h <;> simp); omega
  have q4b : bi b 1 + bi u 2 + bi k 4 + bi r 8 + bi h 16 ≤ 31 := by have : bi h 16 ≤ 16 := (by unfold bi; cases h <;> simp); omega
  go_wp2
  go_returns
  refine ⟨ret_int ?_, by (repeat' (first | (with_reducible exact Below.refl _ _) | (with_reducible refine Below.alloc ?_ ?_ _) | (with_reducible refine below_ext ?_ ?_ _) | (with_reducible refine Below.drew ?_) | (with_reducible refine below_drewN ?_ _) | (with_reducible refine Below.setCell ?_ ?_ _) | go_size | (simp only [go_sem]; omega) | (simp [go_sem]; done) | (simp [go_sem]; omega)))⟩
  simp only [Fl.num]

end Go.Proofs.YtjnjoclpimcblaaDoor
