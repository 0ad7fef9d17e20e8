/- Renditions: the loops over the numbers, and what turns a rendition into parts and back.  -/
import Derived.Test.YtdfiknemfpkdmaaRend
namespace Go.Proofs.Ytdfiknemfpkdmaa
open Go.RowKit
set_option linter.unusedVariables false
set_option linter.unusedSimpArgs false

def Fl.v (f : Fl) : Value := .agg #[.bool f.b, .bool f.u, .bool f.k, .bool f.r, .bool f.h]
set_option maxHeartbeats 400000 in
theorem of_r (r : Int) (hr0 : 0 ≤ r) (hr1 : r ≤ 255) (w : World) :
    Calls Try.prog 122 #[.int .u8 r] w (Gives w (.agg #[.bool (Fl.of r).b, .bool (Fl.of r).u, .bool (Fl.of r).k, .bool (Fl.of r).r, .bool (Fl.of r).h])) := by
  go_enter Try.func122, Try.ntmps122
  go_wp2
  go_returns
  refine ⟨ret_of ?_, by (repeat' (first | (with_reducible exact Below.refl _ _) | (with_reducible refine Below.alloc ?_ ?_ _) | (with_reducible refine below_ext ?_ ?_ _) | (with_reducible refine Below.drew ?_) | (with_reducible refine below_drewN ?_ _) | (with_reducible refine Below.setCell ?_ ?_ _) | go_size | (simp only [go_sem]; omega) | (simp [go_sem]; done) | (simp [go_sem]; omega)))⟩
  simp [Fl.of]

set_option maxRecDepth 100000 in
set_option maxHeartbeats 2000000 in
theorem rend_r (f : Fl) (w : World) :
    Calls Try.prog 123 #[.agg #[.bool f.b, .bool f.u, .bool f.k, .bool f.r, .bool f.h]] w (Gives w (.int .u8 f.num)) := by
  obtain ⟨b, u, k, r, h⟩ := f
  go_enter Try.func123, Try.ntmps123
  go_upto_if 5 with fail
  go_cut [3] (fun s wx => s = .int .i64 (bi b 1) ∧ wx = w.alloc (.cells #[.bool b, .bool u, .bool k, .bool r, .bool h] 160))
  case first =>
    cases b
    · go_wp2
      go_meet
      exact ⟨by simp [bi], rfl⟩
    · go_wp2
      go_meet
      exact ⟨by simp [bi], rfl⟩
  obtain ⟨rfl, rfl⟩ := hcut
  have q0 : 0 ≤ bi b 1 ∧ bi b 1 ≤ 1 := by unfold bi; cases b <;> simp <;> omega
  obtain ⟨q0a, q0b⟩ := q0
  go_upto_if 9 with fail
  go_cut [3] (fun s wx => s = .int .i64 (bi b 1 + bi u 2) ∧ wx = w.alloc (.cells #[.bool b, .bool u, .bool k, .bool r, .bool h] 160))
  case first =>
    cases u
    · go_wp2
      go_meet
      exact ⟨by simp [bi], rfl⟩
    · go_wp2
      go_meet
      exact ⟨by simp [bi], rfl⟩
  obtain ⟨rfl, rfl⟩ := hcut
  have q1a : 0 ≤ bi b 1 + bi u 2 := by have : 0 ≤ bi u 2 := (by unfold bi; cases u <;> simp); omega
  have q1b : bi b 1 + bi u 2 ≤ 3 := by have : bi u 2 ≤ 2 := (by unfold bi; cases u <;> simp); omega
  go_upto_if 13 with fail
  go_cut [3] (fun s wx => s = .int .i64 (bi b 1 + bi u 2 + bi k 4) ∧ wx = w.alloc (.cells #[.bool b, .bool u, .bool k, .bool r, .bool h] 160))
  case first =>
    cases k
    · go_wp2
      go_meet
      exact ⟨by simp [bi], rfl⟩
    · go_wp2
      go_meet
      exact ⟨by simp [bi], rfl⟩
  obtain ⟨rfl, rfl⟩ := hcut
  have q2a : 0 ≤ bi b 1 + bi u 2 + bi k 4 := by have : 0 ≤ bi k 4 := (by unfold bi; cases k <;> simp); omega
  have q2b : bi b 1 + bi u 2 + bi k 4 ≤ 7 := by have : bi k 4 ≤ 4 := (by unfold bi; cases k <;> simp); omega
  go_upto_if 17 with fail
  go_cut [3] (fun s wx => s = .int .i64 (bi b 1 + bi u 2 + bi k 4 + bi r 8) ∧ wx = w.alloc (.cells #[.bool b, .bool u, .bool k, .bool r, .bool h] 160))
  case first =>
    cases r
    · go_wp2
      go_meet
      exact ⟨by simp [bi], rfl⟩
    · go_wp2
      go_meet
      exact ⟨by simp [bi], rfl⟩
  obtain ⟨rfl, rfl⟩ := hcut
  have q3a : 0 ≤ bi b 1 + bi u 2 + bi k 4 + bi r 8 := by have : 0 ≤ bi r 8 := (by unfold bi; cases r <;> simp); omega
  have q3b : bi b 1 + bi u 2 + bi k 4 + bi r 8 ≤ 15 := by have : bi r 8 ≤ 8 := (by unfold bi; cases r <;> simp); omega
  go_upto_if 21 with fail
  go_cut [3] (fun s wx => s = .int .i64 (bi b 1 + bi u 2 + bi k 4 + bi r 8 + bi h 16) ∧ wx = w.alloc (.cells #[.bool b, .bool u, .bool k, .bool r, .bool h] 160))
  case first =>
    cases h
    · go_wp2
      go_meet
      exact ⟨by simp [bi], rfl⟩
    · go_wp2
      go_meet
      exact ⟨by simp [bi], rfl⟩
  obtain ⟨rfl, rfl⟩ := hcut
  have q4a : 0 ≤ bi b 1 + bi u 2 + bi k 4 + bi r 8 + bi h 16 := by have : 0 ≤ bi h 16 := (by unfold bi; cases h <;> simp); omega
  have q4b : bi b 1 + bi u 2 + bi k 4 + bi r 8 + bi h 16 ≤ 31 := by have : bi h 16 ≤ 16 := (by unfold bi; cases h <;> simp); omega
  go_wp2
  go_returns
  refine ⟨ret_int ?_, by (repeat' (first | (with_reducible exact Below.refl _ _) | (with_reducible refine Below.alloc ?_ ?_ _) | (with_reducible refine below_ext ?_ ?_ _) | (with_reducible refine Below.drew ?_) | (with_reducible refine below_drewN ?_ _) | (with_reducible refine Below.setCell ?_ ?_ _) | go_size | (simp only [go_sem]; omega) | (simp [go_sem]; done) | (simp [go_sem]; omega)))⟩
  simp only [Fl.num]

end Go.Proofs.Ytdfiknemfpkdmaa
