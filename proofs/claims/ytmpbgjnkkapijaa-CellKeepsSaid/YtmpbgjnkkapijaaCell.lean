/- What a rendition and a cell weigh; rows of cells. -/
import Derived.Test.YtmpbgjnkkapijaaRend3
namespace Go.Proofs.Ytmpbgjnkkapijaa
open Go.RowKit
set_option linter.unusedVariables false
set_option linter.unusedSimpArgs false

def wsum (f : Fl) : Nat → Int
  | 0 => 0
  | 1 => bi f.h 8
  | 2 => bi f.h 8 + bi f.u 16
  | 3 => bi f.h 8 + bi f.u 16 + bi f.r 32
  | 4 => bi f.h 8 + bi f.u 16 + bi f.r 32 + bi f.k 64
  | _ => bi f.h 8 + bi f.u 16 + bi f.r 32 + bi f.k 64 + bi f.b 128
def Fl.weight (f : Fl) : Int := wsum f 5
theorem wsum_bd (f : Fl) (k : Nat) : 0 ≤ wsum f k ∧ wsum f k ≤ 248 := by
  have h1 : ∀ (x : Bool) (n : Int), 0 ≤ n → 0 ≤ bi x n ∧ bi x n ≤ n := by intro x n h; cases x <;> simp [bi] <;> omega
  have a1 := h1 f.h 8 (by omega)
  have a2 := h1 f.u 16 (by omega)
  have a3 := h1 f.r 32 (by omega)
  have a4 := h1 f.k 64 (by omega)
  have a5 := h1 f.b 128 (by omega)
  rcases k with _ | _ | _ | _ | _ | k <;> simp only [wsum] <;> omega
theorem bit_all : ∀ k : Fin 256, (bits .and .u8 (k.val : Int) 16 != 0) = (Fl.of (k.val : Int)).h ∧ (bits .and .u8 (k.val : Int) 2 != 0) = (Fl.of (k.val : Int)).u ∧ (bits .and .u8 (k.val : Int) 8 != 0) = (Fl.of (k.val : Int)).r ∧
    (bits .and .u8 (k.val : Int) 4 != 0) = (Fl.of (k.val : Int)).k ∧ (bits .and .u8 (k.val : Int) 1 != 0) = (Fl.of (k.val : Int)).b := by decide +kernel
theorem bit_is {r : Int} (h : 0 ≤ r ∧ r ≤ 255) : (bits .and .u8 r 16 != 0) = (Fl.of r).h ∧ (bits .and .u8 r 2 != 0) = (Fl.of r).u ∧ (bits .and .u8 r 8 != 0) = (Fl.of r).r ∧
    (bits .and .u8 r 4 != 0) = (Fl.of r).k ∧ (bits .and .u8 r 1 != 0) = (Fl.of r).b := by
  have := bit_all ⟨r.toNat, by omega⟩
  simpa only [show ((r.toNat : Nat) : Int) = r by omega] using this

set_option maxHeartbeats 1000000 in
theorem weight_c (r : Int) (hr0 : 0 ≤ r) (hr1 : r ≤ 255) (w : World) :
    Calls Try.prog 41 #[.int .u8 r] w (Same w (.int .i64 (Fl.of r).weight)) := by
  have i0 : ∀ w, (Instr.index 82 (.agg #[.int .u8 16, .int .u8 2, .int .u8 8, .int .u8 4, .int .u8 1]) (.int .i64 0)).run Try.prog w = .ok (.int .u8 16) w := fun _ => by kernel_rfl
  have i1 : ∀ w, (Instr.index 82 (.agg #[.int .u8 16, .int .u8 2, .int .u8 8, .int .u8 4, .int .u8 1]) (.int .i64 1)).run Try.prog w = .ok (.int .u8 2) w := fun _ => by kernel_rfl
  have i2 : ∀ w, (Instr.index 82 (.agg #[.int .u8 16, .int .u8 2, .int .u8 8, .int .u8 4, .int .u8 1]) (.int .i64 2)).run Try.prog w = .ok (.int .u8 8) w := fun _ => by kernel_rfl
  have i3 : ∀ w, (Instr.index 82 (.agg #[.int .u8 16, .int .u8 2, .int .u8 8, .int .u8 4, .int .u8 1]) (.int .i64 3)).run Try.prog w = .ok (.int .u8 4) w := fun _ => by kernel_rfl
  have i4 : ∀ w, (Instr.index 82 (.agg #[.int .u8 16, .int .u8 2, .int .u8 8, .int .u8 4, .int .u8 1]) (.int .i64 4)).run Try.prog w = .ok (.int .u8 1) w := fun _ => by kernel_rfl
  have tests := bit_is ⟨hr0, hr1⟩
  unfold Fl.weight
  generalize Fl.of r = f at tests
  obtain ⟨t0, t1, t2, t3, t4⟩ := tests
  have B := Lib.hid (wsum_bd f)
  have T0 := Lib.hid t0
  have T1 := Lib.hid t1
  have T2 := Lib.hid t2
  have T3 := Lib.hid t3
  have T4 := Lib.hid t4
  clear t0 t1 t2 t3 t4
  go_enter Try.func41, Try.ntmps41
  go_wp2
  go_loop [3, 7] (fun v i => ∃ k : Nat, k ≤ 5 ∧ i = .int .i64 k ∧ v = .int .i64 (wsum f k)) (fun _ i => 5 - (intOf i).toNat)
  case atStart => exact ⟨0, by omega, rfl, rfl⟩
  case round =>
    obtain ⟨k, hk, rfl, rfl⟩ := hrel
    have hcases : k = 0 ∨ k = 1 ∨ k = 2 ∨ k = 3 ∨ k = 4 ∨ k = 5 := by omega
    rcases hcases with rfl | rfl | rfl | rfl | rfl | rfl
    · have HN : Hid (wsum f (0 + 1) = wsum f 0 + bi f.h 8) := Lib.hid (by simp [wsum])
      obtain ⟨s0, s1⟩ := B.out 0
      generalize wsum f 0 = s at HN s0 s1
      have tt := T0.out
      rcases Bool.eq_false_or_eq_true f.h with hb | hb
      all_goals
        rw [hb] at tt HN
        go_wp2
        go_round
        case rel => exact ⟨1, by omega, by go_num, by rw [show (1 : Nat) = 0 + 1 from rfl, HN.out]; simp [bi]⟩
        case measure => simp [intOf]
    · have HN : Hid (wsum f (1 + 1) = wsum f 1 + bi f.u 16) := Lib.hid (by simp [wsum])
      obtain ⟨s0, s1⟩ := B.out 1
      generalize wsum f 1 = s at HN s0 s1
      have tt := T1.out
      rcases Bool.eq_false_or_eq_true f.u with hb | hb
      all_goals
        rw [hb] at tt HN
        go_wp2
        go_round
        case rel => exact ⟨2, by omega, by go_num, by rw [show (2 : Nat) = 1 + 1 from rfl, HN.out]; simp [bi]⟩
        case measure => simp [intOf]
    · have HN : Hid (wsum f (2 + 1) = wsum f 2 + bi f.r 32) := Lib.hid (by simp [wsum])
      obtain ⟨s0, s1⟩ := B.out 2
      generalize wsum f 2 = s at HN s0 s1
      have tt := T2.out
      rcases Bool.eq_false_or_eq_true f.r with hb | hb
      all_goals
        rw [hb] at tt HN
        go_wp2
        go_round
        case rel => exact ⟨3, by omega, by go_num, by rw [show (3 : Nat) = 2 + 1 from rfl, HN.out]; simp [bi]⟩
        case measure => simp [intOf]
    · have HN : Hid (wsum f (3 + 1) = wsum f 3 + bi f.k 64) := Lib.hid (by simp [wsum])
      obtain ⟨s0, s1⟩ := B.out 3
      generalize wsum f 3 = s at HN s0 s1
      have tt := T3.out
      rcases Bool.eq_false_or_eq_true f.k with hb | hb
      all_goals
        rw [hb] at tt HN
        go_wp2
        go_round
        case rel => exact ⟨4, by omega, by go_num, by rw [show (4 : Nat) = 3 + 1 from rfl, HN.out]; simp [bi]⟩
        case measure => simp [intOf]
    · have HN : Hid (wsum f (4 + 1) = wsum f 4 + bi f.b 128) := Lib.hid (by simp [wsum])
      obtain ⟨s0, s1⟩ := B.out 4
      generalize wsum f 4 = s at HN s0 s1
      have tt := T4.out
      rcases Bool.eq_false_or_eq_true f.b with hb | hb
      all_goals
        rw [hb] at tt HN
        go_wp2
        go_round
        case rel => exact ⟨5, by omega, by go_num, by rw [show (5 : Nat) = 4 + 1 from rfl, HN.out]; simp [bi]⟩
        case measure => simp [intOf]
    · go_wp2
      go_returns
      exact ⟨rfl, rfl⟩

set_option maxRecDepth 100000 in
set_option maxHeartbeats 2000000 in
theorem weight_r (r : Int) (hr0 : 0 ≤ r) (hr1 : r ≤ 255) (w : World) :
    Calls Try.prog 42 #[.int .u8 r] w (Gives w (.int .i64 (Fl.of r).weight)) := by
  have o := fun w' => of_r r hr0 hr1 w'
  generalize Fl.of r = f at o
  obtain ⟨b, u, k, r', h⟩ := f
  have O := Lib.hid o
  clear o
  go_enter Try.func42, Try.ntmps42
  go_wp2_with (go_at_call 38; ((with_reducible refine (O.out _).mono ?_); rintro _ _ hgets; obtain ⟨rfl, x0, rfl⟩ := hgets.get; clear hgets))
  all_goals go_returns
  all_goals refine ⟨ret_int ?_, by (repeat' (first | (with_reducible exact Below.refl _ _) | (with_reducible refine Below.alloc ?_ ?_ _) | (with_reducible refine below_ext ?_ ?_ _) | (with_reducible refine Below.drew ?_) | (with_reducible refine below_drewN ?_ _) | (with_reducible refine Below.setCell ?_ ?_ _) | go_size | (simp only [go_sem]; omega) | (simp [go_sem]; done) | (simp [go_sem]; omega)))⟩
  all_goals simp_all [Fl.weight, wsum, bi]

theorem tmod_bd (g : Int) : -65536 < g.tmod 65536 ∧ g.tmod 65536 < 65536 ∧ (g.tmod 65536 < 0 → g.tmod 65536 + 65536 = g % 65536) ∧ (0 ≤ g.tmod 65536 → g.tmod 65536 = g % 65536) := by
  by_cases h : 0 ≤ g
  · rw [Int.tmod_eq_emod_of_nonneg h]; omega
  · have e : g.tmod 65536 = -((-g).tmod 65536) := by rw [Int.neg_tmod, Int.neg_neg]
    rw [e, Int.tmod_eq_emod_of_nonneg (by omega)]; omega
theorem tmod_neg {g : Int} (h : g.tmod 65536 < 0) : g.tmod 65536 + 65536 = g % 65536 := (tmod_bd g).2.2.1 h
theorem tmod_pos {g : Int} (h : 0 ≤ g.tmod 65536) : g.tmod 65536 = g % 65536 := (tmod_bd g).2.2.2 h
/-- A cell: its glyph, its rendition, whether it is kept. -/
structure Cl where
  g : Int
  r : Int
  k : Bool
  deriving DecidableEq
def encC (c : Cl) : List Value := [.int .i32 c.g, .int .u8 c.r, .bool c.k]
def Cl.ok (c : Cl) : Prop := (-2147483648 ≤ c.g ∧ c.g ≤ 2147483647) ∧ 0 ≤ c.r ∧ c.r ≤ 255
def Cl.weight (c : Cl) : Int := c.g % 65536 + (Fl.of c.r).weight + bi c.k 4
theorem encC_len (c : Cl) : (encC c).length = 3 := rfl
theorem encC_one (c : Cl) : ∀ u ∈ encC c, u.oneCell' = true := by
  intro u hu
  simp [encC] at hu
  rcases hu with rfl | rfl | rfl <;> rfl

set_option maxHeartbeats 1000000 in
theorem cweight_c (g r : Int) (k : Bool) (hg : -2147483648 ≤ g ∧ g ≤ 2147483647) (hr : 0 ≤ r ∧ r ≤ 255) (w : World) :
    Calls Try.prog 16 #[.agg #[.int .i32 g, .int .u8 r, .bool k]] w (Gives w (.int .i64 (Cl.weight ⟨g, r, k⟩))) := by
  obtain ⟨hg0, hg1⟩ := hg
  have B := wsum_bd (Fl.of r) 5
  have W := Lib.hid (fun w' => weight_c r hr.1 hr.2 w')
  unfold Cl.weight
  obtain ⟨hr0, hr1⟩ := hr
  unfold Fl.weight at W ⊢
  generalize wsum (Fl.of r) 5 = s at W B ⊢
  obtain ⟨b0, b1⟩ := B
  cases k
  all_goals
    go_enter Try.func16, Try.ntmps16
    go_wp2
    (refine wp_region_free (by kernel_rfl) (by kernel_rfl) ?_)
    repeat (go_big_quiet_step ((go_at_call 41; with_reducible exact Calls.free_same (W.out _))))
    refine wpQuiet_nil ?_; rintro _ ⟨x2, rfl⟩
    go_wp2
    go_returns
    refine ⟨ret_int ?_, by (repeat' (first | (with_reducible exact Below.refl _ _) | (with_reducible refine Below.alloc ?_ ?_ _) | (with_reducible refine below_ext ?_ ?_ _) | (with_reducible refine Below.drew ?_) | (with_reducible refine below_drewN ?_ _) | (with_reducible refine Below.setCell ?_ ?_ _) | go_size | (simp only [go_sem]; omega) | (simp [go_sem]; done) | (simp [go_sem]; omega)))⟩
    simp [bi, IntKind.wrap_u16]
    go_arith

set_option maxHeartbeats 1000000 in
theorem cweight_r (g r : Int) (k : Bool) (hg : -2147483648 ≤ g ∧ g ≤ 2147483647) (hr : 0 ≤ r ∧ r ≤ 255) (w : World) :
    Calls Try.prog 17 #[.agg #[.int .i32 g, .int .u8 r, .bool k]] w (Gives w (.int .i64 (Cl.weight ⟨g, r, k⟩))) := by
  obtain ⟨hg0, hg1⟩ := hg
  have B := wsum_bd (Fl.of r) 5
  have W := Lib.hid (fun w' => weight_r r hr.1 hr.2 w')
  unfold Cl.weight
  obtain ⟨hr0, hr1⟩ := hr
  unfold Fl.weight at W ⊢
  generalize wsum (Fl.of r) 5 = s at W B ⊢
  obtain ⟨b0, b1⟩ := B
  have q0 := (tmod_bd g).1
  have q1 := (tmod_bd g).2.1
  cases k
  all_goals
    go_enter Try.func17, Try.ntmps17
    go_wp2_with (go_at_call 42; ((with_reducible refine (W.out _).mono ?_); rintro _ _ hgets; obtain ⟨rfl, _, rfl⟩ := hgets.get; clear hgets))
    all_goals go_returns
    all_goals refine ⟨ret_int ?_, by (repeat' (first | (with_reducible exact Below.refl _ _) | (with_reducible refine Below.alloc ?_ ?_ _) | (with_reducible refine below_ext ?_ ?_ _) | (with_reducible refine Below.drew ?_) | (with_reducible refine below_drewN ?_ _) | (with_reducible refine Below.setCell ?_ ?_ _) | go_size | (simp only [go_sem]; omega) | (simp [go_sem]; done) | (simp [go_sem]; omega)))⟩
    · have e := tmod_neg ‹_›
      (try simp [bi])
      go_arith
    · have e := tmod_pos ‹_›
      (try simp [bi])
      go_arith
end Go.Proofs.Ytmpbgjnkkapijaa
