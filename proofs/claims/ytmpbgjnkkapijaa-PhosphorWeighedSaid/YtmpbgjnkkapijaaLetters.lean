/- The letters of a rendition, and its numbers. -/
import Derived.Test.YtmpbgjnkkapijaaBuild
import Derived.Test.YtmpbgjnkkapijaaCell
import Derived.Test.YtmpbgjnkkapijaaInts
namespace Go.Proofs.Ytmpbgjnkkapijaa
open Go.RowKit
set_option linter.unusedVariables false
set_option linter.unusedSimpArgs false

theorem bwrite_k (B b : Nat) (l : List UInt8) (k : Int) (c : UInt8) (hk : k = c.toNat) (w : World) (h : IsB B b l w) (hlen : l.length + 1 ≤ 140737488355328) (hBw : B ≤ w.heap.size) :
    Calls Try.prog 56 #[.pointer (some ⟨b, 0, none⟩), .int .u8 k] w fun e w' => e = .returned .nilIface ∧ (IsB B b (l ++ [c]) w' ∧ Below B w w' ∧ Lib.OthersKept 5 (some b) w w') := by
  subst hk
  exact bwrite_c B b l c w h hlen hBw
def bl {α : Type} (x : Bool) (c : α) : List α := if x then [c] else []
theorem bl_t {α : Type} (c : α) : bl true c = [c] := rfl
theorem bl_f {α : Type} (c : α) : bl false c = [] := rfl
def lettersTo (f : Fl) : Nat → List UInt8
  | 0 => []
  | 1 => bl f.b 98
  | 2 => bl f.b 98 ++ bl f.u 117
  | 3 => bl f.b 98 ++ bl f.u 117 ++ bl f.k 107
  | 4 => bl f.b 98 ++ bl f.u 117 ++ bl f.k 107 ++ bl f.r 114
  | _ => bl f.b 98 ++ bl f.u 117 ++ bl f.k 107 ++ bl f.r 114 ++ bl f.h 104
def numsTo (f : Fl) : Nat → List Int
  | 0 => [0]
  | 1 => [0] ++ bl f.b 1
  | 2 => [0] ++ bl f.b 1 ++ bl f.u 4
  | 3 => [0] ++ bl f.b 1 ++ bl f.u 4 ++ bl f.k 5
  | 4 => [0] ++ bl f.b 1 ++ bl f.u 4 ++ bl f.k 5 ++ bl f.r 7
  | _ => [0] ++ bl f.b 1 ++ bl f.u 4 ++ bl f.k 5 ++ bl f.r 7 ++ bl f.h 8
theorem bl_len {α : Type} (x : Bool) (c : α) : (bl x c).length ≤ 1 := by cases x <;> simp [bl]
theorem lettersTo_len (f : Fl) (k : Nat) : (lettersTo f k).length ≤ 5 := by
  have h1 := bl_len f.b (98 : UInt8)
  have h2 := bl_len f.u (117 : UInt8)
  have h3 := bl_len f.k (107 : UInt8)
  have h4 := bl_len f.r (114 : UInt8)
  have h5 := bl_len f.h (104 : UInt8)
  rcases k with _ | _ | _ | _ | _ | k <;> simp only [lettersTo, List.length_append, List.length_nil] <;> omega
theorem numsTo_len (f : Fl) (k : Nat) : (numsTo f k).length ≤ 6 := by
  have h1 := bl_len f.b (1 : Int)
  have h2 := bl_len f.u (4 : Int)
  have h3 := bl_len f.k (5 : Int)
  have h4 := bl_len f.r (7 : Int)
  have h5 := bl_len f.h (8 : Int)
  rcases k with _ | _ | _ | _ | _ | k <;> simp only [numsTo, List.length_append, List.length_nil, List.length_cons] <;> omega
theorem nums_c (w : World) : Calls Try.prog 54 #[] w (fun e w' => e = .returned (.agg #[.int .i64 1, .int .i64 4, .int .i64 5, .int .i64 7, .int .i64 8]) ∧ w.alloc (.cells #[.int .i64 1, .int .i64 4, .int .i64 5, .int .i64 7, .int .i64 8] 79) = w') := by
  go_enter Try.func54, Try.ntmps54
  go_wp2
  go_returns
  exact ⟨rfl, rfl⟩
theorem bit_isn {r : Int} (h : 0 ≤ r ∧ r ≤ 255) : (bits .and .u8 r 1 != 0) = (Fl.of r).b ∧ (bits .and .u8 r 2 != 0) = (Fl.of r).u ∧ (bits .and .u8 r 4 != 0) = (Fl.of r).k ∧ (bits .and .u8 r 8 != 0) = (Fl.of r).r ∧ (bits .and .u8 r 16 != 0) = (Fl.of r).h := by
  obtain ⟨a, b, c, d, e⟩ := bit_is h
  exact ⟨e, b, d, c, a⟩

set_option maxRecDepth 100000 in
set_option maxHeartbeats 4000000 in
theorem letters_c (r : Int) (hr0 : 0 ≤ r) (hr1 : r ≤ 255) (w : World) :
    Calls Try.prog 43 #[.int .u8 r] w (Gives w (.string ⟨(lettersTo (Fl.of r) 5).toArray⟩)) := by
  have i0 : ∀ w, (Instr.index 79 (.agg #[.int .i64 1, .int .i64 4, .int .i64 5, .int .i64 7, .int .i64 8]) (.int .i64 0)).run Try.prog w = .ok (.int .i64 1) w := fun _ => by kernel_rfl
  have i1 : ∀ w, (Instr.index 79 (.agg #[.int .i64 1, .int .i64 4, .int .i64 5, .int .i64 7, .int .i64 8]) (.int .i64 1)).run Try.prog w = .ok (.int .i64 4) w := fun _ => by kernel_rfl
  have i2 : ∀ w, (Instr.index 79 (.agg #[.int .i64 1, .int .i64 4, .int .i64 5, .int .i64 7, .int .i64 8]) (.int .i64 2)).run Try.prog w = .ok (.int .i64 5) w := fun _ => by kernel_rfl
  have i3 : ∀ w, (Instr.index 79 (.agg #[.int .i64 1, .int .i64 4, .int .i64 5, .int .i64 7, .int .i64 8]) (.int .i64 3)).run Try.prog w = .ok (.int .i64 7) w := fun _ => by kernel_rfl
  have i4 : ∀ w, (Instr.index 79 (.agg #[.int .i64 1, .int .i64 4, .int .i64 5, .int .i64 7, .int .i64 8]) (.int .i64 4)).run Try.prog w = .ok (.int .i64 8) w := fun _ => by kernel_rfl
  have tests := bit_isn ⟨hr0, hr1⟩
  generalize Fl.of r = f at tests
  obtain ⟨t0, t1, t2, t3, t4⟩ := tests
  have T0 := Lib.hid t0
  have T1 := Lib.hid t1
  have T2 := Lib.hid t2
  have T3 := Lib.hid t3
  have T4 := Lib.hid t4
  have HL := Lib.hid (lettersTo_len f)
  clear t0 t1 t2 t3 t4
  go_enter Try.func43, Try.ntmps43
  go_wp2_with (go_at_call 54; ((with_reducible refine (nums_c _).mono ?_); rintro _ _ ⟨rfl, rfl⟩))
  go_loopw [7] (fun i wr => ∃ k : Nat, k ≤ 5 ∧ i = .int .i64 k ∧ Hid (IsB w.heap.size w.heap.size (lettersTo f k) wr) ∧ Below w.heap.size w wr) (fun i _ => 5 - (intOf i).toNat)
  case atStart => exact ⟨0, by omega, rfl, (fresh_b w).alloc _, by (repeat' (first | (with_reducible exact Below.refl _ _) | (with_reducible refine Below.alloc ?_ ?_ _) | (with_reducible refine below_ext ?_ ?_ _) | (with_reducible refine Below.drew ?_) | (with_reducible refine below_drewN ?_ _) | (with_reducible refine Below.setCell ?_ ?_ _) | go_size | (simp only [go_sem]; omega) | (simp [go_sem]; done) | (simp [go_sem]; omega)))⟩
  case round =>
    obtain ⟨k, hk, rfl, hI, hB⟩ := hrel
    have hsz := hB.size
    have hl := HL.out k
    have hcases : k = 0 ∨ k = 1 ∨ k = 2 ∨ k = 3 ∨ k = 4 ∨ k = 5 := by omega
    rcases hcases with rfl | rfl | rfl | rfl | rfl | rfl
    · have tt := T0.out
      have hp : partI 1 = 1 := rfl
      have HN := Lib.hid (show lettersTo f 1 = lettersTo f 0 ++ bl f.b 98 by simp [lettersTo])
      generalize lettersTo f 0 = l at hI hl HN
      rcases Bool.eq_false_or_eq_true f.b with hb | hb
      · rw [hb] at tt HN
        go_wp2_with (first
          | (go_at_call 55; ((with_reducible refine (part_c _ _).mono ?_); rintro _ _ ⟨rfl, rfl⟩))
          | (go_at_call 56; refine (bwrite_k w.heap.size w.heap.size _ 98 98 rfl _ hI.out (by omega) hsz).mono ?_))
        rintro e w1 ⟨rfl, h1, b1, -⟩
        have h1 := Lib.hid h1
        go_wp2
        go_roundw
        case rel => exact ⟨1, by omega, by go_num, by rw [HN.out, bl_t]; exact h1, hB.trans b1⟩
        case measure => simp [intOf]
      · rw [hb] at tt HN
        go_wp2_with (go_at_call 55; ((with_reducible refine (part_c _ _).mono ?_); rintro _ _ ⟨rfl, rfl⟩))
        go_roundw
        case rel => exact ⟨1, by omega, by go_num, by rw [HN.out, bl_f, List.append_nil]; exact hI, hB⟩
        case measure => simp [intOf]
    · have tt := T1.out
      have hp : partI 4 = 2 := rfl
      have HN := Lib.hid (show lettersTo f 2 = lettersTo f 1 ++ bl f.u 117 by simp [lettersTo])
      generalize lettersTo f 1 = l at hI hl HN
      rcases Bool.eq_false_or_eq_true f.u with hb | hb
      · rw [hb] at tt HN
        go_wp2_with (first
          | (go_at_call 55; ((with_reducible refine (part_c _ _).mono ?_); rintro _ _ ⟨rfl, rfl⟩))
          | (go_at_call 56; refine (bwrite_k w.heap.size w.heap.size _ 117 117 rfl _ hI.out (by omega) hsz).mono ?_))
        rintro e w1 ⟨rfl, h1, b1, -⟩
        have h1 := Lib.hid h1
        go_wp2
        go_roundw
        case rel => exact ⟨2, by omega, by go_num, by rw [HN.out, bl_t]; exact h1, hB.trans b1⟩
        case measure => simp [intOf]
      · rw [hb] at tt HN
        go_wp2_with (go_at_call 55; ((with_reducible refine (part_c _ _).mono ?_); rintro _ _ ⟨rfl, rfl⟩))
        go_roundw
        case rel => exact ⟨2, by omega, by go_num, by rw [HN.out, bl_f, List.append_nil]; exact hI, hB⟩
        case measure => simp [intOf]
    · have tt := T2.out
      have hp : partI 5 = 4 := rfl
      have HN := Lib.hid (show lettersTo f 3 = lettersTo f 2 ++ bl f.k 107 by simp [lettersTo])
      generalize lettersTo f 2 = l at hI hl HN
      rcases Bool.eq_false_or_eq_true f.k with hb | hb
      · rw [hb] at tt HN
        go_wp2_with (first
          | (go_at_call 55; ((with_reducible refine (part_c _ _).mono ?_); rintro _ _ ⟨rfl, rfl⟩))
          | (go_at_call 56; refine (bwrite_k w.heap.size w.heap.size _ 107 107 rfl _ hI.out (by omega) hsz).mono ?_))
        rintro e w1 ⟨rfl, h1, b1, -⟩
        have h1 := Lib.hid h1
        go_wp2
        go_roundw
        case rel => exact ⟨3, by omega, by go_num, by rw [HN.out, bl_t]; exact h1, hB.trans b1⟩
        case measure => simp [intOf]
      · rw [hb] at tt HN
        go_wp2_with (go_at_call 55; ((with_reducible refine (part_c _ _).mono ?_); rintro _ _ ⟨rfl, rfl⟩))
        go_roundw
        case rel => exact ⟨3, by omega, by go_num, by rw [HN.out, bl_f, List.append_nil]; exact hI, hB⟩
        case measure => simp [intOf]
    · have tt := T3.out
      have hp : partI 7 = 8 := rfl
      have HN := Lib.hid (show lettersTo f 4 = lettersTo f 3 ++ bl f.r 114 by simp [lettersTo])
      generalize lettersTo f 3 = l at hI hl HN
      rcases Bool.eq_false_or_eq_true f.r with hb | hb
      · rw [hb] at tt HN
        go_wp2_with (first
          | (go_at_call 55; ((with_reducible refine (part_c _ _).mono ?_); rintro _ _ ⟨rfl, rfl⟩))
          | (go_at_call 56; refine (bwrite_k w.heap.size w.heap.size _ 114 114 rfl _ hI.out (by omega) hsz).mono ?_))
        rintro e w1 ⟨rfl, h1, b1, -⟩
        have h1 := Lib.hid h1
        go_wp2
        go_roundw
        case rel => exact ⟨4, by omega, by go_num, by rw [HN.out, bl_t]; exact h1, hB.trans b1⟩
        case measure => simp [intOf]
      · rw [hb] at tt HN
        go_wp2_with (go_at_call 55; ((with_reducible refine (part_c _ _).mono ?_); rintro _ _ ⟨rfl, rfl⟩))
        go_roundw
        case rel => exact ⟨4, by omega, by go_num, by rw [HN.out, bl_f, List.append_nil]; exact hI, hB⟩
        case measure => simp [intOf]
    · have tt := T4.out
      have hp : partI 8 = 16 := rfl
      have HN := Lib.hid (show lettersTo f 5 = lettersTo f 4 ++ bl f.h 104 by simp [lettersTo])
      generalize lettersTo f 4 = l at hI hl HN
      rcases Bool.eq_false_or_eq_true f.h with hb | hb
      · rw [hb] at tt HN
        go_wp2_with (first
          | (go_at_call 55; ((with_reducible refine (part_c _ _).mono ?_); rintro _ _ ⟨rfl, rfl⟩))
          | (go_at_call 56; refine (bwrite_k w.heap.size w.heap.size _ 104 104 rfl _ hI.out (by omega) hsz).mono ?_))
        rintro e w1 ⟨rfl, h1, b1, -⟩
        have h1 := Lib.hid h1
        go_wp2
        go_roundw
        case rel => exact ⟨5, by omega, by go_num, by rw [HN.out, bl_t]; exact h1, hB.trans b1⟩
        case measure => simp [intOf]
      · rw [hb] at tt HN
        go_wp2_with (go_at_call 55; ((with_reducible refine (part_c _ _).mono ?_); rintro _ _ ⟨rfl, rfl⟩))
        go_roundw
        case rel => exact ⟨5, by omega, by go_num, by rw [HN.out, bl_f, List.append_nil]; exact hI, hB⟩
        case measure => simp [intOf]
    · go_wp2_with (go_at_call 57; refine (bstring_c w.heap.size w.heap.size (lettersTo f 5) _ hI.out hsz).mono ?_)
      rintro e w1 ⟨rfl, -, b1, -⟩
      go_wp2
      go_returns
      exact ⟨rfl, hB.trans b1⟩
end Go.Proofs.Ytmpbgjnkkapijaa
