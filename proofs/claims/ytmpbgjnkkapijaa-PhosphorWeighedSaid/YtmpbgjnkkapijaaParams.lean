/- The numbers of a rendition, as the program and the reference give them; the reference's letters. -/
import Derived.Test.YtmpbgjnkkapijaaLetters
namespace Go.Proofs.Ytmpbgjnkkapijaa
open Go.RowKit
set_option linter.unusedVariables false
set_option linter.unusedSimpArgs false

/-- a list of numbers of the call's own -/
def NewI (U : World) (l : List Int) (s : Value) (wx : World) : Prop := ∃ A c, s = .slice A l.length c ∧ Below U.heap.size U wx ∧ Own (encI .i64) 1 3 U.heap.size wx (.slice A l.length c) l
def NewInts (w : World) (l : List Int) (e : Ending) (w' : World) : Prop := ∃ s, e = .returned s ∧ NewI w l s w'
theorem NewI.get {U wx : World} {l : List Int} {s : Value} (h : NewI U l s wx) : ∃ A c x, s = .slice A l.length c ∧ wx = ext U x ∧ Own (encI .i64) 1 3 U.heap.size (ext U x) (.slice A l.length c) l := by
  obtain ⟨A, c, rfl, hB, hO⟩ := h
  obtain ⟨x, rfl⟩ := ext_of hB
  exact ⟨A, c, x, rfl, rfl, hO⟩
theorem int_new {w : World} {g : Nat} (e : TypeId) (n : Int) (hg : g = w.heap.size) : Rd (encI .i64) 1 (w.alloc (.cells #[.int .i64 n] e)) (some ⟨g, 0, none⟩) [n] :=
  (Own.new (B := 0) (e := e) (encI_len _) hg (xs := [n]) (rfl : (1 : Nat) = [n].length) _ rfl (Nat.zero_le _) (by simp [maxLen])).rd (encI_len _)
theorem own_int {w : World} {g B : Nat} (e : TypeId) (n : Int) (hg : g = w.heap.size) (hB : B ≤ w.heap.size) : Own (encI .i64) 1 e B (w.alloc (.cells #[.int .i64 n] e)) (.slice (some ⟨g, 0, none⟩) 1 1) [n] :=
  Own.new (e := e) (encI_len _) hg (xs := [n]) (rfl : (1 : Nat) = [n].length) _ rfl hB (by simp [maxLen])

set_option maxRecDepth 100000 in
set_option maxHeartbeats 4000000 in
theorem params_c (r : Int) (hr0 : 0 ≤ r) (hr1 : r ≤ 255) (w : World) :
    Calls Try.prog 39 #[.int .u8 r] w (NewInts w (numsTo (Fl.of r) 5)) := by
  have i0 : ∀ w, (Instr.index 79 (.agg #[.int .i64 1, .int .i64 4, .int .i64 5, .int .i64 7, .int .i64 8]) (.int .i64 0)).run Try.prog w = .ok (.int .i64 1) w := fun _ => by kernel_rfl
  have i1 : ∀ w, (Instr.index 79 (.agg #[.int .i64 1, .int .i64 4, .int .i64 5, .int .i64 7, .int .i64 8]) (.int .i64 1)).run Try.prog w = .ok (.int .i64 4) w := fun _ => by kernel_rfl
  have i2 : ∀ w, (Instr.index 79 (.agg #[.int .i64 1, .int .i64 4, .int .i64 5, .int .i64 7, .int .i64 8]) (.int .i64 2)).run Try.prog w = .ok (.int .i64 5) w := fun _ => by kernel_rfl
  have i3 : ∀ w, (Instr.index 79 (.agg #[.int .i64 1, .int .i64 4, .int .i64 5, .int .i64 7, .int .i64 8]) (.int .i64 3)).run Try.prog w = .ok (.int .i64 7) w := fun _ => by kernel_rfl
  have i4 : ∀ w, (Instr.index 79 (.agg #[.int .i64 1, .int .i64 4, .int .i64 5, .int .i64 7, .int .i64 8]) (.int .i64 4)).run Try.prog w = .ok (.int .i64 8) w := fun _ => by kernel_rfl
  have tests := bit_isn ⟨hr0, hr1⟩
  generalize Fl.of r = f at tests
  obtain ⟨t0, t1, t2, t3, t4⟩ := tests
  have T0 := Lib.hid t0
  have T1 := Lib.hid t1
  have T2 := Lib.hid t2
  have T3 := Lib.hid t3
  have T4 := Lib.hid t4
  have HL := Lib.hid (numsTo_len f)
  clear t0 t1 t2 t3 t4
  go_enter Try.func39, Try.ntmps39
  go_wp2_with (go_at_call 54; ((with_reducible refine (nums_c _).mono ?_); rintro _ _ ⟨rfl, rfl⟩))
  go_loopw [3, 8] (fun v i wr => ∃ k : Nat, k ≤ 5 ∧ i = .int .i64 k ∧ NewI w (numsTo f k) v wr) (fun _ i _ => 5 - (intOf i).toNat)
  case atStart => exact ⟨0, by omega, rfl, _, _, rfl, by (repeat' (first | (with_reducible exact Below.refl _ _) | (with_reducible refine Below.alloc ?_ ?_ _) | (with_reducible refine below_ext ?_ ?_ _) | (with_reducible refine Below.drew ?_) | (with_reducible refine below_drewN ?_ _) | (with_reducible refine Below.setCell ?_ ?_ _) | go_size | (simp only [go_sem]; omega) | (simp [go_sem]; done) | (simp [go_sem]; omega))), (own_int _ 0 (by simp) (by simp)).alloc _⟩
  case round =>
    obtain ⟨k, hk, rfl, hN⟩ := hrel
    obtain ⟨A, c, x, rfl, rfl, hO⟩ := hN.get
    clear hN
    have hl := HL.out k
    have hcases : k = 0 ∨ k = 1 ∨ k = 2 ∨ k = 3 ∨ k = 4 ∨ k = 5 := by omega
    rcases hcases with rfl | rfl | rfl | rfl | rfl | rfl
    · have tt := T0.out
      have hp : partI 1 = 1 := rfl
      have HN := Lib.hid (show numsTo f 1 = numsTo f 0 ++ bl f.b 1 by simp [numsTo])
      generalize numsTo f 0 = l at hO hl HN
      replace hO := Lib.hid hO
      rcases Bool.eq_false_or_eq_true f.b with hb | hb
      · rw [hb] at tt HN
        go_wp2_with (first
          | (go_at_call 55; ((with_reducible refine (part_c _ _).mono ?_); rintro _ _ ⟨rfl, rfl⟩))
          | (at_builtin
             refine append_rd (U := w) (.tmp 16) (.tmp 18) 34 3 _ 8 rfl rfl Try.underlying34 int_info rfl (by omega) (encI_len _) (encI_one _) l [1] _ _ _ rfl rfl ?_ (hO.out.alloc _) (int_new _ 1 (by simp)) (by simp [maxLen]; omega) (by simp; omega) ?_
             · (repeat' (first | (with_reducible exact Below.refl _ _) | (with_reducible refine Below.alloc ?_ ?_ _) | (with_reducible refine below_ext ?_ ?_ _) | (with_reducible refine Below.drew ?_) | (with_reducible refine below_drewN ?_ _) | (with_reducible refine Below.setCell ?_ ?_ _) | go_size | (simp only [go_sem]; omega) | (simp [go_sem]; done) | (simp [go_sem]; omega)))
             intro A' c' x' zs hz1 hO1
             have hO2 := Lib.hid hO1
             have hz := Lib.hid hz1
             clear hO1 hz1))
        go_wp2
        go_roundw
        case rel => exact ⟨1, by omega, by go_num, by rw [HN.out, bl_t, ← hz.out]; exact ⟨_, _, rfl, by (repeat' (first | (with_reducible exact Below.refl _ _) | (with_reducible refine Below.alloc ?_ ?_ _) | (with_reducible refine below_ext ?_ ?_ _) | (with_reducible refine Below.drew ?_) | (with_reducible refine below_drewN ?_ _) | (with_reducible refine Below.setCell ?_ ?_ _) | go_size | (simp only [go_sem]; omega) | (simp [go_sem]; done) | (simp [go_sem]; omega))), hO2.out⟩⟩
        case measure => simp [intOf]
      · rw [hb] at tt HN
        go_wp2_with (go_at_call 55; ((with_reducible refine (part_c _ _).mono ?_); rintro _ _ ⟨rfl, rfl⟩))
        go_roundw
        case rel => exact ⟨1, by omega, by go_num, by rw [HN.out, bl_f, List.append_nil]; exact ⟨_, _, rfl, by (repeat' (first | (with_reducible exact Below.refl _ _) | (with_reducible refine Below.alloc ?_ ?_ _) | (with_reducible refine below_ext ?_ ?_ _) | (with_reducible refine Below.drew ?_) | (with_reducible refine below_drewN ?_ _) | (with_reducible refine Below.setCell ?_ ?_ _) | go_size | (simp only [go_sem]; omega) | (simp [go_sem]; done) | (simp [go_sem]; omega))), hO.out⟩⟩
        case measure => simp [intOf]
    · have tt := T1.out
      have hp : partI 4 = 2 := rfl
      have HN := Lib.hid (show numsTo f 2 = numsTo f 1 ++ bl f.u 4 by simp [numsTo])
      generalize numsTo f 1 = l at hO hl HN
      replace hO := Lib.hid hO
      rcases Bool.eq_false_or_eq_true f.u with hb | hb
      · rw [hb] at tt HN
        go_wp2_with (first
          | (go_at_call 55; ((with_reducible refine (part_c _ _).mono ?_); rintro _ _ ⟨rfl, rfl⟩))
          | (at_builtin
             refine append_rd (U := w) (.tmp 16) (.tmp 18) 34 3 _ 8 rfl rfl Try.underlying34 int_info rfl (by omega) (encI_len _) (encI_one _) l [4] _ _ _ rfl rfl ?_ (hO.out.alloc _) (int_new _ 4 (by simp)) (by simp [maxLen]; omega) (by simp; omega) ?_
             · (repeat' (first | (with_reducible exact Below.refl _ _) | (with_reducible refine Below.alloc ?_ ?_ _) | (with_reducible refine below_ext ?_ ?_ _) | (with_reducible refine Below.drew ?_) | (with_reducible refine below_drewN ?_ _) | (with_reducible refine Below.setCell ?_ ?_ _) | go_size | (simp only [go_sem]; omega) | (simp [go_sem]; done) | (simp [go_sem]; omega)))
             intro A' c' x' zs hz1 hO1
             have hO2 := Lib.hid hO1
             have hz := Lib.hid hz1
             clear hO1 hz1))
        go_wp2
        go_roundw
        case rel => exact ⟨2, by omega, by go_num, by rw [HN.out, bl_t, ← hz.out]; exact ⟨_, _, rfl, by (repeat' (first | (with_reducible exact Below.refl _ _) | (with_reducible refine Below.alloc ?_ ?_ _) | (with_reducible refine below_ext ?_ ?_ _) | (with_reducible refine Below.drew ?_) | (with_reducible refine below_drewN ?_ _) | (with_reducible refine Below.setCell ?_ ?_ _) | go_size | (simp only [go_sem]; omega) | (simp [go_sem]; done) | (simp [go_sem]; omega))), hO2.out⟩⟩
        case measure => simp [intOf]
      · rw [hb] at tt HN
        go_wp2_with (go_at_call 55; ((with_reducible refine (part_c _ _).mono ?_); rintro _ _ ⟨rfl, rfl⟩))
        go_roundw
        case rel => exact ⟨2, by omega, by go_num, by rw [HN.out, bl_f, List.append_nil]; exact ⟨_, _, rfl, by (repeat' (first | (with_reducible exact Below.refl _ _) | (with_reducible refine Below.alloc ?_ ?_ _) | (with_reducible refine below_ext ?_ ?_ _) | (with_reducible refine Below.drew ?_) | (with_reducible refine below_drewN ?_ _) | (with_reducible refine Below.setCell ?_ ?_ _) | go_size | (simp only [go_sem]; omega) | (simp [go_sem]; done) | (simp [go_sem]; omega))), hO.out⟩⟩
        case measure => simp [intOf]
    · have tt := T2.out
      have hp : partI 5 = 4 := rfl
      have HN := Lib.hid (show numsTo f 3 = numsTo f 2 ++ bl f.k 5 by simp [numsTo])
      generalize numsTo f 2 = l at hO hl HN
      replace hO := Lib.hid hO
      rcases Bool.eq_false_or_eq_true f.k with hb | hb
      · rw [hb] at tt HN
        go_wp2_with (first
          | (go_at_call 55; ((with_reducible refine (part_c _ _).mono ?_); rintro _ _ ⟨rfl, rfl⟩))
          | (at_builtin
             refine append_rd (U := w) (.tmp 16) (.tmp 18) 34 3 _ 8 rfl rfl Try.underlying34 int_info rfl (by omega) (encI_len _) (encI_one _) l [5] _ _ _ rfl rfl ?_ (hO.out.alloc _) (int_new _ 5 (by simp)) (by simp [maxLen]; omega) (by simp; omega) ?_
             · (repeat' (first | (with_reducible exact Below.refl _ _) | (with_reducible refine Below.alloc ?_ ?_ _) | (with_reducible refine below_ext ?_ ?_ _) | (with_reducible refine Below.drew ?_) | (with_reducible refine below_drewN ?_ _) | (with_reducible refine Below.setCell ?_ ?_ _) | go_size | (simp only [go_sem]; omega) | (simp [go_sem]; done) | (simp [go_sem]; omega)))
             intro A' c' x' zs hz1 hO1
             have hO2 := Lib.hid hO1
             have hz := Lib.hid hz1
             clear hO1 hz1))
        go_wp2
        go_roundw
        case rel => exact ⟨3, by omega, by go_num, by rw [HN.out, bl_t, ← hz.out]; exact ⟨_, _, rfl, by (repeat' (first | (with_reducible exact Below.refl _ _) | (with_reducible refine Below.alloc ?_ ?_ _) | (with_reducible refine below_ext ?_ ?_ _) | (with_reducible refine Below.drew ?_) | (with_reducible refine below_drewN ?_ _) | (with_reducible refine Below.setCell ?_ ?_ _) | go_size | (simp only [go_sem]; omega) | (simp [go_sem]; done) | (simp [go_sem]; omega))), hO2.out⟩⟩
        case measure => simp [intOf]
      · rw [hb] at tt HN
        go_wp2_with (go_at_call 55; ((with_reducible refine (part_c _ _).mono ?_); rintro _ _ ⟨rfl, rfl⟩))
        go_roundw
        case rel => exact ⟨3, by omega, by go_num, by rw [HN.out, bl_f, List.append_nil]; exact ⟨_, _, rfl, by (repeat' (first | (with_reducible exact Below.refl _ _) | (with_reducible refine Below.alloc ?_ ?_ _) | (with_reducible refine below_ext ?_ ?_ _) | (with_reducible refine Below.drew ?_) | (with_reducible refine below_drewN ?_ _) | (with_reducible refine Below.setCell ?_ ?_ _) | go_size | (simp only [go_sem]; omega) | (simp [go_sem]; done) | (simp [go_sem]; omega))), hO.out⟩⟩
        case measure => simp [intOf]
    · have tt := T3.out
      have hp : partI 7 = 8 := rfl
      have HN := Lib.hid (show numsTo f 4 = numsTo f 3 ++ bl f.r 7 by simp [numsTo])
      generalize numsTo f 3 = l at hO hl HN
      replace hO := Lib.hid hO
      rcases Bool.eq_false_or_eq_true f.r with hb | hb
      · rw [hb] at tt HN
        go_wp2_with (first
          | (go_at_call 55; ((with_reducible refine (part_c _ _).mono ?_); rintro _ _ ⟨rfl, rfl⟩))
          | (at_builtin
             refine append_rd (U := w) (.tmp 16) (.tmp 18) 34 3 _ 8 rfl rfl Try.underlying34 int_info rfl (by omega) (encI_len _) (encI_one _) l [7] _ _ _ rfl rfl ?_ (hO.out.alloc _) (int_new _ 7 (by simp)) (by simp [maxLen]; omega) (by simp; omega) ?_
             · (repeat' (first | (with_reducible exact Below.refl _ _) | (with_reducible refine Below.alloc ?_ ?_ _) | (with_reducible refine below_ext ?_ ?_ _) | (with_reducible refine Below.drew ?_) | (with_reducible refine below_drewN ?_ _) | (with_reducible refine Below.setCell ?_ ?_ _) | go_size | (simp only [go_sem]; omega) | (simp [go_sem]; done) | (simp [go_sem]; omega)))
             intro A' c' x' zs hz1 hO1
             have hO2 := Lib.hid hO1
             have hz := Lib.hid hz1
             clear hO1 hz1))
        go_wp2
        go_roundw
        case rel => exact ⟨4, by omega, by go_num, by rw [HN.out, bl_t, ← hz.out]; exact ⟨_, _, rfl, by (repeat' (first | (with_reducible exact Below.refl _ _) | (with_reducible refine Below.alloc ?_ ?_ _) | (with_reducible refine below_ext ?_ ?_ _) | (with_reducible refine Below.drew ?_) | (with_reducible refine below_drewN ?_ _) | (with_reducible refine Below.setCell ?_ ?_ _) | go_size | (simp only [go_sem]; omega) | (simp [go_sem]; done) | (simp [go_sem]; omega))), hO2.out⟩⟩
        case measure => simp [intOf]
      · rw [hb] at tt HN
        go_wp2_with (go_at_call 55; ((with_reducible refine (part_c _ _).mono ?_); rintro _ _ ⟨rfl, rfl⟩))
        go_roundw
        case rel => exact ⟨4, by omega, by go_num, by rw [HN.out, bl_f, List.append_nil]; exact ⟨_, _, rfl, by (repeat' (first | (with_reducible exact Below.refl _ _) | (with_reducible refine Below.alloc ?_ ?_ _) | (with_reducible refine below_ext ?_ ?_ _) | (with_reducible refine Below.drew ?_) | (with_reducible refine below_drewN ?_ _) | (with_reducible refine Below.setCell ?_ ?_ _) | go_size | (simp only [go_sem]; omega) | (simp [go_sem]; done) | (simp [go_sem]; omega))), hO.out⟩⟩
        case measure => simp [intOf]
    · have tt := T4.out
      have hp : partI 8 = 16 := rfl
      have HN := Lib.hid (show numsTo f 5 = numsTo f 4 ++ bl f.h 8 by simp [numsTo])
      generalize numsTo f 4 = l at hO hl HN
      replace hO := Lib.hid hO
      rcases Bool.eq_false_or_eq_true f.h with hb | hb
      · rw [hb] at tt HN
        go_wp2_with (first
          | (go_at_call 55; ((with_reducible refine (part_c _ _).mono ?_); rintro _ _ ⟨rfl, rfl⟩))
          | (at_builtin
             refine append_rd (U := w) (.tmp 16) (.tmp 18) 34 3 _ 8 rfl rfl Try.underlying34 int_info rfl (by omega) (encI_len _) (encI_one _) l [8] _ _ _ rfl rfl ?_ (hO.out.alloc _) (int_new _ 8 (by simp)) (by simp [maxLen]; omega) (by simp; omega) ?_
             · (repeat' (first | (with_reducible exact Below.refl _ _) | (with_reducible refine Below.alloc ?_ ?_ _) | (with_reducible refine below_ext ?_ ?_ _) | (with_reducible refine Below.drew ?_) | (with_reducible refine below_drewN ?_ _) | (with_reducible refine Below.setCell ?_ ?_ _) | go_size | (simp only [go_sem]; omega) | (simp [go_sem]; done) | (simp [go_sem]; omega)))
             intro A' c' x' zs hz1 hO1
             have hO2 := Lib.hid hO1
             have hz := Lib.hid hz1
             clear hO1 hz1))
        go_wp2
        go_roundw
        case rel => exact ⟨5, by omega, by go_num, by rw [HN.out, bl_t, ← hz.out]; exact ⟨_, _, rfl, by (repeat' (first | (with_reducible exact Below.refl _ _) | (with_reducible refine Below.alloc ?_ ?_ _) | (with_reducible refine below_ext ?_ ?_ _) | (with_reducible refine Below.drew ?_) | (with_reducible refine below_drewN ?_ _) | (with_reducible refine Below.setCell ?_ ?_ _) | go_size | (simp only [go_sem]; omega) | (simp [go_sem]; done) | (simp [go_sem]; omega))), hO2.out⟩⟩
        case measure => simp [intOf]
      · rw [hb] at tt HN
        go_wp2_with (go_at_call 55; ((with_reducible refine (part_c _ _).mono ?_); rintro _ _ ⟨rfl, rfl⟩))
        go_roundw
        case rel => exact ⟨5, by omega, by go_num, by rw [HN.out, bl_f, List.append_nil]; exact ⟨_, _, rfl, by (repeat' (first | (with_reducible exact Below.refl _ _) | (with_reducible refine Below.alloc ?_ ?_ _) | (with_reducible refine below_ext ?_ ?_ _) | (with_reducible refine Below.drew ?_) | (with_reducible refine below_drewN ?_ _) | (with_reducible refine Below.setCell ?_ ?_ _) | go_size | (simp only [go_sem]; omega) | (simp [go_sem]; done) | (simp [go_sem]; omega))), hO.out⟩⟩
        case measure => simp [intOf]
    · replace hO := Lib.hid hO
      go_wp2
      go_returns
      exact ⟨_, rfl, _, _, rfl, by (repeat' (first | (with_reducible exact Below.refl _ _) | (with_reducible refine Below.alloc ?_ ?_ _) | (with_reducible refine below_ext ?_ ?_ _) | (with_reducible refine Below.drew ?_) | (with_reducible refine below_drewN ?_ _) | (with_reducible refine Below.setCell ?_ ?_ _) | go_size | (simp only [go_sem]; omega) | (simp [go_sem]; done) | (simp [go_sem]; omega))), hO.out⟩

set_option maxRecDepth 100000 in
set_option maxHeartbeats 4000000 in
theorem params_r (r : Int) (hr0 : 0 ≤ r) (hr1 : r ≤ 255) (w : World) :
    Calls Try.prog 40 #[.int .u8 r] w (NewInts w (numsTo (Fl.of r) 5)) := by
  have o := fun w' => of_r r hr0 hr1 w'
  generalize Fl.of r = f at o
  obtain ⟨b, u, k, r', h⟩ := f
  have O := Lib.hid o
  clear o
  have l0 := bl_len b (1 : Int)
  have l1 := bl_len u (4 : Int)
  have l2 := bl_len k (5 : Int)
  have l3 := bl_len r' (7 : Int)
  have l4 := bl_len h (8 : Int)
  go_enter Try.func40, Try.ntmps40
  go_upto_region 2 with (go_at_call 38; ((with_reducible refine (O.out _).mono ?_); rintro _ _ hgets; obtain ⟨rfl, x0, rfl⟩ := hgets.get; clear hgets))
  have hUs : w.heap.size < ((ext w x0).alloc (.cells #[.bool b, .bool u, .bool k, .bool r', .bool h] 55)).heap.size := by simp [go_sem]
  have hUB : Below w.heap.size w ((ext w x0).alloc (.cells #[.bool b, .bool u, .bool k, .bool r', .bool h] 55)) := by (repeat' (first | (with_reducible exact Below.refl _ _) | (with_reducible refine Below.alloc ?_ ?_ _) | (with_reducible refine below_ext ?_ ?_ _) | (with_reducible refine Below.drew ?_) | (with_reducible refine below_drewN ?_ _) | (with_reducible refine Below.setCell ?_ ?_ _) | go_size | (simp only [go_sem]; omega) | (simp [go_sem]; done) | (simp [go_sem]; omega)))
  go_cut [4] (fun s wx => NewI ((ext w x0).alloc (.cells #[.bool b, .bool u, .bool k, .bool r', .bool h] 55)) [(0 : Int)] s wx)
  case first =>
    go_wp2
    go_meet
    exact ⟨_, _, rfl, by (repeat' (first | (with_reducible exact Below.refl _ _) | (with_reducible refine Below.alloc ?_ ?_ _) | (with_reducible refine below_ext ?_ ?_ _) | (with_reducible refine Below.drew ?_) | (with_reducible refine below_drewN ?_ _) | (with_reducible refine Below.setCell ?_ ?_ _) | go_size | (simp only [go_sem]; omega) | (simp [go_sem]; done) | (simp [go_sem]; omega))), own_int _ 0 (by simp [go_sem]) (by simp [go_sem])⟩
  generalize hL0 : [(0 : Int)] = L0 at hcut
  have H0 := Lib.hid hL0
  have m0 : L0.length ≤ 1 := by rw [← hL0]; simp
  clear hL0
  obtain ⟨A, c, x, rfl, rfl, hO⟩ := hcut.get
  clear hcut
  replace hO := Lib.hid hO
  go_upto_if 9 with fail
  go_cut [4] (fun s wx => NewI ((ext w x0).alloc (.cells #[.bool b, .bool u, .bool k, .bool r', .bool h] 55)) (L0 ++ bl b 1) s wx)
  case first =>
    cases b
    · go_wp2
      go_meet
      rw [bl_f, List.append_nil]
      exact ⟨_, _, rfl, by (repeat' (first | (with_reducible exact Below.refl _ _) | (with_reducible refine Below.alloc ?_ ?_ _) | (with_reducible refine below_ext ?_ ?_ _) | (with_reducible refine Below.drew ?_) | (with_reducible refine below_drewN ?_ _) | (with_reducible refine Below.setCell ?_ ?_ _) | go_size | (simp only [go_sem]; omega) | (simp [go_sem]; done) | (simp [go_sem]; omega))), hO.out⟩
    · go_wp2_with (first
        | (at_builtin
           refine append_rd (U := ((ext w x0).alloc (.cells #[.bool true, .bool u, .bool k, .bool r', .bool h] 55))) (.tmp 10) (.tmp 11) 34 3 _ 8 rfl rfl Try.underlying34 int_info rfl (by omega) (encI_len _) (encI_one _) L0 [1] _ _ _ rfl rfl ?_ (hO.out.alloc _) (int_new _ 1 (by simp [go_sem])) (by simp only [maxLen, List.length_cons, List.length_nil]; omega) (by simp only [List.length_cons, List.length_nil]; omega) ?_
           · (repeat' (first | (with_reducible exact Below.refl _ _) | (with_reducible refine Below.alloc ?_ ?_ _) | (with_reducible refine below_ext ?_ ?_ _) | (with_reducible refine Below.drew ?_) | (with_reducible refine below_drewN ?_ _) | (with_reducible refine Below.setCell ?_ ?_ _) | go_size | (simp only [go_sem]; omega) | (simp [go_sem]; done) | (simp [go_sem]; omega)))
           intro A' c' x' zs hz1 hO1
           have hO2 := Lib.hid hO1
           have hz := Lib.hid hz1
           clear hO1 hz1))
      go_wp2
      go_meet
      rw [bl_t, ← hz.out]
      exact ⟨_, _, rfl, by (repeat' (first | (with_reducible exact Below.refl _ _) | (with_reducible refine Below.alloc ?_ ?_ _) | (with_reducible refine below_ext ?_ ?_ _) | (with_reducible refine Below.drew ?_) | (with_reducible refine below_drewN ?_ _) | (with_reducible refine Below.setCell ?_ ?_ _) | go_size | (simp only [go_sem]; omega) | (simp [go_sem]; done) | (simp [go_sem]; omega))), hO2.out⟩
  have hm := bl_len b (1 : Int)
  have m1 : (L0 ++ bl b 1).length ≤ 2 := by rw [List.length_append]; omega
  generalize hL1 : L0 ++ bl b 1 = L1 at hcut m1
  have H1 := Lib.hid hL1
  clear hL1 hm
  obtain ⟨A, c, x, rfl, rfl, hO⟩ := hcut.get
  clear hcut
  replace hO := Lib.hid hO
  go_upto_if 14 with fail
  go_cut [4] (fun s wx => NewI ((ext w x0).alloc (.cells #[.bool b, .bool u, .bool k, .bool r', .bool h] 55)) (L1 ++ bl u 4) s wx)
  case first =>
    cases u
    · go_wp2
      go_meet
      rw [bl_f, List.append_nil]
      exact ⟨_, _, rfl, by (repeat' (first | (with_reducible exact Below.refl _ _) | (with_reducible refine Below.alloc ?_ ?_ _) | (with_reducible refine below_ext ?_ ?_ _) | (with_reducible refine Below.drew ?_) | (with_reducible refine below_drewN ?_ _) | (with_reducible refine Below.setCell ?_ ?_ _) | go_size | (simp only [go_sem]; omega) | (simp [go_sem]; done) | (simp [go_sem]; omega))), hO.out⟩
    · go_wp2_with (first
        | (at_builtin
           refine append_rd (U := ((ext w x0).alloc (.cells #[.bool b, .bool true, .bool k, .bool r', .bool h] 55))) (.tmp 15) (.tmp 16) 34 3 _ 8 rfl rfl Try.underlying34 int_info rfl (by omega) (encI_len _) (encI_one _) L1 [4] _ _ _ rfl rfl ?_ (hO.out.alloc _) (int_new _ 4 (by simp [go_sem])) (by simp only [maxLen, List.length_cons, List.length_nil]; omega) (by simp only [List.length_cons, List.length_nil]; omega) ?_
           · (repeat' (first | (with_reducible exact Below.refl _ _) | (with_reducible refine Below.alloc ?_ ?_ _) | (with_reducible refine below_ext ?_ ?_ _) | (with_reducible refine Below.drew ?_) | (with_reducible refine below_drewN ?_ _) | (with_reducible refine Below.setCell ?_ ?_ _) | go_size | (simp only [go_sem]; omega) | (simp [go_sem]; done) | (simp [go_sem]; omega)))
           intro A' c' x' zs hz1 hO1
           have hO2 := Lib.hid hO1
           have hz := Lib.hid hz1
           clear hO1 hz1))
      go_wp2
      go_meet
      rw [bl_t, ← hz.out]
      exact ⟨_, _, rfl, by (repeat' (first | (with_reducible exact Below.refl _ _) | (with_reducible refine Below.alloc ?_ ?_ _) | (with_reducible refine below_ext ?_ ?_ _) | (with_reducible refine Below.drew ?_) | (with_reducible refine below_drewN ?_ _) | (with_reducible refine Below.setCell ?_ ?_ _) | go_size | (simp only [go_sem]; omega) | (simp [go_sem]; done) | (simp [go_sem]; omega))), hO2.out⟩
  have hm := bl_len u (4 : Int)
  have m2 : (L1 ++ bl u 4).length ≤ 3 := by rw [List.length_append]; omega
  generalize hL2 : L1 ++ bl u 4 = L2 at hcut m2
  have H2 := Lib.hid hL2
  clear hL2 hm
  obtain ⟨A, c, x, rfl, rfl, hO⟩ := hcut.get
  clear hcut
  replace hO := Lib.hid hO
  go_upto_if 19 with fail
  go_cut [4] (fun s wx => NewI ((ext w x0).alloc (.cells #[.bool b, .bool u, .bool k, .bool r', .bool h] 55)) (L2 ++ bl k 5) s wx)
  case first =>
    cases k
    · go_wp2
      go_meet
      rw [bl_f, List.append_nil]
      exact ⟨_, _, rfl, by (repeat' (first | (with_reducible exact Below.refl _ _) | (with_reducible refine Below.alloc ?_ ?_ _) | (with_reducible refine below_ext ?_ ?_ _) | (with_reducible refine Below.drew ?_) | (with_reducible refine below_drewN ?_ _) | (with_reducible refine Below.setCell ?_ ?_ _) | go_size | (simp only [go_sem]; omega) | (simp [go_sem]; done) | (simp [go_sem]; omega))), hO.out⟩
    · go_wp2_with (first
        | (at_builtin
           refine append_rd (U := ((ext w x0).alloc (.cells #[.bool b, .bool u, .bool true, .bool r', .bool h] 55))) (.tmp 20) (.tmp 21) 34 3 _ 8 rfl rfl Try.underlying34 int_info rfl (by omega) (encI_len _) (encI_one _) L2 [5] _ _ _ rfl rfl ?_ (hO.out.alloc _) (int_new _ 5 (by simp [go_sem])) (by simp only [maxLen, List.length_cons, List.length_nil]; omega) (by simp only [List.length_cons, List.length_nil]; omega) ?_
           · (repeat' (first | (with_reducible exact Below.refl _ _) | (with_reducible refine Below.alloc ?_ ?_ _) | (with_reducible refine below_ext ?_ ?_ _) | (with_reducible refine Below.drew ?_) | (with_reducible refine below_drewN ?_ _) | (with_reducible refine Below.setCell ?_ ?_ _) | go_size | (simp only [go_sem]; omega) | (simp [go_sem]; done) | (simp [go_sem]; omega)))
           intro A' c' x' zs hz1 hO1
           have hO2 := Lib.hid hO1
           have hz := Lib.hid hz1
           clear hO1 hz1))
      go_wp2
      go_meet
      rw [bl_t, ← hz.out]
      exact ⟨_, _, rfl, by (repeat' (first | (with_reducible exact Below.refl _ _) | (with_reducible refine Below.alloc ?_ ?_ _) | (with_reducible refine below_ext ?_ ?_ _) | (with_reducible refine Below.drew ?_) | (with_reducible refine below_drewN ?_ _) | (with_reducible refine Below.setCell ?_ ?_ _) | go_size | (simp only [go_sem]; omega) | (simp [go_sem]; done) | (simp [go_sem]; omega))), hO2.out⟩
  have hm := bl_len k (5 : Int)
  have m3 : (L2 ++ bl k 5).length ≤ 4 := by rw [List.length_append]; omega
  generalize hL3 : L2 ++ bl k 5 = L3 at hcut m3
  have H3 := Lib.hid hL3
  clear hL3 hm
  obtain ⟨A, c, x, rfl, rfl, hO⟩ := hcut.get
  clear hcut
  replace hO := Lib.hid hO
  go_upto_if 24 with fail
  go_cut [4] (fun s wx => NewI ((ext w x0).alloc (.cells #[.bool b, .bool u, .bool k, .bool r', .bool h] 55)) (L3 ++ bl r' 7) s wx)
  case first =>
    cases r'
    · go_wp2
      go_meet
      rw [bl_f, List.append_nil]
      exact ⟨_, _, rfl, by (repeat' (first | (with_reducible exact Below.refl _ _) | (with_reducible refine Below.alloc ?_ ?_ _) | (with_reducible refine below_ext ?_ ?_ _) | (with_reducible refine Below.drew ?_) | (with_reducible refine below_drewN ?_ _) | (with_reducible refine Below.setCell ?_ ?_ _) | go_size | (simp only [go_sem]; omega) | (simp [go_sem]; done) | (simp [go_sem]; omega))), hO.out⟩
    · go_wp2_with (first
        | (at_builtin
           refine append_rd (U := ((ext w x0).alloc (.cells #[.bool b, .bool u, .bool k, .bool true, .bool h] 55))) (.tmp 25) (.tmp 26) 34 3 _ 8 rfl rfl Try.underlying34 int_info rfl (by omega) (encI_len _) (encI_one _) L3 [7] _ _ _ rfl rfl ?_ (hO.out.alloc _) (int_new _ 7 (by simp [go_sem])) (by simp only [maxLen, List.length_cons, List.length_nil]; omega) (by simp only [List.length_cons, List.length_nil]; omega) ?_
           · (repeat' (first | (with_reducible exact Below.refl _ _) | (with_reducible refine Below.alloc ?_ ?_ _) | (with_reducible refine below_ext ?_ ?_ _) | (with_reducible refine Below.drew ?_) | (with_reducible refine below_drewN ?_ _) | (with_reducible refine Below.setCell ?_ ?_ _) | go_size | (simp only [go_sem]; omega) | (simp [go_sem]; done) | (simp [go_sem]; omega)))
           intro A' c' x' zs hz1 hO1
           have hO2 := Lib.hid hO1
           have hz := Lib.hid hz1
           clear hO1 hz1))
      go_wp2
      go_meet
      rw [bl_t, ← hz.out]
      exact ⟨_, _, rfl, by (repeat' (first | (with_reducible exact Below.refl _ _) | (with_reducible refine Below.alloc ?_ ?_ _) | (with_reducible refine below_ext ?_ ?_ _) | (with_reducible refine Below.drew ?_) | (with_reducible refine below_drewN ?_ _) | (with_reducible refine Below.setCell ?_ ?_ _) | go_size | (simp only [go_sem]; omega) | (simp [go_sem]; done) | (simp [go_sem]; omega))), hO2.out⟩
  have hm := bl_len r' (7 : Int)
  have m4 : (L3 ++ bl r' 7).length ≤ 5 := by rw [List.length_append]; omega
  generalize hL4 : L3 ++ bl r' 7 = L4 at hcut m4
  have H4 := Lib.hid hL4
  clear hL4 hm
  obtain ⟨A, c, x, rfl, rfl, hO⟩ := hcut.get
  clear hcut
  replace hO := Lib.hid hO
  go_upto_if 29 with fail
  go_cut [4] (fun s wx => NewI ((ext w x0).alloc (.cells #[.bool b, .bool u, .bool k, .bool r', .bool h] 55)) (L4 ++ bl h 8) s wx)
  case first =>
    cases h
    · go_wp2
      go_meet
      rw [bl_f, List.append_nil]
      exact ⟨_, _, rfl, by (repeat' (first | (with_reducible exact Below.refl _ _) | (with_reducible refine Below.alloc ?_ ?_ _) | (with_reducible refine below_ext ?_ ?_ _) | (with_reducible refine Below.drew ?_) | (with_reducible refine below_drewN ?_ _) | (with_reducible refine Below.setCell ?_ ?_ _) | go_size | (simp only [go_sem]; omega) | (simp [go_sem]; done) | (simp [go_sem]; omega))), hO.out⟩
    · go_wp2_with (first
        | (at_builtin
           refine append_rd (U := ((ext w x0).alloc (.cells #[.bool b, .bool u, .bool k, .bool r', .bool true] 55))) (.tmp 30) (.tmp 31) 34 3 _ 8 rfl rfl Try.underlying34 int_info rfl (by omega) (encI_len _) (encI_one _) L4 [8] _ _ _ rfl rfl ?_ (hO.out.alloc _) (int_new _ 8 (by simp [go_sem])) (by simp only [maxLen, List.length_cons, List.length_nil]; omega) (by simp only [List.length_cons, List.length_nil]; omega) ?_
           · (repeat' (first | (with_reducible exact Below.refl _ _) | (with_reducible refine Below.alloc ?_ ?_ _) | (with_reducible refine below_ext ?_ ?_ _) | (with_reducible refine Below.drew ?_) | (with_reducible refine below_drewN ?_ _) | (with_reducible refine Below.setCell ?_ ?_ _) | go_size | (simp only [go_sem]; omega) | (simp [go_sem]; done) | (simp [go_sem]; omega)))
           intro A' c' x' zs hz1 hO1
           have hO2 := Lib.hid hO1
           have hz := Lib.hid hz1
           clear hO1 hz1))
      go_wp2
      go_meet
      rw [bl_t, ← hz.out]
      exact ⟨_, _, rfl, by (repeat' (first | (with_reducible exact Below.refl _ _) | (with_reducible refine Below.alloc ?_ ?_ _) | (with_reducible refine below_ext ?_ ?_ _) | (with_reducible refine Below.drew ?_) | (with_reducible refine below_drewN ?_ _) | (with_reducible refine Below.setCell ?_ ?_ _) | go_size | (simp only [go_sem]; omega) | (simp [go_sem]; done) | (simp [go_sem]; omega))), hO2.out⟩
  have hm := bl_len h (8 : Int)
  have m5 : (L4 ++ bl h 8).length ≤ 6 := by rw [List.length_append]; omega
  generalize hL5 : L4 ++ bl h 8 = L5 at hcut m5
  have H5 := Lib.hid hL5
  clear hL5 hm
  obtain ⟨A, c, x, rfl, rfl, hO⟩ := hcut.get
  clear hcut
  replace hO := Lib.hid hO
  go_wp2
  go_returns
  refine ⟨_, rfl, ?_⟩
  rw [show numsTo ⟨b, u, k, r', h⟩ 5 = L5 by rw [← H5.out, ← H4.out, ← H3.out, ← H2.out, ← H1.out, ← H0.out]; rfl]
  exact ⟨_, _, rfl, hUB.trans ((below_of_ext _ _).mono (by omega)), hO.out.mono (by omega)⟩
end Go.Proofs.Ytmpbgjnkkapijaa
