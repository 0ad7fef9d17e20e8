/- The numbers of a rendition, as the program gives them; that they make it. (Lines of the texts Letters, Params and Froms.) -/
import Derived.Test.YtjnjoclpimcblaaDoorInts
import Derived.Test.YtjnjoclpimcblaaDoorRend2
namespace Go.Proofs.YtjnjoclpimcblaaDoor
open Go.RowKit
set_option linter.unusedVariables false
set_option linter.unusedSimpArgs false

theorem bit_all : ∀ k : Fin 256, (bits .and .u8 (k.val : Int) 16 != 0) = (Fl.of (k.val : Int)).h ∧ (bits .and .u8 (k.val : Int) 2 != 0) = (Fl.of (k.val : Int)).u ∧ (bits .and .u8 (k.val : Int) 8 != 0) = (Fl.of (k.val : Int)).r ∧
    (bits .and .u8 (k.val : Int) 4 != 0) = (Fl.of (k.val : Int)).k ∧ (bits .and .u8 (k.val : Int) 1 != 0) = (Fl.of (k.val : Int)).b := by decide +kernel
theorem bit_is {r : Int} (h : 0 ≤ r ∧ r ≤ 255) : (bits .and .u8 r 16 != 0) = (Fl.of r).h ∧ (bits .and .u8 r 2 != 0) = (Fl.of r).u ∧ (bits .and .u8 r 8 != 0) = (Fl.of r).r ∧
    (bits .and .u8 r 4 != 0) = (Fl.of r).k ∧ (bits .and .u8 r 1 != 0) = (Fl.of r).b := by
  have := bit_all ⟨r.toNat, by omega⟩
  simpa only [show ((r.toNat : Nat) : Int) = r by omega] using this

def bl {α : Type} (x : Bool) (c : α) : List α := if x then [c] else []
theorem bl_t {α : Type} (c : α) : bl true c = [c] := rfl
theorem bl_f {α : Type} (c : α) : bl false c = [] := rfl
def numsTo (f : Fl) : Nat → List Int
  | 0 => [0]
  | 1 => [0] ++ bl f.b 1
  | 2 => [0] ++ bl f.b 1 ++ bl f.u 4
  | 3 => [0] ++ bl f.b 1 ++ bl f.u 4 ++ bl f.k 5
  | 4 => [0] ++ bl f.b 1 ++ bl f.u 4 ++ bl f.k 5 ++ bl f.r 7
  | _ => [0] ++ bl f.b 1 ++ bl f.u 4 ++ bl f.k 5 ++ bl f.r 7 ++ bl f.h 8
theorem bl_len {α : Type} (x : Bool) (c : α) : (bl x c).length ≤ 1 := by cases x <;> simp [bl]
theorem numsTo_len (f : Fl) (k : Nat) : (numsTo f k).length ≤ 6 := by
  have h1 := bl_len f.b (1 : Int)
  have h2 := bl_len f.u (4 : Int)
  have h3 := bl_len f.k (5 : Int)
  have h4 := bl_len f.r (7 : Int)
  have h5 := bl_len f.h (8 : Int)
  rcases k with _ | _ | _ | _ | _ | k <;> simp only [numsTo, List.length_append, List.length_nil, List.length_cons] <;> omega
theorem nums_c (w : World) : Calls Tryd.prog 17 #[] w (fun e w' => e = .returned (.agg #[.int .i64 1, .int .i64 4, .int .i64 5, .int .i64 7, .int .i64 8]) ∧ w.alloc (.cells #[.int .i64 1, .int .i64 4, .int .i64 5, .int .i64 7, .int .i64 8] 52) = w') := by
  go_enter Tryd.func17, Tryd.ntmps17
  go_wp2
  go_returns
  exact ⟨rfl, rfl⟩
theorem bit_isn {r : Int} (h : 0 ≤ r ∧ r ≤ 255) : (bits .and .u8 r 1 != 0) = (Fl.of r).b ∧ (bits .and .u8 r 2 != 0) = (Fl.of r).u ∧ (bits .and .u8 r 4 != 0) = (Fl.of r).k ∧ (bits .and .u8 r 8 != 0) = (Fl.of r).r ∧ (bits .and .u8 r 16 != 0) = (Fl.of r).h := by
  obtain ⟨a, b, c, d, e⟩ := bit_is h
  exact ⟨e, b, d, c, a⟩

/-- a list of numbers of the call's own -/
def NewI (U : World) (l : List Int) (s : Value) (wx : World) : Prop := ∃ A c, s = .slice A l.length c ∧ Below U.heap.size U wx ∧ Own (encI .i64) 1 3 U.heap.size wx (.slice A l.length c) l
def NewInts (w : World) (l : List Int) (e : Ending) (w' : World) : Prop := ∃ s, e = .returned s ∧ NewI w l s w'
theorem NewI.get {U wx : World} {l : List Int} {s : Value} (h : NewI U l s wx) : ∃ A c x, s = .slice A l.length c ∧ wx = ext U x ∧ Own (encI .i64) 1 3 U.heap.size (ext U x) (.slice A l.length c) l := by
  obtain ⟨A, c, rfl, hB, hO⟩ := h
  obtain ⟨x, rfl⟩ := ext_of hB
  exact ⟨A, c, x, rfl, rfl, hO⟩
theorem int_new {w : World} {g : Nat} (e : TypeId) (n : Int) (hg : g = w.heap.size) : Rd (encI .i64) 1 (w.alloc (.cells #[.int .i64 n] e)) (some ⟨g, 0, none⟩) [n] :=
  (Own.new (B := 0) (e := e) (encI_len _) hg (xs := [n]) (rfl : (1 : Nat) = [n].length) _ rfl (Nat.zero_le _) (by simp [maxLen])).rd (encI_len _)
theorem own_int {w : World} {g B : Nat} (e : TypeId) (n : Int) (hg : g = w.heap.size) (hB : B ≤ w.heap.size) : Own (encI .i64) 1 e B (w.alloc (.cells #[.int .i64 n] e)) (.slice (some ⟨g, 0, none⟩) 1 1) [n] :=
  Own.new (e := e) (encI_len _) hg (xs := [n]) (rfl : (1 : Nat) = [n].length) _ rfl hB (by simp [maxLen])

set_option maxRecDepth 100000 in
set_option maxHeartbeats 4000000 in
theorem params_c (r : Int) (hr0 : 0 ≤ r) (hr1 : r ≤ 255) (w : World) :
    Calls Tryd.prog 7 #[.int .u8 r] w (NewInts w (numsTo (Fl.of r) 5)) := by
  have i0 : ∀ w, (Instr.index 52 (.agg #[.int .i64 1, .int .i64 4, .int .i64 5, .int .i64 7, .int .i64 8]) (.int .i64 0)).run Tryd.prog w = .ok (.int .i64 1) w := fun _ => by kernel_rfl
  have i1 : ∀ w, (Instr.index 52 (.agg #[.int .i64 1, .int .i64 4, .int .i64 5, .int .i64 7, .int .i64 8]) (.int .i64 1)).run Tryd.prog w = .ok (.int .i64 4) w := fun _ => by kernel_rfl
  have i2 : ∀ w, (Instr.index 52 (.agg #[.int .i64 1, .int .i64 4, .int .i64 5, .int .i64 7, .int .i64 8]) (.int .i64 2)).run Tryd.prog w = .ok (.int .i64 5) w := fun _ => by kernel_rfl
  have i3 : ∀ w, (Instr.index 52 (.agg #[.int .i64 1, .int .i64 4, .int .i64 5, .int .i64 7, .int .i64 8]) (.int .i64 3)).run Tryd.prog w = .ok (.int .i64 7) w := fun _ => by kernel_rfl
  have i4 : ∀ w, (Instr.index 52 (.agg #[.int .i64 1, .int .i64 4, .int .i64 5, .int .i64 7, .int .i64 8]) (.int .i64 4)).run Tryd.prog w = .ok (.int .i64 8) w := fun _ => by kernel_rfl
  have tests := bit_isn ⟨hr0, hr1⟩
  generalize Fl.of r = f at tests
  obtain ⟨t0, t1, t2, t3, t4⟩ := tests
  have T0 := Lib.hid t0
  have T1 := Lib.hid t1
  have T2 := Lib.hid t2
  have T3 := Lib.hid t3
  have T4 := Lib.hid t4
  have HL := Lib.hid (numsTo_len f)
  clear t0 t1 t2 t3 t4
  go_enter Tryd.func7, Tryd.ntmps7
  go_wp2_with (go_at_call 17; ((with_reducible refine (nums_c _).mono ?_); rintro _ _ ⟨rfl, rfl⟩))
  go_loopw [3, 8] (fun v i wr => ∃ k : Nat, k ≤ 5 ∧ i = .int .i64 k ∧ NewI w (numsTo f k) v wr) (fun _ i _ => 5 - (intOf i).toNat)
  case atStart => exact ⟨0, by omega, rfl, _, _, rfl, by (repeat' (first | (with_reducible exact Below.refl _ _) | (with_reducible refine Below.alloc ?_ ?_ _) | (with_reducible refine below_ext ?_ ?_ _) | (with_reducible refine Below.drew ?_) | (with_reducible refine below_drewN ?_ _) | (with_reducible refine Below.setCell ?_ ?_ _) | go_size | (simp only [go_sem]; omega) | (simp [go_sem]; done) | (simp [go_sem]; omega))), (own_int _ 0 (by simp) (by simp)).alloc _⟩
  case round =>
    obtain ⟨k, hk, rfl, hN⟩ := hrel
    obtain ⟨A, c, x, rfl, rfl, hO⟩ := hN.get
    clear hN
    have hl := HL.out k
    have hcases : k = 0 ∨ k = 1 ∨ k = 2 ∨ k = 3 ∨ k = 4 ∨ k = 5 := by omega
    rcases hcases with rfl | rfl | rfl | rfl | rfl | rfl
    · have tt := T0.out
      have hp : partI 1 = 1 := rfl
      have HN := Lib.hid (show numsTo f 1 = numsTo f 0 ++ bl f.b 1 by simp [numsTo])
      generalize numsTo f 0 = l at hO hl HN
      replace hO := Lib.hid hO
      rcases Bool.eq_false_or_eq_true f.b with hb | hb
      · rw [hb] at tt HN
        go_wp2_with (first
          | (go_at_call 18; ((with_reducible refine (part_c _ _).mono ?_); rintro _ _ ⟨rfl, rfl⟩))
          | (at_builtin
             refine append_rd (U := w) (.tmp 16) (.tmp 18) 29 3 _ 8 rfl rfl Tryd.underlying29 int_info rfl (by omega) (encI_len _) (encI_one _) l [1] _ _ _ rfl rfl ?_ (hO.out.alloc _) (int_new _ 1 (by simp)) (by simp [maxLen]; omega) (by simp; omega) ?_
             · (repeat' (first | (with_reducible exact Below.refl _ _) | (with_reducible refine Below.alloc ?_ ?_ _) | (with_reducible refine below_ext ?_ ?_ _) | (with_reducible refine Below.drew ?_) | (with_reducible refine below_drewN ?_ _) | (with_reducible refine Below.setCell ?_ ?_ _) | go_size | (simp only [go_sem]; omega) | (simp [go_sem]; done) | (simp [go_sem]; omega)))
             intro A' c' x' zs hz1 hO1
             have hO2 := Lib.hid hO1
             have hz := Lib.hid hz1
             clear hO1 hz1))
        go_wp2
        go_roundw
        case rel => exact ⟨1, by omega, by go_num, by rw [HN.out, bl_t, ← hz.out]; exact ⟨_, _, rfl, by (repeat' (first | (with_reducible exact Below.refl _ _) | (with_reducible refine Below.alloc ?_ ?_ _) | (with_reducible refine below_ext ?_ ?_ _) | (with_reducible refine Below.drew ?_) | (with_reducible refine below_drewN ?_ _) | (with_reducible refine Below.setCell ?_ ?_ _) | go_size | (simp only [go_sem]; omega) | (simp [go_sem]; done) | (simp [go_sem]; omega))), hO2.out⟩⟩
        case measure => simp [intOf]
      · rw [hb] at tt HN
        go_wp2_with (go_at_call 18; ((with_reducible refine (part_c _ _).mono ?_); rintro _ _ ⟨rfl, rfl⟩))
        go_roundw
        case rel => exact ⟨1, by omega, by go_num, by rw [HN.out, bl_f, List.append_nil]; exact ⟨_, _, rfl, by (repeat' (first | (with_reducible exact Below.refl _ _) | (with_reducible refine Below.alloc ?_ ?_ _) | (with_reducible refine below_ext ?_ ?_ _) | (with_reducible refine Below.drew ?_) | (with_reducible refine below_drewN ?_ _) | (with_reducible refine Below.setCell ?_ ?_ _) | go_size | (simp only [go_sem]; omega) | (simp [go_sem]; done) | (simp [go_sem]; omega))), hO.out⟩⟩
        case measure => simp [intOf]
    · have tt := T1.out
      have hp : partI 4 = 2 := rfl
      have HN := Lib.hid (show numsTo f 2 = numsTo f 1 ++ bl f.u 4 by simp [numsTo])
      generalize numsTo f 1 = l at hO hl HN
      replace hO := Lib.hid hO
      rcases Bool.eq_false_or_eq_true f.u with hb | hb
      · rw [hb] at tt HN
        go_wp2_with (first
          | (go_at_call 18; ((with_reducible refine (part_c _ _).mono ?_); rintro _ _ ⟨rfl, rfl⟩))
          | (at_builtin
             refine append_rd (U := w) (.tmp 16) (.tmp 18) 29 3 _ 8 rfl rfl Tryd.underlying29 int_info rfl (by omega) (encI_len _) (encI_one _) l [4] _ _ _ rfl rfl ?_ (hO.out.alloc _) (int_new _ 4 (by simp)) (by simp [maxLen]; omega) (by simp; omega) ?_
             · (repeat' (first | (with_reducible exact Below.refl _ _) | (with_reducible refine Below.alloc ?_ ?_ _) | (with_reducible refine below_ext ?_ ?_ _) | (with_reducible refine Below.drew ?_) | (with_reducible refine below_drewN ?_ _) | (with_reducible refine Below.setCell ?_ ?_ _) | go_size | (simp only [go_sem]; omega) | (simp [go_sem]; done) | (simp [go_sem]; omega)))
             intro A' c' x' zs hz1 hO1
             have hO2 := Lib.hid hO1
             have hz := Lib.hid hz1
             clear hO1 hz1))
        go_wp2
        go_roundw
        case rel => exact ⟨2, by omega, by go_num, by rw [HN.out, bl_t, ← hz.out]; exact ⟨_, _, rfl, by (repeat' (first | (with_reducible exact Below.refl _ _) | (with_reducible refine Below.alloc ?_ ?_ _) | (with_reducible refine below_ext ?_ ?_ _) | (with_reducible refine Below.drew ?_) | (with_reducible refine below_drewN ?_ _) | (with_reducible refine Below.setCell ?_ ?_ _) | go_size | (simp only [go_sem]; omega) | (simp [go_sem]; done) | (simp [go_sem]; omega))), hO2.out⟩⟩
        case measure => simp [intOf]
      · rw [hb] at tt HN
        go_wp2_with (go_at_call 18; ((with_reducible refine (part_c _ _).mono ?_); rintro _ _ ⟨rfl, rfl⟩))
        go_roundw
        case rel => exact ⟨2, by omega, by go_num, by rw [HN.out, bl_f, List.append_nil]; exact ⟨_, _, rfl, by (repeat' (first | (with_reducible exact Below.refl _ _) | (with_reducible refine Below.alloc ?_ ?_ _) | (with_reducible refine below_ext ?_ ?_ _) | (with_reducible refine Below.drew ?_) | (with_reducible refine below_drewN ?_ _) | (with_reducible refine Below.setCell ?_ ?_ _) | go_size | (simp only [go_sem]; omega) | (simp [go_sem]; done) | (simp [go_sem]; omega))), hO.out⟩⟩
        case measure => simp [intOf]
    · have tt := T2.out
      have hp : partI 5 = 4 := rfl
      have HN := Lib.hid (show numsTo f 3 = numsTo f 2 ++ bl f.k 5 by simp [numsTo])
      generalize numsTo f 2 = l at hO hl HN
      replace hO := Lib.hid hO
      rcases Bool.eq_false_or_eq_true f.k with hb | hb
      · rw [hb] at tt HN
        go_wp2_with (first
          | (go_at_call 18; ((with_reducible refine (part_c _ _).mono ?_); rintro _ _ ⟨rfl, rfl⟩))
          | (at_builtin
             refine append_rd (U := w) (.tmp 16) (.tmp 18) 29 3 _ 8 rfl rfl Tryd.underlying29 int_info rfl (by omega) (encI_len _) (encI_one _) l [5] _ _ _ rfl rfl ?_ (hO.out.alloc _) (int_new _ 5 (by simp)) (by simp [maxLen]; omega) (by simp; omega) ?_
             · (repeat' (first | (with_reducible exact Below.refl _ _) | (with_reducible refine Below.alloc ?_ ?_ _) | (with_reducible refine below_ext ?_ ?_ _) | (with_reducible refine Below.drew ?_) | (with_reducible refine below_drewN ?_ _) | (with_reducible refine Below.setCell ?_ ?_ _) | go_size | (simp only [go_sem]; omega) | (simp [go_sem]; done) | (simp [go_sem]; omega)))
             intro A' c' x' zs hz1 hO1
             have hO2 := Lib.hid hO1
             have hz := Lib.hid hz1
             clear hO1 hz1))
        go_wp2
        go_roundw
        case rel => exact ⟨3, by omega, by go_num, by rw [HN.out, bl_t, ← hz.out]; exact ⟨_, _, rfl, by (repeat' (first | (with_reducible exact Below.refl _ _) | (with_reducible refine Below.alloc ?_ ?_ _) | (with_reducible refine below_ext ?_ ?_ _) | (with_reducible refine Below.drew ?_) | (with_reducible refine below_drewN ?_ _) | (with_reducible refine Below.setCell ?_ ?_ _) | go_size | (simp only [go_sem]; omega) | (simp [go_sem]; done) | (simp [go_sem]; omega))), hO2.out⟩⟩
        case measure => simp [intOf]
      · rw [hb] at tt HN
        go_wp2_with (go_at_call 18; ((with_reducible refine (part_c _ _).mono ?_); rintro _ _ ⟨rfl, rfl⟩))
        go_roundw
        case rel => exact ⟨3, by omega, by go_num, by rw [HN.out, bl_f, List.append_nil]; exact ⟨_, _, rfl, by (repeat' (first | (with_reducible exact Below.refl _ _) | (with_reducible refine Below.alloc ?_ ?_ _) | (with_reducible refine below_ext ?_ ?_ _) | (with_reducible refine Below.drew ?_) | (with_reducible refine below_drewN ?_ _) | (with_reducible refine Below.setCell ?_ ?_ _) | go_size | (simp only [go_sem]; omega) | (simp [go_sem]; done) | (simp [go_sem]; omega))), hO.out⟩⟩
        case measure => simp [intOf]
    · have tt := T3.out
      have hp : partI 7 = 8 := rfl
      have HN := Lib.hid (show numsTo f 4 = numsTo f 3 ++ bl f.r 7 by simp [numsTo])
      generalize numsTo f 3 = l at hO hl HN
      replace hO := Lib.hid hO
      rcases Bool.eq_false_or_eq_true f.r with hb | hb
      · rw [hb] at tt HN
        go_wp2_with (first
          | (go_at_call 18; ((with_reducible refine (part_c _ _).mono ?_); rintro _ _ ⟨rfl, rfl⟩))
          | (at_builtin
             refine append_rd (U := w) (.tmp 16) (.tmp 18) 29 3 _ 8 rfl rfl Tryd.underlying29 int_info rfl (by omega) (encI_len _) (encI_one _) l [7] _ _ _ rfl rfl ?_ (hO.out.alloc _) (int_new _ 7 (by simp)) (by simp [maxLen]; omega) (by simp; omega) ?_
             · (repeat' (first | (with_reducible exact Below.refl _ _) | (with_reducible refine Below.alloc ?_ ?_ _) | (with_reducible refine below_ext ?_ ?_ _) | (with_reducible refine Below.drew ?_) | (with_reducible refine below_drewN ?_ _) | (with_reducible refine Below.setCell ?_ ?_ _) | go_size | (simp only [go_sem]; omega) | (simp [go_sem]; done) | (simp [go_sem]; omega)))
             intro A' c' x' zs hz1 hO1
             have hO2 := Lib.hid hO1
             have hz := Lib.hid hz1
             clear hO1 hz1))
        go_wp2
        go_roundw
        case rel => exact ⟨4, by omega, by go_num, by rw [HN.out, bl_t, ← hz.out]; exact ⟨_, _, rfl, by (repeat' (first | (with_reducible exact Below.refl _ _) | (with_reducible refine Below.alloc ?_ ?_ _) | (with_reducible refine below_ext ?_ ?_ _) | (with_reducible refine Below.drew ?_) | (with_reducible refine below_drewN ?_ _) | (with_reducible refine Below.setCell ?_ ?_ _) | go_size | (simp only [go_sem]; omega) | (simp [go_sem]; done) | (simp [go_sem]; omega))), hO2.out⟩⟩
        case measure => simp [intOf]
      · rw [hb] at tt HN
        go_wp2_with (go_at_call 18; ((with_reducible refine (part_c _ _).mono ?_); rintro _ _ ⟨rfl, rfl⟩))
        go_roundw
        case rel => exact ⟨4, by omega, by go_num, by rw [HN.out, bl_f, List.append_nil]; exact ⟨_, _, rfl, by (repeat' (first | (with_reducible exact Below.refl _ _) | (with_reducible refine Below.alloc ?_ ?_ _) | (with_reducible refine below_ext ?_ ?_ _) | (with_reducible refine Below.drew ?_) | (with_reducible refine below_drewN ?_ _) | (with_reducible refine Below.setCell ?_ ?_ _) | go_size | (simp only [go_sem]; omega) | (simp [go_sem]; done) | (simp [go_sem]; omega))), hO.out⟩⟩
        case measure => simp [intOf]
    · have tt := T4.out
      have hp : partI 8 = 16 := rfl
      have HN := Lib.hid (show numsTo f 5 = numsTo f 4 ++ bl f.h 8 by simp [numsTo])
      generalize numsTo f 4 = l at hO hl HN
      replace hO := Lib.hid hO
      rcases Bool.eq_false_or_eq_true f.h with hb | hb
      · rw [hb] at tt HN
        go_wp2_with (first
          | (go_at_call 18; ((with_reducible refine (part_c _ _).mono ?_); rintro _ _ ⟨rfl, rfl⟩))
          | (at_builtin
             refine append_rd (U := w) (.tmp 16) (.tmp 18) 29 3 _ 8 rfl rfl Tryd.underlying29 int_info rfl (by omega) (encI_len _) (encI_one _) l [8] _ _ _ rfl rfl ?_ (hO.out.alloc _) (int_new _ 8 (by simp)) (by simp [maxLen]; omega) (by simp; omega) ?_
             · (repeat' (first | (with_reducible exact Below.refl _ _) | (with_reducible refine Below.alloc ?_ ?_ _) | (with_reducible refine below_ext ?_ ?_ _) | (with_reducible refine Below.drew ?_) | (with_reducible refine below_drewN ?_ _) | (with_reducible refine Below.setCell ?_ ?_ _) | go_size | (simp only [go_sem]; omega) | (simp [go_sem]; done) | (simp [go_sem]; omega)))
             intro A' c' x' zs hz1 hO1
             have hO2 := Lib.hid hO1
             have hz := Lib.hid hz1
             clear hO1 hz1))
        go_wp2
        go_roundw
        case rel => exact ⟨5, by omega, by go_num, by rw [HN.out, bl_t, ← hz.out]; exact ⟨_, _, rfl, by (repeat' (first | (with_reducible exact Below.refl _ _) | (with_reducible refine Below.alloc ?_ ?_ _) | (with_reducible refine below_ext ?_ ?_ _) | (with_reducible refine Below.drew ?_) | (with_reducible refine below_drewN ?_ _) | (with_reducible refine Below.setCell ?_ ?_ _) | go_size | (simp only [go_sem]; omega) | (simp [go_sem]; done) | (simp [go_sem]; omega))), hO2.out⟩⟩
        case measure => simp [intOf]
      · rw [hb] at tt HN
        go_wp2_with (go_at_call 18; ((with_reducible refine (part_c _ _).mono ?_); rintro _ _ ⟨rfl, rfl⟩))
        go_roundw
        case rel => exact ⟨5, by omega, by go_num, by rw [HN.out, bl_f, List.append_nil]; exact ⟨_, _, rfl, by (repeat' (first | (with_reducible exact Below.refl _ _) | (with_reducible refine Below.alloc ?_ ?_ _) | (with_reducible refine below_ext ?_ ?_ _) | (with_reducible refine Below.drew ?_) | (with_reducible refine below_drewN ?_ _) | (with_reducible refine Below.setCell ?_ ?_ _) | go_size | (simp only [go_sem]; omega) | (simp [go_sem]; done) | (simp [go_sem]; omega))), hO.out⟩⟩
        case measure => simp [intOf]
    · replace hO := Lib.hid hO
      go_wp2
      go_returns
      exact ⟨_, rfl, _, _, rfl, by (repeat' (first | (with_reducible exact Below.refl _ _) | (with_reducible refine Below.alloc ?_ ?_ _) | (with_reducible refine below_ext ?_ ?_ _) | (with_reducible refine Below.drew ?_) | (with_reducible refine below_drewN ?_ _) | (with_reducible refine Below.setCell ?_ ?_ _) | go_size | (simp only [go_sem]; omega) | (simp [go_sem]; done) | (simp [go_sem]; omega))), hO.out⟩

theorem nums_make (f g : Fl) : foldR oneF g (numsTo f 5) = f := by
  obtain ⟨b, u, k, r, h⟩ := f
  obtain ⟨b', u', k', r', h'⟩ := g
  cases b <;> cases u <;> cases k <;> cases r <;> cases h <;> rfl
end Go.Proofs.YtjnjoclpimcblaaDoor
