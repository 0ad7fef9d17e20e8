/- The reference's Row and Find; Number; Begin. -/
import Derived.Test.YtdmfcijcecogdaaMode3
namespace Go.Proofs.Ytdmfcijcecogdaa
open Go.RowKit
set_option linter.unusedVariables false
set_option linter.unusedSimpArgs false

def rowR (x : Int) : Bool × Int × Int × Bool := if inM x then rowT x.toNat else (false, 0, 0, false)
def rowTup (r : Bool × Int × Int × Bool) : Value := .tuple #[.bool r.1, .int .i64 r.2.1, .int .i64 r.2.2.1, .bool r.2.2.2]
set_option maxHeartbeats 4000000 in
theorem rrow_c (x : Int) (w : World) : Calls Try.prog 25 #[.int .i64 x] w (Same w (rowTup (rowR x))) := by
  unfold rowR
  rcases Bool.eq_false_or_eq_true (inM x) with h | h
  · have h0 := (in_true h).1
    have h1 := (in_true h).2
    rw [if_pos h]
    clear h
    have : x = 0 ∨ x = 1 ∨ x = 2 ∨ x = 3 ∨ x = 4 ∨ x = 5 ∨ x = 6 ∨ x = 7 ∨ x = 8 ∨ x = 9 ∨ x = 10 ∨ x = 11 ∨ x = 12 ∨ x = 13 ∨ x = 14 ∨ x = 15 ∨ x = 16 := by omega
    clear h0 h1
    rcases this with rfl | rfl | rfl | rfl | rfl | rfl | rfl | rfl | rfl | rfl | rfl | rfl | rfl | rfl | rfl | rfl | rfl
    all_goals go_enter Try.func25, Try.ntmps25
    all_goals go_wp2
    all_goals go_returns
    all_goals exact ⟨rfl, rfl⟩
  · rw [h, if_neg (by simp)]
    have hx := in_false h
    clear h
    go_enter Try.func25, Try.ntmps25
    go_wp2
    all_goals go_returns
    all_goals exact ⟨rfl, rfl⟩
def rfindV (o : Option Nat) : Value := .int .i64 (match o with | some x => (x : Int) | none => -1)
theorem rowR_at (j : Nat) (hj : j < 17) : rowR j = rowT j := by
  unfold rowR
  rw [if_pos (by simp [inM]; omega)]
  rfl
set_option maxHeartbeats 1000000 in
theorem rfind_c (dec : Bool) (n l : Int) (w : World) : Calls Try.prog 23 #[.bool dec, .int .i64 n, .int .i64 l] w (Same w (rfindV (findF dec n l))) := by
  have FS := Lib.hid (fun j h1 h2 h3 => find_some (dec := dec) (n := n) (l := l) (j := j) h1 h2 h3)
  have FN := Lib.hid (fun j h1 h2 => find_none (dec := dec) (n := n) (l := l) (j := j) h1 h2)
  generalize findF dec n l = o at FS FN
  go_enter Try.func23, Try.ntmps23
  go_wp2
  go_loopw [7] (fun i wr => ∃ j : Nat, j ≤ 17 ∧ i = .int .i64 j ∧ (∀ y, y < j → hit dec n l y = false) ∧ wr = w) (fun i _ => 17 - (intOf i).toNat)
  case atStart => exact ⟨0, by omega, rfl, fun y hy => by omega, rfl⟩
  case round =>
    obtain ⟨j, hj, rfl, hno, rfl⟩ := hrel
    by_cases hlt : j < 17
    · have HN := Lib.hid hno
      have FS := Lib.hid (fun h3 => FS.out j hlt hno h3)
      have RR := fun w' => rrow_c j w'
      rw [rowR_at j hlt] at RR
      clear hno FN
      obtain ⟨⟨dd, nn, ll, bb⟩, hr⟩ : ∃ r, rowT j = r := ⟨_, rfl⟩
      have HE := Lib.hid (show hit dec n l j = (dd == dec && nn == n && decide (ll ≤ l)) by unfold hit; rw [hr])
      rw [hr] at RR
      have RR := Lib.hid RR
      simp only [rowTup] at RR
      clear hr
      rcases Bool.eq_false_or_eq_true (dd == dec) with t1 | t1
      · rcases Bool.eq_false_or_eq_true (nn == n) with t2 | t2
        · rcases Bool.eq_false_or_eq_true (decide (ll ≤ l)) with t3 | t3
          · have e := FS.out (by rw [HE.out, t1, t2, t3]; rfl)
            subst e
            clear FS HE HN
            go_wp2_with (go_at_call 25; ((with_reducible refine (RR.out _).mono ?_); rintro _ _ ⟨rfl, rfl⟩))
            go_returns
            exact ⟨rfl, rfl⟩
          · have hf := Lib.hid (show hit dec n l j = false by rw [HE.out, t1, t2, t3]; rfl)
            clear FS HE
            go_wp2_with (go_at_call 25; ((with_reducible refine (RR.out _).mono ?_); rintro _ _ ⟨rfl, rfl⟩))
            go_roundw
            case rel =>
              refine ⟨j + 1, by omega, by go_num, fun y hy => ?_, by first | rfl | trivial⟩
              by_cases h : y = j
              · subst h; exact hf.out
              · exact HN.out y (by omega)
            case measure => simp [intOf]; omega
        · have hf := Lib.hid (show hit dec n l j = false by rw [HE.out, t1, t2]; rfl)
          clear FS HE
          go_wp2_with (go_at_call 25; ((with_reducible refine (RR.out _).mono ?_); rintro _ _ ⟨rfl, rfl⟩))
          go_roundw
          case rel =>
            refine ⟨j + 1, by omega, by go_num, fun y hy => ?_, by first | rfl | trivial⟩
            by_cases h : y = j
            · subst h; exact hf.out
            · exact HN.out y (by omega)
          case measure => simp [intOf]; omega
      · have hf := Lib.hid (show hit dec n l j = false by rw [HE.out, t1]; rfl)
        clear FS HE
        go_wp2_with (go_at_call 25; ((with_reducible refine (RR.out _).mono ?_); rintro _ _ ⟨rfl, rfl⟩))
        go_roundw
        case rel =>
          refine ⟨j + 1, by omega, by go_num, fun y hy => ?_, by first | rfl | trivial⟩
          by_cases h : y = j
          · subst h; exact hf.out
          · exact HN.out y (by omega)
        case measure => simp [intOf]; omega
    · have e := FN.out j (by omega) hno
      subst e
      clear hno FS FN
      go_wp2
      go_returns
      exact ⟨rfl, rfl⟩
theorem number_c (x : Int) (w : World) : Calls Try.prog 24 #[.int .i64 x] w (Gives w (.tuple #[.bool (rowR x).1, .int .i64 (rowR x).2.1])) := by
  have C0 := Lib.hid (fun w' => is_c x w')
  unfold rowR
  rcases Bool.eq_false_or_eq_true (inM x) with h | h
  · rw [h] at C0
    have h0 := (in_true h).1
    have h1 := (in_true h).2
    rw [if_pos h]
    clear h
    obtain ⟨j, rfl⟩ : ∃ j : Nat, x = j := ⟨x.toNat, by omega⟩
    have hj : j < 17 := by omega
    simp only [Int.toNat_natCast]
    obtain ⟨⟨dd, nn, ll, bb⟩, hr⟩ : ∃ r, rowT j = r := ⟨_, rfl⟩
    rw [hr]
    go_enter Try.func24, Try.ntmps24
    go_wp2_with (first
      | (go_at_call 48; ((with_reducible refine (C0.out _).mono ?_); rintro _ _ ⟨rfl, rfl⟩))
      | (go_at_call 50; ((with_reducible refine (rows_c _).mono ?_); rintro _ _ hgets; obtain ⟨rfl, _, rfl⟩ := hgets.get; clear hgets)))
    (refine wp_region_free (by kernel_rfl) (by kernel_rfl) ?_)
    repeat (go_big_quiet_step (fail))
    refine wpQuiet_nil ?_; rintro _ ⟨x2, rfl⟩
    go_wp2
    all_goals go_returns
    exact ⟨rfl, by (repeat' (first | (with_reducible exact Below.refl _ _) | (with_reducible refine Below.alloc ?_ ?_ _) | (with_reducible refine below_ext ?_ ?_ _) | (with_reducible refine Below.drew ?_) | (with_reducible refine below_drewN ?_ _) | (with_reducible refine Below.setCell ?_ ?_ _) | go_size | (simp only [go_sem]; omega) | (simp [go_sem]; done) | (simp [go_sem]; omega)))⟩
  · rw [h] at C0
    rw [h, if_neg (by simp)]
    clear h
    go_enter Try.func24, Try.ntmps24
    go_wp2_with (go_at_call 48; ((with_reducible refine (C0.out _).mono ?_); rintro _ _ ⟨rfl, rfl⟩))
    all_goals go_returns
    exact ⟨rfl, by (repeat' (first | (with_reducible exact Below.refl _ _) | (with_reducible refine Below.alloc ?_ ?_ _) | (with_reducible refine below_ext ?_ ?_ _) | (with_reducible refine Below.drew ?_) | (with_reducible refine below_drewN ?_ _) | (with_reducible refine Below.setCell ?_ ?_ _) | go_size | (simp only [go_sem]; omega) | (simp [go_sem]; done) | (simp [go_sem]; omega)))⟩
end Go.Proofs.Ytdmfcijcecogdaa
