/- The reference's With; the table's rows by index; Find, Number, Begin by code and reference. -/
import Derived.Test.YtdmfcijcecogdaaMode2
namespace Go.Proofs.Ytdmfcijcecogdaa
open Go.RowKit
set_option linter.unusedVariables false
set_option linter.unusedSimpArgs false

theorem rwith_c (m : Nat) (hm : m < 4294967296) (x : Int) (on : Bool) (w : World) : Calls Try.prog 16 #[.int .i64 m, .int .i64 x, .bool on] w (Same w (.int .i64 (withF m x on))) := by
  have R := Lib.hid (fun w' => rhas_c m hm x w')
  unfold hasF at R
  unfold withF
  rcases Bool.eq_false_or_eq_true (inM x) with h | h
  · have h0 := (in_true h).1
    have h1 := (in_true h).2
    have B := Lib.hid (fun w' => bit_c x h0 h1 w')
    rw [h, Bool.true_and] at R
    have hp : 2 ^ x.toNat ≤ 2 ^ 17 := Nat.pow_le_pow_right (by omega) (by omega)
    have hle : m.testBit x.toNat = true → 2 ^ x.toNat ≤ m := Nat.ge_two_pow_of_testBit
    unfold setN
    rw [if_pos h]
    clear h
    generalize 2 ^ x.toNat = p at B hp hle
    generalize m.testBit x.toNat = T at R hle
    have hx1 : decide (x < 0) = false := by simp; omega
    have hx2 : decide (17 ≤ x) = false := by simp; omega
    cases T <;> cases on
    all_goals go_enter Try.func16, Try.ntmps16
    all_goals go_wp2_with (first
      | (go_at_call 18; ((with_reducible refine (R.out _).mono ?_); rintro _ _ ⟨rfl, rfl⟩))
      | (go_at_call 49; ((with_reducible refine (B.out _).mono ?_); rintro _ _ ⟨rfl, rfl⟩)))
    all_goals go_returns
    all_goals refine ⟨ret_int ?_, rfl⟩
    · rfl
    · simp only [Bool.false_eq_true, if_false, if_true]
      try omega
    · have h3 := hle (by first | rfl | trivial)
      omega
    · rfl
  · rw [h, if_neg (by simp)]
    rcases in_false h with h | h
    · have h' : (decide (x < 0)) = true := by simp; omega
      go_enter Try.func16, Try.ntmps16
      go_wp2_with fail
      all_goals go_returns
      exact ⟨rfl, rfl⟩
    · have h0 : (decide (x < 0)) = false := by simp; omega
      have h' : (decide (17 ≤ x)) = true := by simp; omega
      go_enter Try.func16, Try.ntmps16
      go_wp2_with fail
      all_goals go_returns
      exact ⟨rfl, rfl⟩

def rowT (x : Nat) : Bool × Int × Int × Bool := table.getD x (false, 0, 0, false)
@[go_sem] theorem row_at (x : Nat) (hx : x < 17) (w : World) : (Instr.index 72 rowsV (.int .i64 x)).run Try.prog w = .ok (rowV (rowT x)) w := by
  have : x = 0 ∨ x = 1 ∨ x = 2 ∨ x = 3 ∨ x = 4 ∨ x = 5 ∨ x = 6 ∨ x = 7 ∨ x = 8 ∨ x = 9 ∨ x = 10 ∨ x = 11 ∨ x = 12 ∨ x = 13 ∨ x = 14 ∨ x = 15 ∨ x = 16 := by omega
  rcases this with rfl | rfl | rfl | rfl | rfl | rfl | rfl | rfl | rfl | rfl | rfl | rfl | rfl | rfl | rfl | rfl | rfl
  all_goals (show _ = _; kernel_rfl)
@[go_sem] theorem rowV_mk (a : Bool) (b c : Int) (d : Bool) : rowV (a, b, c, d) = .agg #[.bool a, .int .i64 b, .int .i64 c, .bool d] := rfl
theorem wpList_index {P : Program} {ops : Array Oper} {rest : List Oper} {d : Option Nat} {ty : TypeId} {pos : String} {after : Array Edge} {t : TypeId} {x y : Operand} {a : Act} {w : World} {Q : Exit → Act → World → Prop} (v : Value)
    (h : (Instr.index t (a.eval x) (a.eval y)).run P w = .ok v w) (k : wpList P ops Q rest (a.put d v) w) : wpList P ops Q ({ dst := d, op := .index t x y, type := ty, pos := pos, after := after, guard := none } :: rest) a w := by
  refine wpList_plain rfl fun K hK => ?_
  unfold Oper.wp execOp
  simp only [Sem.run_bind, h, Result.andThen_ok, Sem.run_pure]
  exact hK _ _ k

def hit (dec : Bool) (n l : Int) (x : Nat) : Bool := (rowT x).1 == dec && (rowT x).2.1 == n && decide ((rowT x).2.2.1 ≤ l)
def findF (dec : Bool) (n l : Int) : Option Nat := (List.range 17).find? (hit dec n l)
def findV (o : Option Nat) : Value := .tuple #[.int .i64 ((o.getD 0 : Nat) : Int), .bool o.isSome]
theorem find_some {dec : Bool} {n l : Int} {j : Nat} (hj : j < 17) (h : ∀ y, y < j → hit dec n l y = false) (hh : hit dec n l j = true) : findF dec n l = some j := by
  unfold findF
  rw [List.find?_range_eq_some]
  exact ⟨hh, by simpa using hj, fun y hy => by simp [h y hy]⟩
theorem find_none {dec : Bool} {n l : Int} {j : Nat} (hj : 17 ≤ j) (h : ∀ y, y < j → hit dec n l y = false) : findF dec n l = none := by
  unfold findF
  rw [List.find?_eq_none]
  intro x hx
  simp at hx
  simp [h x (by omega)]
set_option maxHeartbeats 1000000 in
theorem find_c (dec : Bool) (n l : Int) (w : World) : Calls Try.prog 22 #[.bool dec, .int .i64 n, .int .i64 l] w (Gives w (findV (findF dec n l))) := by
  have FS := Lib.hid (fun j h1 h2 h3 => find_some (dec := dec) (n := n) (l := l) (j := j) h1 h2 h3)
  have FN := Lib.hid (fun j h1 h2 => find_none (dec := dec) (n := n) (l := l) (j := j) h1 h2)
  generalize findF dec n l = o at FS FN
  go_enter Try.func22, Try.ntmps22
  go_wp2_with (go_at_call 50; ((with_reducible refine (rows_c _).mono ?_); rintro _ _ hgets; obtain ⟨rfl, x1, rfl⟩ := hgets.get; clear hgets))
  go_loopw [11] (fun i wr => ∃ j : Nat, j ≤ 17 ∧ i = .int .i64 j ∧ (∀ y, y < j → hit dec n l y = false) ∧ Below w.heap.size w wr) (fun i _ => 17 - (intOf i).toNat)
  case atStart => exact ⟨0, by omega, rfl, fun y hy => by omega, by (repeat' (first | (with_reducible exact Below.refl _ _) | (with_reducible refine Below.alloc ?_ ?_ _) | (with_reducible refine below_ext ?_ ?_ _) | (with_reducible refine Below.drew ?_) | (with_reducible refine below_drewN ?_ _) | (with_reducible refine Below.setCell ?_ ?_ _) | go_size | (simp only [go_sem]; omega) | (simp [go_sem]; done) | (simp [go_sem]; omega)))⟩
  case round =>
    obtain ⟨j, hj, rfl, hno, hB⟩ := hrel
    obtain ⟨x', rfl⟩ := ext_of hB
    clear hB x1
    by_cases hlt : j < 17
    · have R := Lib.hid (fun w' => row_at j hlt w')
      have HN := Lib.hid hno
      have FS := Lib.hid (fun h3 => FS.out j hlt hno h3)
      clear hno FN
      obtain ⟨⟨dd, nn, ll, bb⟩, hr⟩ : ∃ r, rowT j = r := ⟨_, rfl⟩
      have HE := Lib.hid (show hit dec n l j = (dd == dec && nn == n && decide (ll ≤ l)) by unfold hit; rw [hr])
      rcases Bool.eq_false_or_eq_true (dd == dec) with t1 | t1
      · rcases Bool.eq_false_or_eq_true (nn == n) with t2 | t2
        · rcases Bool.eq_false_or_eq_true (decide (ll ≤ l)) with t3 | t3
          · have e := FS.out (by rw [HE.out, t1, t2, t3]; rfl)
            subst e
            clear FS HE HN
            go_wp2
            go_returns
            exact ⟨rfl, by (repeat' (first | (with_reducible exact Below.refl _ _) | (with_reducible refine Below.alloc ?_ ?_ _) | (with_reducible refine below_ext ?_ ?_ _) | (with_reducible refine Below.drew ?_) | (with_reducible refine below_drewN ?_ _) | (with_reducible refine Below.setCell ?_ ?_ _) | go_size | (simp only [go_sem]; omega) | (simp [go_sem]; done) | (simp [go_sem]; omega)))⟩
          · have hf := Lib.hid (show hit dec n l j = false by rw [HE.out, t1, t2, t3]; rfl)
            clear FS HE
            go_wp2
            go_roundw
            case rel =>
              refine ⟨j + 1, by omega, by go_num, fun y hy => ?_, by (repeat' (first | (with_reducible exact Below.refl _ _) | (with_reducible refine Below.alloc ?_ ?_ _) | (with_reducible refine below_ext ?_ ?_ _) | (with_reducible refine Below.drew ?_) | (with_reducible refine below_drewN ?_ _) | (with_reducible refine Below.setCell ?_ ?_ _) | go_size | (simp only [go_sem]; omega) | (simp [go_sem]; done) | (simp [go_sem]; omega)))⟩
              by_cases h : y = j
              · subst h; exact hf.out
              · exact HN.out y (by omega)
            case measure => simp [intOf]; omega
        · have hf := Lib.hid (show hit dec n l j = false by rw [HE.out, t1, t2]; rfl)
          clear FS HE
          go_wp2
          go_roundw
          case rel =>
            refine ⟨j + 1, by omega, by go_num, fun y hy => ?_, by (repeat' (first | (with_reducible exact Below.refl _ _) | (with_reducible refine Below.alloc ?_ ?_ _) | (with_reducible refine below_ext ?_ ?_ _) | (with_reducible refine Below.drew ?_) | (with_reducible refine below_drewN ?_ _) | (with_reducible refine Below.setCell ?_ ?_ _) | go_size | (simp only [go_sem]; omega) | (simp [go_sem]; done) | (simp [go_sem]; omega)))⟩
            by_cases h : y = j
            · subst h; exact hf.out
            · exact HN.out y (by omega)
          case measure => simp [intOf]; omega
      · have hf := Lib.hid (show hit dec n l j = false by rw [HE.out, t1]; rfl)
        clear FS HE
        go_wp2
        go_roundw
        case rel =>
          refine ⟨j + 1, by omega, by go_num, fun y hy => ?_, by (repeat' (first | (with_reducible exact Below.refl _ _) | (with_reducible refine Below.alloc ?_ ?_ _) | (with_reducible refine below_ext ?_ ?_ _) | (with_reducible refine Below.drew ?_) | (with_reducible refine below_drewN ?_ _) | (with_reducible refine Below.setCell ?_ ?_ _) | go_size | (simp only [go_sem]; omega) | (simp [go_sem]; done) | (simp [go_sem]; omega)))⟩
          by_cases h : y = j
          · subst h; exact hf.out
          · exact HN.out y (by omega)
        case measure => simp [intOf]; omega
    · have e := FN.out j (by omega) hno
      subst e
      clear hno FS FN
      go_wp2
      go_returns
      exact ⟨rfl, by (repeat' (first | (with_reducible exact Below.refl _ _) | (with_reducible refine Below.alloc ?_ ?_ _) | (with_reducible refine below_ext ?_ ?_ _) | (with_reducible refine Below.drew ?_) | (with_reducible refine below_drewN ?_ _) | (with_reducible refine Below.setCell ?_ ?_ _) | go_size | (simp only [go_sem]; omega) | (simp [go_sem]; done) | (simp [go_sem]; omega)))⟩
end Go.Proofs.Ytdmfcijcecogdaa
