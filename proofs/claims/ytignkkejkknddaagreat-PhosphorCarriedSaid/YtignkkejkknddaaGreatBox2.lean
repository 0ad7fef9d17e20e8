/- Numbers out of lists, margins, and the loops of the law's own helpers. -/
import Derived.Test.YtignkkejkknddaaGreatBox
namespace Go.Proofs.YtignkkejkknddaaGreat
open Go.RowKit
set_option linter.unusedVariables false
set_option linter.unusedSimpArgs false

theorem getD_out {xs : List Int} {k : Nat} (h : xs.length ≤ k) : xs.getD k 0 = 0 := by simp [List.getD_eq_getElem?_getD, List.getElem?_eq_none h]
/-- the number at a place of a list; 0: none -/
def at0 (xs : List Int) (i : Int) : Int := if i < 0 then 0 else xs.getD i.toNat 0
def num0 (xs : List Int) (i m : Int) : Int := if i < 0 then 0 else xs.getD (i.toNat + m.toNat) 0

set_option maxHeartbeats 400000 in
theorem raw_c (a : Option Addr) (c : Nat) (xs : List Int) (i : Int) (w : World) (hr : Ints w a xs) (hm : xs.length ≤ 9223372036854775807) :
    Calls Tryz.prog 42 #[.slice a xs.length c, .int .i64 i] w (Same w (.int .i64 (at0 xs i))) := by
  by_cases h1 : i < 0
  · go_enter Tryz.func42, Tryz.ntmps42
    go_wp2
    go_returns
    exact ⟨ret_int (by unfold at0; rw [if_pos h1]), rfl⟩
  · by_cases h2 : (xs.length : Int) ≤ i
    · go_enter Tryz.func42, Tryz.ntmps42
      go_wp2
      go_returns
      exact ⟨ret_int (by unfold at0; rw [if_neg (by omega), getD_out (by omega)]), rfl⟩
    · obtain ⟨k, rfl⟩ : ∃ k : Nat, i = k := ⟨i.toNat, by omega⟩
      have hk : k < xs.length := by omega
      obtain ⟨b, off, rfl, hlt, hc⟩ := hr.cell hk
      have hv : at0 xs k = xs[k] := by unfold at0; rw [if_neg h1]; simp [hk]
      have HV := Lib.hid hv
      clear hv hr
      go_enter Tryz.func42, Tryz.ntmps42
      go_wp2
      go_returns
      exact ⟨ret_int HV.out.symm, rfl⟩

set_option maxHeartbeats 400000 in
theorem number_c (a : Option Addr) (c : Nat) (xs : List Int) (i m : Int) (w : World) (hr : Ints w a xs) (hm : xs.length ≤ 9223372036854775807) (hc : xs.length ≤ c) (hcm : c ≤ 9223372036854775807) (h0 : 0 ≤ m) :
    Calls Tryz.prog 89 #[.slice a xs.length c, .int .i64 i, .int .i64 m] w (Same w (.int .i64 (num0 xs i m))) := by
  by_cases h1 : i < 0
  · go_enter Tryz.func89, Tryz.ntmps89
    go_wp2
    go_returns
    exact ⟨ret_int (by unfold num0; rw [if_pos h1]), rfl⟩
  · by_cases h2 : (xs.length : Int) ≤ i
    · go_enter Tryz.func89, Tryz.ntmps89
      go_wp2
      go_returns
      exact ⟨ret_int (by unfold num0; rw [if_neg (by omega), getD_out (by omega)]), rfl⟩
    · obtain ⟨k, rfl⟩ : ∃ k : Nat, i = k := ⟨i.toNat, by omega⟩
      have hk : k < xs.length := by omega
      obtain ⟨b, off, rfl, hd⟩ := hr.drop hk
      have hcall := fun c' => raw_c (some ⟨b, off + k, none⟩) c' (xs.drop k) m w (by unfold Ints; simpa using hd) (by simp; omega)
      simp only [List.length_drop] at hcall
      have HC := Lib.hid hcall
      have hv : num0 xs k m = at0 (xs.drop k) m := by
        unfold num0 at0
        rw [if_neg h1, if_neg (by omega)]
        simp [List.getD_eq_getElem?_getD]
      have HV := Lib.hid hv
      have hne : ¬ c = k := by omega
      clear hv hr hcall hd
      go_enter Tryz.func89, Tryz.ntmps89
      go_wp2_with (go_at_call 42; ((with_reducible refine (HC.out _).mono ?_); rintro _ _ ⟨rfl, rfl⟩))
      go_returns
      exact ⟨ret_int HV.out.symm, rfl⟩

set_option maxHeartbeats 400000 in
theorem number_r (a : Option Addr) (c : Nat) (xs : List Int) (i m : Int) (w : World) (hr : Ints w a xs) (hm : xs.length ≤ 9223372036854775807) (h0 : 0 ≤ m) :
    Calls Tryz.prog 47 #[.slice a xs.length c, .int .i64 i, .int .i64 m] w (Same w (.int .i64 (num0 xs i m))) := by
  by_cases h1 : i < 0
  · go_enter Tryz.func47, Tryz.ntmps47
    go_wp2
    go_returns
    exact ⟨ret_int (by unfold num0; rw [if_pos h1]), rfl⟩
  · by_cases h2 : (xs.length : Int) ≤ i
    · go_enter Tryz.func47, Tryz.ntmps47
      go_wp2
      go_returns
      exact ⟨ret_int (by unfold num0; rw [if_neg (by omega), getD_out (by omega)]), rfl⟩
    · by_cases h3 : (xs.length : Int) - i ≤ m
      · go_enter Tryz.func47, Tryz.ntmps47
        go_wp2
        go_returns
        exact ⟨ret_int (by unfold num0; rw [if_neg (by omega), getD_out (by omega)]), rfl⟩
      · obtain ⟨k, rfl⟩ : ∃ k : Nat, i = k := ⟨i.toNat, by omega⟩
        obtain ⟨j, rfl⟩ : ∃ j : Nat, m = j := ⟨m.toNat, by omega⟩
        have hk : k + j < xs.length := by omega
        obtain ⟨b, off, rfl, hlt, hc⟩ := hr.cell hk
        have hv : num0 xs k j = xs[k + j] := by unfold num0; rw [if_neg h1]; simp [hk]
        have HV := Lib.hid hv
        have e1 : ((k : Int) + (j : Int)).toNat = k + j := by omega
        clear hv hr
        go_enter Tryz.func47, Tryz.ntmps47
        go_wp2
        go_returns
        exact ⟨ret_int HV.out.symm, rfl⟩


def lastA (n l : Int) : Int := if l = 0 ∨ n < l then n else l
theorem tuple3_eq {k : IntKind} {a b a' b' : Int} {c c' : Bool} (h1 : a = a') (h2 : b = b') (h3 : c = c') : Value.tuple #[.int k a, .int k b, .bool c] = .tuple #[.int k a', .int k b', .bool c'] := by
  subst h1 h2 h3; rfl
def sideF (f l : Int) : Int := if f < 0 ∨ l < 0 then 0 else max f 1 - 1
def sideL (n f l : Int) : Int := if f < 0 ∨ l < 0 then 0 else lastA n l
def sideOk (n f l : Int) : Bool := decide (0 ≤ f ∧ 0 ≤ l ∧ max f 1 ≤ lastA n l)
set_option maxHeartbeats 1000000 in
theorem side_c (n f l : Int) (w : World) (hf : f ≤ 9223372036854775807) :
    Calls Tryz.prog 88 #[.int .i64 n, .int .i64 f, .int .i64 l] w (Same w (.tuple #[.int .i64 (sideF f l), .int .i64 (sideL n f l), .bool (sideOk n f l)])) := by
  go_enter Tryz.func88, Tryz.ntmps88
  go_wp2
  all_goals go_returns
  all_goals refine ⟨ret_of (tuple3_eq ?_ ?_ ?_), rfl⟩
  all_goals (try simp only [beq_iff_eq, beq_eq_false_iff_ne, bne_iff_ne, ne_eq, decide_eq_true_eq, decide_eq_false_iff_not, Bool.and_eq_true, Bool.or_eq_true, Bool.not_eq_true, Bool.not_eq_false, Bool.and_eq_false_iff, Bool.or_eq_false_iff] at *)
  all_goals first
    | (unfold sideF; (repeat' split) <;> omega)
    | (unfold sideL; (try unfold lastA); (repeat' split) <;> omega)
    | (unfold sideOk lastA; rw [Bool.eq_iff_iff]; simp only [decide_eq_true_eq, Bool.false_eq_true, false_iff, iff_true, true_iff]; (repeat' split) <;> omega)

end Go.Proofs.YtignkkejkknddaaGreat
