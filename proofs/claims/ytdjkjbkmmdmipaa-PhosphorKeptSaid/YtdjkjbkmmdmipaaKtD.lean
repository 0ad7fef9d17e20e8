/- macro.Decode of a text's digits.  -/
import Derived.Test.YtdjkjbkmmdmipaaKtC
namespace Go.Proofs.Ytdjkjbkmmdmipaa
open Go.RowKit
set_option linter.unusedVariables false
set_option linter.unusedSimpArgs false

def blen_ren : Go.Shelf.Ren := { f := fun x => match x with | 170 => 16 | n => n, t := fun x => match x with | 70 => 33 | 3 => 3 | 0 => 0 | 72 => 36 | 37 => 34 | 5 => 5 | n => n, g := fun x => have n := x; n }
theorem blen : Go.Proofs.Lays.n170 Try.prog blen_ren := {
  mixed := by kernel_rfl
  f170 := Try.func16.trans (congrArg some (by kernel_rfl))
  t0 := Try.underlying0
  a0 := Try.isAgg0
  z0 := Try.sizeOf0
  v0 := Try.zeroValue0
  t3 := Try.underlying3
  a3 := Try.isAgg3
  z3 := Try.sizeOf3
  v3 := Try.zeroValue3
  t37 := Try.underlying34
  a37 := Try.isAgg34
  z37 := Try.sizeOf34
  v37 := Try.zeroValue34
  t70 := Try.underlying33
  a70 := Try.isAgg33
  z70 := Try.sizeOf33
  v70 := Try.zeroValue33
  t72 := Try.underlying36
  a72 := Try.isAgg36
  z72 := Try.sizeOf36
  v72 := Try.zeroValue36 }

theorem blen_c (B b : Nat) (l : List UInt8) (w : World) (h : IsB B b l w) : Calls Try.prog 16 #[.pointer (some ⟨b, 0, none⟩)] w (fun e w' => e = .returned (.int .i64 l.length) ∧ w' = w) := by
  have := Any.Builder_Len_f blen B b (Lib.byteCells l) w h
  rwa [Lib.byteCells_length] at this
def decS (l : List UInt8) (m : Nat) : ByteArray := if l.length ≤ m then ⟨l.toArray⟩ else ⟨#[]⟩
def decE (l : List UInt8) (m : Nat) : Int := if l.length ≤ m then 0 else 5
theorem hexL_nil {l : List UInt8} (h : hexL l = []) : l = [] := by
  cases l with
  | nil => rfl
  | cons x r => simp [hexL] at h
def strZ : Value → Nat
  | .string t => t.size
  | _ => 0
set_option maxRecDepth 100000 in
set_option maxHeartbeats 8000000 in
theorem decode_c (s : ByteArray) (l : List UInt8) (hs : s.data.toList = hexL l) (m : Nat) (hm : m ≤ 6144) (hl : l.length ≤ 7000) (w : World) :
    Calls Try.prog 12 #[.string s, .int .i64 m] w (fun e w' => e = .returned (.tuple #[.string (decS l m), .int .i64 (decE l m)]) ∧ Below w.heap.size w w') := by
  obtain ⟨W1, hW1⟩ : ∃ W1, W1 = w.alloc (.cells #[.pointer none, .slice none 0 0] 36) := ⟨_, rfl⟩
  have FB : Hid (IsB w.heap.size w.heap.size [] W1) := Lib.hid (by rw [hW1]; exact fresh_b w)
  have hB1 : Below w.heap.size w W1 := by rw [hW1]; (repeat' (first | (with_reducible exact Below.refl _ _) | (with_reducible refine Below.alloc ?_ ?_ _) | (with_reducible refine below_ext ?_ ?_ _) | (with_reducible refine Below.drew ?_) | (with_reducible refine below_drewN ?_ _) | (with_reducible refine Below.setCell ?_ ?_ _) | go_size | (simp only [go_sem]; omega) | (simp [go_sem]; done) | (simp [go_sem]; omega)))
  have mx : max (m : Int) 0 = m := by omega
  go_enter Try.func12, Try.ntmps12
  go_upto_region 2 with fail
  rw [← hW1]
  clear hW1
  go_upto_region 3 with fail
  go_loopw [0] (fun sv wr => ∃ (j : Nat) (t : ByteArray), j ≤ l.length ∧ j ≤ m ∧ sv = .string t ∧ Hid (t.data.toList = hexL (l.drop j)) ∧ Hid (IsB w.heap.size w.heap.size (l.take j) wr) ∧ Below w.heap.size w wr) (fun sv _ => strZ sv)
  case atStart => exact ⟨0, s, by omega, by omega, rfl, Lib.hid hs, FB, hB1⟩
  case round =>
    obtain ⟨j, t, hj, hjm, rfl, ht, hI, hB⟩ := hrel
    by_cases hjl : j < l.length
    · obtain ⟨x, r, hxr⟩ : ∃ x r, l.drop j = x :: r := ⟨l[j], l.drop (j + 1), by simp⟩
      rw [hxr] at ht
      have hz := hx_size ht.out
      have ht0 := Lib.hid (hx_tail ht.out)
      have hz2 := Lib.hid (show (tailS t).size = 2 * r.length by
        have h := congrArg List.length ht0.out
        rw [hexL_length] at h
        exact h)
      have PC := Lib.hid (fun w' => piece_c t x r ht.out w')
      have hd : Hid (r = l.drop (j + 1)) := Lib.hid (by
        have h := congrArg (List.drop 1) hxr
        simpa [List.drop_drop, Nat.add_comm] using h.symm)
      have hk : Hid (l.take (j + 1) = l.take j ++ [x]) := Lib.hid (by
        have h0 : l[j]? = some x := by rw [← List.head?_drop, hxr]; rfl
        rw [List.take_add_one, h0]
        rfl)
      have hlj : (l.take j).length = j := by rw [List.length_take]; omega
      have LN := Lib.hid (fun w' (h : IsB w.heap.size w.heap.size (l.take j) w') => blen_c w.heap.size w.heap.size (l.take j) w' h)
      rw [hlj] at LN
      have hN := hB.size
      have ne : (t.toList == []) = false := by
        rw [ByteArray.toList_eq, ht.out]
        rfl
      have RP := Lib.hid (fun w' => repeat_one ⟨#[x]⟩ w')
      replace ht := Lib.hid ht.out
      replace hxr := Lib.hid hxr
      generalize tailS t = t2 at *
      replace hlj := Lib.hid hlj
      have hzt := Lib.hid hz
      clear hxr hl hs hz
      go_upto_region 7 with (go_at_call 15; ((with_reducible refine (PC.out _).mono ?_); rintro _ _ hgets; obtain ⟨rfl, x1, rfl⟩ := hgets.get; clear hgets))
      clear PC ne
      obtain ⟨W2, hW2, hb2⟩ : ∃ W2, W2 = ext wr x1 ∧ Below wr.heap.size wr W2 := ⟨_, rfl, below_of_ext wr x1⟩
      rw [← hW2]
      clear hW2
      have hI2 := Lib.hid (hI.out.later hb2)
      have hB2 := hB.trans (hb2.mono hN)
      have hN2 := hB2.size
      clear hI hB hb2 hN
      go_upto_if 35 with ((go_at_call 16); (refine (LN.out _ hI2.out).mono ?_); (rintro _ W3 ⟨rfl, rfl⟩))
      clear LN
      by_cases hlt : j < m
      · have e1 : decide ((m : Int) - j < 1) = false := decide_eq_false (by omega)
        have hone : (⟨#[x]⟩ : ByteArray).size = 1 := rfl
        have WS := Lib.hid (fun w' (h : Below W3.heap.size W3 w') => bwrite_s w.heap.size w.heap.size (l.take j) ⟨#[x]⟩ w' (hI2.out.later h) (by rw [hlj.out, hone]; omega) (by have := h.size; omega))
        go_wp2_with (first
          | (go_at_call 18; ((with_reducible refine (RP.out _).mono ?_); rintro _ _ hgets; obtain ⟨rfl, x2, rfl⟩ := hgets.get; clear hgets))
          | ((go_at_call 17); (refine (WS.out _ (by (repeat' (first | (with_reducible exact Below.refl _ _) | (with_reducible refine Below.alloc ?_ ?_ _) | (with_reducible refine below_ext ?_ ?_ _) | (with_reducible refine Below.drew ?_) | (with_reducible refine below_drewN ?_ _) | (with_reducible refine Below.setCell ?_ ?_ _) | go_size | (simp only [go_sem]; omega) | (simp [go_sem]; done) | (simp [go_sem]; omega))))).mono ?_); (rintro _ W4 ⟨rfl, h4, b4⟩); (replace h4 := Lib.hid h4)))
        exact ⟨⟨j + 1, t2, by omega, by omega, rfl, by rw [← hd.out]; exact ht0, by rw [hk.out]; exact h4, hB2.trans (Below.trans (Below.mono (B := W3.heap.size) (by (repeat' (first | (with_reducible exact Below.refl _ _) | (with_reducible refine Below.alloc ?_ ?_ _) | (with_reducible refine below_ext ?_ ?_ _) | (with_reducible refine Below.drew ?_) | (with_reducible refine below_drewN ?_ _) | (with_reducible refine Below.setCell ?_ ?_ _) | go_size | (simp only [go_sem]; omega) | (simp [go_sem]; done) | (simp [go_sem]; omega)))) hN2) b4)⟩, by show t2.size < t.size; rw [hz2.out, hzt.out]; omega⟩
      · obtain rfl : j = m := by omega
        have e1 : decide ((j : Int) - j < 1) = true := decide_eq_true (by omega)
        have hd1 : decS l j = ⟨#[]⟩ := if_neg (by omega)
        have hd2 : decE l j = 5 := if_neg (by omega)
        go_wp2
        go_returns
        exact ⟨by rw [hd1, hd2]; rfl, hB2⟩
    · obtain rfl : j = l.length := by omega
      rw [List.drop_length] at ht
      rw [List.take_length] at hI
      have ne : (t.toList == []) = true := by
        rw [ByteArray.toList_eq, ht.out]
        rfl
      have hN := hB.size
      have BS := Lib.hid (bstring_c w.heap.size w.heap.size l wr hI.out hN)
      have hd1 : decS l m = ⟨l.toArray⟩ := if_pos (by omega)
      have hd2 : decE l m = 0 := if_pos (by omega)
      go_wp2_with ((go_at_call 9); (refine BS.out.mono ?_); (rintro _ W4 ⟨rfl, h4, b4, -⟩))
      go_returns
      exact ⟨by rw [hd1, hd2]; rfl, hB.trans b4⟩
end Go.Proofs.Ytdjkjbkmmdmipaa
