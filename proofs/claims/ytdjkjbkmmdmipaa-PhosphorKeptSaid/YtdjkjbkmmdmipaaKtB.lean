/- reply.Hex.  -/
import Derived.Test.YtdjkjbkmmdmipaaKtA
namespace Go.Proofs.Ytdjkjbkmmdmipaa
open Go.RowKit
set_option linter.unusedVariables false
set_option linter.unusedSimpArgs false

theorem bldAt_later {T e : TypeId} {B b : Nat} {p : Value} {bs : List Value} {u u' : World} (h : Lib.BuilderAtF T e B b p bs u) (hb : Below u.heap.size u u') : Lib.BuilderAtF T e B b p bs u' := by
  have hl := h.lt
  obtain ⟨q1, x, q2, q3, q4⟩ := h
  refine ⟨q1, x, (hb.block b hl).trans q2, ?_, q4⟩
  exact q3.kept (row := none) ⟨hb.os, hb.tape, hb.output, hb.size, fun k hk _ => hb.block k hk⟩ (Classical.em _)
theorem IsB.later {B b : Nat} {l : List UInt8} {u u' : World} (h : IsB B b l u) (hb : Below u.heap.size u u') : IsB B b l u' := by
  rcases h with h | h
  · exact .inl (bldAt_later h hb)
  · exact .inr (bldAt_later h hb)
def hexL : List UInt8 → List UInt8
  | [] => []
  | x :: r => digK (x.toNat / 16) :: digK (x.toNat % 16) :: hexL r
theorem hexL_append (a b : List UInt8) : hexL (a ++ b) = hexL a ++ hexL b := by
  induction a with
  | nil => rfl
  | cons x r ih => simp [hexL, ih]
theorem hexL_length (a : List UInt8) : (hexL a).length = 2 * a.length := by
  induction a with
  | nil => rfl
  | cons x r ih => simp only [hexL, List.length_cons, ih]; omega
theorem and15_all : ((List.range 256).all fun d => bits BinOp.and IntKind.u8 (d : Int) 15 == ((d % 16 : Nat) : Int)) = true := by decide +kernel
theorem index_dig (k : Nat) (hk : k < 16) (w : World) : (Instr.index 9 (.string digsB) (.int .u8 k)).run Try.prog w = .ok (.int .u8 ((digK k).toNat : Int)) w := by
  have : k = 0 ∨ k = 1 ∨ k = 2 ∨ k = 3 ∨ k = 4 ∨ k = 5 ∨ k = 6 ∨ k = 7 ∨ k = 8 ∨ k = 9 ∨ k = 10 ∨ k = 11 ∨ k = 12 ∨ k = 13 ∨ k = 14 ∨ k = 15 := by omega
  rcases this with rfl | rfl | rfl | rfl | rfl | rfl | rfl | rfl | rfl | rfl | rfl | rfl | rfl | rfl | rfl | rfl
  all_goals (show _ = _; kernel_rfl)
theorem shr_four (a : Int) (w : World) : (binOp .shr 5 (.int .u8 a) (.int .u64 4)).run Try.prog w = .ok (.int .u8 (a / 16)) w := by
  rw [← Int.fdiv_eq_ediv_of_nonneg a (by omega : (0 : Int) ≤ 16)]
  kernel_rfl
set_option maxRecDepth 100000 in
set_option maxHeartbeats 8000000 in
theorem hex_c (s : ByteArray) (hs : s.size ≤ 7000) (w : World) : Calls Try.prog 4 #[.string s] w (Gives w (.string ⟨(hexL s.data.toList).toArray⟩)) := by
  obtain ⟨W1, hW1⟩ : ∃ W1, W1 = w.alloc (.cells #[.pointer none, .slice none 0 0] 36) := ⟨_, rfl⟩
  have FB : Hid (IsB w.heap.size w.heap.size [] W1) := Lib.hid (by rw [hW1]; exact fresh_b w)
  have hB1 : Below w.heap.size w W1 := by rw [hW1]; (repeat' (first | (with_reducible exact Below.refl _ _) | (with_reducible refine Below.alloc ?_ ?_ _) | (with_reducible refine below_ext ?_ ?_ _) | (with_reducible refine Below.drew ?_) | (with_reducible refine below_drewN ?_ _) | (with_reducible refine Below.setCell ?_ ?_ _) | go_size | (simp only [go_sem]; omega) | (simp [go_sem]; done) | (simp [go_sem]; omega)))
  have hlen : s.data.toList.length = s.size := rfl
  go_enter Try.func4, Try.ntmps4
  go_upto_region 2 with fail
  rw [← hW1]
  clear hW1
  go_wp2
  go_loopw [7] (fun iv wr => ∃ j : Nat, j ≤ s.size ∧ iv = .int .i64 j ∧ Hid (IsB w.heap.size w.heap.size (hexL (s.data.toList.take j)) wr) ∧ Below w.heap.size w wr) (fun iv _ => s.size - (intOf iv).toNat)
  case atStart => exact ⟨0, by omega, rfl, FB, hB1⟩
  case round =>
    obtain ⟨j, hj, rfl, hI, hB⟩ := hrel
    by_cases hjl : j < s.size
    · obtain ⟨x, hx⟩ : ∃ x, x = s.data.toList[j] := ⟨_, rfl⟩
      have hx8 : x.toNat < 256 := x.toNat_lt
      have ht : s.data.toList.take (j + 1) = s.data.toList.take j ++ [x] := by rw [hx, List.take_succ_eq_append_getElem (by omega)]
      have RX : ∀ w', (Instr.index 9 (.string s) (.int .i64 j)).run Try.prog w' = .ok (.int .u8 (x.toNat : Int)) w' := fun w' => by
        have h1 : s.data.toList[j] = s[j] := rfl
        simp [go_sem, hjl, hx]
        rfl
      have RD1 := index_dig (x.toNat / 16) (by omega)
      have RD2 := index_dig (x.toNat % 16) (by omega)
      rw [show ((x.toNat % 16 : Nat) : Int) = ((x.toNat : Nat) : Int) % 16 by omega] at RD2
      have e1 : ((x.toNat : Nat) : Int) / 16 = ((x.toNat / 16 : Nat) : Int) := by omega
      have f0 : ((x.toNat : Nat) : Int).fdiv 16 = ((x.toNat / 16 : Nat) : Int) := by rw [Int.fdiv_eq_ediv_of_nonneg _ (by omega)]; exact e1
      have f1 : ((x.toNat : Nat) : Int).fdiv (2 ^ min (Int.toNat 4) IntKind.u8.bits) = ((x.toNat / 16 : Nat) : Int) := f0
      have RA := RD1
      have RB := RD1
      have RC := RD1
      rw [← e1] at RA
      rw [← f0] at RB
      rw [← f1] at RC
      have e2 : bits BinOp.and IntKind.u8 ((x.toNat : Nat) : Int) 15 = ((x.toNat % 16 : Nat) : Int) := by
        have := List.all_eq_true.1 and15_all x.toNat (List.mem_range.2 hx8)
        simpa using this
      have hl := hexL_length (s.data.toList.take j)
      have hl2 : (s.data.toList.take j).length ≤ 7000 := by rw [List.length_take]; omega
      have hN := hB.size
      have hd : hexL (s.data.toList.take (j + 1)) = hexL (s.data.toList.take j) ++ [digK (x.toNat / 16)] ++ [digK (x.toNat % 16)] := by rw [ht, hexL_append]; simp [hexL]
      replace hd := Lib.hid hd
      replace hx := Lib.hid hx
      clear ht e1 f0 f1
      generalize digK (x.toNat / 16) = c1 at RD1 RA RB RC hd
      generalize digK (x.toNat % 16) = c2 at RD2 hd
      generalize hexL (s.data.toList.take j) = l at hI hl hd
      unfold digsB at RD1 RD2 RA RB RC
      have WB1 := Lib.hid (bwrite_c w.heap.size w.heap.size l c1 wr hI.out (by omega) hN)
      clear RD1 RB RC
      go_upto_region 6 with ((go_at_call 8); (refine WB1.out.mono ?_); (rintro _ w2 ⟨rfl, h2, b2, -⟩); (replace h2 := Lib.hid h2); clear WB1 RA)
      have WB2 := Lib.hid (bwrite_c w.heap.size w.heap.size (l ++ [c1]) c2 w2 h2.out (by simp; omega) (Nat.le_trans hN b2.size))
      have hB2 := hB.trans b2
      clear hI hB b2 h2
      generalize ((x.toNat : Nat) : Int) / 16 = q1
      go_wp2_with ((go_at_call 8); (refine WB2.out.mono ?_); (rintro _ w3 ⟨rfl, h3, b3, -⟩); (replace h3 := Lib.hid h3))
      exact ⟨⟨j + 1, by omega, by go_num, by rw [hd.out]; exact h3, hB2.trans b3⟩, by simp [intOf]; omega⟩
    · obtain rfl : j = s.size := by omega
      rw [List.take_of_length_le (by omega)] at hI
      go_wp2_with ((go_at_call 9); (refine (bstring_c w.heap.size w.heap.size _ wr hI.out hB.size).mono ?_); (rintro _ w2 ⟨rfl, -, b2, -⟩))
      go_returns
      exact ⟨rfl, hB.trans b2⟩
end Go.Proofs.Ytdjkjbkmmdmipaa
