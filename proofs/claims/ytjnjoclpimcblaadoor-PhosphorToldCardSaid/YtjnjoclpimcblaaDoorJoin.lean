/- Short texts, joined by semicolons. -/
import Derived.Test.YtjnjoclpimcblaaDoorBld
import Derived.Test.YtjnjoclpimcblaaDoorParse
import Derived.IntWalk
namespace Go.Proofs.YtjnjoclpimcblaaDoor
open Go.RowKit
set_option linter.unusedVariables false
set_option linter.unusedSimpArgs false

def encS (x : ByteArray) : List Value := [.string x]
theorem encS_len (x : ByteArray) : (encS x).length = 1 := rfl
theorem encS_one (x : ByteArray) : ∀ u ∈ encS x, u.oneCell' = true := by
  intro u hu
  simp [encS] at hu
  subst hu
  rfl
theorem str_info : (Tryd.prog.info? 9).map (fun i => (i.zero, i.size, i.bytes)) = some (some (.string ByteArray.empty), 1, 16) := by kernel_rfl
theorem joinS_snoc : ∀ (l : List (List UInt8)) (y : List UInt8), l ≠ [] → joinS (l ++ [y]) = joinS l ++ 59 :: y
  | [], _, h => absurd rfl h
  | [x], y, _ => rfl
  | x :: z :: r, y, _ => by
    have := joinS_snoc (z :: r) y (by simp)
    simp only [List.cons_append, joinS] at this ⊢
    rw [this]
    simp
theorem joinS_len : ∀ (l : List (List UInt8)), (∀ x ∈ l, x.length ≤ 5) → (joinS l).length ≤ 6 * l.length
  | [], _ => by simp [joinS]
  | [x], h => by
    have := h x (by simp)
    simp [joinS]
    omega
  | x :: z :: r, h => by
    have h1 := h x (by simp)
    have h2 := joinS_len (z :: r) (fun a ha => h a (List.mem_cons_of_mem _ ha))
    simp only [joinS, List.length_append, List.length_cons] at h2 ⊢
    omega
abbrev joinB (rows : List ByteArray) : List UInt8 := joinS (rows.map bytesOf)
theorem joinB_step (rows : List ByteArray) (k : Nat) (h : k + 1 < rows.length) : joinB (rows.take (k + 2)) = joinB (rows.take (k + 1)) ++ 59 :: bytesOf rows[k + 1] := by
  unfold joinB
  rw [List.take_add_one, List.getElem?_eq_getElem h, List.map_append]
  exact joinS_snoc _ _ (fun e => by
    have := congrArg List.length e
    rw [List.length_map, List.length_take, List.length_nil] at this
    omega)
theorem mk_bytes (x : ByteArray) : (⟨(bytesOf x).toArray⟩ : ByteArray) = x := by cases x; simp [bytesOf]
theorem Rd.str {w : World} {bk o : Nat} {rows : List ByteArray} (h : Rd encS 1 w (some ⟨bk, o, none⟩) rows) {k : Nat} (hk : k < rows.length) : w.cell? ⟨bk, o + k, none⟩ = some (.string rows[k]) ∧ bk < w.heap.size := by
  obtain ⟨b, off, e, hlt, hc⟩ := h (by omega)
  injection e with e
  injection e with e1 e2
  subst e1 e2
  have := hc k hk 0 _ rfl
  simp only [Nat.mul_one, Nat.add_zero] at this
  exact ⟨this, hlt⟩

set_option maxRecDepth 100000 in
set_option maxHeartbeats 8000000 in
theorem join_c (A : Option Addr) (c : Nat) (rows : List ByteArray) (w : World) (rd : Rd encS 1 w A rows) (hn : rows.length ≤ 30) (hc : rows.length ≤ c) (hcm : c ≤ 9223372036854775807) (h5 : ∀ x ∈ rows, x.size ≤ 5) :
    Calls Tryd.prog 16 #[.slice A rows.length c, .string ⟨#[59]⟩] w (Gives w (.string ⟨(joinB rows).toArray⟩)) := by
  match rows, rd, hn, hc, h5 with
  | [], rd, hn, hc, h5 =>
    go_enter Tryd.func16, Tryd.ntmps16
    go_wp2
    go_returns
    exact ⟨rfl, by (repeat' (first | (with_reducible exact Below.refl _ _) | (with_reducible refine Below.alloc ?_ ?_ _) | (with_reducible refine below_ext ?_ ?_ _) | (with_reducible refine Below.drew ?_) | (with_reducible refine below_drewN ?_ _) | (with_reducible refine Below.setCell ?_ ?_ _) | go_size | (simp only [go_sem]; omega) | (simp [go_sem]; done) | (simp [go_sem]; omega)))⟩
  | [x], rd, hn, hc, h5 =>
    obtain ⟨bk, o, rfl, _, _⟩ := rd (by simp)
    have hx := (rd.str (k := 0) (by simp)).1
    have HJ := Lib.hid (show (⟨(joinB [x]).toArray⟩ : ByteArray) = x from mk_bytes x)
    simp only [Nat.add_zero, List.getElem_cons_zero] at hx
    clear rd h5
    go_enter Tryd.func16, Tryd.ntmps16
    go_wp2
    go_returns
    rw [HJ.out]
    exact ⟨rfl, by (repeat' (first | (with_reducible exact Below.refl _ _) | (with_reducible refine Below.alloc ?_ ?_ _) | (with_reducible refine below_ext ?_ ?_ _) | (with_reducible refine Below.drew ?_) | (with_reducible refine below_drewN ?_ _) | (with_reducible refine Below.setCell ?_ ?_ _) | go_size | (simp only [go_sem]; omega) | (simp [go_sem]; done) | (simp [go_sem]; omega)))⟩
  | x :: y :: r, rd, hn, hc, h5 =>
    obtain ⟨bk, o, e, h1, h2⟩ := rd (by simp)
    subst e
    clear h1 h2
    have hlen : 2 ≤ (x :: y :: r).length := by simp
    generalize hR : x :: y :: r = rows at rd hn hc h5 hlen
    clear hR
    have RD := Lib.hid rd
    have hne0 : ((rows.length : Int) == 0) = false := beq_eq_false_iff_ne.2 (by omega)
    have hne1 : ((rows.length : Int) == 1) = false := beq_eq_false_iff_ne.2 (by omega)
    have hdv : ¬ (9223372036854775807 / ((rows.length : Int) - 1) ≤ 1) := by
      intro h
      have h1 : (9223372036854775807 : Int) / ((rows.length : Int) - 1) < 2 := by omega
      have h2 := (Int.ediv_lt_iff_lt_mul (show (0 : Int) < (rows.length : Int) - 1 by omega)).1 h1
      omega
    have H5 := Lib.hid h5
    have hbk := (rd.str (k := 0) (by omega)).2
    clear rd h5
    go_enter Tryd.func16, Tryd.ntmps16
    go_wp2
    go_loopw [5, 41] (fun nv i wr => ∃ (k v : Nat), k ≤ rows.length ∧ v ≤ 29 + 5 * k ∧ i = .int .i64 k ∧ nv = .int .i64 v ∧ w = wr) (fun _ i _ => rows.length - (intOf i).toNat)
    case atStart => exact ⟨0, rows.length - 1, by omega, by omega, rfl, by go_num, rfl⟩
    case round =>
      obtain ⟨k, v, hk, hv, rfl, rfl, rfl⟩ := hrel
      by_cases hlt : k < rows.length
      · have hx := (RD.out.str hlt).1
        have hsz := H5.out rows[k] (List.getElem_mem hlt)
        go_wp2
        go_roundw
        case rel => exact ⟨k + 1, v + rows[k].size, by omega, by omega, by go_num, by go_num, by first | trivial | rfl⟩
        case measure => simp [intOf]; omega
      · obtain rfl : k = rows.length := by omega
        have GR := Lib.hid (bgrow_c w.heap.size w.heap.size v (w.alloc (.cells #[.pointer none, .slice none 0 0] 63)) (Nat.le_refl _) Array.getElem?_push_size (by simp [go_sem]) (by omega))
        have hx0 := (RD.out.str (k := 0) (by omega)).1
        rw [Nat.add_zero] at hx0
        have hs0 := H5.out rows[0] (List.getElem_mem _)
        have hj0 : [] ++ bytesOf rows[0] = joinB (rows.take 1) := by
          unfold joinB
          rw [List.take_add_one, List.getElem?_eq_getElem (by omega)]
          rfl
        have HJ0 := Lib.hid hj0
        clear hj0
        go_wp2_with (first
          | (go_at_call 24; (with_reducible refine GR.out.mono ?_); (rintro _ w1 ⟨rfl, hb1, hB1⟩); have hW1 := ((Below.refl w.heap.size w).alloc (Nat.le_refl _) _).trans hB1; have hy0 := (hW1.cell (p := ⟨bk, o, none⟩) hbk).trans hx0; have hz1 := hW1.size; replace hb1 := Lib.hid hb1; replace hW1 := Lib.hid hW1; clear hB1)
          | (go_at_call 25; (with_reducible refine (bwrite_s w.heap.size w.heap.size [] rows[0] w1 hb1.out (by simp; omega) hz1).mono ?_); (rintro _ w2 ⟨rfl, hb2, hB2⟩); rw [HJ0.out] at hb2; replace hb2 := Lib.hid hb2; have hW2 := Lib.hid (hW1.out.trans hB2); clear hB2 hb1 hW1 hy0))
        go_loopw [65] (fun i w3 => ∃ (k : Nat), k + 1 ≤ rows.length ∧ i = .int .i64 k ∧ Hid (IsB w.heap.size w.heap.size (joinB (rows.take (k + 1))) w3) ∧ Hid (Below w.heap.size w w3)) (fun i _ => rows.length - (intOf i).toNat)
        case atStart => exact ⟨0, by omega, rfl, hb2, hW2⟩
        case round =>
          obtain ⟨k, hk3, rfl, hb3, hW3⟩ := hrel
          by_cases hlt3 : k + 1 < rows.length
          · have hx := (RD.out.str hlt3).1
            have hy : wr.cell? ⟨bk, o + 1 + k, none⟩ = some (.string rows[k + 1]) := (hW3.out.cell (p := ⟨bk, o + 1 + k, none⟩) hbk).trans (by rw [show o + 1 + k = o + (k + 1) by omega]; exact hx)
            have hz := hW3.out.size
            have hs1 := H5.out rows[k + 1] (List.getElem_mem _)
            have hJ := Lib.hid (joinB_step rows k hlt3)
            have hL := joinS_len ((rows.take (k + 1)).map bytesOf) (fun x hx => by
              obtain ⟨y, hy, rfl⟩ := List.mem_map.1 hx
              exact H5.out y (List.mem_of_mem_take hy))
            rw [List.length_map, List.length_take] at hL
            have hL2 : (joinB (rows.take (k + 1))).length ≤ 180 := by unfold joinB; omega
            clear hL hx
            go_wp2_with fail
            (with_reducible refine (bwrite_s w.heap.size w.heap.size _ ⟨#[59]⟩ wr hb3.out (by have h1 : (⟨#[59]⟩ : ByteArray).size = 1 := rfl; omega) hz).mono ?_)
            rintro _ w4 ⟨rfl, hb4, hB4⟩
            have hz4 := Nat.le_trans hz hB4.size
            have hb4' : Hid (IsB w.heap.size w.heap.size (joinB (rows.take (k + 1)) ++ [59]) w4) := Lib.hid hb4
            have hW4 := Lib.hid (hW3.out.trans hB4)
            clear hb4 hB4
            go_wp2_with fail
            (with_reducible refine (bwrite_s w.heap.size w.heap.size _ rows[k + 1] w4 hb4'.out (by simp only [List.length_append, List.length_cons, List.length_nil]; omega) hz4).mono ?_)
            rintro _ w5 ⟨rfl, hb5, hB5⟩
            have hb6 : Hid (IsB w.heap.size w.heap.size (joinB (rows.take (k + 2))) w5) := Lib.hid (by
              rw [hJ.out]
              rw [List.append_assoc] at hb5
              exact hb5)
            have hW5 := Lib.hid (hW4.out.trans hB5)
            clear hb5 hB5
            go_wp2
            go_roundw
            case rel => exact ⟨k + 1, by omega, by go_num, hb6, hW5⟩
            case measure => simp [intOf]; omega
          · obtain rfl : k = rows.length - 1 := by omega
            have hfull : rows.take (rows.length - 1 + 1) = rows := List.take_of_length_le (by omega)
            rw [hfull] at hb3
            have hz := hW3.out.size
            go_wp2_with (go_at_call 26; (with_reducible refine (bstring_c w.heap.size w.heap.size (joinB rows) wr hb3.out hz).mono ?_); (rintro _ w5 ⟨rfl, _, hB5, _⟩); replace hB5 := Lib.hid (hW3.out.trans hB5))
            go_returns
            exact ⟨rfl, hB5.out⟩
end Go.Proofs.YtjnjoclpimcblaaDoor
