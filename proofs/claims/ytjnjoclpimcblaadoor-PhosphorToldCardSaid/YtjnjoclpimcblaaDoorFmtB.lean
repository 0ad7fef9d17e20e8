/- Numbers as a text: the program and the document.  -/
import Derived.Test.YtjnjoclpimcblaaDoorFmt
namespace Go.Proofs.YtjnjoclpimcblaaDoor
open Go.RowKit
set_option linter.unusedVariables false
set_option linter.unusedSimpArgs false

/-- a number's text -/
def decB (n : Int) : ByteArray := ⟨(Lib.decDigits (clipP n).toNat).toArray⟩
theorem decB_bytes (n : Int) : bytesOf (decB n) = Lib.decDigits (clipP n).toNat := rfl
theorem decB_size (n : Int) : (decB n).size ≤ 5 := by
  have := dec_len 4 (clipP n).toNat (by have := clipP_hi n; omega)
  show (Lib.decDigits (clipP n).toNat).toArray.size ≤ 5
  simpa using this
def rowsL (xs : List Int) : List ByteArray := (xs.take 30).map decB
theorem rowsL_len (xs : List Int) : (rowsL xs).length = min 30 xs.length := by simp [rowsL]
theorem rowsL_join (xs : List Int) : joinB (rowsL xs) = fmtL xs := by
  unfold joinB rowsL fmtL
  rw [List.map_map]
  rfl
theorem rowsL_take (xs : List Int) (k : Nat) (h : k < xs.length) (h30 : k < 30) : (rowsL xs).take (k + 1) = (rowsL xs).take k ++ [decB xs[k]] := by
  rw [List.take_add_one]
  congr 1
  unfold rowsL
  rw [List.getElem?_map, List.getElem?_take, if_pos h30, List.getElem?_eq_getElem h]
  rfl
theorem str_new {w : World} {g : Nat} (e : TypeId) (x : ByteArray) (hg : g = w.heap.size) : Rd encS 1 (w.alloc (.cells #[.string x] e)) (some ⟨g, 0, none⟩) [x] :=
  (Own.new (B := 0) (e := e) encS_len hg (xs := [x]) (rfl : (1 : Nat) = [x].length) _ rfl (Nat.zero_le _) (by simp [maxLen])).rd encS_len
theorem itoa_d (n : Int) (w : World) (ht : Tab w) : Calls Tryd.prog 14 #[.int .i64 (max 0 (min n 65535))] w (Gives w (.string (decB n))) := itoa_c (clipP n) (clipP_lo n) (clipP_hi n) w ht
section
variable {A : Option Addr} {c : Nat} {xs : List Int}
set_option maxRecDepth 100000 in
set_option maxHeartbeats 4000000 in
theorem fmt_c (w : World) (rd : Ints w A xs) (hc : xs.length ≤ c) (hm : c ≤ 9223372036854775807) (ht : Tab w) : Calls Tryd.prog 6 #[.slice A xs.length c] w (Gives w (.string ⟨(fmtL xs).toArray⟩)) := by
  have HT := Lib.hid ht
  have RD := Lib.hid rd
  have hmin : (min (xs.length : Int) 30) = ((min 30 xs.length : Nat) : Int) := by omega
  have HJ := Lib.hid (rowsL_join xs)
  have HL := Lib.hid (rowsL_len xs)
  have hL1 := rowsL_len xs
  clear ht rd
  go_enter Tryd.func6, Tryd.ntmps6
  go_wp2
  have hm1 : min 30 xs.length ≤ 30 := by omega
  have hm2 : min 30 xs.length ≤ xs.length := by omega
  have hm3 : (rowsL xs).length = min 30 xs.length := hL1
  have hm4 : ∀ x ∈ rowsL xs, x.size ≤ 5 := fun x hx => by
    obtain ⟨n, _, rfl⟩ := List.mem_map.1 hx
    exact decB_size n
  have TK := Lib.hid (rowsL_take xs)
  replace hm4 := Lib.hid hm4
  clear hmin hL1 HL
  generalize min 30 xs.length = m at hm1 hm2 hm3 ⊢
  generalize hRR : rowsL xs = R at HJ hm3 hm4 TK
  clear hRR
  replace hm3 := Lib.hid hm3
  go_loopw [3, 12] (fun out i wr => ∃ (k : Nat) (A' : Option Addr) (c' : Nat) (x : More), k ≤ m ∧ out = .slice A' (R.take k).length c' ∧ i = .int .i64 k ∧ wr = ext w x ∧ Hid (Own encS 1 9 w.heap.size (ext w x) (.slice A' (R.take k).length c') (R.take k))) (fun _ i _ => m - (intOf i).toNat)
  case atStart => exact ⟨0, none, 0, ⟨#[], w.drawn⟩, by omega, by simp, rfl, by simp [ext], Own.nil _ _ _ _ _⟩
  case round =>
    obtain ⟨k, A', c', x, hk, rfl, rfl, rfl, hO⟩ := hrel
    by_cases hlt : k < m
    · obtain ⟨b, o, rfl, hb, hcl⟩ := RD.out.cell (show k < xs.length by omega)
      have hT := Lib.hid (TK.out k (by omega) (by omega))
      have hl := Lib.hid (show (R.take k).length = k by rw [List.length_take]; have := hm3.out; omega)
      generalize xs[k] = n at hcl hT
      generalize R.take k = L at hO hT hl ⊢
      go_wp2_with (first
        | (go_at_call 15; ((with_reducible refine (clip_p _ _ _ _).mono ?_); rintro _ _ ⟨rfl, rfl⟩))
        | (go_at_call 14; ((with_reducible refine (itoa_d n _ (HT.out.ext _)).mono ?_); rintro _ _ hgets; obtain ⟨rfl, x1, rfl⟩ := hgets.get; clear hgets))
        | (at_builtin
           refine append_rd (U := w) (.tmp 16) (.tmp 20) 48 9 _ 16 rfl rfl Tryd.underlying48 str_info rfl (by omega) encS_len encS_one L [decB n] _ _ 1 rfl rfl ?_ ((hO.out.ext _).alloc _) (str_new _ (decB n) (by simp [go_sem])) (by have := hl.out; simp [maxLen]; omega) (by have := hl.out; simp; omega) ?_
           · (repeat' (first | (with_reducible exact Below.refl _ _) | (with_reducible refine Below.alloc ?_ ?_ _) | (with_reducible refine below_ext ?_ ?_ _) | (with_reducible refine Below.drew ?_) | (with_reducible refine below_drewN ?_ _) | (with_reducible refine Below.setCell ?_ ?_ _) | go_size | (simp only [go_sem]; omega) | (simp [go_sem]; done) | (simp [go_sem]; omega)))
           intro A2 c2 x2 zs hz hO2
           replace hO2 := Lib.hid hO2
           have HZ := Lib.hid hz
           clear hz))
      go_wp2
      go_roundw
      case rel =>
        rw [← hT.out] at HZ
        obtain rfl := HZ.out
        exact ⟨k + 1, A2, c2, x2, by omega, rfl, by go_num, rfl, hO2⟩
      case measure => simp [intOf]; omega
    · obtain rfl : k = m := by omega
      have hl : R.take k = R := List.take_of_length_le (by have := hm3.out; omega)
      rw [hl] at hO ⊢
      have hcs := hO.out.caps
      have hc1 := hcs.1
      have hc2 := hcs.2
      have hh : R.length ≤ 30 := by have := hm3.out; omega
      clear hcs
      go_wp2_with (go_at_call 16; ((with_reducible refine (join_c _ _ R _ (hO.out.rd encS_len) hh hc1 (by simp only [maxLen] at hc2; omega) hm4.out).mono ?_); rintro _ _ hgets; obtain ⟨rfl, x1, rfl⟩ := hgets.get; clear hgets))
      go_returns
      rw [HJ.out]
      exact ⟨rfl, by (repeat' (first | (with_reducible exact Below.refl _ _) | (with_reducible refine Below.alloc ?_ ?_ _) | (with_reducible refine below_ext ?_ ?_ _) | (with_reducible refine Below.drew ?_) | (with_reducible refine below_drewN ?_ _) | (with_reducible refine Below.setCell ?_ ?_ _) | go_size | (simp only [go_sem]; omega) | (simp [go_sem]; done) | (simp [go_sem]; omega)))⟩
/-- the text of the first k numbers -/
def txt (xs : List Int) (k : Nat) : ByteArray := ⟨(joinB ((rowsL xs).take k)).toArray⟩
theorem txt_zero (xs : List Int) : txt xs 0 = ByteArray.empty := rfl
theorem txt_one (xs : List Int) (h : 0 < xs.length) : ByteArray.empty ++ decB xs[0] = txt xs 1 := by
  unfold txt
  rw [rowsL_take xs 0 h (by omega)]
  apply ByteArray.ext
  simp [joinB, joinS, bytesOf]
theorem txt_step (xs : List Int) (k : Nat) (h0 : 0 < k) (h : k < xs.length) (h30 : k < 30) : (txt xs k ++ ⟨#[59]⟩) ++ decB xs[k] = txt xs (k + 1) := by
  unfold txt
  rw [rowsL_take xs k h h30]
  have e : joinB ((rowsL xs).take k ++ [decB xs[k]]) = joinB ((rowsL xs).take k) ++ 59 :: bytesOf (decB xs[k]) := by
    unfold joinB
    rw [List.map_append]
    exact joinS_snoc _ _ (fun e => by
      have := congrArg List.length e
      rw [List.length_map, List.length_take, rowsL_len, List.length_nil] at this
      omega)
  rw [e]
  apply ByteArray.ext
  simp [bytesOf]
theorem txt_size (xs : List Int) (k : Nat) : (txt xs k).size ≤ 180 := by
  have h := joinS_len (((rowsL xs).take k).map bytesOf) (fun x hx => by
    obtain ⟨y, hy, rfl⟩ := List.mem_map.1 hx
    obtain ⟨n, _, rfl⟩ := List.mem_map.1 (List.mem_of_mem_take hy)
    have := decB_size n
    rw [show (bytesOf (decB n)).length = (decB n).size from Array.length_toList]
    exact this)
  have h2 : ((rowsL xs).take k).length ≤ 30 := by rw [List.length_take, rowsL_len]; omega
  rw [List.length_map] at h
  show (joinB ((rowsL xs).take k)).toArray.size ≤ 180
  rw [List.size_toArray]
  unfold joinB
  omega
theorem txt_all (xs : List Int) (k : Nat) (h : xs.length ≤ k ∨ 30 ≤ k) : txt xs k = ⟨(fmtL xs).toArray⟩ := by
  unfold txt
  rw [List.take_of_length_le (by rw [rowsL_len]; omega), rowsL_join]
end
end Go.Proofs.YtjnjoclpimcblaaDoor
