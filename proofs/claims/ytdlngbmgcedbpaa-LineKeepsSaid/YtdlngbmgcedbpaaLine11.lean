/- Lines: rows of erased cells. -/
import Derived.Test.YtdlngbmgcedbpaaLine10
import Derived.Test.YtdlngbmgcedbpaaMul
import Derived.Test.YtdlngbmgcedbpaaTailM
namespace Go.Proofs.Ytdlngbmgcedbpaa
open Go.RowKit
set_option linter.unusedVariables false
set_option linter.unusedSimpArgs false

/-- an erased cell -/
def erC : Cl := ⟨32, 0, false⟩
/-- the first k of n cells are y, the others are as made -/
def halfR (y : Cl) (n k : Nat) : List Cl := List.replicate k y ++ List.replicate (n - k) noC
theorem halfR_len (y : Cl) (n k : Nat) (h : k ≤ n) : (halfR y n k).length = n := by simp [halfR]; omega
theorem halfR_step (y : Cl) (n k m : Nat) (h : k ≤ n) (hm : m = Nat.min k (n - k)) : layOn (halfR y n k) k ((List.replicate k y).take (n - k)) = halfR y n (k + m) := by
  have e : (List.replicate k y).take (n - k) = List.replicate m y := by rw [List.take_replicate, hm, show min (n - k) k = Nat.min k (n - k) from Nat.min_comm _ _]
  have hm2 : m ≤ n - k := by rw [hm]; exact Nat.min_le_right _ _
  rw [e]
  unfold layOn halfR
  rw [List.take_append_of_le_length (by simp), List.take_of_length_le (by simp), List.drop_append, List.drop_of_length_le (by simp), List.length_replicate, List.length_replicate, List.drop_replicate]
  rw [List.nil_append, ← List.append_assoc, List.replicate_append_replicate]
  congr 2
  omega
theorem halfR_first (y : Cl) (n m : Nat) (hm : m = Nat.min 1 n) : layOn (List.replicate n noC) 0 ([y].take n) = halfR y n m := by
  have e : [y].take n = List.replicate m y := by
    rw [hm]
    match n with
    | 0 => rfl
    | k + 1 => rw [show Nat.min 1 (k + 1) = 1 from Nat.min_eq_left (by omega)]; simp
  rw [e]
  unfold layOn halfR
  rw [List.take_zero, List.nil_append, List.length_replicate, Nat.zero_add, List.drop_replicate]
set_option maxRecDepth 100000 in
set_option maxHeartbeats 4000000 in
theorem repeat_c (A : Option Addr) (C : Nat) (y : Cl) (n : Nat) (w : World) (rd : Rd encC 3 w A [y]) (hn : n ≤ 1000000) :
    Calls Try.prog 118 #[.slice A 1 C, .int .i64 n] w (NewCs w (List.replicate n y)) := by
  have X := Lib.hid rd
  clear rd
  have MU := Lib.hid (fun w' => mul1_c n (by omega) w')
  obtain ⟨x0, hmk, hO0⟩ := make_cells w n (by omega)
  have hO := Lib.hid hO0
  clear hO0
  go_enter Try.func118, Try.ntmps118
  go_wp2_with (go_at_call 123; ((with_reducible refine (MU.out _).mono ?_); rintro _ _ ⟨rfl, rfl⟩))
  obtain ⟨w2, hrun, hO2, hB2, hs2, hf2⟩ := run_copy_lay (P := Try.prog) (size := 3) (enc := encC) 68 68 3 87 Try.underlying68 (by kernel_rfl) encC_len encC_one (some ⟨w.heap.size, 0, none⟩) A n n C [y] 87 w.heap.size (some ⟨w.heap.size, 0, none⟩) n n _ hO.out 0 (fun _ => ⟨_, rfl, rfl⟩) (by simp; omega) (by repeat (first | exact X.out | exact X | refine Rd.ext ?_ _ | refine Rd.alloc ?_ _ | refine Rd.drew ?_))
  obtain ⟨x2, rfl⟩ := ext_of (show Below w.heap.size w w2 from (below_of_ext w x0).trans hB2)
  rw [halfR_first y n (Nat.min 1 n) rfl] at hO2
  simp only [List.length_singleton] at hrun
  rw [hrun]
  have hm : Nat.min 1 n ≤ n ∧ Nat.min 1 n ≤ 1 ∧ (0 < n → 0 < Nat.min 1 n) := by
    have e : Nat.min 1 n = min 1 n := rfl
    rw [e]; omega
  have hP := Lib.hid hO2
  clear hO2 hB2 hs2 hf2 hrun hmk hO X
  generalize Nat.min 1 n = k0 at hP hm ⊢
  go_wp2
  go_loopw [8] (fun kv wr => ∃ (k : Nat) (x : More), k ≤ n ∧ (0 < n → 0 < k) ∧ kv = .int .i64 k ∧ wr = ext w x ∧ Hid (Own encC 3 87 w.heap.size (ext w x) (.slice (some ⟨w.heap.size, 0, none⟩) n n) (halfR y n k))) (fun kv _ => n - (intOf kv).toNat)
  case atStart => exact ⟨k0, x2, by omega, by omega, rfl, rfl, hP⟩
  case round =>
    obtain ⟨k, x, hk, hk0, rfl, rfl, hO⟩ := hrel
    by_cases hlt : k < n
    · go_wp2
      (refine wp_region_tail1 7 (by kernel_rfl) (by kernel_rfl) (fun _ _ _ _ h => h) (.tmp 8) rfl rfl ?_; simp only [Nat.reduceSub, List.take_succ_cons, List.take_zero, List.drop_succ_cons, List.drop_zero])
      repeat (go_big_quiet_step (fail))
      refine wpQuiet_nil ?_; rintro _ ⟨x3, rfl⟩
      obtain ⟨w2, hrun, hO2, hB2, hs2, hf2⟩ := run_copy_lay (P := Try.prog) (size := 3) (enc := encC) 68 68 3 87 Try.underlying68 (by kernel_rfl) encC_len encC_one (some ⟨w.heap.size, k * 3, none⟩) (some ⟨w.heap.size, 0, none⟩) (n - k) (n - k) n (List.replicate k y) 87 w.heap.size (some ⟨w.heap.size, 0, none⟩) n n _ (hO.out.ext x3) k (fun _ => ⟨_, rfl, rfl⟩) (by rw [halfR_len y n k hk, List.length_take, List.length_replicate]; omega) (by
        have h := (hO.out.ext x3).rd encC_len
        have h2 := h.take k
        rw [show (halfR y n k).take k = List.replicate k y by unfold halfR; rw [List.take_append_of_le_length (by simp), List.take_of_length_le (by simp)]] at h2
        exact h2)
      obtain ⟨x4, rfl⟩ := ext_of (show Below w.heap.size w w2 from ((below_of_ext w x).trans ((below_of_ext _ x3).mono (by simp [go_sem]))).trans hB2)
      rw [halfR_step y n k _ hk rfl] at hO2
      simp only [List.length_replicate] at hrun
      have hm2 : Nat.min k (n - k) ≤ n - k ∧ 0 < Nat.min k (n - k) := by
        have e : Nat.min k (n - k) = min k (n - k) := rfl
        rw [e]; omega
      have hP2 := Lib.hid hO2
      clear hO2 hB2 hs2 hf2
      generalize Nat.min k (n - k) = m at hP2 hm2 hrun
      go_wp2
      go_roundw
      case rel => exact ⟨k + m, x4, by omega, by omega, by go_num, rfl, hP2⟩
      case measure => simp [intOf]; omega
    · obtain rfl : k = n := by omega
      go_wp2
      go_returns
      have e : halfR y k k = List.replicate k y := by simp [halfR]
      have h := hO.out
      rw [e] at h
      refine ⟨some ⟨w.heap.size, 0, none⟩, k, x, ?_, rfl, ?_⟩
      · simp
      · simpa using h
end Go.Proofs.Ytdlngbmgcedbpaa
