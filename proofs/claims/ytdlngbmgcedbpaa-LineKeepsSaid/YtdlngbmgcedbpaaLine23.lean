/- Lines: the reference's Insert and Delete; the plain law of moving. -/
import Derived.Test.YtdlngbmgcedbpaaLine22
import Derived.Test.YtdlngbmgcedbpaaLine21
import Derived.Test.YtdlngbmgcedbpaaLine20
namespace Go.Proofs.Ytdlngbmgcedbpaa
open Go.RowKit
set_option linter.unusedVariables false
set_option linter.unusedSimpArgs false

theorem spanN_cnt (n : Nat) (f t : Int) : spanN n f t = cntN n f t 0 := by unfold spanN cntN; omega
theorem ins_mov (xs : List Cl) (f t n : Int) : insR xs f t (clampN n (cutR xs f t).length) = movR xs f t (clampR n 0 (cntN xs.length f t 0)) := by
  have hl := cutR_len xs f t
  have hs := spanN_cnt xs.length f t
  have hh := offN_le xs.length f t (by omega)
  have hM : ((clampN n (cutR xs f t).length : Nat) : Int) = clampR n 0 (cntN xs.length f t 0) ∧ clampN n (cutR xs f t).length ≤ (cutR xs f t).length := by
    unfold clampN clampR; split <;> (try split) <;> omega
  have hN : ((cutR xs f t).length : Int) = spanN xs.length f t := by omega
  rw [← hM.1]
  have hM2 := hM.2
  clear hM
  generalize clampN n (cutR xs f t).length = M at hM2
  unfold insR movR movG
  have h1 : (layOn xs (offN xs.length f t + M) ((cutR xs f t).take ((cutR xs f t).length - M))).length = xs.length := layOn_len _ _ _ (by rw [List.length_take]; omega)
  apply List.ext_getElem?
  intro i
  rw [layOn_get _ _ _ _ (by rw [h1, List.length_replicate]; omega), layOn_get _ _ _ _ (by rw [List.length_take]; omega), updR_opt, List.length_replicate, List.length_take]
  rcases Nat.lt_or_ge i xs.length with hi | hi
  · rw [List.getElem?_eq_getElem hi]
    simp only [Option.map_some, hi, true_and]
    by_cases hin : inS xs.length i f t = true
    · have hin2 := (inS_off hi).1 hin
      rw [if_pos hin]
      by_cases h2 : i < offN xs.length f t + M
      · rw [if_pos (by omega), List.getElem?_replicate, if_pos (by omega), if_neg]
        intro h3
        by_cases h4 : M ≤ i
        · rw [show ((i : Int) - (M : Int)) = ((i - M : Nat) : Int) by omega] at h3
          have := (inS_off (n := xs.length) (f := f) (t := t) (i := i - M) (by omega)).1 h3
          omega
        · unfold inS at h3
          simp only [decide_eq_true_eq] at h3
          omega
      · rw [if_neg (by omega), if_pos (by omega)]
        have h3 : inS xs.length ((i : Int) - (M : Int)) f t = true := by
          rw [show ((i : Int) - (M : Int)) = ((i - M : Nat) : Int) by omega]
          exact (inS_off (by omega)).2 (by omega)
        rw [if_pos h3, List.getElem?_take, if_pos (by omega)]
        unfold cutR
        rw [List.getElem?_take, if_pos (by omega), List.getElem?_drop, List.getD_eq_getElem?_getD, show ((i : Int) - (M : Int)).toNat = i - M by omega, show offN xs.length f t + (i - (offN xs.length f t + M)) = i - M by omega, List.getElem?_eq_getElem (by omega)]
        rfl
    · have hin2 : ¬ (offN xs.length f t ≤ i ∧ (i : Int) < offN xs.length f t + spanN xs.length f t) := fun q => hin ((inS_off hi).2 q)
      rw [if_neg hin, if_neg (by omega), if_neg (by omega)]
  · rw [List.getElem?_eq_none hi, if_neg (by omega), if_neg (by omega)]
    rfl
theorem del_mov (xs : List Cl) (f t n : Int) : delR xs f t (clampN n (cutR xs f t).length) = movR xs f t (-clampR n 0 (cntN xs.length f t 0)) := by
  have hl := cutR_len xs f t
  have hs := spanN_cnt xs.length f t
  have hh := offN_le xs.length f t (by omega)
  have hM : ((clampN n (cutR xs f t).length : Nat) : Int) = clampR n 0 (cntN xs.length f t 0) ∧ clampN n (cutR xs f t).length ≤ (cutR xs f t).length := by
    unfold clampN clampR; split <;> (try split) <;> omega
  have hN : ((cutR xs f t).length : Int) = spanN xs.length f t := by omega
  rw [← hM.1]
  have hM2 := hM.2
  clear hM
  generalize clampN n (cutR xs f t).length = M at hM2
  unfold delR movR movG
  have h1 : (layOn xs (offN xs.length f t) ((cutR xs f t).drop M)).length = xs.length := layOn_len _ _ _ (by rw [List.length_drop]; omega)
  apply List.ext_getElem?
  intro i
  rw [layOn_get _ _ _ _ (by rw [h1, List.length_replicate]; omega), layOn_get _ _ _ _ (by rw [List.length_drop]; omega), updR_opt, List.length_replicate, List.length_drop]
  rcases Nat.lt_or_ge i xs.length with hi | hi
  · rw [List.getElem?_eq_getElem hi]
    simp only [Option.map_some, hi, true_and]
    have ei : ((i : Int) - (-(M : Int))) = ((i + M : Nat) : Int) := by omega
    rw [ei]
    by_cases hin : inS xs.length i f t = true
    · have hin2 := (inS_off hi).1 hin
      rw [if_pos hin]
      by_cases h2 : offN xs.length f t + ((cutR xs f t).length - M) ≤ i
      · rw [if_pos (by omega), List.getElem?_replicate, if_pos (by omega), if_neg]
        intro h3
        rcases Nat.lt_or_ge (i + M) xs.length with h4 | h4
        · have := (inS_off h4).1 h3
          omega
        · unfold inS at h3
          simp only [decide_eq_true_eq] at h3
          omega
      · rw [if_neg (by omega), if_pos (by omega)]
        have h3 : inS xs.length ((i + M : Nat) : Int) f t = true := (inS_off (by omega)).2 (by omega)
        rw [if_pos h3, List.getElem?_drop]
        unfold cutR
        rw [List.getElem?_take, if_pos (by omega), List.getElem?_drop, List.getD_eq_getElem?_getD, Int.toNat_natCast, show offN xs.length f t + (M + (i - offN xs.length f t)) = i + M by omega, List.getElem?_eq_getElem (by omega)]
        rfl
    · have hin2 : ¬ (offN xs.length f t ≤ i ∧ (i : Int) < offN xs.length f t + spanN xs.length f t) := fun q => hin ((inS_off hi).2 q)
      rw [if_neg hin, if_neg (by omega), if_neg (by omega)]
  · rw [List.getElem?_eq_none hi, if_neg (by omega), if_neg (by omega)]
    rfl
set_option maxRecDepth 100000 in
set_option maxHeartbeats 4000000 in
theorem insert_r (A : Option Addr) (C : Nat) (sz : Int) (xs : List Cl) (f t n : Int) (w : World) (rd : Rd encC 3 w A xs) (hm : xs.length ≤ 500000) :
    Calls Try.prog 54 #[lineV A xs.length C sz, .int .i64 f, .int .i64 t, .int .i64 n] w (NewL w (movR xs f t (clampR n 0 (cntN xs.length f t 0))) sz) := by
  have hcb := cntN_bd xs.length f t
  have MV := Lib.hid (fun w' (h : Rd encC 3 w' A xs) => show Calls Try.prog 102 #[lineV A xs.length C sz, .int .i64 f, .int .i64 t, .int .i64 (clampR n 0 500000)] w' (NewL w' (movR xs f t (clampR n 0 (cntN xs.length f t 0))) sz) by
    have h2 := move_r A C sz xs f t (clampR n 0 500000) w' h (by omega)
    rw [show clampR (clampR n 0 500000) (-cntN xs.length f t 0) (cntN xs.length f t 0) = clampR n 0 (cntN xs.length f t 0) by unfold clampR; split <;> (try split) <;> (try split) <;> (try split) <;> (try split) <;> omega] at h2
    exact h2)
  have CA := Lib.hid (fun w' => clamp_l n 0 500000 w')
  have X := Lib.hid rd
  have hl : (movR xs f t (clampR n 0 (cntN xs.length f t 0))).length = xs.length := updR_len _ _ _ _
  generalize movR xs f t (clampR n 0 (cntN xs.length f t 0)) = R at MV hl ⊢
  generalize clampR n 0 500000 = k at MV CA
  clear rd hcb
  replace hl := Lib.hid hl
  go_enter Try.func54, Try.ntmps54
  go_wp2
  go_region_held3 (fun w' => w'.cell? ⟨w.heap.size, 0, none⟩ = some (.slice A xs.length C) ∧ w'.cell? ⟨w.heap.size, 1, none⟩ = some (.int .i64 sz)) ((refine ⟨?_, ?_⟩ <;> simp [go_sem])) ((first
    | (go_at_call 57; ((with_reducible refine (CA.out _).mono ?_); rintro _ _ hgets; obtain ⟨rfl, x3, rfl⟩ := hgets.get; clear hgets))
    | (go_at_call 102
       (with_reducible refine (MV.out _ (by repeat (first | exact X.out | exact X | refine Rd.ext ?_ _ | refine Rd.alloc ?_ _ | refine Rd.drew ?_))).mono ?_)
       rintro _ _ ⟨A1, c1, x1, rfl, rfl, hO1⟩
       have hO := Lib.hid hO1
       clear hO1)))
  all_goals go_wp2
  all_goals go_returns
  all_goals
    have h5 := hO.out
    rw [ext_ext] at h5 ⊢
    refine NewL.swap ?_ (h5.mono (by simp [go_sem]))
    (repeat' (first | (with_reducible exact Below.refl _ _) | (with_reducible refine Below.alloc ?_ ?_ _) | (with_reducible refine below_ext ?_ ?_ _) | (with_reducible refine Below.drew ?_) | (with_reducible refine below_drewN ?_ _) | (with_reducible refine Below.setCell ?_ ?_ _) | go_size | (simp only [go_sem]; omega) | (simp [go_sem]; done) | (simp [go_sem]; omega)))
set_option maxRecDepth 100000 in
set_option maxHeartbeats 4000000 in
theorem delete_r (A : Option Addr) (C : Nat) (sz : Int) (xs : List Cl) (f t n : Int) (w : World) (rd : Rd encC 3 w A xs) (hm : xs.length ≤ 500000) :
    Calls Try.prog 55 #[lineV A xs.length C sz, .int .i64 f, .int .i64 t, .int .i64 n] w (NewL w (movR xs f t (-clampR n 0 (cntN xs.length f t 0))) sz) := by
  have hcb := cntN_bd xs.length f t
  have MV := Lib.hid (fun w' (h : Rd encC 3 w' A xs) => show Calls Try.prog 102 #[lineV A xs.length C sz, .int .i64 f, .int .i64 t, .int .i64 (-clampR n 0 500000)] w' (NewL w' (movR xs f t (-clampR n 0 (cntN xs.length f t 0))) sz) by
    have h2 := move_r A C sz xs f t (-clampR n 0 500000) w' h (by omega)
    rw [show clampR (-clampR n 0 500000) (-cntN xs.length f t 0) (cntN xs.length f t 0) = -clampR n 0 (cntN xs.length f t 0) by unfold clampR; split <;> (try split) <;> (try split) <;> (try split) <;> (try split) <;> omega] at h2
    exact h2)
  have CA := Lib.hid (fun w' => clamp_l n 0 500000 w')
  have X := Lib.hid rd
  have hl : (movR xs f t (-clampR n 0 (cntN xs.length f t 0))).length = xs.length := updR_len _ _ _ _
  have hkb : 0 ≤ clampR n 0 500000 ∧ clampR n 0 500000 ≤ 500000 := by unfold clampR; split <;> (try split) <;> omega
  generalize movR xs f t (-clampR n 0 (cntN xs.length f t 0)) = R at MV hl ⊢
  generalize clampR n 0 500000 = k at MV CA hkb
  clear rd hcb
  replace hl := Lib.hid hl
  have hw0 : IntKind.i64.wrap (-k) = -k := wrap_i64 (by omega) (by omega)
  go_enter Try.func55, Try.ntmps55
  go_wp2
  go_region_held3 (fun w' => w'.cell? ⟨w.heap.size, 0, none⟩ = some (.slice A xs.length C) ∧ w'.cell? ⟨w.heap.size, 1, none⟩ = some (.int .i64 sz)) ((refine ⟨?_, ?_⟩ <;> simp [go_sem])) ((first
    | (go_at_call 57; ((with_reducible refine (CA.out _).mono ?_); rintro _ _ hgets; obtain ⟨rfl, x3, rfl⟩ := hgets.get; clear hgets))
    | (go_at_call 102
       (with_reducible refine (MV.out _ (by repeat (first | exact X.out | exact X | refine Rd.ext ?_ _ | refine Rd.alloc ?_ _ | refine Rd.drew ?_))).mono ?_)
       rintro _ _ ⟨A1, c1, x1, rfl, rfl, hO1⟩
       have hO := Lib.hid hO1
       clear hO1)))
  all_goals go_wp2
  all_goals go_returns
  all_goals
    have h5 := hO.out
    rw [ext_ext] at h5 ⊢
    refine NewL.swap ?_ (h5.mono (by simp [go_sem]))
    (repeat' (first | (with_reducible exact Below.refl _ _) | (with_reducible refine Below.alloc ?_ ?_ _) | (with_reducible refine below_ext ?_ ?_ _) | (with_reducible refine Below.drew ?_) | (with_reducible refine below_drewN ?_ _) | (with_reducible refine Below.setCell ?_ ?_ _) | go_size | (simp only [go_sem]; omega) | (simp [go_sem]; done) | (simp [go_sem]; omega)))
end Go.Proofs.Ytdlngbmgcedbpaa
