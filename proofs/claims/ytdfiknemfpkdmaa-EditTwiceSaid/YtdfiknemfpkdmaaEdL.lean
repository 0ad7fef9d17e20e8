/- edit, plain laws: what is kept, parts, twice.  -/
import Derived.Test.YtdfiknemfpkdmaaEdN
namespace Go.Proofs.Ytdfiknemfpkdmaa
open Go.RowKit
set_option linter.unusedVariables false
set_option linter.unusedSimpArgs false

section
variable {S : PgS} {sel ra : Bool} {k r c : Int} {i j : Nat}
theorem atS_row {T : PgS} (hT : T.Ok) (hi : i < T.rows.length) (hj : j < T.cols) : some (atS T i j) = (rowD T i).1[j]? := by
  have hl := hT.len hi
  rw [atS_in hi hj (by omega), rowD_in hi, List.getElem?_eq_getElem (by omega)]
theorem era_at (hS : S.Ok) (hi : i < S.rows.length) (hj : j < S.cols) : atS (eraS S sel ra k r c) i j = if hitB ra k r c i j then wipeC sel (atS S i j) else atS S i j := by
  have h1 := atS_row (T := eraS S sel ra k r c) (eraS_ok hS) (by rw [eraS_len]; exact hi) hj
  have h2 := atS_row hS hi hj
  rw [era_row hi] at h1
  simp only [List.getElem?_mapIdx, ← h2, Option.map_some] at h1
  exact Option.some.inj h1
theorem era_size (hi : i < S.rows.length) : (rowD (eraS S true ra k r c) i).2 = (rowD S i).2 := by
  rw [era_row hi]
  simp
/-- selective erasing leaves what is kept, and all renditions and keepings -/
theorem era_kept (hS : S.Ok) (hi : i < S.rows.length) (hj : j < S.cols) : atS (eraS S true ra k r c) i j = atS S i j ∨ ((atS S i j).k = false ∧ atS (eraS S true ra k r c) i j = ⟨32, (atS S i j).r, false⟩) := by
  rw [era_at hS hi hj]
  split
  · unfold wipeC cleanC
    simp only [if_true]
    cases hk : (atS S i j).k
    · right
      simp
    · left
      simp
  · exact .inl rfl
/-- what stands ahead and what stands from there on are all -/
theorem era_parts (hS : S.Ok) (hi : i < S.rows.length) (hj : j < S.cols) : atS (eraS S sel false 2 r c) i j = atS (eraS (eraS S sel false 1 r c) sel false 0 r c) i j := by
  have h1 := eraS_ok (sel := sel) (ra := false) (k := 1) (r := r) (c := c) hS
  rw [era_at hS hi hj, era_at h1 (by rw [eraS_len]; exact hi) hj, era_at hS hi hj]
  simp only [hitB, Bool.not_false, Bool.true_or, Bool.true_and, if_neg (show ¬ (2 : Int) = 0 by omega), if_neg (show ¬ (2 : Int) = 1 by omega), if_neg (show ¬ (1 : Int) = 0 by omega), if_true, decide_true, Bool.or_eq_true, Bool.and_eq_true, decide_eq_true_eq]
  by_cases q0 : r < i ∨ (r = i ∧ c ≤ j)
  · rw [if_pos q0]
    by_cases q1 : (i : Int) < r ∨ (r = i ∧ (j : Int) ≤ c)
    · rw [if_pos q1, wipeC_twice]
    · rw [if_neg q1]
  · rw [if_neg q0, if_pos (by omega)]
theorem era_parts_row (hS : S.Ok) : eraS S sel true 2 r c = eraS (eraS S sel true 0 r c) sel true 1 r c := by
  refine PgS.ext_rows (by rw [eraS_len, eraS_len, eraS_len]) rfl fun i hi => ?_
  rw [eraS_len] at hi
  rw [era_row hi, era_row (by rw [eraS_len]; exact hi), era_row hi]
  refine Prod.ext (List.ext_getElem? fun j => ?_) (by simp)
  simp only [List.getElem?_mapIdx, Option.map_map]
  congr 1
  funext y
  simp only [Function.comp, hitB, Bool.not_true, Bool.false_or, if_neg (show ¬ (2 : Int) = 0 by omega), if_neg (show ¬ (2 : Int) = 1 by omega), if_neg (show ¬ (1 : Int) = 0 by omega), if_true, decide_true, Bool.or_eq_true, Bool.and_eq_true, decide_eq_true_eq, Bool.and_true]
  by_cases q : r = i
  · rw [if_pos q]
    by_cases q0 : c ≤ j
    · rw [if_pos (c := (r = i ∧ (r < i ∨ r = i ∧ c ≤ j))) ⟨q, .inr ⟨q, q0⟩⟩]
      split
      · rw [wipeC_twice]
      · rfl
    · rw [if_neg (c := (r = i ∧ (r < i ∨ r = i ∧ c ≤ j))) (by omega), if_pos (by omega)]
  · rw [if_neg q, if_neg (fun h => q h.1), if_neg (fun h => q h.1)]
/-- all is erased: a new page -/
theorem era_all (hS : S.Ok) : eraS S false false 2 r c = resizeS ⟨[], 0⟩ S.rows.length S.cols := by
  have h1 := hS.r1
  have h2 := hS.r2
  have h3 := hS.c1
  have h4 := hS.c2
  have d1 : dimN (S.rows.length : Int) = S.rows.length := by unfold dimN; omega
  have d2 : dimN (S.cols : Int) = S.cols := by unfold dimN; omega
  refine PgS.ext_rows (by rw [eraS_len]; simp [resizeS, d1]) (by rw [show (eraS S false false 2 r c).cols = S.cols from rfl]; simp [resizeS, d2]) fun i hi => ?_
  rw [eraS_len] at hi
  rw [era_row hi, rowD_in (S := resizeS ⟨[], 0⟩ S.rows.length S.cols) (by simp [resizeS, d1]; exact hi)]
  simp only [resizeS, List.getElem_map, List.getElem_range, d2]
  rw [resRow_none (by simp)]
  refine Prod.ext (List.ext_getElem? fun j => ?_) ?_
  · have hl := rowD_len hS hi
    simp only [List.getElem?_mapIdx, List.getElem?_replicate]
    rcases Nat.lt_or_ge j S.cols with hj | hj
    · rw [List.getElem?_eq_getElem (by omega), if_pos hj]
      simp [hitB, wipeC]
    · rw [List.getElem?_eq_none (by omega), if_neg (by omega)]
      rfl
  · simp [fullB]
theorem blank_again {m n : Nat} (hm : 1 ≤ m ∧ m ≤ 500) (hn : 1 ≤ n ∧ n ≤ 500) : eraS (resizeS ⟨[], 0⟩ m n) false false k r c = resizeS ⟨[], 0⟩ m n := by
  have d1 : dimN (m : Int) = m := by unfold dimN; omega
  have d2 : dimN (n : Int) = n := by unfold dimN; omega
  have hl : (resizeS ⟨[], 0⟩ (m : Int) n).rows.length = m := by simp [resizeS, d1]
  refine PgS.ext_rows (by rw [eraS_len]) rfl fun i hi => ?_
  rw [eraS_len] at hi
  rw [era_row hi, rowD_in hi]
  have hr : (resizeS ⟨[], 0⟩ (m : Int) n).rows[i] = (List.replicate n erC, 0) := by
    simp only [resizeS, List.getElem_map, List.getElem_range, d2]
    exact resRow_none (by simp)
  rw [hr]
  refine Prod.ext (List.ext_getElem? fun j => ?_) ?_
  · simp only [List.getElem?_mapIdx, List.getElem?_replicate]
    by_cases hj : j < n
    · rw [if_pos hj]
      simp only [Option.map_some]
      split <;> rfl
    · rw [if_neg hj]
      rfl
  · simp only
    split <;> rfl
end
section
variable {S : PgS} {b : BxI}
theorem move_zero (hb : b.Fits S.rows.length S.cols) (hS : S.Ok) : moveS S b 0 = S := by
  refine PgS.ext_rows moveS_len rfl fun i hi => ?_
  rw [moveS_len] at hi
  have h1 := hb.t0
  have h2 := hb.bm
  refine Prod.ext (List.ext_getElem? fun j => ?_) ?_
  · rw [move_cell hS hb 0 hi]
    split
    · rename_i h
      unfold moveSrc
      rw [if_pos (by omega), show ((i : Int) + 0).toNat = i by omega]
      rfl
    · rfl
  · rw [move_size 0 hb hi]
    split
    · rename_i h
      unfold moveSrc
      rw [if_pos (by omega), show ((i : Int) + 0).toNat = i by omega]
      rfl
    · rfl
theorem mov_zero (xs : List Cl) (l r : Int) : movR xs l r 0 = xs := by
  unfold movR
  refine updR_id fun i hi _ h => ?_
  unfold movG
  simp only [Int.sub_zero]
  rw [if_pos (by simpa using h)]
  simp [hi]
theorem each_id (hb : b.Fits S.rows.length S.cols) (f : List Cl → Int → Int → List Cl) (hf : ∀ xs l r, f xs l r = xs) : eachS S b f = S := by
  refine PgS.ext_rows (eachS_len _) rfl fun i hi => ?_
  rw [eachS_len] at hi
  rw [each_row f hb hi, hf]
  split <;> rfl
/-- up by n rows, and nothing else -/
theorem scroll_up (hS : S.Ok) (hb : b.Fits S.rows.length S.cols) {n : Int} (h0 : 0 ≤ n) (h1 : n ≤ 1000) : scrollS S b n 0 = moveS S b n := by
  unfold scrollS
  have e1 : clampR n 0 1000 = n := by unfold clampR; rw [if_neg (by omega), if_neg (by omega)]
  have e2 : clampR (agI n) 0 1000 = 0 := by unfold clampR agI; split <;> (try split) <;> omega
  have ok1 := moveS_fit hS hb n
  have hb1 : b.Fits (moveS S b n).rows.length (moveS S b n).cols := by rw [moveS_len]; exact hb
  rw [e1, e2, show -(0 : Int) = 0 from rfl, move_zero hb1 ok1, each_id hb1 _ (fun xs l r => ?_), each_id hb1 _ (fun xs l r => ?_)]
  · have := cntN_bd xs.length l r
    rw [show agI 0 = 0 by unfold agI; omega, show clampR 0 0 (cntN xs.length l r 0) = 0 by unfold clampR; rw [if_neg (by omega), if_neg (by omega)], mov_zero]
  · have := cntN_bd xs.length l r
    rw [show clampR 0 0 (cntN xs.length l r 0) = 0 by unfold clampR; rw [if_neg (by omega), if_neg (by omega)], show -(0 : Int) = 0 from rfl, mov_zero]
theorem scroll_join (hS : S.Ok) (hb : b.Fits S.rows.length S.cols) {n : Int} (h0 : 0 ≤ n) (h1 : n ≤ 4) : scrollS (scrollS S b n 0) b 2 0 = scrollS S b (n + 2) 0 := by
  have ok1 := moveS_fit hS hb n
  have hb1 : b.Fits (moveS S b n).rows.length (moveS S b n).cols := by rw [moveS_len]; exact hb
  rw [scroll_up hS hb h0 (by omega), scroll_up ok1 hb1 (by omega) (by omega), scroll_up hS hb (by omega) (by omega), up_join hS hb h0 (by omega)]
end
end Go.Proofs.Ytdfiknemfpkdmaa
/- phosphorlaw15.awake: a page is aligned, and what stands from the cursor on is erased.  -/
namespace Go.Proofs.Ytdfiknemfpkdmaa
open Go.RowKit
set_option linter.unusedVariables false
set_option linter.unusedSimpArgs false

def aw15S0 : PgS := resizeS ⟨[], 0⟩ 2 3
def aw15S1 : PgS := alignS aw15S0
def aw15C : Cu := ⟨0, 1, 0, false, true, false, 0, 0, 0, 0, 0, 0, 0⟩
def aw15D : Cu := onU aw15S1.rows.length aw15S1.cols aw15C
def aw15S2 : PgS := eraS aw15S1 false false 0 aw15D.row aw15D.col
theorem aw15_ok0 : aw15S0.Ok := resizeS_ok _ _ _ (fun r hr => by cases hr)
theorem aw15_ok1 : aw15S1.Ok := alignS_ok aw15_ok0
theorem aw15_ok2 : aw15S2.Ok := eraS_ok aw15_ok1
theorem aw15_a : (atS aw15S2 0 0).g = 69 := by decide +kernel
theorem aw15_b : (atS aw15S2 0 1).g = 32 := by decide +kernel
theorem aw15_c : (atS aw15S2 1 2).g = 32 := by decide +kernel
theorem aw15_d : (doneU aw15S2 aw15D).col = 1 ∧ (doneU aw15S2 aw15D).wp = false := by decide +kernel
set_option maxRecDepth 100000 in
set_option maxHeartbeats 8000000 in
theorem awake_15 (w : World) : Calls Try.prog 8 #[] w (Gives w (.bool true)) := by
  have ok0 := aw15_ok0
  have ok1 := aw15_ok1
  have ok2 := aw15_ok2
  have NP := Lib.hid (fun w' => (by exact new_p 2 3 w' : Calls Try.prog 21 #[.int .i64 2, .int .i64 3] w' (NewPg aw15S0 w')))
  go_enter Try.func8, Try.ntmps8
  go_upto_region 2 with ((go_at_call 21); (with_reducible refine (NP.out _).mono ?_); (rintro _ _ ⟨p, F, x3, rfl, rfl, hFg, hPg⟩))
  have hbW := below_of_ext w x3
  generalize ext w x3 = w1 at hPg hbW ⊢
  have hBx := Lib.hid hbW
  have hPl := Lib.hid hPg.lt
  have AL := Lib.hid (fun w' (hb : Below w1.heap.size w1 w') => (by exact align_ed (hPg.grow hb) ok0 : Calls Try.prog 30 #[.pointer (some ⟨p, 0, none⟩)] w' (fun e w2 => e = .returned (.tuple #[]) ∧ Did F p aw15S1 w' w2)))
  go_upto_region 3 with (first
    | ((go_at_call 30); (with_reducible refine (AL.out _ (by (repeat' (first | (with_reducible exact Below.refl _ _) | (with_reducible refine Below.alloc ?_ ?_ _) | (with_reducible refine below_ext ?_ ?_ _) | (with_reducible refine Below.drew ?_) | (with_reducible refine below_drewN ?_ _) | (with_reducible refine Below.setCell ?_ ?_ _) | go_size | (simp only [go_sem]; omega) | (simp [go_sem]; done) | (simp [go_sem]; omega))))).mono ?_); (rintro _ w2 ⟨rfl, hD⟩)))
  have hb2 : Below w.heap.size w w2 := hbW.trans (hD.1.below (B := w.heap.size) (fun b hb => hFg b hb) hbW.size)
  have hP2 := hD.2
  have hF2 : ∀ b, more F w1 w2 b → w.heap.size ≤ b := fun b hb => hb.elim (hFg b) (fun q => Nat.le_trans hbW.size q.1)
  generalize more F w1 w2 = F2 at hP2 hF2
  clear AL hD
  have hPl2 := Lib.hid hP2.lt
  have DI := Lib.hid (fun w' (hb : Below w2.heap.size w2 w') => (by exact display_ed (hP2.grow hb) ok1 aw15C 0 false : Calls Try.prog 10 #[.pointer (some ⟨p, 0, none⟩), aw15C.v, .int .i64 0, .bool false] w' (fun e w3 => e = .returned (doneU aw15S2 aw15D).v ∧ Did F2 p aw15S2 w' w3)))
  have hd := aw15_d
  generalize doneU aw15S2 aw15D = dd at DI hd
  obtain ⟨dw, dc, dr, dk, dp, dg, da, db, dc', dd', dl, dr', ds⟩ := dd
  simp only [Cu.v, aw15C] at DI hd
  obtain ⟨rfl, rfl⟩ := hd
  go_upto_region 4 with (first
    | ((go_at_call 10); (with_reducible refine (DI.out _ (by (repeat' (first | (with_reducible exact Below.refl _ _) | (with_reducible refine Below.alloc ?_ ?_ _) | (with_reducible refine below_ext ?_ ?_ _) | (with_reducible refine Below.drew ?_) | (with_reducible refine below_drewN ?_ _) | (with_reducible refine Below.setCell ?_ ?_ _) | go_size | (simp only [go_sem]; omega) | (simp [go_sem]; done) | (simp [go_sem]; omega))))).mono ?_); (rintro _ w3 ⟨rfl, hD⟩)))
  have hb3 : Below w.heap.size w w3 := hb2.trans (hD.1.below (B := w.heap.size) (fun b hb => hF2 b hb) hb2.size)
  have hP3 := hD.2
  generalize more F2 w2 w3 = F3 at hP3
  clear DI hD
  have AT1 := Lib.hid (fun w' (hb : Below w3.heap.size w3 w') => at_p (hP3.grow hb) ok2 0 0)
  have AT2 := Lib.hid (fun w' (hb : Below w3.heap.size w3 w') => at_p (hP3.grow hb) ok2 0 1)
  have AT3 := Lib.hid (fun w' (hb : Below w3.heap.size w3 w') => at_p (hP3.grow hb) ok2 1 2)
  have g1 := aw15_a
  have g2 := aw15_b
  have g3 := aw15_c
  generalize atS aw15S2 0 0 = y1 at AT1 g1
  generalize atS aw15S2 0 1 = y2 at AT2 g2
  generalize atS aw15S2 1 2 = y3 at AT3 g3
  obtain ⟨yg1, yr1, yk1⟩ := y1
  obtain ⟨yg2, yr2, yk2⟩ := y2
  obtain ⟨yg3, yr3, yk3⟩ := y3
  simp only at g1 g2 g3
  subst g1 g2 g3
  go_wp2_with (first
    | (go_at_call 13; ((with_reducible refine (AT1.out _ (by (repeat' (first | (with_reducible exact Below.refl _ _) | (with_reducible refine Below.alloc ?_ ?_ _) | (with_reducible refine below_ext ?_ ?_ _) | (with_reducible refine Below.drew ?_) | (with_reducible refine below_drewN ?_ _) | (with_reducible refine Below.setCell ?_ ?_ _) | go_size | (simp only [go_sem]; omega) | (simp [go_sem]; done) | (simp [go_sem]; omega))))).mono ?_); rintro _ _ hgets; obtain ⟨rfl, x7, rfl⟩ := hgets.get; clear hgets))
    | (go_at_call 13; ((with_reducible refine (AT2.out _ (by (repeat' (first | (with_reducible exact Below.refl _ _) | (with_reducible refine Below.alloc ?_ ?_ _) | (with_reducible refine below_ext ?_ ?_ _) | (with_reducible refine Below.drew ?_) | (with_reducible refine below_drewN ?_ _) | (with_reducible refine Below.setCell ?_ ?_ _) | go_size | (simp only [go_sem]; omega) | (simp [go_sem]; done) | (simp [go_sem]; omega))))).mono ?_); rintro _ _ hgets; obtain ⟨rfl, x8, rfl⟩ := hgets.get; clear hgets))
    | (go_at_call 13; ((with_reducible refine (AT3.out _ (by (repeat' (first | (with_reducible exact Below.refl _ _) | (with_reducible refine Below.alloc ?_ ?_ _) | (with_reducible refine below_ext ?_ ?_ _) | (with_reducible refine Below.drew ?_) | (with_reducible refine below_drewN ?_ _) | (with_reducible refine Below.setCell ?_ ?_ _) | go_size | (simp only [go_sem]; omega) | (simp [go_sem]; done) | (simp [go_sem]; omega))))).mono ?_); rintro _ _ hgets; obtain ⟨rfl, x9, rfl⟩ := hgets.get; clear hgets)))
  go_returns
  exact ⟨rfl, hb3.trans (Below.mono (B := w3.heap.size) (by (repeat' (first | (with_reducible exact Below.refl _ _) | (with_reducible refine Below.alloc ?_ ?_ _) | (with_reducible refine below_ext ?_ ?_ _) | (with_reducible refine Below.drew ?_) | (with_reducible refine below_drewN ?_ _) | (with_reducible refine Below.setCell ?_ ?_ _) | go_size | (simp only [go_sem]; omega) | (simp [go_sem]; done) | (simp [go_sem]; omega)))) hb3.size)⟩
end Go.Proofs.Ytdfiknemfpkdmaa
