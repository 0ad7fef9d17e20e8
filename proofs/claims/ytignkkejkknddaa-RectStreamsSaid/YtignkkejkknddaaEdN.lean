/- edit: Row.  -/
import Derived.Test.YtignkkejkknddaaEdM
namespace Go.Proofs.Ytignkkejkknddaa
open Go.RowKit
set_option linter.unusedVariables false
set_option linter.unusedSimpArgs false

section
variable {w : World} {F : Nat → Prop} {p : Nat} {S : PgS}
theorem parts_in {m n : Nat} {r c k : Int} (h : 0 ≤ r ∧ r < m) (h2 : 0 ≤ c ∧ c < n) :
    (0 ≤ (partsU m n r c k).1.t ∧ (partsU m n r c k).1.t ≤ m ∧ 0 ≤ (partsU m n r c k).1.l ∧ (partsU m n r c k).1.l ≤ n ∧ 0 ≤ (partsU m n r c k).1.b ∧ (partsU m n r c k).1.b ≤ m ∧ 0 ≤ (partsU m n r c k).1.r ∧ (partsU m n r c k).1.r ≤ n) ∧
    (0 ≤ (partsU m n r c k).2.t ∧ (partsU m n r c k).2.t ≤ m ∧ 0 ≤ (partsU m n r c k).2.l ∧ (partsU m n r c k).2.l ≤ n ∧ 0 ≤ (partsU m n r c k).2.b ∧ (partsU m n r c k).2.b ≤ m ∧ 0 ≤ (partsU m n r c k).2.r ∧ (partsU m n r c k).2.r ≤ n) := by
  unfold partsU
  split <;> (try split) <;> (try split) <;> simp only <;> omega
theorem wipeC_t : wipeC true = cleanC := funext fun y => by simp [wipeC]
theorem wipeC_f : wipeC false = fun _ => erC := funext fun y => by simp [wipeC]
abbrev zeroCu : Cu := ⟨0, 0, 0, false, false, false, 0, 0, 0, 0, 0, 0, 0⟩
end
end Go.Proofs.Ytignkkejkknddaa
/- edit: Display.  -/
namespace Go.Proofs.Ytignkkejkknddaa
open Go.RowKit
set_option linter.unusedVariables false
set_option linter.unusedSimpArgs false

section
variable {w : World} {F : Nat → Prop} {p : Nat} {S : PgS}
theorem resR_self {xs : List Cl} {n : Nat} (h : xs.length = n) : resR xs n = xs := by
  subst h
  unfold resR layOn
  simp
/-- a line's size is made 0 -/
theorem size0_step {V : PgS} (hV : V.Ok) {t a : Nat} (h1 : t ≤ a) (h : a < V.rows.length) :
    setLineS (rowsJ V t (fun _ r => (r.1, 0)) (a - t)) a (lineOf (rowsJ V t (fun _ r => (r.1, 0)) (a - t)) a).1 0 = rowsJ V t (fun _ r => (r.1, 0)) (a + 1 - t) := by
  have h' : a < (rowsJ V t (fun _ r => (r.1, 0)) (a - t)).rows.length := by rw [rowsJ_len]; exact h
  rw [lineOf_in h', rowsJ_at (show t + (a - t) = a by omega) h, show a + 1 - t = (a - t) + 1 by omega, rowsJ_step (show t + (a - t) = a by omega) h]
  unfold setLineS
  rw [if_pos (by unfold thereI; simp; omega), resR_self (by rw [hV.len h]; rfl)]
  rfl
theorem lineOf_size0 {V : PgS} (hV : V.Ok) {t a j : Nat} (h : a < V.rows.length) : (lineOf (rowsJ V t (fun _ r => (r.1, 0)) j) a).1.length = V.cols := by
  rw [lineOf_in (by rw [rowsJ_len]; exact h), rowsJ_get h]
  split <;> exact hV.len h
def stepB (S : PgS) (sel : Bool) (a b : BxI) : Nat → PgS
  | 0 => S
  | 1 => boxS S sel a
  | _ => boxS (boxS S sel a) sel b
theorem stepB_ok (hS : S.Ok) (sel : Bool) (a b : BxI) (j : Nat) : (stepB S sel a b j).Ok ∧ (stepB S sel a b j).rows.length = S.rows.length ∧ (stepB S sel a b j).cols = S.cols := by
  match j with
  | 0 => exact ⟨hS, rfl, rfl⟩
  | 1 => exact ⟨boxS_ok hS, boxS_len, boxS_cols⟩
  | n + 2 => exact ⟨boxS_ok (boxS_ok hS), by show (boxS (boxS S sel a) sel b).rows.length = _; rw [boxS_len, boxS_len], by show (boxS (boxS S sel a) sel b).cols = _; rw [boxS_cols, boxS_cols]⟩
/-- box j of two -/
theorem box_j {wr : World} {H : Nat} {a b : BxI} {sel : Bool} {m n : Nat} {j : Nat} (hj : j < 2) (hK : wr.heap[H]? = some (.cells #[.int .i64 a.t, .int .i64 a.l, .int .i64 a.b, .int .i64 a.r, .int .i64 b.t, .int .i64 b.l, .int .i64 b.b, .int .i64 b.r] 31 (0, 0)))
    (h1 : (0 ≤ a.t ∧ a.t ≤ m ∧ 0 ≤ a.l ∧ a.l ≤ n ∧ 0 ≤ a.b ∧ a.b ≤ m ∧ 0 ≤ a.r ∧ a.r ≤ n)) (h2 : (0 ≤ b.t ∧ b.t ≤ m ∧ 0 ≤ b.l ∧ b.l ≤ n ∧ 0 ≤ b.b ∧ b.b ≤ m ∧ 0 ≤ b.r ∧ b.r ≤ n)) :
    ∃ t l e r : Nat, t ≤ m ∧ l ≤ n ∧ e ≤ m ∧ r ≤ n ∧ wr.cell? ⟨H, j * 4, none⟩ = some (.int .i64 t) ∧ wr.cell? ⟨H, j * 4 + 1, none⟩ = some (.int .i64 l) ∧ wr.cell? ⟨H, j * 4 + 2, none⟩ = some (.int .i64 e) ∧ wr.cell? ⟨H, j * 4 + 3, none⟩ = some (.int .i64 r) ∧ H < wr.heap.size ∧
      stepB S sel a b (j + 1) = boxS (stepB S sel a b j) sel ⟨t, l, e, r⟩ := by
  have key : ∀ (c : BxI), (0 ≤ c.t ∧ c.t ≤ m ∧ 0 ≤ c.l ∧ c.l ≤ n ∧ 0 ≤ c.b ∧ c.b ≤ m ∧ 0 ≤ c.r ∧ c.r ≤ n) → ∃ t l e r : Nat, t ≤ m ∧ l ≤ n ∧ e ≤ m ∧ r ≤ n ∧ c = ⟨t, l, e, r⟩ := by
    rintro ⟨t, l, e, r⟩ h
    simp only at h
    exact ⟨t.toNat, l.toNat, e.toNat, r.toNat, by omega, by omega, by omega, by omega, by rw [Int.toNat_of_nonneg (by omega), Int.toNat_of_nonneg (by omega), Int.toNat_of_nonneg (by omega), Int.toNat_of_nonneg (by omega)]⟩
  obtain ⟨t, l, e, r, q1, q2, q3, q4, rfl⟩ := key a h1
  obtain ⟨t', l', e', r', q1', q2', q3', q4', rfl⟩ := key b h2
  have hc : j = 0 ∨ j = 1 := by omega
  rcases hc with rfl | rfl
  · exact ⟨t, l, e, r, q1, q2, q3, q4, by rw [cell_in hK]; rfl, by rw [cell_in hK]; rfl, by rw [cell_in hK]; rfl, by rw [cell_in hK]; rfl, heap_in hK, rfl⟩
  · exact ⟨t', l', e', r', q1', q2', q3', q4', by rw [cell_in hK]; rfl, by rw [cell_in hK]; rfl, by rw [cell_in hK]; rfl, by rw [cell_in hK]; rfl, heap_in hK, rfl⟩
end
end Go.Proofs.Ytignkkejkknddaa
/- edit: against, Scroll, Align.  -/
namespace Go.Proofs.Ytignkkejkknddaa
open Go.RowKit
set_option linter.unusedVariables false
set_option linter.unusedSimpArgs false

section
variable {w : World} {F : Nat → Prop} {p : Nat} {S : PgS}
def agI (n : Int) : Int := -max n (-1000)
/-- the margins, as a box of the page -/
def innB (m n : Nat) (x : BxI) : BxI := ⟨(inn m n x.t x.l x.b x.r).t, (inn m n x.t x.l x.b x.r).l, (inn m n x.t x.l x.b x.r).b, (inn m n x.t x.l x.b x.r).r⟩
theorem innB_fits {m n : Nat} (hm : 1 ≤ m) (hn : 1 ≤ n) (x : BxI) : (innB m n x).Fits m n ∧ (innB m n x).t < (innB m n x).b ∧ (innB m n x).l < (innB m n x).r := by
  obtain ⟨h1, h2, h3, h4, h5, h6⟩ := inn_bd m n x.t x.l x.b x.r
  refine ⟨⟨?_, ?_, ?_, ?_, ?_, ?_⟩, ?_, ?_⟩ <;> (simp only [innB]; omega)
theorem onB_fit {m n : Nat} {x : BxI} (h : x.Fits m n) (h1 : x.t < x.b) (h2 : x.l < x.r) : onB m n x = x := by
  obtain ⟨t, l, b, r⟩ := x
  obtain ⟨a1, a2, a3, a4, a5, a6⟩ := h
  simp only at *
  unfold onB meetI
  simp only
  rw [if_neg (by omega), if_neg (by omega), if_neg (by omega), if_neg (by omega)]
  congr 1 <;> omega
def scrollS (S : PgS) (x : BxI) (rows cols : Int) : PgS :=
  eachS (eachS (moveS (moveS S x (clampR rows 0 1000)) x (-clampR (agI rows) 0 1000)) x (fun xs l r => movR xs l r (-clampR cols 0 (cntN xs.length l r 0)))) x (fun xs l r => movR xs l r (clampR (agI cols) 0 (cntN xs.length l r 0)))
theorem movS_ok (hS : S.Ok) (x : BxI) (g : Nat → Int → Int → Int) : (eachS S x (fun xs l r => movR xs l r (g xs.length l r))).Ok :=
  eachS_ok hS x (fun xs l r => updR_len _ _ _ _) (fun xs l r h => movR_ok h)
theorem scrollS_ok (hS : S.Ok) {x : BxI} (hx : x.Fits S.rows.length S.cols) (rows cols : Int) : (scrollS S x rows cols).Ok := by
  unfold scrollS
  have h1 := moveS_fit hS hx (clampR rows 0 1000)
  have h2 := moveS_fit h1 (b := x) (by rw [moveS_len]; exact hx) (-clampR (agI rows) 0 1000)
  exact movS_ok (movS_ok h2 x (fun n l r => -clampR cols 0 (cntN n l r 0))) x (fun n l r => clampR (agI cols) 0 (cntN n l r 0))
end
end Go.Proofs.Ytignkkejkknddaa
/- edit: Align.  -/
namespace Go.Proofs.Ytignkkejkknddaa
open Go.RowKit
set_option linter.unusedVariables false
set_option linter.unusedSimpArgs false

section
variable {w : World} {F : Nat → Prop} {p : Nat} {S : PgS}
def fillE (S : PgS) : PgS := eachS S (onB S.rows.length S.cols ⟨0, 0, S.rows.length, S.cols⟩) (fun xs l r => eachR xs l r fun _ => ⟨69, 0, false⟩)
def alignS (S : PgS) : PgS := rowsJ (fillE S) 0 (fun _ r => (r.1, 0)) S.rows.length
theorem fillE_ok (hS : S.Ok) : (fillE S).Ok := eachS_ok hS _ (fun xs l r => eachR_len xs l r _) (fun xs l r h => eachR_ok h fun y hy => by simp [Cl.ok])
theorem fillE_len : (fillE S).rows.length = S.rows.length := eachS_len _
theorem alignS_ok (hS : S.Ok) : (alignS S).Ok := size0_ok (fillE_ok hS) _ _
end
end Go.Proofs.Ytignkkejkknddaa
/- edit, plain laws: what is kept, parts, twice.  -/
namespace Go.Proofs.Ytignkkejkknddaa
open Go.RowKit
set_option linter.unusedVariables false
set_option linter.unusedSimpArgs false

section
variable {S : PgS} {sel ra : Bool} {k r c : Int} {i j : Nat}
theorem atS_row {T : PgS} (hT : T.Ok) (hi : i < T.rows.length) (hj : j < T.cols) : some (atS T i j) = (rowD T i).1[j]? := by
  have hl := hT.len hi
  rw [atS_in hi hj (by omega), rowD_in hi, List.getElem?_eq_getElem (by omega)]
theorem era_at (hS : S.Ok) (hi : i < S.rows.length) (hj : j < S.cols) : atS (eraS S sel ra k r c) i j = if hitB ra k r c i j then wipeC sel (atS S i j) else atS S i j := by
  have h1 := atS_row (T := eraS S sel ra k r c) (eraS_ok hS) (by rw [eraS_len]; exact hi) hj
  have h2 := atS_row hS hi hj
  rw [era_row hi] at h1
  simp only [List.getElem?_mapIdx, ← h2, Option.map_some] at h1
  exact Option.some.inj h1
theorem era_size (hi : i < S.rows.length) : (rowD (eraS S true ra k r c) i).2 = (rowD S i).2 := by
  rw [era_row hi]
  simp
/-- selective erasing leaves what is kept, and all renditions and keepings -/
theorem era_kept (hS : S.Ok) (hi : i < S.rows.length) (hj : j < S.cols) : atS (eraS S true ra k r c) i j = atS S i j ∨ ((atS S i j).k = false ∧ atS (eraS S true ra k r c) i j = ⟨32, (atS S i j).r, false⟩) := by
  rw [era_at hS hi hj]
  split
  · unfold wipeC cleanC
    simp only [if_true]
    cases hk : (atS S i j).k
    · right
      simp
    · left
      simp
  · exact .inl rfl
/-- what stands ahead and what stands from there on are all -/
theorem era_parts (hS : S.Ok) (hi : i < S.rows.length) (hj : j < S.cols) : atS (eraS S sel false 2 r c) i j = atS (eraS (eraS S sel false 1 r c) sel false 0 r c) i j := by
  have h1 := eraS_ok (sel := sel) (ra := false) (k := 1) (r := r) (c := c) hS
  rw [era_at hS hi hj, era_at h1 (by rw [eraS_len]; exact hi) hj, era_at hS hi hj]
  simp only [hitB, Bool.not_false, Bool.true_or, Bool.true_and, if_neg (show ¬ (2 : Int) = 0 by omega), if_neg (show ¬ (2 : Int) = 1 by omega), if_neg (show ¬ (1 : Int) = 0 by omega), if_true, decide_true, Bool.or_eq_true, Bool.and_eq_true, decide_eq_true_eq]
  by_cases q0 : r < i ∨ (r = i ∧ c ≤ j)
  · rw [if_pos q0]
    by_cases q1 : (i : Int) < r ∨ (r = i ∧ (j : Int) ≤ c)
    · rw [if_pos q1, wipeC_twice]
    · rw [if_neg q1]
  · rw [if_neg q0, if_pos (by omega)]
theorem era_parts_row (hS : S.Ok) : eraS S sel true 2 r c = eraS (eraS S sel true 0 r c) sel true 1 r c := by
  refine PgS.ext_rows (by rw [eraS_len, eraS_len, eraS_len]) rfl fun i hi => ?_
  rw [eraS_len] at hi
  rw [era_row hi, era_row (by rw [eraS_len]; exact hi), era_row hi]
  refine Prod.ext (List.ext_getElem? fun j => ?_) (by simp)
  simp only [List.getElem?_mapIdx, Option.map_map]
  congr 1
  funext y
  simp only [Function.comp, hitB, Bool.not_true, Bool.false_or, if_neg (show ¬ (2 : Int) = 0 by omega), if_neg (show ¬ (2 : Int) = 1 by omega), if_neg (show ¬ (1 : Int) = 0 by omega), if_true, decide_true, Bool.or_eq_true, Bool.and_eq_true, decide_eq_true_eq, Bool.and_true]
  by_cases q : r = i
  · rw [if_pos q]
    by_cases q0 : c ≤ j
    · rw [if_pos (c := (r = i ∧ (r < i ∨ r = i ∧ c ≤ j))) ⟨q, .inr ⟨q, q0⟩⟩]
      split
      · rw [wipeC_twice]
      · rfl
    · rw [if_neg (c := (r = i ∧ (r < i ∨ r = i ∧ c ≤ j))) (by omega), if_pos (by omega)]
  · rw [if_neg q, if_neg (fun h => q h.1), if_neg (fun h => q h.1)]
/-- all is erased: a new page -/
theorem era_all (hS : S.Ok) : eraS S false false 2 r c = resizeS ⟨[], 0⟩ S.rows.length S.cols := by
  have h1 := hS.r1
  have h2 := hS.r2
  have h3 := hS.c1
  have h4 := hS.c2
  have d1 : dimN (S.rows.length : Int) = S.rows.length := by unfold dimN; omega
  have d2 : dimN (S.cols : Int) = S.cols := by unfold dimN; omega
  refine PgS.ext_rows (by rw [eraS_len]; simp [resizeS, d1]) (by rw [show (eraS S false false 2 r c).cols = S.cols from rfl]; simp [resizeS, d2]) fun i hi => ?_
  rw [eraS_len] at hi
  rw [era_row hi, rowD_in (S := resizeS ⟨[], 0⟩ S.rows.length S.cols) (by simp [resizeS, d1]; exact hi)]
  simp only [resizeS, List.getElem_map, List.getElem_range, d2]
  rw [resRow_none (by simp)]
  refine Prod.ext (List.ext_getElem? fun j => ?_) ?_
  · have hl := rowD_len hS hi
    simp only [List.getElem?_mapIdx, List.getElem?_replicate]
    rcases Nat.lt_or_ge j S.cols with hj | hj
    · rw [List.getElem?_eq_getElem (by omega), if_pos hj]
      simp [hitB, wipeC]
    · rw [List.getElem?_eq_none (by omega), if_neg (by omega)]
      rfl
  · simp [fullB]
theorem blank_again {m n : Nat} (hm : 1 ≤ m ∧ m ≤ 500) (hn : 1 ≤ n ∧ n ≤ 500) : eraS (resizeS ⟨[], 0⟩ m n) false false k r c = resizeS ⟨[], 0⟩ m n := by
  have d1 : dimN (m : Int) = m := by unfold dimN; omega
  have d2 : dimN (n : Int) = n := by unfold dimN; omega
  have hl : (resizeS ⟨[], 0⟩ (m : Int) n).rows.length = m := by simp [resizeS, d1]
  refine PgS.ext_rows (by rw [eraS_len]) rfl fun i hi => ?_
  rw [eraS_len] at hi
  rw [era_row hi, rowD_in hi]
  have hr : (resizeS ⟨[], 0⟩ (m : Int) n).rows[i] = (List.replicate n erC, 0) := by
    simp only [resizeS, List.getElem_map, List.getElem_range, d2]
    exact resRow_none (by simp)
  rw [hr]
  refine Prod.ext (List.ext_getElem? fun j => ?_) ?_
  · simp only [List.getElem?_mapIdx, List.getElem?_replicate]
    by_cases hj : j < n
    · rw [if_pos hj]
      simp only [Option.map_some]
      split <;> rfl
    · rw [if_neg hj]
      rfl
  · simp only
    split <;> rfl
end
section
variable {S : PgS} {b : BxI}
theorem move_zero (hb : b.Fits S.rows.length S.cols) (hS : S.Ok) : moveS S b 0 = S := by
  refine PgS.ext_rows moveS_len rfl fun i hi => ?_
  rw [moveS_len] at hi
  have h1 := hb.t0
  have h2 := hb.bm
  refine Prod.ext (List.ext_getElem? fun j => ?_) ?_
  · rw [move_cell hS hb 0 hi]
    split
    · rename_i h
      unfold moveSrc
      rw [if_pos (by omega), show ((i : Int) + 0).toNat = i by omega]
      rfl
    · rfl
  · rw [move_size 0 hb hi]
    split
    · rename_i h
      unfold moveSrc
      rw [if_pos (by omega), show ((i : Int) + 0).toNat = i by omega]
      rfl
    · rfl
theorem mov_zero (xs : List Cl) (l r : Int) : movR xs l r 0 = xs := by
  unfold movR
  refine updR_id fun i hi _ h => ?_
  unfold movG
  simp only [Int.sub_zero]
  rw [if_pos (by simpa using h)]
  simp [hi]
theorem each_id (hb : b.Fits S.rows.length S.cols) (f : List Cl → Int → Int → List Cl) (hf : ∀ xs l r, f xs l r = xs) : eachS S b f = S := by
  refine PgS.ext_rows (eachS_len _) rfl fun i hi => ?_
  rw [eachS_len] at hi
  rw [each_row f hb hi, hf]
  split <;> rfl
/-- up by n rows, and nothing else -/
theorem scroll_up (hS : S.Ok) (hb : b.Fits S.rows.length S.cols) {n : Int} (h0 : 0 ≤ n) (h1 : n ≤ 1000) : scrollS S b n 0 = moveS S b n := by
  unfold scrollS
  have e1 : clampR n 0 1000 = n := by unfold clampR; rw [if_neg (by omega), if_neg (by omega)]
  have e2 : clampR (agI n) 0 1000 = 0 := by unfold clampR agI; split <;> (try split) <;> omega
  have ok1 := moveS_fit hS hb n
  have hb1 : b.Fits (moveS S b n).rows.length (moveS S b n).cols := by rw [moveS_len]; exact hb
  rw [e1, e2, show -(0 : Int) = 0 from rfl, move_zero hb1 ok1, each_id hb1 _ (fun xs l r => ?_), each_id hb1 _ (fun xs l r => ?_)]
  · have := cntN_bd xs.length l r
    rw [show agI 0 = 0 by unfold agI; omega, show clampR 0 0 (cntN xs.length l r 0) = 0 by unfold clampR; rw [if_neg (by omega), if_neg (by omega)], mov_zero]
  · have := cntN_bd xs.length l r
    rw [show clampR 0 0 (cntN xs.length l r 0) = 0 by unfold clampR; rw [if_neg (by omega), if_neg (by omega)], show -(0 : Int) = 0 from rfl, mov_zero]
theorem scroll_join (hS : S.Ok) (hb : b.Fits S.rows.length S.cols) {n : Int} (h0 : 0 ≤ n) (h1 : n ≤ 4) : scrollS (scrollS S b n 0) b 2 0 = scrollS S b (n + 2) 0 := by
  have ok1 := moveS_fit hS hb n
  have hb1 : b.Fits (moveS S b n).rows.length (moveS S b n).cols := by rw [moveS_len]; exact hb
  rw [scroll_up hS hb h0 (by omega), scroll_up ok1 hb1 (by omega) (by omega), scroll_up hS hb (by omega) (by omega), up_join hS hb h0 (by omega)]
end
end Go.Proofs.Ytignkkejkknddaa
/- phosphorlaw15.awake: a page is aligned, and what stands from the cursor on is erased.  -/
namespace Go.Proofs.Ytignkkejkknddaa
open Go.RowKit
set_option linter.unusedVariables false
set_option linter.unusedSimpArgs false

def aw15S0 : PgS := resizeS ⟨[], 0⟩ 2 3
def aw15S1 : PgS := alignS aw15S0
def aw15C : Cu := ⟨0, 1, 0, false, true, false, 0, 0, 0, 0, 0, 0, 0⟩
def aw15D : Cu := onU aw15S1.rows.length aw15S1.cols aw15C
def aw15S2 : PgS := eraS aw15S1 false false 0 aw15D.row aw15D.col
theorem aw15_ok0 : aw15S0.Ok := resizeS_ok _ _ _ (fun r hr => by cases hr)
theorem aw15_ok1 : aw15S1.Ok := alignS_ok aw15_ok0
theorem aw15_ok2 : aw15S2.Ok := eraS_ok aw15_ok1
theorem aw15_a : (atS aw15S2 0 0).g = 69 := by decide +kernel
theorem aw15_b : (atS aw15S2 0 1).g = 32 := by decide +kernel
theorem aw15_c : (atS aw15S2 1 2).g = 32 := by decide +kernel
theorem aw15_d : (doneU aw15S2 aw15D).col = 1 ∧ (doneU aw15S2 aw15D).wp = false := by decide +kernel
end Go.Proofs.Ytignkkejkknddaa
