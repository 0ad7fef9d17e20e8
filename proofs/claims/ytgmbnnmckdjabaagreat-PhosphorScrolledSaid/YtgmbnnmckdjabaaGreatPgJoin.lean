/- Pages: plain laws of moving twice, and of moving all away.  -/
import Derived.Test.YtgmbnnmckdjabaaGreatPgOut
import Derived.Test.YtgmbnnmckdjabaaGreatLineLaw2
namespace Go.Proofs.YtgmbnnmckdjabaaGreat
open Go.RowKit
set_option linter.unusedVariables false
set_option linter.unusedSimpArgs false

/-- a span laid over -/
theorem layCut_get (xs ys : List Cl) (l r : Int) (hl : ys.length = xs.length) (h0 : 0 ≤ l) (hlr : l ≤ r) (hr : r ≤ xs.length) (k : Nat) : (layR xs l r (cutR ys l r))[k]? = if l ≤ k ∧ (k : Int) < r then ys[k]? else xs[k]? := by
  have h := offN_le xs.length l r (by omega)
  have hs : spanN xs.length l r = r - l := by unfold spanN; omega
  unfold layR
  rw [layOn_get _ _ _ _ (by rw [List.length_take, cutR_len]; omega), List.length_take, cutR_len, hl]
  by_cases e : r = l
  · rw [if_neg (by omega), if_neg (by omega)]
  · have ho : (offN xs.length l r : Int) = l := by
      unfold offN
      rw [if_neg (by omega)]
      unfold spanA
      omega
    by_cases hk : l ≤ k ∧ (k : Int) < r
    · rw [if_pos (by omega), if_pos hk, List.getElem?_take, if_pos (by omega)]
      unfold cutR
      rw [hl, List.getElem?_take, if_pos (by omega), List.getElem?_drop]
      congr 1
      omega
    · rw [if_neg (by omega), if_neg hk]
structure BxI.Fits (b : BxI) (m n : Nat) : Prop where
  t0 : 0 ≤ b.t
  tb : b.t ≤ b.b
  bm : b.b ≤ m
  l0 : 0 ≤ b.l
  lr : b.l ≤ b.r
  rn : b.r ≤ n
theorem onB_fits (m n : Nat) (x : BxI) : (onB m n x).Fits m n := by
  have h := onB_in m n x
  constructor <;> omega
def rowD (S : PgS) (i : Nat) : List Cl × Int := S.rows.getD i ([], 0)
theorem rowD_in {S : PgS} {i : Nat} (h : i < S.rows.length) : rowD S i = S.rows[i] := by simp [rowD, h]
theorem rowD_len {S : PgS} (hS : S.Ok) {i : Nat} (h : i < S.rows.length) : (rowD S i).1.length = S.cols := by rw [rowD_in h]; exact hS.len h
theorem PgS.ext_rows {S T : PgS} (hl : S.rows.length = T.rows.length) (hc : S.cols = T.cols) (h : ∀ i, i < S.rows.length → rowD S i = rowD T i) : S = T := by
  cases S with
  | mk rs c => cases T with
    | mk rt d =>
      simp only at hc
      subst hc
      congr 1
      refine List.ext_getElem hl fun i h1 h2 => ?_
      have := h i h1
      rwa [rowD_in h1, rowD_in h2] at this
section
variable {S : PgS} {b : BxI}
theorem moveS_len {n : Int} : (moveS S b n).rows.length = S.rows.length := rowsJ_len
theorem move_cell (hS : S.Ok) (hb : b.Fits S.rows.length S.cols) (n : Int) {i : Nat} (hi : i < S.rows.length) (k : Nat) :
    (rowD (moveS S b n) i).1[k]? = if b.t ≤ i ∧ (i : Int) < b.b ∧ b.l ≤ k ∧ (k : Int) < b.r then (moveSrc S b n i).1[k]? else (rowD S i).1[k]? := by
  have h1 := hb.t0; have h2 := hb.tb; have h3 := hb.bm; have h4 := hb.l0; have h5 := hb.lr; have h6 := hb.rn
  have hl := rowD_len hS hi
  have hm := moveSrc_len hS hb.t0 hb.bm n i
  unfold moveS
  rw [show rowD (rowsJ S b.t.toNat (moveRow S b n) (b.b - b.t).toNat) i = if b.t.toNat ≤ i ∧ i < b.t.toNat + (b.b - b.t).toNat then moveRow S b n i (rowD S i) else rowD S i from rowsJ_getD hi]
  by_cases hin : b.t ≤ i ∧ (i : Int) < b.b
  · rw [if_pos (by omega)]
    unfold moveRow
    by_cases hw : b.r - b.l < S.cols
    · rw [if_pos hw]
      simp only
      rw [layCut_get _ _ _ _ (by rw [hm, hl]) h4 h5 (by rw [hl]; exact h6)]
      by_cases hk : b.l ≤ k ∧ (k : Int) < b.r
      · rw [if_pos hk, if_pos ⟨hin.1, hin.2, hk⟩]
      · rw [if_neg hk, if_neg (fun h => hk h.2.2)]
    · rw [if_neg hw]
      by_cases hk : b.l ≤ k ∧ (k : Int) < b.r
      · rw [if_pos ⟨hin.1, hin.2, hk⟩]
      · rw [if_neg (fun h => hk h.2.2), List.getElem?_eq_none (by omega), List.getElem?_eq_none (by omega)]
  · rw [if_neg (by omega), if_neg (fun h => hin ⟨h.1, h.2.1⟩)]
theorem move_size (n : Int) {i : Nat} (hb : b.Fits S.rows.length S.cols) (hi : i < S.rows.length) :
    (rowD (moveS S b n) i).2 = if b.t ≤ i ∧ (i : Int) < b.b ∧ ¬ b.r - b.l < S.cols then (moveSrc S b n i).2 else (rowD S i).2 := by
  have h1 := hb.t0; have h2 := hb.tb
  unfold moveS
  rw [show rowD (rowsJ S b.t.toNat (moveRow S b n) (b.b - b.t).toNat) i = if b.t.toNat ≤ i ∧ i < b.t.toNat + (b.b - b.t).toNat then moveRow S b n i (rowD S i) else rowD S i from rowsJ_getD hi]
  by_cases hin : b.t ≤ i ∧ (i : Int) < b.b
  · rw [if_pos (by omega)]
    unfold moveRow
    by_cases hw : b.r - b.l < S.cols
    · rw [if_pos hw, if_neg (fun h => h.2.2 hw)]
    · rw [if_neg hw, if_pos ⟨hin.1, hin.2, hw⟩]
  · rw [if_neg (by omega), if_neg (fun h => hin ⟨h.1, h.2.1⟩)]
theorem moveS_fit (hS : S.Ok) (hb : b.Fits S.rows.length S.cols) (n : Int) : (moveS S b n).Ok := by
  refine rowsJ_ok hS (fun i hi => moveRow_len hS hb.t0 hb.bm n hi) (fun i hi c hc => ?_)
  unfold moveRow at hc
  split at hc
  · refine layOn_ok (hS.ok _ (List.getElem_mem hi)) (fun c hc => ?_) c hc
    exact cutR_ok (moveSrc_ok hS hb.t0 hb.bm n i) c (List.mem_of_mem_take hc)
  · exact moveSrc_ok hS hb.t0 hb.bm n i c hc
/-- up by some rows and by some more -/
theorem up_join (hS : S.Ok) (hb : b.Fits S.rows.length S.cols) {n m : Int} (hn : 0 ≤ n) (hm : 0 ≤ m) : moveS (moveS S b n) b m = moveS S b (n + m) := by
  have h1 := hb.t0; have h2 := hb.tb; have h3 := hb.bm
  have ok1 := moveS_fit hS hb n
  have hb1 : b.Fits (moveS S b n).rows.length (moveS S b n).cols := by rw [moveS_len]; exact hb
  have src : ∀ i : Nat, b.t ≤ i → (i : Int) < b.b → (∀ k : Nat, b.l ≤ k → (k : Int) < b.r → (moveSrc (moveS S b n) b m i).1[k]? = (moveSrc S b (n + m) i).1[k]?) ∧ (¬ b.r - b.l < S.cols → (moveSrc (moveS S b n) b m i).2 = (moveSrc S b (n + m) i).2) := by
    intro i hi1 hi2
    have e2 : moveSrc (moveS S b n) b m i = if b.t ≤ i + m ∧ i + m < b.b then rowD (moveS S b n) ((i : Int) + m).toNat else (List.replicate S.cols erC, 0) := rfl
    rw [e2]
    by_cases hc : (i : Int) + m < b.b
    · rw [if_pos ⟨by omega, hc⟩]
      obtain ⟨j, hj⟩ : ∃ j : Nat, j = ((i : Int) + m).toNat := ⟨_, rfl⟩
      rw [← hj]
      have e1 : moveSrc S b n j = moveSrc S b (n + m) i := by
        unfold moveSrc
        rw [show (j : Int) + n = (i : Int) + (n + m) by omega]
      refine ⟨fun k k1 k2 => ?_, fun hw => ?_⟩
      · rw [move_cell hS hb n (by omega), if_pos ⟨by omega, by omega, k1, k2⟩, e1]
      · rw [move_size n hb (by omega), if_pos ⟨by omega, by omega, hw⟩, e1]
    · rw [if_neg (fun h => hc h.2)]
      have e1 : moveSrc S b (n + m) i = (List.replicate S.cols erC, 0) := by
        unfold moveSrc
        rw [if_neg (by omega)]
      rw [e1]
      exact ⟨fun _ _ _ => rfl, fun _ => rfl⟩
  refine PgS.ext_rows (by rw [moveS_len, moveS_len, moveS_len]) rfl fun i hi => ?_
  rw [moveS_len, moveS_len] at hi
  have hi1 : i < (moveS S b n).rows.length := by rw [moveS_len]; exact hi
  refine Prod.ext (List.ext_getElem? fun k => ?_) ?_
  · rw [move_cell ok1 hb1 m hi1, move_cell hS hb (n + m) hi]
    by_cases hin : b.t ≤ i ∧ (i : Int) < b.b ∧ b.l ≤ k ∧ (k : Int) < b.r
    · rw [if_pos hin, if_pos hin]
      exact (src i hin.1 hin.2.1).1 k hin.2.2.1 hin.2.2.2
    · rw [if_neg hin, if_neg hin, move_cell hS hb n hi, if_neg hin]
  · rw [move_size m hb1 hi1, move_size (n + m) hb hi]
    by_cases hin : b.t ≤ i ∧ (i : Int) < b.b ∧ ¬ b.r - b.l < S.cols
    · rw [if_pos (show b.t ≤ i ∧ (i : Int) < b.b ∧ ¬ b.r - b.l < (moveS S b n).cols from hin), if_pos hin]
      exact (src i hin.1 hin.2.1).2 hin.2.2
    · rw [if_neg (show ¬ (b.t ≤ i ∧ (i : Int) < b.b ∧ ¬ b.r - b.l < (moveS S b n).cols) from hin), if_neg hin, move_size n hb hi, if_neg hin]
theorem each_row (f : List Cl → Int → Int → List Cl) {i : Nat} (hb : b.Fits S.rows.length S.cols) (hi : i < S.rows.length) :
    rowD (eachS S b f) i = if b.t ≤ i ∧ (i : Int) < b.b then (f (rowD S i).1 b.l b.r, (rowD S i).2) else rowD S i := by
  have h1 := hb.t0; have h2 := hb.tb
  unfold eachS
  rw [show rowD (rowsJ S b.t.toNat (fun _ row => (f row.1 b.l b.r, row.2)) (b.b - b.t).toNat) i = if b.t.toNat ≤ i ∧ i < b.t.toNat + (b.b - b.t).toNat then (f (rowD S i).1 b.l b.r, (rowD S i).2) else rowD S i from rowsJ_getD hi]
  by_cases hin : b.t ≤ i ∧ (i : Int) < b.b
  · rw [if_pos hin, if_pos (by omega)]
  · rw [if_neg hin, if_neg (by omega)]
theorem eachS_len (f : List Cl → Int → Int → List Cl) : (eachS S b f).rows.length = S.rows.length := rowsJ_len
/-- two deeds in one box -/
theorem each_join (f g h : List Cl → Int → Int → List Cl) (hb : b.Fits S.rows.length S.cols) (H : ∀ i, i < S.rows.length → g (f (rowD S i).1 b.l b.r) b.l b.r = h (rowD S i).1 b.l b.r) : eachS (eachS S b f) b g = eachS S b h := by
  refine PgS.ext_rows (by rw [eachS_len, eachS_len, eachS_len]) rfl fun i hi => ?_
  rw [eachS_len, eachS_len] at hi
  rw [each_row g (by rw [eachS_len]; exact hb) (by rw [eachS_len]; exact hi), each_row h hb hi, each_row f hb hi]
  by_cases hin : b.t ≤ i ∧ (i : Int) < b.b
  · rw [if_pos hin, if_pos hin, if_pos hin]
    simp only
    rw [H i hi]
  · rw [if_neg hin, if_neg hin, if_neg hin]
theorem left_join (hb : b.Fits S.rows.length S.cols) (n m : Int) (hn : 0 ≤ n) (hm : 0 ≤ m) :
    eachS (eachS S b (fun xs l r => movR xs l r (-clampR n 0 (cntN xs.length l r 0)))) b (fun xs l r => movR xs l r (-clampR m 0 (cntN xs.length l r 0))) = eachS S b (fun xs l r => movR xs l r (-clampR (n + m) 0 (cntN xs.length l r 0))) :=
  each_join _ _ _ hb fun i hi => by
    simp only [movR_len]
    have hc := cntN_bd (rowD S i).1.length b.l b.r
    refine mov_del _ _ _ _ _ (by unfold clampR; split <;> omega) (by unfold clampR; split <;> omega) (by unfold clampR; split <;> (try split) <;> omega) (by unfold clampR; split <;> (try split) <;> omega) _ ?_
    unfold clampR
    repeat' split
    all_goals omega
/-- all rows of a box go: it is erased -/
theorem away (hS : S.Ok) (hb : b.Fits S.rows.length S.cols) {n : Int} (hn : (S.rows.length : Int) ≤ n) (i k : Nat) : atS (moveS S b n) i k = atS (eachS S b (fun xs l r => eachR xs l r fun _ => erC)) i k := by
  unfold atS
  rw [moveS_len, eachS_len]
  have h1 := hb.t0; have h3 := hb.bm; have h4 := hb.l0; have h6 := hb.rn
  show (if inB 0 0 S.rows.length S.cols i k = true then (rowD (moveS S b n) i).1.getD k noC else erC) = (if inB 0 0 S.rows.length S.cols i k = true then (rowD (eachS S b _) i).1.getD k noC else erC)
  by_cases hi : i < S.rows.length
  · congr 1
    rw [List.getD_eq_getElem?_getD, List.getD_eq_getElem?_getD, move_cell hS hb n hi, each_row _ hb hi]
    have hl := rowD_len hS hi
    by_cases hin : b.t ≤ i ∧ (i : Int) < b.b
    · rw [if_pos hin]
      simp only
      unfold eachR
      rw [updR_opt]
      by_cases hk : b.l ≤ k ∧ (k : Int) < b.r
      · rw [if_pos ⟨hin.1, hin.2, hk⟩]
        have e1 : moveSrc S b n i = (List.replicate S.cols erC, 0) := by
          unfold moveSrc
          rw [if_neg (by omega)]
        have hkl : k < (rowD S i).1.length := by omega
        rw [e1, List.getElem?_eq_getElem hkl, Option.map_some, if_pos ⟨hkl, inS_iff.2 ⟨by omega, by omega, hk⟩⟩]
        simp only
        rw [List.getElem?_replicate, if_pos (by omega)]
      · rw [if_neg (fun h => hk h.2.2)]
        rcases Nat.lt_or_ge k (rowD S i).1.length with hkl | hkl
        · rw [List.getElem?_eq_getElem hkl, Option.map_some, if_neg (fun h => hk (inS_iff.1 h.2).2.2)]
        · rw [List.getElem?_eq_none hkl]
          rfl
    · rw [if_neg hin, if_neg (fun h => hin ⟨h.1, h.2.1⟩)]
  · have hf : inB 0 0 S.rows.length S.cols i k = false := by
      cases e : inB 0 0 S.rows.length S.cols i k
      · rfl
      · obtain ⟨x, y, e1, e2, h5, h6⟩ := inB_nat e
        omega
    rw [hf]
    rfl
end
end Go.Proofs.YtgmbnnmckdjabaaGreat
