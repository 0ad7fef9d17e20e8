/- A cursor as plain data, on a page.  -/
import Derived.Test.YtignkkejkknddaaGreatCursC
import Derived.Test.YtignkkejkknddaaGreatPgA
import Derived.Test.YtignkkejkknddaaGreatPgPen
import Derived.Test.YtignkkejkknddaaGreatPgJoin
import Derived.IntWalk
namespace Go.Proofs.YtignkkejkknddaaGreat
open Go.RowKit
set_option linter.unusedVariables false
set_option linter.unusedSimpArgs false

/-- a cursor: where it stands, its pen, its flags, its sets -/
structure Cu where
  row : Int
  col : Int
  rd : Int
  kp : Bool
  wp : Bool
  og : Bool
  a : Int
  b : Int
  c : Int
  d : Int
  l : Int
  r : Int
  s : Int
abbrev Cu.v (x : Cu) : Value := .agg #[.int .i64 x.row, .int .i64 x.col, .int .u8 x.rd, .bool x.kp, .bool x.wp, .bool x.og, .int .i64 x.a, .int .i64 x.b, .int .i64 x.c, .int .i64 x.d, .int .i64 x.l, .int .i64 x.r, .int .i64 x.s]
/-- taken to a page of m rows and n columns -/
def onU (m n : Nat) (x : Cu) : Cu := { x with row := clampI 0 m x.row, col := clampI 0 n x.col, wp := false }
/-- within a width -/
def fitU (w : Int) (x : Cu) : Cu := { x with col := max 0 (min x.col (max w 1 - 1)), wp := x.wp && max 0 (min x.col (max w 1 - 1)) == x.col }
theorem clampI_nat {m : Nat} (h : 1 ≤ m) (x : Int) : 0 ≤ clampI 0 m x ∧ clampI 0 m x < m := by unfold clampI; omega
theorem onU_row {m n : Nat} (h : 1 ≤ m) (x : Cu) : ∃ k : Nat, (onU m n x).row = k ∧ k < m := by
  have := clampI_nat h x.row
  exact ⟨(clampI 0 m x.row).toNat, by unfold onU; simp only; omega, by omega⟩
theorem onU_col {m n : Nat} (h : 1 ≤ n) (x : Cu) : ∃ k : Nat, (onU m n x).col = k ∧ k < n := by
  have := clampI_nat h x.col
  exact ⟨(clampI 0 n x.col).toNat, by unfold onU; simp only; omega, by omega⟩
theorem onU_on {m n : Nat} (hm : 1 ≤ m) (hn : 1 ≤ n) (x : Cu) : onU m n (onU m n x) = onU m n x := by
  have h1 := clampI_nat hm x.row
  have h2 := clampI_nat hn x.col
  unfold onU
  simp only
  congr 1
  · unfold clampI at *; omega
  · unfold clampI at *; omega
theorem lineOf_short {S : PgS} (hS : S.Ok) (i : Int) : (lineOf S i).1.length ≤ 1000000 := by
  unfold lineOf
  split
  · rename_i h
    have hi : i.toNat < S.rows.length := by unfold thereI at h; simp at h; omega
    have := hS.wid S.rows[i.toNat] (List.getElem_mem hi)
    have := hS.c2
    rw [List.getD_eq_getElem?_getD, List.getElem?_eq_getElem hi]
    simp only [Option.getD_some]
    omega
  · simp
end Go.Proofs.YtignkkejkknddaaGreat
/- edit, as plain data: which cells are erased, and the sizes of lines.  -/
namespace Go.Proofs.YtignkkejkknddaaGreat
open Go.RowKit
set_option linter.unusedVariables false
set_option linter.unusedSimpArgs false

/-- is a cell erased, that stands behind a place (0), ahead of it (1), or anywhere (2)? ra: in the place's row alone -/
def hitB (ra : Bool) (k r c : Int) (i j : Nat) : Bool :=
  (!ra || decide (r = i)) && (if k = 0 then decide (r < i) || (decide (r = i) && decide (c ≤ j)) else if k = 1 then decide ((i : Int) < r) || (decide (r = i) && decide ((j : Int) ≤ c)) else decide (k = 2))
/-- is all of a row? -/
def fullB (k r c : Int) (n i : Nat) : Bool := if k = 0 then decide (r < i) || (decide (r = i) && decide (c ≤ 0)) else if k = 1 then decide ((i : Int) < r) || (decide (r = i) && decide ((n : Int) ≤ c + 1)) else decide (k = 2)
def wipeC (sel : Bool) (y : Cl) : Cl := if sel then cleanC y else erC
def eraS (S : PgS) (sel ra : Bool) (k r c : Int) : PgS :=
  ⟨S.rows.mapIdx fun i row => (row.1.mapIdx fun j y => if hitB ra k r c i j then wipeC sel y else y, if !sel && !ra && fullB k r c S.cols i then 0 else row.2), S.cols⟩
/-- the two boxes -/
def partsU (m n : Nat) (r c k : Int) : BxI × BxI :=
  if k = 0 then (⟨r, c, r + 1, n⟩, ⟨r + 1, 0, m, n⟩) else if k = 1 then (⟨r, 0, r + 1, c + 1⟩, ⟨0, 0, r, n⟩) else if k = 2 then (⟨r, 0, r + 1, n⟩, ⟨0, 0, m, n⟩) else (⟨0, 0, 0, 0⟩, ⟨0, 0, 0, 0⟩)
def BxI.wide (b : BxI) : Int := if b.b ≤ b.t ∨ b.r ≤ b.l then 0 else b.r - b.l
def wipeS (S : PgS) (sel : Bool) (b : BxI) : PgS := eachS S (onB S.rows.length S.cols b) (fun xs l r => eachR xs l r (wipeC sel))
def boxS (S : PgS) (sel : Bool) (b : BxI) : PgS :=
  if sel || decide (b.wide < S.cols) then wipeS S sel b else rowsJ (wipeS S sel b) b.t.toNat (fun _ r => (r.1, 0)) (b.b - b.t).toNat
theorem wide_le {t l b r : Int} {n : Nat} (hn : 1 ≤ n) (hr : r ≤ n) (hl : 0 ≤ l) : ((n : Int) ≤ BxI.wide ⟨t, l, b, r⟩) = (t < b ∧ l ≤ 0 ∧ (n : Int) ≤ r) := by
  unfold BxI.wide
  simp only
  apply propext
  split <;> omega
theorem wipeC_twice (sel : Bool) (y : Cl) : wipeC sel (wipeC sel y) = wipeC sel y := by
  unfold wipeC cleanC
  cases sel
  · rfl
  · obtain ⟨g, r, k⟩ := y
    cases k <;> rfl
theorem wipeC_ok (sel : Bool) {y : Cl} (h : y.ok) : (wipeC sel y).ok := by
  unfold wipeC
  cases sel
  · exact erC_ok
  · exact cleanC_ok h
theorem eachR_opt (xs : List Cl) (l r : Int) (F : Cl → Cl) (j : Nat) : (eachR xs l r F)[j]? = (xs[j]?).map fun y => if l ≤ j ∧ (j : Int) < r then F y else y := by
  unfold eachR
  rw [updR_opt]
  rcases Nat.lt_or_ge j xs.length with h | h
  · rw [List.getElem?_eq_getElem h]
    simp only [Option.map_some, inS, decide_eq_true_eq, true_and]
    by_cases hk : l ≤ j ∧ (j : Int) < r
    · rw [if_pos ⟨h, by omega⟩, if_pos hk]
    · rw [if_neg (fun q => hk q.2.2.2), if_neg hk]
  · rw [List.getElem?_eq_none h]
    rfl
theorem onB_iff {m n : Nat} {b : BxI} {i k : Nat} (hi : i < m) (hk : k < n) : ((onB m n b).t ≤ i ∧ (i : Int) < (onB m n b).b ∧ (onB m n b).l ≤ k ∧ (k : Int) < (onB m n b).r) ↔ (b.t ≤ i ∧ (i : Int) < b.b ∧ b.l ≤ k ∧ (k : Int) < b.r) := by
  constructor
  · rintro ⟨h1, h2, h3, h4⟩
    exact onB_sub h1 h2 h3 h4
  · rintro ⟨h1, h2, h3, h4⟩
    unfold onB meetI
    simp only
    rw [if_neg (by omega), if_neg (by omega), if_neg (by omega), if_neg (by omega)]
    omega
section
variable {S : PgS} {sel : Bool} {b : BxI} {i j : Nat}
theorem wipeS_len : (wipeS S sel b).rows.length = S.rows.length := eachS_len _
theorem wipeS_ok (hS : S.Ok) : (wipeS S sel b).Ok := eachS_ok hS _ (fun xs l r => eachR_len xs l r _) (fun xs l r h => eachR_ok h fun y hy => wipeC_ok sel hy)
theorem wipe_size (hi : i < S.rows.length) : (rowD (wipeS S sel b) i).2 = (rowD S i).2 := by
  unfold wipeS
  rw [each_row _ (onB_fits _ _ _) hi]
  split <;> rfl
theorem wipe_cell (hS : S.Ok) (hi : i < S.rows.length) : (rowD (wipeS S sel b) i).1[j]? = ((rowD S i).1[j]?).map fun y => if b.t ≤ i ∧ (i : Int) < b.b ∧ b.l ≤ j ∧ (j : Int) < b.r then wipeC sel y else y := by
  unfold wipeS
  rw [each_row _ (onB_fits _ _ _) hi]
  rcases Nat.lt_or_ge j S.cols with hj | hj
  · have hiff := onB_iff (b := b) hi hj
    by_cases h1 : (onB S.rows.length S.cols b).t ≤ i ∧ (i : Int) < (onB S.rows.length S.cols b).b
    · rw [if_pos h1]
      simp only
      rw [eachR_opt]
      congr 1
      funext y
      by_cases h2 : (onB S.rows.length S.cols b).l ≤ j ∧ (j : Int) < (onB S.rows.length S.cols b).r
      · rw [if_pos h2, if_pos (hiff.1 ⟨h1.1, h1.2, h2⟩)]
      · rw [if_neg h2, if_neg (fun h => h2 (hiff.2 h).2.2)]
    · rw [if_neg h1, show (fun y => if b.t ≤ i ∧ (i : Int) < b.b ∧ b.l ≤ j ∧ (j : Int) < b.r then wipeC sel y else y) = id from funext fun y => if_neg (fun h => h1 ⟨(hiff.2 h).1, (hiff.2 h).2.1⟩)]
      simp
  · have hl := rowD_len hS hi
    rw [List.getElem?_eq_none (l := (rowD S i).1) (by omega)]
    split
    · simp only
      rw [List.getElem?_eq_none (by rw [eachR_len]; omega)]
      rfl
    · rw [List.getElem?_eq_none (by omega)]
      rfl
theorem boxS_len : (boxS S sel b).rows.length = S.rows.length := by
  unfold boxS
  split
  · exact wipeS_len
  · rw [rowsJ_len, wipeS_len]
theorem boxS_cols : (boxS S sel b).cols = S.cols := by unfold boxS; split <;> rfl
theorem size0_ok (hS : S.Ok) (t n : Nat) : (rowsJ S t (fun _ r => (r.1, 0)) n).Ok := rowsJ_ok hS (fun i hi => hS.len hi) (fun i hi y hy => hS.ok _ (List.getElem_mem hi) y hy)
theorem boxS_ok (hS : S.Ok) : (boxS S sel b).Ok := by
  unfold boxS
  split
  · exact wipeS_ok hS
  · exact size0_ok (wipeS_ok hS) _ _
theorem box_cell (hS : S.Ok) (hi : i < S.rows.length) : (rowD (boxS S sel b) i).1[j]? = ((rowD S i).1[j]?).map fun y => if b.t ≤ i ∧ (i : Int) < b.b ∧ b.l ≤ j ∧ (j : Int) < b.r then wipeC sel y else y := by
  rw [← wipe_cell hS hi]
  unfold boxS
  split
  · rfl
  · rw [show rowD (rowsJ (wipeS S sel b) b.t.toNat (fun _ r => (r.1, 0)) (b.b - b.t).toNat) i = if b.t.toNat ≤ i ∧ i < b.t.toNat + (b.b - b.t).toNat then ((rowD (wipeS S sel b) i).1, 0) else rowD (wipeS S sel b) i from rowsJ_getD (by rw [wipeS_len]; exact hi)]
    split <;> rfl
theorem box_size (ht : 0 ≤ b.t) (hi : i < S.rows.length) : (rowD (boxS S sel b) i).2 = if sel = false ∧ b.t ≤ i ∧ (i : Int) < b.b ∧ (S.cols : Int) ≤ b.wide then 0 else (rowD S i).2 := by
  rw [← wipe_size (sel := sel) (b := b) hi]
  unfold boxS
  cases sel
  · by_cases hw : b.wide < S.cols
    · rw [if_pos (by simp [hw]), if_neg (by omega)]
    · rw [if_neg (by simp [hw])]
      rw [show rowD (rowsJ (wipeS S false b) b.t.toNat (fun _ r => (r.1, 0)) (b.b - b.t).toNat) i = if b.t.toNat ≤ i ∧ i < b.t.toNat + (b.b - b.t).toNat then ((rowD (wipeS S false b) i).1, 0) else rowD (wipeS S false b) i from rowsJ_getD (by rw [wipeS_len]; exact hi)]
      by_cases hin : b.t ≤ i ∧ (i : Int) < b.b
      · rw [if_pos (by omega), if_pos ⟨rfl, hin.1, hin.2, by omega⟩]
      · rw [if_neg (by omega), if_neg (fun h => hin ⟨h.2.1, h.2.2.1⟩)]
  · rw [if_pos (by simp), if_neg (by simp)]
end
section
variable {S : PgS} {sel ra : Bool} {k r c : Int} {i j : Nat}
theorem eraS_len : (eraS S sel ra k r c).rows.length = S.rows.length := by simp [eraS]
theorem era_row (hi : i < S.rows.length) : rowD (eraS S sel ra k r c) i = ((rowD S i).1.mapIdx fun j y => if hitB ra k r c i j then wipeC sel y else y, if !sel && !ra && fullB k r c S.cols i then 0 else (rowD S i).2) := by
  rw [rowD_in (by rw [eraS_len]; exact hi), rowD_in hi]
  simp [eraS]
theorem eraS_ok (hS : S.Ok) : (eraS S sel ra k r c).Ok := by
  refine ⟨by rw [eraS_len]; exact hS.r1, by rw [eraS_len]; exact hS.r2, hS.c1, hS.c2, fun x hx => ?_, fun x hx y hy => ?_⟩
  · simp only [eraS, List.mem_mapIdx] at hx
    obtain ⟨i, hi, rfl⟩ := hx
    simp only [List.length_mapIdx]
    exact hS.len hi
  · simp only [eraS, List.mem_mapIdx] at hx
    obtain ⟨i, hi, rfl⟩ := hx
    simp only [List.mem_mapIdx] at hy
    obtain ⟨j, hj, rfl⟩ := hy
    have := hS.get hi hj
    split
    · exact wipeC_ok sel this
    · exact this
/-- the two boxes together -/
theorem boxes_era (hS : S.Ok) (h1 : 0 ≤ r) (h2 : r < S.rows.length) (h3 : 0 ≤ c) (h4 : c < S.cols) :
    boxS (boxS S sel (partsU S.rows.length S.cols r c k).1) sel (partsU S.rows.length S.cols r c k).2 = eraS S sel false k r c := by
  have ok1 := boxS_ok (sel := sel) (b := (partsU S.rows.length S.cols r c k).1) hS
  have c1 := hS.c1
  refine PgS.ext_rows (by rw [boxS_len, boxS_len, eraS_len]) (by rw [boxS_cols, boxS_cols]; rfl) fun i hi => ?_
  rw [boxS_len, boxS_len] at hi
  have hi1 : i < (boxS S sel (partsU S.rows.length S.cols r c k).1).rows.length := by rw [boxS_len]; exact hi
  rw [era_row hi]
  refine Prod.ext (List.ext_getElem? fun j => ?_) ?_
  · rw [box_cell ok1 hi1, box_cell hS hi]
    simp only [List.getElem?_mapIdx, Option.map_map]
    rcases Nat.lt_or_ge j S.cols with hj | hj
    · congr 1
      funext y
      simp only [Function.comp]
      unfold partsU hitB
      by_cases k0 : k = 0
      · simp only [k0, if_true, Bool.not_false, Bool.true_or, Bool.true_and]
        by_cases q : r < i ∨ (r = i ∧ c ≤ j)
        · rw [if_pos (c := ((decide (r < i) || (decide (r = i) && decide (c ≤ j))) = true)) (by simpa using q)]
          split
          · split
            · exact wipeC_twice _ _
            · rfl
          · split
            · rfl
            · omega
        · rw [if_neg (c := ((decide (r < i) || (decide (r = i) && decide (c ≤ j))) = true)) (by simpa using q), if_neg (by omega), if_neg (by omega)]
      · by_cases k1 : k = 1
        · simp only [k1, if_true, if_neg (show ¬ (1 : Int) = 0 by omega), Bool.not_false, Bool.true_or, Bool.true_and]
          by_cases q : (i : Int) < r ∨ (r = i ∧ (j : Int) ≤ c)
          · rw [if_pos (c := ((decide ((i : Int) < r) || (decide (r = i) && decide ((j : Int) ≤ c))) = true)) (by simpa using q)]
            split
            · split
              · exact wipeC_twice _ _
              · rfl
            · split
              · rfl
              · omega
          · rw [if_neg (c := ((decide ((i : Int) < r) || (decide (r = i) && decide ((j : Int) ≤ c))) = true)) (by simpa using q), if_neg (by omega), if_neg (by omega)]
        · by_cases k2 : k = 2
          · simp only [k2, if_true, if_neg (show ¬ (2 : Int) = 0 by omega), if_neg (show ¬ (2 : Int) = 1 by omega), Bool.not_false, Bool.true_or, Bool.true_and, decide_true]
            rw [if_pos (by omega)]
            split
            · exact wipeC_twice _ _
            · rfl
          · simp only [if_neg k0, if_neg k1, if_neg k2, Bool.not_false, Bool.true_or, Bool.true_and, decide_eq_true_eq, true_and]
            rw [if_neg (by omega), if_neg (by omega)]
    · have hl := rowD_len hS hi
      rw [List.getElem?_eq_none (by omega)]
      rfl
  · rw [box_size (by unfold partsU; split <;> (try split) <;> (try split) <;> simp only <;> omega) hi1, box_size (by unfold partsU; split <;> (try split) <;> (try split) <;> simp only <;> omega) hi, boxS_cols]
    simp only
    cases sel
    · simp only [Bool.not_false, Bool.true_and]
      unfold partsU fullB
      by_cases k0 : k = 0
      · simp only [k0, if_true, wide_le c1 (Int.le_refl _) h3, wide_le c1 (Int.le_refl _) (Int.le_refl 0), Bool.or_eq_true, Bool.and_eq_true, decide_eq_true_eq, true_and]
        repeat' split
        all_goals first | rfl | (exfalso; omega)
      · by_cases k1 : k = 1
        · simp only [k1, if_true, if_neg (show ¬ (1 : Int) = 0 by omega), wide_le c1 (Int.le_refl _) (Int.le_refl 0), wide_le c1 (show c + 1 ≤ (S.cols : Int) by omega) (Int.le_refl 0), Bool.or_eq_true, Bool.and_eq_true, decide_eq_true_eq, true_and]
          repeat' split
          all_goals first | rfl | (exfalso; omega)
        · by_cases k2 : k = 2
          · simp only [k2, if_true, if_neg (show ¬ (2 : Int) = 0 by omega), if_neg (show ¬ (2 : Int) = 1 by omega), wide_le c1 (Int.le_refl _) (Int.le_refl 0), Bool.or_eq_true, Bool.and_eq_true, decide_eq_true_eq, true_and]
            repeat' split
            all_goals first | rfl | (exfalso; omega)
          · simp only [if_neg k0, if_neg k1, if_neg k2, decide_eq_true_eq, true_and]
            rw [if_neg (by omega), if_neg (by omega)]
    · simp
/-- the first box alone -/
theorem box_row (hS : S.Ok) (h1 : 0 ≤ r) (h2 : r < S.rows.length) (h3 : 0 ≤ c) (h4 : c < S.cols) : wipeS S sel (partsU S.rows.length S.cols r c k).1 = eraS S sel true k r c := by
  refine PgS.ext_rows (by rw [wipeS_len, eraS_len]) rfl fun i hi => ?_
  rw [wipeS_len] at hi
  rw [era_row hi]
  refine Prod.ext (List.ext_getElem? fun j => ?_) ?_
  · rw [wipe_cell hS hi]
    simp only [List.getElem?_mapIdx]
    rcases Nat.lt_or_ge j S.cols with hj | hj
    · congr 1
      funext y
      unfold partsU hitB
      by_cases k0 : k = 0
      · simp only [k0, if_true, Bool.not_true, Bool.false_or]
        by_cases q : r = i ∧ c ≤ j
        · rw [if_pos (by omega), if_pos (by simp; omega)]
        · rw [if_neg (by omega), if_neg (by simp; omega)]
      · by_cases k1 : k = 1
        · simp only [k1, if_true, if_neg (show ¬ (1 : Int) = 0 by omega), Bool.not_true, Bool.false_or]
          by_cases q : r = i ∧ (j : Int) ≤ c
          · rw [if_pos (by omega), if_pos (by simp; omega)]
          · rw [if_neg (by omega), if_neg (by simp; omega)]
        · by_cases k2 : k = 2
          · simp only [k2, if_true, if_neg (show ¬ (2 : Int) = 0 by omega), if_neg (show ¬ (2 : Int) = 1 by omega), Bool.not_true, Bool.false_or, decide_true, Bool.and_true]
            by_cases q : r = i
            · rw [if_pos (by omega), if_pos (by simpa using q)]
            · rw [if_neg (by omega), if_neg (by simpa using q)]
          · simp only [if_neg k0, if_neg k1, if_neg k2]
            rw [if_neg (by omega), if_neg (by simp [k2])]
    · have hl := rowD_len hS hi
      rw [List.getElem?_eq_none (by omega)]
      rfl
  · rw [wipe_size hi]
    simp
end
end Go.Proofs.YtignkkejkknddaaGreat
/- What a beginning of layer 14 tells, as plain data; the acts of layers 14 and 15.  -/
namespace Go.Proofs.YtignkkejkknddaaGreat
open Go.RowKit
set_option linter.unusedVariables false
set_option linter.unusedSimpArgs false

structure BgD where
  rows : Int
  cols : Int
  sa : Option Addr
  sc : Nat
  ss : List Int
  ta : Option Addr
  tc : Nat
  ts : List Int
  cu : Cu
  m : BxI
def BgD.cells (b : BgD) : List Value := [.int .i64 b.rows, .int .i64 b.cols, .slice b.sa b.ss.length b.sc, .slice b.ta b.ts.length b.tc, .int .i64 b.cu.row, .int .i64 b.cu.col, .int .u8 b.cu.rd, .bool b.cu.kp, .bool b.cu.wp, .bool b.cu.og, .int .i64 b.cu.a, .int .i64 b.cu.b, .int .i64 b.cu.c, .int .i64 b.cu.d, .int .i64 b.cu.l, .int .i64 b.cu.r, .int .i64 b.cu.s, .int .i64 b.m.t, .int .i64 b.m.l, .int .i64 b.m.b, .int .i64 b.m.r]
def BgD.v (b : BgD) : Value := .agg b.cells.toArray
structure BgD.Ok (b : BgD) (w : World) : Prop where
  ss : Ints w b.sa b.ss
  sl : b.ss.length ≤ b.sc
  sm : b.sc ≤ maxLen
  sn : b.sa = none → b.sc = 0
  ts : Rd (encI .i32) 1 w b.ta b.ts
  tl : b.ts.length ≤ b.tc
  tm : b.tc ≤ maxLen
  tn : b.ta = none → b.tc = 0
  to' : ∀ n ∈ b.ts, -2147483648 ≤ n ∧ n ≤ 2147483647
  r : -9223372036854775808 ≤ b.cu.row ∧ b.cu.row ≤ 9223372036854775807
  c : -9223372036854775808 ≤ b.cu.col ∧ b.cu.col ≤ 9223372036854775807
theorem BgD.Ok.below {b : BgD} {w w' : World} (h : b.Ok w) (hb : Below w.heap.size w w') : b.Ok w' := { h with ss := h.ss.below hb, ts := h.ts.below hb }
structure A14 where
  kd : Int
  wr : Bool
  ins : Bool
  ta : Option Addr
  tc : Nat
  ts : List Int
def A14.cells (a : A14) : List Value := [.int .i64 a.kd, .bool a.wr, .bool a.ins, .slice a.ta a.ts.length a.tc]
def A14.v (a : A14) : Value := .agg a.cells.toArray
structure A14.Ok (b : A14) (w : World) : Prop where
  ts : Rd (encI .i32) 1 w b.ta b.ts
  tl : b.ts.length ≤ b.tc
  tm : b.tc ≤ maxLen
  tn : b.ta = none → b.tc = 0
  to' : ∀ n ∈ b.ts, -2147483648 ≤ n ∧ n ≤ 2147483647
theorem A14.Ok.below {b : A14} {w w' : World} (h : b.Ok w) (hb : Below w.heap.size w w') : b.Ok w' := { h with ts := h.ts.below hb }
structure A15 where
  kd : Int
  n : Int
  m : Int
  fl : Bool
def A15.cells (a : A15) : List Value := [.int .i64 a.kd, .int .i64 a.n, .int .i64 a.m, .bool a.fl]
def A15.v (a : A15) : Value := .agg a.cells.toArray
structure A15.Ok (b : A15) (w : World) : Prop where
  n : -9223372036854775808 ≤ b.n ∧ b.n ≤ 9223372036854775807
  m : -9223372036854775808 ≤ b.m ∧ b.m ≤ 9223372036854775807

/-- the page that a beginning tells -/
def begC (ts : List Int) (n : Nat) : Cl := if h : n < ts.length then ⟨ts[n], (n % 3 : Nat), n % 5 == 0⟩ else erC
def begZ (ss : List Int) (i : Nat) : Int := if h : i < ss.length then clampR ss[i] 0 3 else 0
def begRow (ts ss : List Int) (n i : Nat) : List Cl × Int := ((List.range n).map fun k => begC ts (i * n + k), begZ ss i)
def begM (b : BgD) : Nat := (clampR b.rows 1 8).toNat
def begN (b : BgD) : Nat := (clampR b.cols 1 9).toNat
/-- ahead of round j: the rows behind it are empty -/
def begJ (ts ss : List Int) (m n j : Nat) : PgS := ⟨(List.range m).map fun i => if i < j then begRow ts ss n i else (List.replicate n erC, 0), n⟩
def begS (b : BgD) : PgS := ⟨(List.range (begM b)).map (begRow b.ts b.ss (begN b)), begN b⟩
theorem begM_in (b : BgD) : 1 ≤ begM b ∧ begM b ≤ 8 ∧ clampR b.rows 1 8 = (begM b : Int) := by
  have := clampR_in b.rows (show (1 : Int) ≤ 8 by omega)
  unfold begM
  omega
theorem begN_in (b : BgD) : 1 ≤ begN b ∧ begN b ≤ 9 ∧ clampR b.cols 1 9 = (begN b : Int) := by
  have := clampR_in b.cols (show (1 : Int) ≤ 9 by omega)
  unfold begN
  omega
theorem begC_ok {ts : List Int} (h : ∀ n ∈ ts, -2147483648 ≤ n ∧ n ≤ 2147483647) (n : Nat) : (begC ts n).ok := by
  unfold begC
  split
  · rename_i q
    have := h _ (List.getElem_mem q)
    exact ⟨this, by simp only; omega, by simp only; omega⟩
  · exact erC_ok
theorem begRow_len (ts ss : List Int) (n i : Nat) : (begRow ts ss n i).1.length = n := by simp [begRow]
theorem begZ_in (ss : List Int) (i : Nat) : 0 ≤ begZ ss i ∧ begZ ss i ≤ 3 := by
  unfold begZ
  split
  · exact clampR_in _ (by omega)
  · omega
section
variable {ts ss : List Int} {m n j : Nat}
theorem begJ_len : (begJ ts ss m n j).rows.length = m := by simp [begJ]
theorem begJ_get {i : Nat} (hi : i < m) (h' : i < (begJ ts ss m n j).rows.length) : (begJ ts ss m n j).rows[i] = if i < j then begRow ts ss n i else (List.replicate n erC, 0) := by simp [begJ]
theorem begJ_ok (h : ∀ n ∈ ts, -2147483648 ≤ n ∧ n ≤ 2147483647) (hm : 1 ≤ m ∧ m ≤ 500) (hn : 1 ≤ n ∧ n ≤ 500) : (begJ ts ss m n j).Ok := by
  refine ⟨by rw [begJ_len]; exact hm.1, by rw [begJ_len]; exact hm.2, hn.1, hn.2, fun r hr => ?_, fun r hr y hy => ?_⟩
  · simp only [begJ, List.mem_map] at hr
    obtain ⟨i, _, rfl⟩ := hr
    split
    · exact begRow_len _ _ _ _
    · simp [begJ]
  · simp only [begJ, List.mem_map] at hr
    obtain ⟨i, _, rfl⟩ := hr
    split at hy
    · simp only [begRow, List.mem_map] at hy
      obtain ⟨k, _, rfl⟩ := hy
      exact begC_ok h _
    · rw [List.eq_of_mem_replicate hy]
      exact erC_ok
theorem begJ_zero (hm : m = dimN m) (hn : n = dimN n) : begJ ts ss m n 0 = resizeS ⟨[], 0⟩ m n := by
  unfold begJ resizeS
  rw [← hm, ← hn]
  congr 1
theorem begJ_step (hj : j < m) : begJ ts ss m n (j + 1) = setRowS (begJ ts ss m n j) j (begRow ts ss n j) := by
  refine PgS.ext_rows (by rw [setRowS_len, begJ_len, begJ_len]) rfl fun i hi => ?_
  rw [begJ_len] at hi
  rw [rowD_in (by rw [begJ_len]; exact hi), rowD_in (by rw [setRowS_len, begJ_len]; exact hi), begJ_get hi]
  by_cases e : j = i
  · subst e
    rw [if_pos (by omega), setRowS_get (by rw [begJ_len]; exact hi)]
  · have : (setRowS (begJ ts ss m n j) j (begRow ts ss n j)).rows[i]'(by rw [setRowS_len, begJ_len]; exact hi) = (begJ ts ss m n j).rows[i]'(by rw [begJ_len]; exact hi) := by
      simp [setRowS, List.getElem_set, e]
    rw [this, begJ_get hi]
    by_cases h : i < j
    · rw [if_pos (by omega), if_pos h]
    · rw [if_neg (by omega), if_neg h]
end
theorem begJ_all (b : BgD) : begJ b.ts b.ss (begM b) (begN b) (begM b) = begS b := by
  unfold begJ begS
  congr 1
  refine List.map_congr_left fun i hi => ?_
  rw [if_pos (by simpa using hi)]
theorem begS_ok {b : BgD} {w : World} (h : b.Ok w) : (begS b).Ok := by
  have h1 := begM_in b
  have h2 := begN_in b
  rw [← begJ_all]
  exact begJ_ok h.to' (by omega) (by omega)
end Go.Proofs.YtignkkejkknddaaGreat
/- edit: on, done, row, parts, way.  -/
namespace Go.Proofs.YtignkkejkknddaaGreat
open Go.RowKit
set_option linter.unusedVariables false
set_option linter.unusedSimpArgs false

section
variable {w : World} {F : Nat → Prop} {p : Nat} {S : PgS}
/-- the cursor, within its row -/
def doneU (S : PgS) (x : Cu) : Cu := fitU (widthI (lineOf S x.row).1.length (lineOf S x.row).2) x
end
end Go.Proofs.YtignkkejkknddaaGreat
/- edit: way, parts.  -/
namespace Go.Proofs.YtignkkejkknddaaGreat
open Go.RowKit
set_option linter.unusedVariables false
set_option linter.unusedSimpArgs false

section
variable {w : World} {F : Nat → Prop} {p : Nat} {S : PgS}
def box2V (q : BxI × BxI) : Value := .tuple #[boxV q.1.t q.1.l q.1.b q.1.r, boxV q.2.t q.2.l q.2.b q.2.r]
end
end Go.Proofs.YtignkkejkknddaaGreat
/- A cursor in a variable; blocks of a world that has grown.  -/
namespace Go.Proofs.YtignkkejkknddaaGreat
open Go.RowKit
set_option linter.unusedVariables false
set_option linter.unusedSimpArgs false

theorem heap_at (w : World) (o : Obj) {b : Nat} (h : b = w.heap.size) : (w.alloc o).heap[b]? = some o := by subst h; exact heap_alloc_new w o
theorem heap_old (w : World) (o : Obj) {b : Nat} (h : b < w.heap.size) : (w.alloc o).heap[b]? = w.heap[b]? := ((Below.refl w.heap.size w).alloc (Nat.le_refl _) o).block b h
theorem heap_drew (w : World) (b : Nat) : w.drew.heap[b]? = w.heap[b]? := rfl
theorem store13e {W : World} {B : Nat} {u0 u1 u2 u3 u4 u5 u6 u7 u8 u9 u10 u11 u12 : Value} {t : TypeId} (h : W.heap[B]? = some (.cells #[u0, u1, u2, u3, u4, u5, u6, u7, u8, u9, u10, u11, u12] t (0, 0))) (v0 v1 v2 v3 v4 v5 v6 v7 v8 v9 v10 v11 v12 : Value) :
    ∃ W', (((((((((((((W.setCell ⟨B, 0, none⟩ v0).setCell ⟨B, 1, none⟩ v1).setCell ⟨B, 2, none⟩ v2).setCell ⟨B, 3, none⟩ v3).setCell ⟨B, 4, none⟩ v4).setCell ⟨B, 5, none⟩ v5).setCell ⟨B, 6, none⟩ v6).setCell ⟨B, 7, none⟩ v7).setCell ⟨B, 8, none⟩ v8).setCell ⟨B, 9, none⟩ v9).setCell ⟨B, 10, none⟩ v10).setCell ⟨B, 11, none⟩ v11).setCell ⟨B, 12, none⟩ v12) = W' ∧ Keep (· = B) W W' ∧ W'.heap[B]? = some (.cells #[v0, v1, v2, v3, v4, v5, v6, v7, v8, v9, v10, v11, v12] t (0, 0)) := by
  have hs : ∀ {X : World} {cur : Array Value} (i : Nat) (v : Value), X.heap[B]? = some (.cells cur t (0, 0)) → (X.setCell ⟨B, i, none⟩ v).heap[B]? = some (.cells (cur.setIfInBounds i v) t (0, 0)) := fun i v hx => by
    simp [World.setCell, Array.getElem?_modify, hx]
  have k0 : Keep (· = B) W W := Keep.refl _ _
  have k := ((((((((((((k0.set (p := ⟨B, 0, none⟩) (.inl rfl) v0).set (p := ⟨B, 1, none⟩) (.inl rfl) v1).set (p := ⟨B, 2, none⟩) (.inl rfl) v2).set (p := ⟨B, 3, none⟩) (.inl rfl) v3).set (p := ⟨B, 4, none⟩) (.inl rfl) v4).set (p := ⟨B, 5, none⟩) (.inl rfl) v5).set (p := ⟨B, 6, none⟩) (.inl rfl) v6).set (p := ⟨B, 7, none⟩) (.inl rfl) v7).set (p := ⟨B, 8, none⟩) (.inl rfl) v8).set (p := ⟨B, 9, none⟩) (.inl rfl) v9).set (p := ⟨B, 10, none⟩) (.inl rfl) v10).set (p := ⟨B, 11, none⟩) (.inl rfl) v11).set (p := ⟨B, 12, none⟩) (.inl rfl) v12
  refine ⟨_, rfl, k, ?_⟩
  have h12 := hs 12 v12 (hs 11 v11 (hs 10 v10 (hs 9 v9 (hs 8 v8 (hs 7 v7 (hs 6 v6 (hs 5 v5 (hs 4 v4 (hs 3 v3 (hs 2 v2 (hs 1 v1 (hs 0 v0 h))))))))))))
  simpa using h12
abbrev Cu.arr (x : Cu) : Array Value := #[.int .i64 x.row, .int .i64 x.col, .int .u8 x.rd, .bool x.kp, .bool x.wp, .bool x.og, .int .i64 x.a, .int .i64 x.b, .int .i64 x.c, .int .i64 x.d, .int .i64 x.l, .int .i64 x.r, .int .i64 x.s]
/-- a cursor in a variable of its own -/
def CVar (t : TypeId) (w : World) (H : Nat) (x : Cu) : Prop := w.heap[H]? = some (.cells x.arr t (0, 0))
section
variable {t : TypeId} {w w' : World} {H : Nat} {x y : Cu} {F : Nat → Prop} {p : Nat} {S T : PgS}
theorem CVar.cells (h : CVar t w H x) : w.cell? ⟨H, 0, none⟩ = some (.int .i64 x.row) ∧ w.cell? ⟨H, 1, none⟩ = some (.int .i64 x.col) ∧ w.cell? ⟨H, 2, none⟩ = some (.int .u8 x.rd) ∧ w.cell? ⟨H, 3, none⟩ = some (.bool x.kp) ∧ w.cell? ⟨H, 4, none⟩ = some (.bool x.wp) ∧ w.cell? ⟨H, 5, none⟩ = some (.bool x.og) ∧ w.cell? ⟨H, 6, none⟩ = some (.int .i64 x.a) ∧ w.cell? ⟨H, 7, none⟩ = some (.int .i64 x.b) ∧ w.cell? ⟨H, 8, none⟩ = some (.int .i64 x.c) ∧ w.cell? ⟨H, 9, none⟩ = some (.int .i64 x.d) ∧ w.cell? ⟨H, 10, none⟩ = some (.int .i64 x.l) ∧ w.cell? ⟨H, 11, none⟩ = some (.int .i64 x.r) ∧ w.cell? ⟨H, 12, none⟩ = some (.int .i64 x.s) ∧ H < w.heap.size := by
  refine ⟨?_, ?_, ?_, ?_, ?_, ?_, ?_, ?_, ?_, ?_, ?_, ?_, ?_, heap_in h⟩ <;> (rw [cell_in h]; rfl)
theorem CVar.fz (h : CVar t w H x) (q : Nat) : w.frozen? ⟨H, q, none⟩ = false := frozen_in h
theorem CVar.fz13 (h : CVar t w H x) : w.frozen? ⟨H, 0, none⟩ = false ∧ w.frozen? ⟨H, 1, none⟩ = false ∧ w.frozen? ⟨H, 2, none⟩ = false ∧ w.frozen? ⟨H, 3, none⟩ = false ∧ w.frozen? ⟨H, 4, none⟩ = false ∧ w.frozen? ⟨H, 5, none⟩ = false ∧ w.frozen? ⟨H, 6, none⟩ = false ∧ w.frozen? ⟨H, 7, none⟩ = false ∧ w.frozen? ⟨H, 8, none⟩ = false ∧ w.frozen? ⟨H, 9, none⟩ = false ∧ w.frozen? ⟨H, 10, none⟩ = false ∧ w.frozen? ⟨H, 11, none⟩ = false ∧ w.frozen? ⟨H, 12, none⟩ = false :=
  ⟨h.fz _, h.fz _, h.fz _, h.fz _, h.fz _, h.fz _, h.fz _, h.fz _, h.fz _, h.fz _, h.fz _, h.fz _, h.fz _⟩
theorem CVar.keep (h : CVar t w H x) (hk : Keep F w w') (hF : ¬ F H) : CVar t w' H x := (hk.block H (heap_in h) hF).trans h
theorem CVar.grow (h : CVar t w H x) (hb : Below w.heap.size w w') : CVar t w' H x := (hb.block H (heap_in h)).trans h
/-- a cursor is stored -/
theorem CVar.store (h : CVar t w H x) (y : Cu) : ∃ W', (((((((((((((w.setCell ⟨H, 0, none⟩ (.int .i64 y.row)).setCell ⟨H, 1, none⟩ (.int .i64 y.col)).setCell ⟨H, 2, none⟩ (.int .u8 y.rd)).setCell ⟨H, 3, none⟩ (.bool y.kp)).setCell ⟨H, 4, none⟩ (.bool y.wp)).setCell ⟨H, 5, none⟩ (.bool y.og)).setCell ⟨H, 6, none⟩ (.int .i64 y.a)).setCell ⟨H, 7, none⟩ (.int .i64 y.b)).setCell ⟨H, 8, none⟩ (.int .i64 y.c)).setCell ⟨H, 9, none⟩ (.int .i64 y.d)).setCell ⟨H, 10, none⟩ (.int .i64 y.l)).setCell ⟨H, 11, none⟩ (.int .i64 y.r)).setCell ⟨H, 12, none⟩ (.int .i64 y.s)) = W' ∧ Keep (· = H) w W' ∧ CVar t W' H y :=
  store13e h _ _ _ _ _ _ _ _ _ _ _ _ _
/-- a deed that began in W, behind which a variable was stored that is newer than w -/
theorem Did.var {W w1 wf : World} (hD : Did F p T W w1) (hb : Below w.heap.size w W) (hF : ∀ b, F b → b < w.heap.size) (hH : w.heap.size ≤ H) (hz : H < W.heap.size) (hk : Keep (· = H) w1 wf) : Did F p T w wf := by
  have hFH : ¬ F H := fun f => by have := hF H f; omega
  have k1 : Keep F w wf := ((Keep.of_below (F := F) hb).trans hD.1 (fun x hx => .inl hx)).trans hk (fun x hx => .inr (by omega))
  refine ⟨k1, (hD.2.keep hk (fun b hb2 e => ?_)).mono (fun b hb2 => ?_) (fun b hb2 => ?_)⟩
  · subst e
    rcases hb2 with f | f
    · exact hFH f
    · omega
  · have := hb.size
    have := hk.size
    rcases hb2 with f | f
    · exact .inl f
    · exact .inr ⟨by omega, by omega⟩
  · have h1 := k1.size
    rcases hb2 with f | f
    · have := hF b f; omega
    · exact f.2
end
end Go.Proofs.YtignkkejkknddaaGreat
/- edit: Row.  -/
namespace Go.Proofs.YtignkkejkknddaaGreat
open Go.RowKit
set_option linter.unusedVariables false
set_option linter.unusedSimpArgs false

section
variable {w : World} {F : Nat → Prop} {p : Nat} {S : PgS}
theorem parts_in {m n : Nat} {r c k : Int} (h : 0 ≤ r ∧ r < m) (h2 : 0 ≤ c ∧ c < n) :
    (0 ≤ (partsU m n r c k).1.t ∧ (partsU m n r c k).1.t ≤ m ∧ 0 ≤ (partsU m n r c k).1.l ∧ (partsU m n r c k).1.l ≤ n ∧ 0 ≤ (partsU m n r c k).1.b ∧ (partsU m n r c k).1.b ≤ m ∧ 0 ≤ (partsU m n r c k).1.r ∧ (partsU m n r c k).1.r ≤ n) ∧
    (0 ≤ (partsU m n r c k).2.t ∧ (partsU m n r c k).2.t ≤ m ∧ 0 ≤ (partsU m n r c k).2.l ∧ (partsU m n r c k).2.l ≤ n ∧ 0 ≤ (partsU m n r c k).2.b ∧ (partsU m n r c k).2.b ≤ m ∧ 0 ≤ (partsU m n r c k).2.r ∧ (partsU m n r c k).2.r ≤ n) := by
  unfold partsU
  split <;> (try split) <;> (try split) <;> simp only <;> omega
theorem wipeC_t : wipeC true = cleanC := funext fun y => by simp [wipeC]
theorem wipeC_f : wipeC false = fun _ => erC := funext fun y => by simp [wipeC]
theorem clean_w (h : PageAt w F p S) (hS : S.Ok) (b : BxI) : Calls Tryz.prog 73 #[.pointer (some ⟨p, 0, none⟩), boxV b.t b.l b.b b.r] w (fun e w' => e = .returned (.tuple #[]) ∧ Did F p (wipeS S true b) w w') := by
  have := clean_p h hS b
  unfold wipeS
  rwa [wipeC_t]
theorem erase_w (h : PageAt w F p S) (hS : S.Ok) (b : BxI) : Calls Tryz.prog 72 #[.pointer (some ⟨p, 0, none⟩), boxV b.t b.l b.b b.r] w (fun e w' => e = .returned (.tuple #[]) ∧ Did F p (wipeS S false b) w w') := by
  have := erase_p h hS b
  unfold wipeS
  rwa [wipeC_f]
abbrev zeroCu : Cu := ⟨0, 0, 0, false, false, false, 0, 0, 0, 0, 0, 0, 0⟩
end
end Go.Proofs.YtignkkejkknddaaGreat
/- edit: Display.  -/
namespace Go.Proofs.YtignkkejkknddaaGreat
open Go.RowKit
set_option linter.unusedVariables false
set_option linter.unusedSimpArgs false

section
variable {w : World} {F : Nat → Prop} {p : Nat} {S : PgS}
theorem resR_self {xs : List Cl} {n : Nat} (h : xs.length = n) : resR xs n = xs := by
  subst h
  unfold resR layOn
  simp
/-- a line's size is made 0 -/
theorem size0_step {V : PgS} (hV : V.Ok) {t a : Nat} (h1 : t ≤ a) (h : a < V.rows.length) :
    setLineS (rowsJ V t (fun _ r => (r.1, 0)) (a - t)) a (lineOf (rowsJ V t (fun _ r => (r.1, 0)) (a - t)) a).1 0 = rowsJ V t (fun _ r => (r.1, 0)) (a + 1 - t) := by
  have h' : a < (rowsJ V t (fun _ r => (r.1, 0)) (a - t)).rows.length := by rw [rowsJ_len]; exact h
  rw [lineOf_in h', rowsJ_at (show t + (a - t) = a by omega) h, show a + 1 - t = (a - t) + 1 by omega, rowsJ_step (show t + (a - t) = a by omega) h]
  unfold setLineS
  rw [if_pos (by unfold thereI; simp; omega), resR_self (by rw [hV.len h]; rfl)]
  rfl
theorem lineOf_size0 {V : PgS} (hV : V.Ok) {t a j : Nat} (h : a < V.rows.length) : (lineOf (rowsJ V t (fun _ r => (r.1, 0)) j) a).1.length = V.cols := by
  rw [lineOf_in (by rw [rowsJ_len]; exact h), rowsJ_get h]
  split <;> exact hV.len h
def stepB (S : PgS) (sel : Bool) (a b : BxI) : Nat → PgS
  | 0 => S
  | 1 => boxS S sel a
  | _ => boxS (boxS S sel a) sel b
theorem stepB_ok (hS : S.Ok) (sel : Bool) (a b : BxI) (j : Nat) : (stepB S sel a b j).Ok ∧ (stepB S sel a b j).rows.length = S.rows.length ∧ (stepB S sel a b j).cols = S.cols := by
  match j with
  | 0 => exact ⟨hS, rfl, rfl⟩
  | 1 => exact ⟨boxS_ok hS, boxS_len, boxS_cols⟩
  | n + 2 => exact ⟨boxS_ok (boxS_ok hS), by show (boxS (boxS S sel a) sel b).rows.length = _; rw [boxS_len, boxS_len], by show (boxS (boxS S sel a) sel b).cols = _; rw [boxS_cols, boxS_cols]⟩
/-- box j of two -/
theorem box_j {wr : World} {H : Nat} {a b : BxI} {sel : Bool} {m n : Nat} {j : Nat} (hj : j < 2) (hK : wr.heap[H]? = some (.cells #[.int .i64 a.t, .int .i64 a.l, .int .i64 a.b, .int .i64 a.r, .int .i64 b.t, .int .i64 b.l, .int .i64 b.b, .int .i64 b.r] 31 (0, 0)))
    (h1 : (0 ≤ a.t ∧ a.t ≤ m ∧ 0 ≤ a.l ∧ a.l ≤ n ∧ 0 ≤ a.b ∧ a.b ≤ m ∧ 0 ≤ a.r ∧ a.r ≤ n)) (h2 : (0 ≤ b.t ∧ b.t ≤ m ∧ 0 ≤ b.l ∧ b.l ≤ n ∧ 0 ≤ b.b ∧ b.b ≤ m ∧ 0 ≤ b.r ∧ b.r ≤ n)) :
    ∃ t l e r : Nat, t ≤ m ∧ l ≤ n ∧ e ≤ m ∧ r ≤ n ∧ wr.cell? ⟨H, j * 4, none⟩ = some (.int .i64 t) ∧ wr.cell? ⟨H, j * 4 + 1, none⟩ = some (.int .i64 l) ∧ wr.cell? ⟨H, j * 4 + 2, none⟩ = some (.int .i64 e) ∧ wr.cell? ⟨H, j * 4 + 3, none⟩ = some (.int .i64 r) ∧ H < wr.heap.size ∧
      stepB S sel a b (j + 1) = boxS (stepB S sel a b j) sel ⟨t, l, e, r⟩ := by
  have key : ∀ (c : BxI), (0 ≤ c.t ∧ c.t ≤ m ∧ 0 ≤ c.l ∧ c.l ≤ n ∧ 0 ≤ c.b ∧ c.b ≤ m ∧ 0 ≤ c.r ∧ c.r ≤ n) → ∃ t l e r : Nat, t ≤ m ∧ l ≤ n ∧ e ≤ m ∧ r ≤ n ∧ c = ⟨t, l, e, r⟩ := by
    rintro ⟨t, l, e, r⟩ h
    simp only at h
    exact ⟨t.toNat, l.toNat, e.toNat, r.toNat, by omega, by omega, by omega, by omega, by rw [Int.toNat_of_nonneg (by omega), Int.toNat_of_nonneg (by omega), Int.toNat_of_nonneg (by omega), Int.toNat_of_nonneg (by omega)]⟩
  obtain ⟨t, l, e, r, q1, q2, q3, q4, rfl⟩ := key a h1
  obtain ⟨t', l', e', r', q1', q2', q3', q4', rfl⟩ := key b h2
  have hc : j = 0 ∨ j = 1 := by omega
  rcases hc with rfl | rfl
  · exact ⟨t, l, e, r, q1, q2, q3, q4, by rw [cell_in hK]; rfl, by rw [cell_in hK]; rfl, by rw [cell_in hK]; rfl, by rw [cell_in hK]; rfl, heap_in hK, rfl⟩
  · exact ⟨t', l', e', r', q1', q2', q3', q4', by rw [cell_in hK]; rfl, by rw [cell_in hK]; rfl, by rw [cell_in hK]; rfl, by rw [cell_in hK]; rfl, heap_in hK, rfl⟩
end
end Go.Proofs.YtignkkejkknddaaGreat
/- edit: against, Scroll, Align.  -/
namespace Go.Proofs.YtignkkejkknddaaGreat
open Go.RowKit
set_option linter.unusedVariables false
set_option linter.unusedSimpArgs false

section
variable {w : World} {F : Nat → Prop} {p : Nat} {S : PgS}
def agI (n : Int) : Int := -max n (-1000)
/-- the margins, as a box of the page -/
def innB (m n : Nat) (x : BxI) : BxI := ⟨(inn m n x.t x.l x.b x.r).t, (inn m n x.t x.l x.b x.r).l, (inn m n x.t x.l x.b x.r).b, (inn m n x.t x.l x.b x.r).r⟩
theorem innB_fits {m n : Nat} (hm : 1 ≤ m) (hn : 1 ≤ n) (x : BxI) : (innB m n x).Fits m n ∧ (innB m n x).t < (innB m n x).b ∧ (innB m n x).l < (innB m n x).r := by
  obtain ⟨h1, h2, h3, h4, h5, h6⟩ := inn_bd m n x.t x.l x.b x.r
  refine ⟨⟨?_, ?_, ?_, ?_, ?_, ?_⟩, ?_, ?_⟩ <;> (simp only [innB]; omega)
theorem onB_fit {m n : Nat} {x : BxI} (h : x.Fits m n) (h1 : x.t < x.b) (h2 : x.l < x.r) : onB m n x = x := by
  obtain ⟨t, l, b, r⟩ := x
  obtain ⟨a1, a2, a3, a4, a5, a6⟩ := h
  simp only at *
  unfold onB meetI
  simp only
  rw [if_neg (by omega), if_neg (by omega), if_neg (by omega), if_neg (by omega)]
  congr 1 <;> omega
def scrollS (S : PgS) (x : BxI) (rows cols : Int) : PgS :=
  eachS (eachS (moveS (moveS S x (clampR rows 0 1000)) x (-clampR (agI rows) 0 1000)) x (fun xs l r => movR xs l r (-clampR cols 0 (cntN xs.length l r 0)))) x (fun xs l r => movR xs l r (clampR (agI cols) 0 (cntN xs.length l r 0)))
theorem movS_ok (hS : S.Ok) (x : BxI) (g : Nat → Int → Int → Int) : (eachS S x (fun xs l r => movR xs l r (g xs.length l r))).Ok :=
  eachS_ok hS x (fun xs l r => updR_len _ _ _ _) (fun xs l r h => movR_ok h)
theorem scrollS_ok (hS : S.Ok) {x : BxI} (hx : x.Fits S.rows.length S.cols) (rows cols : Int) : (scrollS S x rows cols).Ok := by
  unfold scrollS
  have h1 := moveS_fit hS hx (clampR rows 0 1000)
  have h2 := moveS_fit h1 (b := x) (by rw [moveS_len]; exact hx) (-clampR (agI rows) 0 1000)
  exact movS_ok (movS_ok h2 x (fun n l r => -clampR cols 0 (cntN n l r 0))) x (fun n l r => clampR (agI cols) 0 (cntN n l r 0))
end
end Go.Proofs.YtignkkejkknddaaGreat
/- edit: Align.  -/
namespace Go.Proofs.YtignkkejkknddaaGreat
open Go.RowKit
set_option linter.unusedVariables false
set_option linter.unusedSimpArgs false

section
variable {w : World} {F : Nat → Prop} {p : Nat} {S : PgS}
def fillE (S : PgS) : PgS := eachS S (onB S.rows.length S.cols ⟨0, 0, S.rows.length, S.cols⟩) (fun xs l r => eachR xs l r fun _ => ⟨69, 0, false⟩)
def alignS (S : PgS) : PgS := rowsJ (fillE S) 0 (fun _ r => (r.1, 0)) S.rows.length
theorem fillE_ok (hS : S.Ok) : (fillE S).Ok := eachS_ok hS _ (fun xs l r => eachR_len xs l r _) (fun xs l r h => eachR_ok h fun y hy => by simp [Cl.ok])
theorem fillE_len : (fillE S).rows.length = S.rows.length := eachS_len _
theorem alignS_ok (hS : S.Ok) : (alignS S).Ok := size0_ok (fillE_ok hS) _ _
end
end Go.Proofs.YtignkkejkknddaaGreat
/- edit, plain laws: what is kept, parts, twice.  -/
namespace Go.Proofs.YtignkkejkknddaaGreat
open Go.RowKit
set_option linter.unusedVariables false
set_option linter.unusedSimpArgs false

section
variable {S : PgS} {sel ra : Bool} {k r c : Int} {i j : Nat}
theorem atS_row {T : PgS} (hT : T.Ok) (hi : i < T.rows.length) (hj : j < T.cols) : some (atS T i j) = (rowD T i).1[j]? := by
  have hl := hT.len hi
  rw [atS_in hi hj (by omega), rowD_in hi, List.getElem?_eq_getElem (by omega)]
theorem era_at (hS : S.Ok) (hi : i < S.rows.length) (hj : j < S.cols) : atS (eraS S sel ra k r c) i j = if hitB ra k r c i j then wipeC sel (atS S i j) else atS S i j := by
  have h1 := atS_row (T := eraS S sel ra k r c) (eraS_ok hS) (by rw [eraS_len]; exact hi) hj
  have h2 := atS_row hS hi hj
  rw [era_row hi] at h1
  simp only [List.getElem?_mapIdx, ← h2, Option.map_some] at h1
  exact Option.some.inj h1
theorem era_size (hi : i < S.rows.length) : (rowD (eraS S true ra k r c) i).2 = (rowD S i).2 := by
  rw [era_row hi]
  simp
/-- selective erasing leaves what is kept, and all renditions and keepings -/
theorem era_kept (hS : S.Ok) (hi : i < S.rows.length) (hj : j < S.cols) : atS (eraS S true ra k r c) i j = atS S i j ∨ ((atS S i j).k = false ∧ atS (eraS S true ra k r c) i j = ⟨32, (atS S i j).r, false⟩) := by
  rw [era_at hS hi hj]
  split
  · unfold wipeC cleanC
    simp only [if_true]
    cases hk : (atS S i j).k
    · right
      simp
    · left
      simp
  · exact .inl rfl
/-- what stands ahead and what stands from there on are all -/
theorem era_parts (hS : S.Ok) (hi : i < S.rows.length) (hj : j < S.cols) : atS (eraS S sel false 2 r c) i j = atS (eraS (eraS S sel false 1 r c) sel false 0 r c) i j := by
  have h1 := eraS_ok (sel := sel) (ra := false) (k := 1) (r := r) (c := c) hS
  rw [era_at hS hi hj, era_at h1 (by rw [eraS_len]; exact hi) hj, era_at hS hi hj]
  simp only [hitB, Bool.not_false, Bool.true_or, Bool.true_and, if_neg (show ¬ (2 : Int) = 0 by omega), if_neg (show ¬ (2 : Int) = 1 by omega), if_neg (show ¬ (1 : Int) = 0 by omega), if_true, decide_true, Bool.or_eq_true, Bool.and_eq_true, decide_eq_true_eq]
  by_cases q0 : r < i ∨ (r = i ∧ c ≤ j)
  · rw [if_pos q0]
    by_cases q1 : (i : Int) < r ∨ (r = i ∧ (j : Int) ≤ c)
    · rw [if_pos q1, wipeC_twice]
    · rw [if_neg q1]
  · rw [if_neg q0, if_pos (by omega)]
theorem era_parts_row (hS : S.Ok) : eraS S sel true 2 r c = eraS (eraS S sel true 0 r c) sel true 1 r c := by
  refine PgS.ext_rows (by rw [eraS_len, eraS_len, eraS_len]) rfl fun i hi => ?_
  rw [eraS_len] at hi
  rw [era_row hi, era_row (by rw [eraS_len]; exact hi), era_row hi]
  refine Prod.ext (List.ext_getElem? fun j => ?_) (by simp)
  simp only [List.getElem?_mapIdx, Option.map_map]
  congr 1
  funext y
  simp only [Function.comp, hitB, Bool.not_true, Bool.false_or, if_neg (show ¬ (2 : Int) = 0 by omega), if_neg (show ¬ (2 : Int) = 1 by omega), if_neg (show ¬ (1 : Int) = 0 by omega), if_true, decide_true, Bool.or_eq_true, Bool.and_eq_true, decide_eq_true_eq, Bool.and_true]
  by_cases q : r = i
  · rw [if_pos q]
    by_cases q0 : c ≤ j
    · rw [if_pos (c := (r = i ∧ (r < i ∨ r = i ∧ c ≤ j))) ⟨q, .inr ⟨q, q0⟩⟩]
      split
      · rw [wipeC_twice]
      · rfl
    · rw [if_neg (c := (r = i ∧ (r < i ∨ r = i ∧ c ≤ j))) (by omega), if_pos (by omega)]
  · rw [if_neg q, if_neg (fun h => q h.1), if_neg (fun h => q h.1)]
/-- all is erased: a new page -/
theorem era_all (hS : S.Ok) : eraS S false false 2 r c = resizeS ⟨[], 0⟩ S.rows.length S.cols := by
  have h1 := hS.r1
  have h2 := hS.r2
  have h3 := hS.c1
  have h4 := hS.c2
  have d1 : dimN (S.rows.length : Int) = S.rows.length := by unfold dimN; omega
  have d2 : dimN (S.cols : Int) = S.cols := by unfold dimN; omega
  refine PgS.ext_rows (by rw [eraS_len]; simp [resizeS, d1]) (by rw [show (eraS S false false 2 r c).cols = S.cols from rfl]; simp [resizeS, d2]) fun i hi => ?_
  rw [eraS_len] at hi
  rw [era_row hi, rowD_in (S := resizeS ⟨[], 0⟩ S.rows.length S.cols) (by simp [resizeS, d1]; exact hi)]
  simp only [resizeS, List.getElem_map, List.getElem_range, d2]
  rw [resRow_none (by simp)]
  refine Prod.ext (List.ext_getElem? fun j => ?_) ?_
  · have hl := rowD_len hS hi
    simp only [List.getElem?_mapIdx, List.getElem?_replicate]
    rcases Nat.lt_or_ge j S.cols with hj | hj
    · rw [List.getElem?_eq_getElem (by omega), if_pos hj]
      simp [hitB, wipeC]
    · rw [List.getElem?_eq_none (by omega), if_neg (by omega)]
      rfl
  · simp [fullB]
theorem blank_again {m n : Nat} (hm : 1 ≤ m ∧ m ≤ 500) (hn : 1 ≤ n ∧ n ≤ 500) : eraS (resizeS ⟨[], 0⟩ m n) false false k r c = resizeS ⟨[], 0⟩ m n := by
  have d1 : dimN (m : Int) = m := by unfold dimN; omega
  have d2 : dimN (n : Int) = n := by unfold dimN; omega
  have hl : (resizeS ⟨[], 0⟩ (m : Int) n).rows.length = m := by simp [resizeS, d1]
  refine PgS.ext_rows (by rw [eraS_len]) rfl fun i hi => ?_
  rw [eraS_len] at hi
  rw [era_row hi, rowD_in hi]
  have hr : (resizeS ⟨[], 0⟩ (m : Int) n).rows[i] = (List.replicate n erC, 0) := by
    simp only [resizeS, List.getElem_map, List.getElem_range, d2]
    exact resRow_none (by simp)
  rw [hr]
  refine Prod.ext (List.ext_getElem? fun j => ?_) ?_
  · simp only [List.getElem?_mapIdx, List.getElem?_replicate]
    by_cases hj : j < n
    · rw [if_pos hj]
      simp only [Option.map_some]
      split <;> rfl
    · rw [if_neg hj]
      rfl
  · simp only
    split <;> rfl
end
section
variable {S : PgS} {b : BxI}
theorem move_zero (hb : b.Fits S.rows.length S.cols) (hS : S.Ok) : moveS S b 0 = S := by
  refine PgS.ext_rows moveS_len rfl fun i hi => ?_
  rw [moveS_len] at hi
  have h1 := hb.t0
  have h2 := hb.bm
  refine Prod.ext (List.ext_getElem? fun j => ?_) ?_
  · rw [move_cell hS hb 0 hi]
    split
    · rename_i h
      unfold moveSrc
      rw [if_pos (by omega), show ((i : Int) + 0).toNat = i by omega]
      rfl
    · rfl
  · rw [move_size 0 hb hi]
    split
    · rename_i h
      unfold moveSrc
      rw [if_pos (by omega), show ((i : Int) + 0).toNat = i by omega]
      rfl
    · rfl
theorem mov_zero (xs : List Cl) (l r : Int) : movR xs l r 0 = xs := by
  unfold movR
  refine updR_id fun i hi _ h => ?_
  unfold movG
  simp only [Int.sub_zero]
  rw [if_pos (by simpa using h)]
  simp [hi]
theorem each_id (hb : b.Fits S.rows.length S.cols) (f : List Cl → Int → Int → List Cl) (hf : ∀ xs l r, f xs l r = xs) : eachS S b f = S := by
  refine PgS.ext_rows (eachS_len _) rfl fun i hi => ?_
  rw [eachS_len] at hi
  rw [each_row f hb hi, hf]
  split <;> rfl
/-- up by n rows, and nothing else -/
theorem scroll_up (hS : S.Ok) (hb : b.Fits S.rows.length S.cols) {n : Int} (h0 : 0 ≤ n) (h1 : n ≤ 1000) : scrollS S b n 0 = moveS S b n := by
  unfold scrollS
  have e1 : clampR n 0 1000 = n := by unfold clampR; rw [if_neg (by omega), if_neg (by omega)]
  have e2 : clampR (agI n) 0 1000 = 0 := by unfold clampR agI; split <;> (try split) <;> omega
  have ok1 := moveS_fit hS hb n
  have hb1 : b.Fits (moveS S b n).rows.length (moveS S b n).cols := by rw [moveS_len]; exact hb
  rw [e1, e2, show -(0 : Int) = 0 from rfl, move_zero hb1 ok1, each_id hb1 _ (fun xs l r => ?_), each_id hb1 _ (fun xs l r => ?_)]
  · have := cntN_bd xs.length l r
    rw [show agI 0 = 0 by unfold agI; omega, show clampR 0 0 (cntN xs.length l r 0) = 0 by unfold clampR; rw [if_neg (by omega), if_neg (by omega)], mov_zero]
  · have := cntN_bd xs.length l r
    rw [show clampR 0 0 (cntN xs.length l r 0) = 0 by unfold clampR; rw [if_neg (by omega), if_neg (by omega)], show -(0 : Int) = 0 from rfl, mov_zero]
theorem scroll_join (hS : S.Ok) (hb : b.Fits S.rows.length S.cols) {n : Int} (h0 : 0 ≤ n) (h1 : n ≤ 4) : scrollS (scrollS S b n 0) b 2 0 = scrollS S b (n + 2) 0 := by
  have ok1 := moveS_fit hS hb n
  have hb1 : b.Fits (moveS S b n).rows.length (moveS S b n).cols := by rw [moveS_len]; exact hb
  rw [scroll_up hS hb h0 (by omega), scroll_up ok1 hb1 (by omega) (by omega), scroll_up hS hb (by omega) (by omega), up_join hS hb h0 (by omega)]
end
end Go.Proofs.YtignkkejkknddaaGreat
/- phosphorlaw15.awake: a page is aligned, and what stands from the cursor on is erased.  -/
namespace Go.Proofs.YtignkkejkknddaaGreat
open Go.RowKit
set_option linter.unusedVariables false
set_option linter.unusedSimpArgs false

def aw15S0 : PgS := resizeS ⟨[], 0⟩ 2 3
def aw15S1 : PgS := alignS aw15S0
def aw15C : Cu := ⟨0, 1, 0, false, true, false, 0, 0, 0, 0, 0, 0, 0⟩
def aw15D : Cu := onU aw15S1.rows.length aw15S1.cols aw15C
def aw15S2 : PgS := eraS aw15S1 false false 0 aw15D.row aw15D.col
theorem aw15_ok0 : aw15S0.Ok := resizeS_ok _ _ _ (fun r hr => by cases hr)
theorem aw15_ok1 : aw15S1.Ok := alignS_ok aw15_ok0
theorem aw15_ok2 : aw15S2.Ok := eraS_ok aw15_ok1
theorem aw15_a : (atS aw15S2 0 0).g = 69 := by decide +kernel
theorem aw15_b : (atS aw15S2 0 1).g = 32 := by decide +kernel
theorem aw15_c : (atS aw15S2 1 2).g = 32 := by decide +kernel
theorem aw15_d : (doneU aw15S2 aw15D).col = 1 ∧ (doneU aw15S2 aw15D).wp = false := by decide +kernel
end Go.Proofs.YtignkkejkknddaaGreat
