/- edit, as plain data: which cells are erased, and the sizes of lines.  -/
import Derived.Test.YtdfiknemfpkdmaaPgJoin
import Derived.Test.YtdfiknemfpkdmaaCu
namespace Go.Proofs.Ytdfiknemfpkdmaa
open Go.RowKit
set_option linter.unusedVariables false
set_option linter.unusedSimpArgs false

/-- is a cell erased, that stands behind a place (0), ahead of it (1), or anywhere (2)? ra: in the place's row alone -/
def hitB (ra : Bool) (k r c : Int) (i j : Nat) : Bool :=
  (!ra || decide (r = i)) && (if k = 0 then decide (r < i) || (decide (r = i) && decide (c ≤ j)) else if k = 1 then decide ((i : Int) < r) || (decide (r = i) && decide ((j : Int) ≤ c)) else decide (k = 2))
/-- is all of a row? -/
def fullB (k r c : Int) (n i : Nat) : Bool := if k = 0 then decide (r < i) || (decide (r = i) && decide (c ≤ 0)) else if k = 1 then decide ((i : Int) < r) || (decide (r = i) && decide ((n : Int) ≤ c + 1)) else decide (k = 2)
def wipeC (sel : Bool) (y : Cl) : Cl := if sel then cleanC y else erC
def eraS (S : PgS) (sel ra : Bool) (k r c : Int) : PgS :=
  ⟨S.rows.mapIdx fun i row => (row.1.mapIdx fun j y => if hitB ra k r c i j then wipeC sel y else y, if !sel && !ra && fullB k r c S.cols i then 0 else row.2), S.cols⟩
/-- the two boxes -/
def partsU (m n : Nat) (r c k : Int) : BxI × BxI :=
  if k = 0 then (⟨r, c, r + 1, n⟩, ⟨r + 1, 0, m, n⟩) else if k = 1 then (⟨r, 0, r + 1, c + 1⟩, ⟨0, 0, r, n⟩) else if k = 2 then (⟨r, 0, r + 1, n⟩, ⟨0, 0, m, n⟩) else (⟨0, 0, 0, 0⟩, ⟨0, 0, 0, 0⟩)
def BxI.wide (b : BxI) : Int := if b.b ≤ b.t ∨ b.r ≤ b.l then 0 else b.r - b.l
def wipeS (S : PgS) (sel : Bool) (b : BxI) : PgS := eachS S (onB S.rows.length S.cols b) (fun xs l r => eachR xs l r (wipeC sel))
def boxS (S : PgS) (sel : Bool) (b : BxI) : PgS :=
  if sel || decide (b.wide < S.cols) then wipeS S sel b else rowsJ (wipeS S sel b) b.t.toNat (fun _ r => (r.1, 0)) (b.b - b.t).toNat
theorem wide_le {t l b r : Int} {n : Nat} (hn : 1 ≤ n) (hr : r ≤ n) (hl : 0 ≤ l) : ((n : Int) ≤ BxI.wide ⟨t, l, b, r⟩) = (t < b ∧ l ≤ 0 ∧ (n : Int) ≤ r) := by
  unfold BxI.wide
  simp only
  apply propext
  split <;> omega
theorem wipeC_twice (sel : Bool) (y : Cl) : wipeC sel (wipeC sel y) = wipeC sel y := by
  unfold wipeC cleanC
  cases sel
  · rfl
  · obtain ⟨g, r, k⟩ := y
    cases k <;> rfl
theorem wipeC_ok (sel : Bool) {y : Cl} (h : y.ok) : (wipeC sel y).ok := by
  unfold wipeC
  cases sel
  · exact erC_ok
  · exact cleanC_ok h
theorem eachR_opt (xs : List Cl) (l r : Int) (F : Cl → Cl) (j : Nat) : (eachR xs l r F)[j]? = (xs[j]?).map fun y => if l ≤ j ∧ (j : Int) < r then F y else y := by
  unfold eachR
  rw [updR_opt]
  rcases Nat.lt_or_ge j xs.length with h | h
  · rw [List.getElem?_eq_getElem h]
    simp only [Option.map_some, inS, decide_eq_true_eq, true_and]
    by_cases hk : l ≤ j ∧ (j : Int) < r
    · rw [if_pos ⟨h, by omega⟩, if_pos hk]
    · rw [if_neg (fun q => hk q.2.2.2), if_neg hk]
  · rw [List.getElem?_eq_none h]
    rfl
theorem onB_iff {m n : Nat} {b : BxI} {i k : Nat} (hi : i < m) (hk : k < n) : ((onB m n b).t ≤ i ∧ (i : Int) < (onB m n b).b ∧ (onB m n b).l ≤ k ∧ (k : Int) < (onB m n b).r) ↔ (b.t ≤ i ∧ (i : Int) < b.b ∧ b.l ≤ k ∧ (k : Int) < b.r) := by
  constructor
  · rintro ⟨h1, h2, h3, h4⟩
    exact onB_sub h1 h2 h3 h4
  · rintro ⟨h1, h2, h3, h4⟩
    unfold onB meetI
    simp only
    rw [if_neg (by omega), if_neg (by omega), if_neg (by omega), if_neg (by omega)]
    omega
section
variable {S : PgS} {sel : Bool} {b : BxI} {i j : Nat}
theorem wipeS_len : (wipeS S sel b).rows.length = S.rows.length := eachS_len _
theorem wipeS_ok (hS : S.Ok) : (wipeS S sel b).Ok := eachS_ok hS _ (fun xs l r => eachR_len xs l r _) (fun xs l r h => eachR_ok h fun y hy => wipeC_ok sel hy)
theorem wipe_size (hi : i < S.rows.length) : (rowD (wipeS S sel b) i).2 = (rowD S i).2 := by
  unfold wipeS
  rw [each_row _ (onB_fits _ _ _) hi]
  split <;> rfl
theorem wipe_cell (hS : S.Ok) (hi : i < S.rows.length) : (rowD (wipeS S sel b) i).1[j]? = ((rowD S i).1[j]?).map fun y => if b.t ≤ i ∧ (i : Int) < b.b ∧ b.l ≤ j ∧ (j : Int) < b.r then wipeC sel y else y := by
  unfold wipeS
  rw [each_row _ (onB_fits _ _ _) hi]
  rcases Nat.lt_or_ge j S.cols with hj | hj
  · have hiff := onB_iff (b := b) hi hj
    by_cases h1 : (onB S.rows.length S.cols b).t ≤ i ∧ (i : Int) < (onB S.rows.length S.cols b).b
    · rw [if_pos h1]
      simp only
      rw [eachR_opt]
      congr 1
      funext y
      by_cases h2 : (onB S.rows.length S.cols b).l ≤ j ∧ (j : Int) < (onB S.rows.length S.cols b).r
      · rw [if_pos h2, if_pos (hiff.1 ⟨h1.1, h1.2, h2⟩)]
      · rw [if_neg h2, if_neg (fun h => h2 (hiff.2 h).2.2)]
    · rw [if_neg h1, show (fun y => if b.t ≤ i ∧ (i : Int) < b.b ∧ b.l ≤ j ∧ (j : Int) < b.r then wipeC sel y else y) = id from funext fun y => if_neg (fun h => h1 ⟨(hiff.2 h).1, (hiff.2 h).2.1⟩)]
      simp
  · have hl := rowD_len hS hi
    rw [List.getElem?_eq_none (l := (rowD S i).1) (by omega)]
    split
    · simp only
      rw [List.getElem?_eq_none (by rw [eachR_len]; omega)]
      rfl
    · rw [List.getElem?_eq_none (by omega)]
      rfl
theorem boxS_len : (boxS S sel b).rows.length = S.rows.length := by
  unfold boxS
  split
  · exact wipeS_len
  · rw [rowsJ_len, wipeS_len]
theorem boxS_cols : (boxS S sel b).cols = S.cols := by unfold boxS; split <;> rfl
theorem size0_ok (hS : S.Ok) (t n : Nat) : (rowsJ S t (fun _ r => (r.1, 0)) n).Ok := rowsJ_ok hS (fun i hi => hS.len hi) (fun i hi y hy => hS.ok _ (List.getElem_mem hi) y hy)
theorem boxS_ok (hS : S.Ok) : (boxS S sel b).Ok := by
  unfold boxS
  split
  · exact wipeS_ok hS
  · exact size0_ok (wipeS_ok hS) _ _
theorem box_cell (hS : S.Ok) (hi : i < S.rows.length) : (rowD (boxS S sel b) i).1[j]? = ((rowD S i).1[j]?).map fun y => if b.t ≤ i ∧ (i : Int) < b.b ∧ b.l ≤ j ∧ (j : Int) < b.r then wipeC sel y else y := by
  rw [← wipe_cell hS hi]
  unfold boxS
  split
  · rfl
  · rw [show rowD (rowsJ (wipeS S sel b) b.t.toNat (fun _ r => (r.1, 0)) (b.b - b.t).toNat) i = if b.t.toNat ≤ i ∧ i < b.t.toNat + (b.b - b.t).toNat then ((rowD (wipeS S sel b) i).1, 0) else rowD (wipeS S sel b) i from rowsJ_getD (by rw [wipeS_len]; exact hi)]
    split <;> rfl
theorem box_size (ht : 0 ≤ b.t) (hi : i < S.rows.length) : (rowD (boxS S sel b) i).2 = if sel = false ∧ b.t ≤ i ∧ (i : Int) < b.b ∧ (S.cols : Int) ≤ b.wide then 0 else (rowD S i).2 := by
  rw [← wipe_size (sel := sel) (b := b) hi]
  unfold boxS
  cases sel
  · by_cases hw : b.wide < S.cols
    · rw [if_pos (by simp [hw]), if_neg (by omega)]
    · rw [if_neg (by simp [hw])]
      rw [show rowD (rowsJ (wipeS S false b) b.t.toNat (fun _ r => (r.1, 0)) (b.b - b.t).toNat) i = if b.t.toNat ≤ i ∧ i < b.t.toNat + (b.b - b.t).toNat then ((rowD (wipeS S false b) i).1, 0) else rowD (wipeS S false b) i from rowsJ_getD (by rw [wipeS_len]; exact hi)]
      by_cases hin : b.t ≤ i ∧ (i : Int) < b.b
      · rw [if_pos (by omega), if_pos ⟨rfl, hin.1, hin.2, by omega⟩]
      · rw [if_neg (by omega), if_neg (fun h => hin ⟨h.2.1, h.2.2.1⟩)]
  · rw [if_pos (by simp), if_neg (by simp)]
end
section
variable {S : PgS} {sel ra : Bool} {k r c : Int} {i j : Nat}
theorem eraS_len : (eraS S sel ra k r c).rows.length = S.rows.length := by simp [eraS]
theorem era_row (hi : i < S.rows.length) : rowD (eraS S sel ra k r c) i = ((rowD S i).1.mapIdx fun j y => if hitB ra k r c i j then wipeC sel y else y, if !sel && !ra && fullB k r c S.cols i then 0 else (rowD S i).2) := by
  rw [rowD_in (by rw [eraS_len]; exact hi), rowD_in hi]
  simp [eraS]
theorem eraS_ok (hS : S.Ok) : (eraS S sel ra k r c).Ok := by
  refine ⟨by rw [eraS_len]; exact hS.r1, by rw [eraS_len]; exact hS.r2, hS.c1, hS.c2, fun x hx => ?_, fun x hx y hy => ?_⟩
  · simp only [eraS, List.mem_mapIdx] at hx
    obtain ⟨i, hi, rfl⟩ := hx
    simp only [List.length_mapIdx]
    exact hS.len hi
  · simp only [eraS, List.mem_mapIdx] at hx
    obtain ⟨i, hi, rfl⟩ := hx
    simp only [List.mem_mapIdx] at hy
    obtain ⟨j, hj, rfl⟩ := hy
    have := hS.get hi hj
    split
    · exact wipeC_ok sel this
    · exact this
/-- the two boxes together -/
theorem boxes_era (hS : S.Ok) (h1 : 0 ≤ r) (h2 : r < S.rows.length) (h3 : 0 ≤ c) (h4 : c < S.cols) :
    boxS (boxS S sel (partsU S.rows.length S.cols r c k).1) sel (partsU S.rows.length S.cols r c k).2 = eraS S sel false k r c := by
  have ok1 := boxS_ok (sel := sel) (b := (partsU S.rows.length S.cols r c k).1) hS
  have c1 := hS.c1
  refine PgS.ext_rows (by rw [boxS_len, boxS_len, eraS_len]) (by rw [boxS_cols, boxS_cols]; rfl) fun i hi => ?_
  rw [boxS_len, boxS_len] at hi
  have hi1 : i < (boxS S sel (partsU S.rows.length S.cols r c k).1).rows.length := by rw [boxS_len]; exact hi
  rw [era_row hi]
  refine Prod.ext (List.ext_getElem? fun j => ?_) ?_
  · rw [box_cell ok1 hi1, box_cell hS hi]
    simp only [List.getElem?_mapIdx, Option.map_map]
    rcases Nat.lt_or_ge j S.cols with hj | hj
    · congr 1
      funext y
      simp only [Function.comp]
      unfold partsU hitB
      by_cases k0 : k = 0
      · simp only [k0, if_true, Bool.not_false, Bool.true_or, Bool.true_and]
        by_cases q : r < i ∨ (r = i ∧ c ≤ j)
        · rw [if_pos (c := ((decide (r < i) || (decide (r = i) && decide (c ≤ j))) = true)) (by simpa using q)]
          split
          · split
            · exact wipeC_twice _ _
            · rfl
          · split
            · rfl
            · omega
        · rw [if_neg (c := ((decide (r < i) || (decide (r = i) && decide (c ≤ j))) = true)) (by simpa using q), if_neg (by omega), if_neg (by omega)]
      · by_cases k1 : k = 1
        · simp only [k1, if_true, if_neg (show ¬ (1 : Int) = 0 by omega), Bool.not_false, Bool.true_or, Bool.true_and]
          by_cases q : (i : Int) < r ∨ (r = i ∧ (j : Int) ≤ c)
          · rw [if_pos (c := ((decide ((i : Int) < r) || (decide (r = i) && decide ((j : Int) ≤ c))) = true)) (by simpa using q)]
            split
            · split
              · exact wipeC_twice _ _
              · rfl
            · split
              · rfl
              · omega
          · rw [if_neg (c := ((decide ((i : Int) < r) || (decide (r = i) && decide ((j : Int) ≤ c))) = true)) (by simpa using q), if_neg (by omega), if_neg (by omega)]
        · by_cases k2 : k = 2
          · simp only [k2, if_true, if_neg (show ¬ (2 : Int) = 0 by omega), if_neg (show ¬ (2 : Int) = 1 by omega), Bool.not_false, Bool.true_or, Bool.true_and, decide_true]
            rw [if_pos (by omega)]
            split
            · exact wipeC_twice _ _
            · rfl
          · simp only [if_neg k0, if_neg k1, if_neg k2, Bool.not_false, Bool.true_or, Bool.true_and, decide_eq_true_eq, true_and]
            rw [if_neg (by omega), if_neg (by omega)]
    · have hl := rowD_len hS hi
      rw [List.getElem?_eq_none (by omega)]
      rfl
  · rw [box_size (by unfold partsU; split <;> (try split) <;> (try split) <;> simp only <;> omega) hi1, box_size (by unfold partsU; split <;> (try split) <;> (try split) <;> simp only <;> omega) hi, boxS_cols]
    simp only
    cases sel
    · simp only [Bool.not_false, Bool.true_and]
      unfold partsU fullB
      by_cases k0 : k = 0
      · simp only [k0, if_true, wide_le c1 (Int.le_refl _) h3, wide_le c1 (Int.le_refl _) (Int.le_refl 0), Bool.or_eq_true, Bool.and_eq_true, decide_eq_true_eq, true_and]
        repeat' split
        all_goals first | rfl | (exfalso; omega)
      · by_cases k1 : k = 1
        · simp only [k1, if_true, if_neg (show ¬ (1 : Int) = 0 by omega), wide_le c1 (Int.le_refl _) (Int.le_refl 0), wide_le c1 (show c + 1 ≤ (S.cols : Int) by omega) (Int.le_refl 0), Bool.or_eq_true, Bool.and_eq_true, decide_eq_true_eq, true_and]
          repeat' split
          all_goals first | rfl | (exfalso; omega)
        · by_cases k2 : k = 2
          · simp only [k2, if_true, if_neg (show ¬ (2 : Int) = 0 by omega), if_neg (show ¬ (2 : Int) = 1 by omega), wide_le c1 (Int.le_refl _) (Int.le_refl 0), Bool.or_eq_true, Bool.and_eq_true, decide_eq_true_eq, true_and]
            repeat' split
            all_goals first | rfl | (exfalso; omega)
          · simp only [if_neg k0, if_neg k1, if_neg k2, decide_eq_true_eq, true_and]
            rw [if_neg (by omega), if_neg (by omega)]
    · simp
/-- the first box alone -/
theorem box_row (hS : S.Ok) (h1 : 0 ≤ r) (h2 : r < S.rows.length) (h3 : 0 ≤ c) (h4 : c < S.cols) : wipeS S sel (partsU S.rows.length S.cols r c k).1 = eraS S sel true k r c := by
  refine PgS.ext_rows (by rw [wipeS_len, eraS_len]) rfl fun i hi => ?_
  rw [wipeS_len] at hi
  rw [era_row hi]
  refine Prod.ext (List.ext_getElem? fun j => ?_) ?_
  · rw [wipe_cell hS hi]
    simp only [List.getElem?_mapIdx]
    rcases Nat.lt_or_ge j S.cols with hj | hj
    · congr 1
      funext y
      unfold partsU hitB
      by_cases k0 : k = 0
      · simp only [k0, if_true, Bool.not_true, Bool.false_or]
        by_cases q : r = i ∧ c ≤ j
        · rw [if_pos (by omega), if_pos (by simp; omega)]
        · rw [if_neg (by omega), if_neg (by simp; omega)]
      · by_cases k1 : k = 1
        · simp only [k1, if_true, if_neg (show ¬ (1 : Int) = 0 by omega), Bool.not_true, Bool.false_or]
          by_cases q : r = i ∧ (j : Int) ≤ c
          · rw [if_pos (by omega), if_pos (by simp; omega)]
          · rw [if_neg (by omega), if_neg (by simp; omega)]
        · by_cases k2 : k = 2
          · simp only [k2, if_true, if_neg (show ¬ (2 : Int) = 0 by omega), if_neg (show ¬ (2 : Int) = 1 by omega), Bool.not_true, Bool.false_or, decide_true, Bool.and_true]
            by_cases q : r = i
            · rw [if_pos (by omega), if_pos (by simpa using q)]
            · rw [if_neg (by omega), if_neg (by simpa using q)]
          · simp only [if_neg k0, if_neg k1, if_neg k2]
            rw [if_neg (by omega), if_neg (by simp [k2])]
    · have hl := rowD_len hS hi
      rw [List.getElem?_eq_none (by omega)]
      rfl
  · rw [wipe_size hi]
    simp
end
end Go.Proofs.Ytdfiknemfpkdmaa
/- What a beginning of layer 14 tells, as plain data; the acts of layers 14 and 15.  -/
namespace Go.Proofs.Ytdfiknemfpkdmaa
open Go.RowKit
set_option linter.unusedVariables false
set_option linter.unusedSimpArgs false

structure BgD where
  rows : Int
  cols : Int
  sa : Option Addr
  sc : Nat
  ss : List Int
  ta : Option Addr
  tc : Nat
  ts : List Int
  cu : Cu
  m : BxI
def BgD.cells (b : BgD) : List Value := [.int .i64 b.rows, .int .i64 b.cols, .slice b.sa b.ss.length b.sc, .slice b.ta b.ts.length b.tc, .int .i64 b.cu.row, .int .i64 b.cu.col, .int .u8 b.cu.rd, .bool b.cu.kp, .bool b.cu.wp, .bool b.cu.og, .int .i64 b.cu.a, .int .i64 b.cu.b, .int .i64 b.cu.c, .int .i64 b.cu.d, .int .i64 b.cu.l, .int .i64 b.cu.r, .int .i64 b.cu.s, .int .i64 b.m.t, .int .i64 b.m.l, .int .i64 b.m.b, .int .i64 b.m.r]
def BgD.v (b : BgD) : Value := .agg b.cells.toArray
structure BgD.Ok (b : BgD) (w : World) : Prop where
  ss : Ints w b.sa b.ss
  sl : b.ss.length ≤ b.sc
  sm : b.sc ≤ maxLen
  sn : b.sa = none → b.sc = 0
  ts : Rd (encI .i32) 1 w b.ta b.ts
  tl : b.ts.length ≤ b.tc
  tm : b.tc ≤ maxLen
  tn : b.ta = none → b.tc = 0
  to' : ∀ n ∈ b.ts, -2147483648 ≤ n ∧ n ≤ 2147483647
  r : -9223372036854775808 ≤ b.cu.row ∧ b.cu.row ≤ 9223372036854775807
  c : -9223372036854775808 ≤ b.cu.col ∧ b.cu.col ≤ 9223372036854775807
theorem BgD.Ok.below {b : BgD} {w w' : World} (h : b.Ok w) (hb : Below w.heap.size w w') : b.Ok w' := { h with ss := h.ss.below hb, ts := h.ts.below hb }
structure A14 where
  kd : Int
  wr : Bool
  ins : Bool
  ta : Option Addr
  tc : Nat
  ts : List Int
def A14.cells (a : A14) : List Value := [.int .i64 a.kd, .bool a.wr, .bool a.ins, .slice a.ta a.ts.length a.tc]
def A14.v (a : A14) : Value := .agg a.cells.toArray
structure A14.Ok (b : A14) (w : World) : Prop where
  ts : Rd (encI .i32) 1 w b.ta b.ts
  tl : b.ts.length ≤ b.tc
  tm : b.tc ≤ maxLen
  tn : b.ta = none → b.tc = 0
  to' : ∀ n ∈ b.ts, -2147483648 ≤ n ∧ n ≤ 2147483647
theorem A14.Ok.below {b : A14} {w w' : World} (h : b.Ok w) (hb : Below w.heap.size w w') : b.Ok w' := { h with ts := h.ts.below hb }
structure A15 where
  kd : Int
  n : Int
  m : Int
  fl : Bool
def A15.cells (a : A15) : List Value := [.int .i64 a.kd, .int .i64 a.n, .int .i64 a.m, .bool a.fl]
def A15.v (a : A15) : Value := .agg a.cells.toArray
structure A15.Ok (b : A15) (w : World) : Prop where
  n : -9223372036854775808 ≤ b.n ∧ b.n ≤ 9223372036854775807
  m : -9223372036854775808 ≤ b.m ∧ b.m ≤ 9223372036854775807

/-- the page that a beginning tells -/
def begC (ts : List Int) (n : Nat) : Cl := if h : n < ts.length then ⟨ts[n], (n % 3 : Nat), n % 5 == 0⟩ else erC
def begZ (ss : List Int) (i : Nat) : Int := if h : i < ss.length then clampR ss[i] 0 3 else 0
def begRow (ts ss : List Int) (n i : Nat) : List Cl × Int := ((List.range n).map fun k => begC ts (i * n + k), begZ ss i)
def begM (b : BgD) : Nat := (clampR b.rows 1 8).toNat
def begN (b : BgD) : Nat := (clampR b.cols 1 9).toNat
/-- ahead of round j: the rows behind it are empty -/
def begJ (ts ss : List Int) (m n j : Nat) : PgS := ⟨(List.range m).map fun i => if i < j then begRow ts ss n i else (List.replicate n erC, 0), n⟩
def begS (b : BgD) : PgS := ⟨(List.range (begM b)).map (begRow b.ts b.ss (begN b)), begN b⟩
theorem begM_in (b : BgD) : 1 ≤ begM b ∧ begM b ≤ 8 ∧ clampR b.rows 1 8 = (begM b : Int) := by
  have := clampR_in b.rows (show (1 : Int) ≤ 8 by omega)
  unfold begM
  omega
theorem begN_in (b : BgD) : 1 ≤ begN b ∧ begN b ≤ 9 ∧ clampR b.cols 1 9 = (begN b : Int) := by
  have := clampR_in b.cols (show (1 : Int) ≤ 9 by omega)
  unfold begN
  omega
theorem begC_ok {ts : List Int} (h : ∀ n ∈ ts, -2147483648 ≤ n ∧ n ≤ 2147483647) (n : Nat) : (begC ts n).ok := by
  unfold begC
  split
  · rename_i q
    have := h _ (List.getElem_mem q)
    exact ⟨this, by simp only; omega, by simp only; omega⟩
  · exact erC_ok
theorem begRow_len (ts ss : List Int) (n i : Nat) : (begRow ts ss n i).1.length = n := by simp [begRow]
theorem begZ_in (ss : List Int) (i : Nat) : 0 ≤ begZ ss i ∧ begZ ss i ≤ 3 := by
  unfold begZ
  split
  · exact clampR_in _ (by omega)
  · omega
section
variable {ts ss : List Int} {m n j : Nat}
theorem begJ_len : (begJ ts ss m n j).rows.length = m := by simp [begJ]
theorem begJ_get {i : Nat} (hi : i < m) (h' : i < (begJ ts ss m n j).rows.length) : (begJ ts ss m n j).rows[i] = if i < j then begRow ts ss n i else (List.replicate n erC, 0) := by simp [begJ]
theorem begJ_ok (h : ∀ n ∈ ts, -2147483648 ≤ n ∧ n ≤ 2147483647) (hm : 1 ≤ m ∧ m ≤ 500) (hn : 1 ≤ n ∧ n ≤ 500) : (begJ ts ss m n j).Ok := by
  refine ⟨by rw [begJ_len]; exact hm.1, by rw [begJ_len]; exact hm.2, hn.1, hn.2, fun r hr => ?_, fun r hr y hy => ?_⟩
  · simp only [begJ, List.mem_map] at hr
    obtain ⟨i, _, rfl⟩ := hr
    split
    · exact begRow_len _ _ _ _
    · simp [begJ]
  · simp only [begJ, List.mem_map] at hr
    obtain ⟨i, _, rfl⟩ := hr
    split at hy
    · simp only [begRow, List.mem_map] at hy
      obtain ⟨k, _, rfl⟩ := hy
      exact begC_ok h _
    · rw [List.eq_of_mem_replicate hy]
      exact erC_ok
theorem begJ_zero (hm : m = dimN m) (hn : n = dimN n) : begJ ts ss m n 0 = resizeS ⟨[], 0⟩ m n := by
  unfold begJ resizeS
  rw [← hm, ← hn]
  congr 1
theorem begJ_step (hj : j < m) : begJ ts ss m n (j + 1) = setRowS (begJ ts ss m n j) j (begRow ts ss n j) := by
  refine PgS.ext_rows (by rw [setRowS_len, begJ_len, begJ_len]) rfl fun i hi => ?_
  rw [begJ_len] at hi
  rw [rowD_in (by rw [begJ_len]; exact hi), rowD_in (by rw [setRowS_len, begJ_len]; exact hi), begJ_get hi]
  by_cases e : j = i
  · subst e
    rw [if_pos (by omega), setRowS_get (by rw [begJ_len]; exact hi)]
  · have : (setRowS (begJ ts ss m n j) j (begRow ts ss n j)).rows[i]'(by rw [setRowS_len, begJ_len]; exact hi) = (begJ ts ss m n j).rows[i]'(by rw [begJ_len]; exact hi) := by
      simp [setRowS, List.getElem_set, e]
    rw [this, begJ_get hi]
    by_cases h : i < j
    · rw [if_pos (by omega), if_pos h]
    · rw [if_neg (by omega), if_neg h]
end
theorem begJ_all (b : BgD) : begJ b.ts b.ss (begM b) (begN b) (begM b) = begS b := by
  unfold begJ begS
  congr 1
  refine List.map_congr_left fun i hi => ?_
  rw [if_pos (by simpa using hi)]
theorem begS_ok {b : BgD} {w : World} (h : b.Ok w) : (begS b).Ok := by
  have h1 := begM_in b
  have h2 := begN_in b
  rw [← begJ_all]
  exact begJ_ok h.to' (by omega) (by omega)
end Go.Proofs.Ytdfiknemfpkdmaa
