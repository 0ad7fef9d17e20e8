/- edit, as plain data: which cells are erased, and the sizes of lines.  -/
import Derived.Test.YtignkkejkknddaaPgJoin
import Derived.Test.YtignkkejkknddaaCu
import Derived.IntWalk
namespace Go.Proofs.Ytignkkejkknddaa
open Go.RowKit
set_option linter.unusedVariables false
set_option linter.unusedSimpArgs false

/-- is a cell erased, that stands behind a place (0), ahead of it (1), or anywhere (2)? ra: in the place's row alone -/
def hitB (ra : Bool) (k r c : Int) (i j : Nat) : Bool :=
  (!ra || decide (r = i)) && (if k = 0 then decide (r < i) || (decide (r = i) && decide (c ≤ j)) else if k = 1 then decide ((i : Int) < r) || (decide (r = i) && decide ((j : Int) ≤ c)) else decide (k = 2))
/-- is all of a row? -/
def fullB (k r c : Int) (n i : Nat) : Bool := if k = 0 then decide (r < i) || (decide (r = i) && decide (c ≤ 0)) else if k = 1 then decide ((i : Int) < r) || (decide (r = i) && decide ((n : Int) ≤ c + 1)) else decide (k = 2)
def wipeC (sel : Bool) (y : Cl) : Cl := if sel then cleanC y else erC
def eraS (S : PgS) (sel ra : Bool) (k r c : Int) : PgS :=
  ⟨S.rows.mapIdx fun i row => (row.1.mapIdx fun j y => if hitB ra k r c i j then wipeC sel y else y, if !sel && !ra && fullB k r c S.cols i then 0 else row.2), S.cols⟩
/-- the two boxes -/
def partsU (m n : Nat) (r c k : Int) : BxI × BxI :=
  if k = 0 then (⟨r, c, r + 1, n⟩, ⟨r + 1, 0, m, n⟩) else if k = 1 then (⟨r, 0, r + 1, c + 1⟩, ⟨0, 0, r, n⟩) else if k = 2 then (⟨r, 0, r + 1, n⟩, ⟨0, 0, m, n⟩) else (⟨0, 0, 0, 0⟩, ⟨0, 0, 0, 0⟩)
def BxI.wide (b : BxI) : Int := if b.b ≤ b.t ∨ b.r ≤ b.l then 0 else b.r - b.l
def wipeS (S : PgS) (sel : Bool) (b : BxI) : PgS := eachS S (onB S.rows.length S.cols b) (fun xs l r => eachR xs l r (wipeC sel))
def boxS (S : PgS) (sel : Bool) (b : BxI) : PgS :=
  if sel || decide (b.wide < S.cols) then wipeS S sel b else rowsJ (wipeS S sel b) b.t.toNat (fun _ r => (r.1, 0)) (b.b - b.t).toNat
theorem wide_le {t l b r : Int} {n : Nat} (hn : 1 ≤ n) (hr : r ≤ n) (hl : 0 ≤ l) : ((n : Int) ≤ BxI.wide ⟨t, l, b, r⟩) = (t < b ∧ l ≤ 0 ∧ (n : Int) ≤ r) := by
  unfold BxI.wide
  simp only
  apply propext
  split <;> omega
theorem wipeC_twice (sel : Bool) (y : Cl) : wipeC sel (wipeC sel y) = wipeC sel y := by
  unfold wipeC cleanC
  cases sel
  · rfl
  · obtain ⟨g, r, k⟩ := y
    cases k <;> rfl
theorem wipeC_ok (sel : Bool) {y : Cl} (h : y.ok) : (wipeC sel y).ok := by
  unfold wipeC
  cases sel
  · exact erC_ok
  · exact cleanC_ok h
theorem eachR_opt (xs : List Cl) (l r : Int) (F : Cl → Cl) (j : Nat) : (eachR xs l r F)[j]? = (xs[j]?).map fun y => if l ≤ j ∧ (j : Int) < r then F y else y := by
  unfold eachR
  rw [updR_opt]
  rcases Nat.lt_or_ge j xs.length with h | h
  · rw [List.getElem?_eq_getElem h]
    simp only [Option.map_some, inS, decide_eq_true_eq, true_and]
    by_cases hk : l ≤ j ∧ (j : Int) < r
    · rw [if_pos ⟨h, by omega⟩, if_pos hk]
    · rw [if_neg (fun q => hk q.2.2.2), if_neg hk]
  · rw [List.getElem?_eq_none h]
    rfl
theorem onB_iff {m n : Nat} {b : BxI} {i k : Nat} (hi : i < m) (hk : k < n) : ((onB m n b).t ≤ i ∧ (i : Int) < (onB m n b).b ∧ (onB m n b).l ≤ k ∧ (k : Int) < (onB m n b).r) ↔ (b.t ≤ i ∧ (i : Int) < b.b ∧ b.l ≤ k ∧ (k : Int) < b.r) := by
  constructor
  · rintro ⟨h1, h2, h3, h4⟩
    exact onB_sub h1 h2 h3 h4
  · rintro ⟨h1, h2, h3, h4⟩
    unfold onB meetI
    simp only
    rw [if_neg (by omega), if_neg (by omega), if_neg (by omega), if_neg (by omega)]
    omega
section
variable {S : PgS} {sel : Bool} {b : BxI} {i j : Nat}
theorem wipeS_len : (wipeS S sel b).rows.length = S.rows.length := eachS_len _
theorem wipeS_ok (hS : S.Ok) : (wipeS S sel b).Ok := eachS_ok hS _ (fun xs l r => eachR_len xs l r _) (fun xs l r h => eachR_ok h fun y hy => wipeC_ok sel hy)
theorem wipe_size (hi : i < S.rows.length) : (rowD (wipeS S sel b) i).2 = (rowD S i).2 := by
  unfold wipeS
  rw [each_row _ (onB_fits _ _ _) hi]
  split <;> rfl
theorem wipe_cell (hS : S.Ok) (hi : i < S.rows.length) : (rowD (wipeS S sel b) i).1[j]? = ((rowD S i).1[j]?).map fun y => if b.t ≤ i ∧ (i : Int) < b.b ∧ b.l ≤ j ∧ (j : Int) < b.r then wipeC sel y else y := by
  unfold wipeS
  rw [each_row _ (onB_fits _ _ _) hi]
  rcases Nat.lt_or_ge j S.cols with hj | hj
  · have hiff := onB_iff (b := b) hi hj
    by_cases h1 : (onB S.rows.length S.cols b).t ≤ i ∧ (i : Int) < (onB S.rows.length S.cols b).b
    · rw [if_pos h1]
      simp only
      rw [eachR_opt]
      congr 1
      funext y
      by_cases h2 : (onB S.rows.length S.cols b).l ≤ j ∧ (j : Int) < (onB S.rows.length S.cols b).r
      · rw [if_pos h2, if_pos (hiff.1 ⟨h1.1, h1.2, h2⟩)]
      · rw [if_neg h2, if_neg (fun h => h2 (hiff.2 h).2.2)]
    · rw [if_neg h1, show (fun y => if b.t ≤ i ∧ (i : Int) < b.b ∧ b.l ≤ j ∧ (j : Int) < b.r then wipeC sel y else y) = id from funext fun y => if_neg (fun h => h1 ⟨(hiff.2 h).1, (hiff.2 h).2.1⟩)]
      simp
  · have hl := rowD_len hS hi
    rw [List.getElem?_eq_none (l := (rowD S i).1) (by omega)]
    split
    · simp only
      rw [List.getElem?_eq_none (by rw [eachR_len]; omega)]
      rfl
    · rw [List.getElem?_eq_none (by omega)]
      rfl
theorem boxS_len : (boxS S sel b).rows.length = S.rows.length := by
  unfold boxS
  split
  · exact wipeS_len
  · rw [rowsJ_len, wipeS_len]
theorem boxS_cols : (boxS S sel b).cols = S.cols := by unfold boxS; split <;> rfl
theorem size0_ok (hS : S.Ok) (t n : Nat) : (rowsJ S t (fun _ r => (r.1, 0)) n).Ok := rowsJ_ok hS (fun i hi => hS.len hi) (fun i hi y hy => hS.ok _ (List.getElem_mem hi) y hy)
theorem boxS_ok (hS : S.Ok) : (boxS S sel b).Ok := by
  unfold boxS
  split
  · exact wipeS_ok hS
  · exact size0_ok (wipeS_ok hS) _ _
theorem box_cell (hS : S.Ok) (hi : i < S.rows.length) : (rowD (boxS S sel b) i).1[j]? = ((rowD S i).1[j]?).map fun y => if b.t ≤ i ∧ (i : Int) < b.b ∧ b.l ≤ j ∧ (j : Int) < b.r then wipeC sel y else y := by
  rw [← wipe_cell hS hi]
  unfold boxS
  split
  · rfl
  · rw [show rowD (rowsJ (wipeS S sel b) b.t.toNat (fun _ r => (r.1, 0)) (b.b - b.t).toNat) i = if b.t.toNat ≤ i ∧ i < b.t.toNat + (b.b - b.t).toNat then ((rowD (wipeS S sel b) i).1, 0) else rowD (wipeS S sel b) i from rowsJ_getD (by rw [wipeS_len]; exact hi)]
    split <;> rfl
theorem box_size (ht : 0 ≤ b.t) (hi : i < S.rows.length) : (rowD (boxS S sel b) i).2 = if sel = false ∧ b.t ≤ i ∧ (i : Int) < b.b ∧ (S.cols : Int) ≤ b.wide then 0 else (rowD S i).2 := by
  rw [← wipe_size (sel := sel) (b := b) hi]
  unfold boxS
  cases sel
  · by_cases hw : b.wide < S.cols
    · rw [if_pos (by simp [hw]), if_neg (by omega)]
    · rw [if_neg (by simp [hw])]
      rw [show rowD (rowsJ (wipeS S false b) b.t.toNat (fun _ r => (r.1, 0)) (b.b - b.t).toNat) i = if b.t.toNat ≤ i ∧ i < b.t.toNat + (b.b - b.t).toNat then ((rowD (wipeS S false b) i).1, 0) else rowD (wipeS S false b) i from rowsJ_getD (by rw [wipeS_len]; exact hi)]
      by_cases hin : b.t ≤ i ∧ (i : Int) < b.b
      · rw [if_pos (by omega), if_pos ⟨rfl, hin.1, hin.2, by omega⟩]
      · rw [if_neg (by omega), if_neg (fun h => hin ⟨h.2.1, h.2.2.1⟩)]
  · rw [if_pos (by simp), if_neg (by simp)]
end
section
variable {S : PgS} {sel ra : Bool} {k r c : Int} {i j : Nat}
theorem eraS_len : (eraS S sel ra k r c).rows.length = S.rows.length := by simp [eraS]
theorem era_row (hi : i < S.rows.length) : rowD (eraS S sel ra k r c) i = ((rowD S i).1.mapIdx fun j y => if hitB ra k r c i j then wipeC sel y else y, if !sel && !ra && fullB k r c S.cols i then 0 else (rowD S i).2) := by
  rw [rowD_in (by rw [eraS_len]; exact hi), rowD_in hi]
  simp [eraS]
theorem eraS_ok (hS : S.Ok) : (eraS S sel ra k r c).Ok := by
  refine ⟨by rw [eraS_len]; exact hS.r1, by rw [eraS_len]; exact hS.r2, hS.c1, hS.c2, fun x hx => ?_, fun x hx y hy => ?_⟩
  · simp only [eraS, List.mem_mapIdx] at hx
    obtain ⟨i, hi, rfl⟩ := hx
    simp only [List.length_mapIdx]
    exact hS.len hi
  · simp only [eraS, List.mem_mapIdx] at hx
    obtain ⟨i, hi, rfl⟩ := hx
    simp only [List.mem_mapIdx] at hy
    obtain ⟨j, hj, rfl⟩ := hy
    have := hS.get hi hj
    split
    · exact wipeC_ok sel this
    · exact this
/-- the two boxes together -/
theorem boxes_era (hS : S.Ok) (h1 : 0 ≤ r) (h2 : r < S.rows.length) (h3 : 0 ≤ c) (h4 : c < S.cols) :
    boxS (boxS S sel (partsU S.rows.length S.cols r c k).1) sel (partsU S.rows.length S.cols r c k).2 = eraS S sel false k r c := by
  have ok1 := boxS_ok (sel := sel) (b := (partsU S.rows.length S.cols r c k).1) hS
  have c1 := hS.c1
  refine PgS.ext_rows (by rw [boxS_len, boxS_len, eraS_len]) (by rw [boxS_cols, boxS_cols]; rfl) fun i hi => ?_
  rw [boxS_len, boxS_len] at hi
  have hi1 : i < (boxS S sel (partsU S.rows.length S.cols r c k).1).rows.length := by rw [boxS_len]; exact hi
  rw [era_row hi]
  refine Prod.ext (List.ext_getElem? fun j => ?_) ?_
  · rw [box_cell ok1 hi1, box_cell hS hi]
    simp only [List.getElem?_mapIdx, Option.map_map]
    rcases Nat.lt_or_ge j S.cols with hj | hj
    · congr 1
      funext y
      simp only [Function.comp]
      unfold partsU hitB
      by_cases k0 : k = 0
      · simp only [k0, if_true, Bool.not_false, Bool.true_or, Bool.true_and]
        by_cases q : r < i ∨ (r = i ∧ c ≤ j)
        · rw [if_pos (c := ((decide (r < i) || (decide (r = i) && decide (c ≤ j))) = true)) (by simpa using q)]
          split
          · split
            · exact wipeC_twice _ _
            · rfl
          · split
            · rfl
            · omega
        · rw [if_neg (c := ((decide (r < i) || (decide (r = i) && decide (c ≤ j))) = true)) (by simpa using q), if_neg (by omega), if_neg (by omega)]
      · by_cases k1 : k = 1
        · simp only [k1, if_true, if_neg (show ¬ (1 : Int) = 0 by omega), Bool.not_false, Bool.true_or, Bool.true_and]
          by_cases q : (i : Int) < r ∨ (r = i ∧ (j : Int) ≤ c)
          · rw [if_pos (c := ((decide ((i : Int) < r) || (decide (r = i) && decide ((j : Int) ≤ c))) = true)) (by simpa using q)]
            split
            · split
              · exact wipeC_twice _ _
              · rfl
            · split
              · rfl
              · omega
          · rw [if_neg (c := ((decide ((i : Int) < r) || (decide (r = i) && decide ((j : Int) ≤ c))) = true)) (by simpa using q), if_neg (by omega), if_neg (by omega)]
        · by_cases k2 : k = 2
          · simp only [k2, if_true, if_neg (show ¬ (2 : Int) = 0 by omega), if_neg (show ¬ (2 : Int) = 1 by omega), Bool.not_false, Bool.true_or, Bool.true_and, decide_true]
            rw [if_pos (by omega)]
            split
            · exact wipeC_twice _ _
            · rfl
          · simp only [if_neg k0, if_neg k1, if_neg k2, Bool.not_false, Bool.true_or, Bool.true_and, decide_eq_true_eq, true_and]
            rw [if_neg (by omega), if_neg (by omega)]
    · have hl := rowD_len hS hi
      rw [List.getElem?_eq_none (by omega)]
      rfl
  · rw [box_size (by unfold partsU; split <;> (try split) <;> (try split) <;> simp only <;> omega) hi1, box_size (by unfold partsU; split <;> (try split) <;> (try split) <;> simp only <;> omega) hi, boxS_cols]
    simp only
    cases sel
    · simp only [Bool.not_false, Bool.true_and]
      unfold partsU fullB
      by_cases k0 : k = 0
      · simp only [k0, if_true, wide_le c1 (Int.le_refl _) h3, wide_le c1 (Int.le_refl _) (Int.le_refl 0), Bool.or_eq_true, Bool.and_eq_true, decide_eq_true_eq, true_and]
        repeat' split
        all_goals first | rfl | (exfalso; omega)
      · by_cases k1 : k = 1
        · simp only [k1, if_true, if_neg (show ¬ (1 : Int) = 0 by omega), wide_le c1 (Int.le_refl _) (Int.le_refl 0), wide_le c1 (show c + 1 ≤ (S.cols : Int) by omega) (Int.le_refl 0), Bool.or_eq_true, Bool.and_eq_true, decide_eq_true_eq, true_and]
          repeat' split
          all_goals first | rfl | (exfalso; omega)
        · by_cases k2 : k = 2
          · simp only [k2, if_true, if_neg (show ¬ (2 : Int) = 0 by omega), if_neg (show ¬ (2 : Int) = 1 by omega), wide_le c1 (Int.le_refl _) (Int.le_refl 0), Bool.or_eq_true, Bool.and_eq_true, decide_eq_true_eq, true_and]
            repeat' split
            all_goals first | rfl | (exfalso; omega)
          · simp only [if_neg k0, if_neg k1, if_neg k2, decide_eq_true_eq, true_and]
            rw [if_neg (by omega), if_neg (by omega)]
    · simp
/-- the first box alone -/
theorem box_row (hS : S.Ok) (h1 : 0 ≤ r) (h2 : r < S.rows.length) (h3 : 0 ≤ c) (h4 : c < S.cols) : wipeS S sel (partsU S.rows.length S.cols r c k).1 = eraS S sel true k r c := by
  refine PgS.ext_rows (by rw [wipeS_len, eraS_len]) rfl fun i hi => ?_
  rw [wipeS_len] at hi
  rw [era_row hi]
  refine Prod.ext (List.ext_getElem? fun j => ?_) ?_
  · rw [wipe_cell hS hi]
    simp only [List.getElem?_mapIdx]
    rcases Nat.lt_or_ge j S.cols with hj | hj
    · congr 1
      funext y
      unfold partsU hitB
      by_cases k0 : k = 0
      · simp only [k0, if_true, Bool.not_true, Bool.false_or]
        by_cases q : r = i ∧ c ≤ j
        · rw [if_pos (by omega), if_pos (by simp; omega)]
        · rw [if_neg (by omega), if_neg (by simp; omega)]
      · by_cases k1 : k = 1
        · simp only [k1, if_true, if_neg (show ¬ (1 : Int) = 0 by omega), Bool.not_true, Bool.false_or]
          by_cases q : r = i ∧ (j : Int) ≤ c
          · rw [if_pos (by omega), if_pos (by simp; omega)]
          · rw [if_neg (by omega), if_neg (by simp; omega)]
        · by_cases k2 : k = 2
          · simp only [k2, if_true, if_neg (show ¬ (2 : Int) = 0 by omega), if_neg (show ¬ (2 : Int) = 1 by omega), Bool.not_true, Bool.false_or, decide_true, Bool.and_true]
            by_cases q : r = i
            · rw [if_pos (by omega), if_pos (by simpa using q)]
            · rw [if_neg (by omega), if_neg (by simpa using q)]
          · simp only [if_neg k0, if_neg k1, if_neg k2]
            rw [if_neg (by omega), if_neg (by simp [k2])]
    · have hl := rowD_len hS hi
      rw [List.getElem?_eq_none (by omega)]
      rfl
  · rw [wipe_size hi]
    simp
end
end Go.Proofs.Ytignkkejkknddaa
/- What a beginning of layer 14 tells, as plain data; the acts of layers 14 and 15.  -/
namespace Go.Proofs.Ytignkkejkknddaa
open Go.RowKit
set_option linter.unusedVariables false
set_option linter.unusedSimpArgs false

structure BgD where
  rows : Int
  cols : Int
  sa : Option Addr
  sc : Nat
  ss : List Int
  ta : Option Addr
  tc : Nat
  ts : List Int
  cu : Cu
  m : BxI
def BgD.cells (b : BgD) : List Value := [.int .i64 b.rows, .int .i64 b.cols, .slice b.sa b.ss.length b.sc, .slice b.ta b.ts.length b.tc, .int .i64 b.cu.row, .int .i64 b.cu.col, .int .u8 b.cu.rd, .bool b.cu.kp, .bool b.cu.wp, .bool b.cu.og, .int .i64 b.cu.a, .int .i64 b.cu.b, .int .i64 b.cu.c, .int .i64 b.cu.d, .int .i64 b.cu.l, .int .i64 b.cu.r, .int .i64 b.cu.s, .int .i64 b.m.t, .int .i64 b.m.l, .int .i64 b.m.b, .int .i64 b.m.r]
def BgD.v (b : BgD) : Value := .agg b.cells.toArray
structure BgD.Ok (b : BgD) (w : World) : Prop where
  ss : Ints w b.sa b.ss
  sl : b.ss.length ≤ b.sc
  sm : b.sc ≤ maxLen
  sn : b.sa = none → b.sc = 0
  ts : Rd (encI .i32) 1 w b.ta b.ts
  tl : b.ts.length ≤ b.tc
  tm : b.tc ≤ maxLen
  tn : b.ta = none → b.tc = 0
  to' : ∀ n ∈ b.ts, -2147483648 ≤ n ∧ n ≤ 2147483647
  r : -9223372036854775808 ≤ b.cu.row ∧ b.cu.row ≤ 9223372036854775807
  c : -9223372036854775808 ≤ b.cu.col ∧ b.cu.col ≤ 9223372036854775807
theorem BgD.Ok.below {b : BgD} {w w' : World} (h : b.Ok w) (hb : Below w.heap.size w w') : b.Ok w' := { h with ss := h.ss.below hb, ts := h.ts.below hb }
structure A14 where
  kd : Int
  wr : Bool
  ins : Bool
  ta : Option Addr
  tc : Nat
  ts : List Int
def A14.cells (a : A14) : List Value := [.int .i64 a.kd, .bool a.wr, .bool a.ins, .slice a.ta a.ts.length a.tc]
def A14.v (a : A14) : Value := .agg a.cells.toArray
structure A14.Ok (b : A14) (w : World) : Prop where
  ts : Rd (encI .i32) 1 w b.ta b.ts
  tl : b.ts.length ≤ b.tc
  tm : b.tc ≤ maxLen
  tn : b.ta = none → b.tc = 0
  to' : ∀ n ∈ b.ts, -2147483648 ≤ n ∧ n ≤ 2147483647
theorem A14.Ok.below {b : A14} {w w' : World} (h : b.Ok w) (hb : Below w.heap.size w w') : b.Ok w' := { h with ts := h.ts.below hb }
structure A15 where
  kd : Int
  n : Int
  m : Int
  fl : Bool
def A15.cells (a : A15) : List Value := [.int .i64 a.kd, .int .i64 a.n, .int .i64 a.m, .bool a.fl]
def A15.v (a : A15) : Value := .agg a.cells.toArray
structure A15.Ok (b : A15) (w : World) : Prop where
  n : -9223372036854775808 ≤ b.n ∧ b.n ≤ 9223372036854775807
  m : -9223372036854775808 ≤ b.m ∧ b.m ≤ 9223372036854775807

/-- the page that a beginning tells -/
def begC (ts : List Int) (n : Nat) : Cl := if h : n < ts.length then ⟨ts[n], (n % 3 : Nat), n % 5 == 0⟩ else erC
def begZ (ss : List Int) (i : Nat) : Int := if h : i < ss.length then clampR ss[i] 0 3 else 0
def begRow (ts ss : List Int) (n i : Nat) : List Cl × Int := ((List.range n).map fun k => begC ts (i * n + k), begZ ss i)
def begM (b : BgD) : Nat := (clampR b.rows 1 8).toNat
def begN (b : BgD) : Nat := (clampR b.cols 1 9).toNat
/-- ahead of round j: the rows behind it are empty -/
def begJ (ts ss : List Int) (m n j : Nat) : PgS := ⟨(List.range m).map fun i => if i < j then begRow ts ss n i else (List.replicate n erC, 0), n⟩
def begS (b : BgD) : PgS := ⟨(List.range (begM b)).map (begRow b.ts b.ss (begN b)), begN b⟩
theorem begM_in (b : BgD) : 1 ≤ begM b ∧ begM b ≤ 8 ∧ clampR b.rows 1 8 = (begM b : Int) := by
  have := clampR_in b.rows (show (1 : Int) ≤ 8 by omega)
  unfold begM
  omega
theorem begN_in (b : BgD) : 1 ≤ begN b ∧ begN b ≤ 9 ∧ clampR b.cols 1 9 = (begN b : Int) := by
  have := clampR_in b.cols (show (1 : Int) ≤ 9 by omega)
  unfold begN
  omega
theorem begC_ok {ts : List Int} (h : ∀ n ∈ ts, -2147483648 ≤ n ∧ n ≤ 2147483647) (n : Nat) : (begC ts n).ok := by
  unfold begC
  split
  · rename_i q
    have := h _ (List.getElem_mem q)
    exact ⟨this, by simp only; omega, by simp only; omega⟩
  · exact erC_ok
theorem begRow_len (ts ss : List Int) (n i : Nat) : (begRow ts ss n i).1.length = n := by simp [begRow]
theorem begZ_in (ss : List Int) (i : Nat) : 0 ≤ begZ ss i ∧ begZ ss i ≤ 3 := by
  unfold begZ
  split
  · exact clampR_in _ (by omega)
  · omega
section
variable {ts ss : List Int} {m n j : Nat}
theorem begJ_len : (begJ ts ss m n j).rows.length = m := by simp [begJ]
theorem begJ_get {i : Nat} (hi : i < m) (h' : i < (begJ ts ss m n j).rows.length) : (begJ ts ss m n j).rows[i] = if i < j then begRow ts ss n i else (List.replicate n erC, 0) := by simp [begJ]
theorem begJ_ok (h : ∀ n ∈ ts, -2147483648 ≤ n ∧ n ≤ 2147483647) (hm : 1 ≤ m ∧ m ≤ 500) (hn : 1 ≤ n ∧ n ≤ 500) : (begJ ts ss m n j).Ok := by
  refine ⟨by rw [begJ_len]; exact hm.1, by rw [begJ_len]; exact hm.2, hn.1, hn.2, fun r hr => ?_, fun r hr y hy => ?_⟩
  · simp only [begJ, List.mem_map] at hr
    obtain ⟨i, _, rfl⟩ := hr
    split
    · exact begRow_len _ _ _ _
    · simp [begJ]
  · simp only [begJ, List.mem_map] at hr
    obtain ⟨i, _, rfl⟩ := hr
    split at hy
    · simp only [begRow, List.mem_map] at hy
      obtain ⟨k, _, rfl⟩ := hy
      exact begC_ok h _
    · rw [List.eq_of_mem_replicate hy]
      exact erC_ok
theorem begJ_zero (hm : m = dimN m) (hn : n = dimN n) : begJ ts ss m n 0 = resizeS ⟨[], 0⟩ m n := by
  unfold begJ resizeS
  rw [← hm, ← hn]
  congr 1
theorem begJ_step (hj : j < m) : begJ ts ss m n (j + 1) = setRowS (begJ ts ss m n j) j (begRow ts ss n j) := by
  refine PgS.ext_rows (by rw [setRowS_len, begJ_len, begJ_len]) rfl fun i hi => ?_
  rw [begJ_len] at hi
  rw [rowD_in (by rw [begJ_len]; exact hi), rowD_in (by rw [setRowS_len, begJ_len]; exact hi), begJ_get hi]
  by_cases e : j = i
  · subst e
    rw [if_pos (by omega), setRowS_get (by rw [begJ_len]; exact hi)]
  · have : (setRowS (begJ ts ss m n j) j (begRow ts ss n j)).rows[i]'(by rw [setRowS_len, begJ_len]; exact hi) = (begJ ts ss m n j).rows[i]'(by rw [begJ_len]; exact hi) := by
      simp [setRowS, List.getElem_set, e]
    rw [this, begJ_get hi]
    by_cases h : i < j
    · rw [if_pos (by omega), if_pos h]
    · rw [if_neg (by omega), if_neg h]
end
theorem begJ_all (b : BgD) : begJ b.ts b.ss (begM b) (begN b) (begM b) = begS b := by
  unfold begJ begS
  congr 1
  refine List.map_congr_left fun i hi => ?_
  rw [if_pos (by simpa using hi)]
theorem begS_ok {b : BgD} {w : World} (h : b.Ok w) : (begS b).Ok := by
  have h1 := begM_in b
  have h2 := begN_in b
  rw [← begJ_all]
  exact begJ_ok h.to' (by omega) (by omega)
end Go.Proofs.Ytignkkejkknddaa
/- edit: on, done, row, parts, way.  -/
namespace Go.Proofs.Ytignkkejkknddaa
open Go.RowKit
set_option linter.unusedVariables false
set_option linter.unusedSimpArgs false

section
variable {w : World} {F : Nat → Prop} {p : Nat} {S : PgS}
/-- the cursor, within its row -/
def doneU (S : PgS) (x : Cu) : Cu := fitU (widthI (lineOf S x.row).1.length (lineOf S x.row).2) x
end
end Go.Proofs.Ytignkkejkknddaa
/- edit: way, parts.  -/
namespace Go.Proofs.Ytignkkejkknddaa
open Go.RowKit
set_option linter.unusedVariables false
set_option linter.unusedSimpArgs false

section
variable {w : World} {F : Nat → Prop} {p : Nat} {S : PgS}
def box2V (q : BxI × BxI) : Value := .tuple #[boxV q.1.t q.1.l q.1.b q.1.r, boxV q.2.t q.2.l q.2.b q.2.r]
end
end Go.Proofs.Ytignkkejkknddaa
/- A cursor in a variable; blocks of a world that has grown.  -/
namespace Go.Proofs.Ytignkkejkknddaa
open Go.RowKit
set_option linter.unusedVariables false
set_option linter.unusedSimpArgs false

theorem heap_at (w : World) (o : Obj) {b : Nat} (h : b = w.heap.size) : (w.alloc o).heap[b]? = some o := by subst h; exact heap_alloc_new w o
theorem heap_old (w : World) (o : Obj) {b : Nat} (h : b < w.heap.size) : (w.alloc o).heap[b]? = w.heap[b]? := ((Below.refl w.heap.size w).alloc (Nat.le_refl _) o).block b h
theorem heap_drew (w : World) (b : Nat) : w.drew.heap[b]? = w.heap[b]? := rfl
theorem store13e {W : World} {B : Nat} {u0 u1 u2 u3 u4 u5 u6 u7 u8 u9 u10 u11 u12 : Value} {t : TypeId} (h : W.heap[B]? = some (.cells #[u0, u1, u2, u3, u4, u5, u6, u7, u8, u9, u10, u11, u12] t (0, 0))) (v0 v1 v2 v3 v4 v5 v6 v7 v8 v9 v10 v11 v12 : Value) :
    ∃ W', (((((((((((((W.setCell ⟨B, 0, none⟩ v0).setCell ⟨B, 1, none⟩ v1).setCell ⟨B, 2, none⟩ v2).setCell ⟨B, 3, none⟩ v3).setCell ⟨B, 4, none⟩ v4).setCell ⟨B, 5, none⟩ v5).setCell ⟨B, 6, none⟩ v6).setCell ⟨B, 7, none⟩ v7).setCell ⟨B, 8, none⟩ v8).setCell ⟨B, 9, none⟩ v9).setCell ⟨B, 10, none⟩ v10).setCell ⟨B, 11, none⟩ v11).setCell ⟨B, 12, none⟩ v12) = W' ∧ Keep (· = B) W W' ∧ W'.heap[B]? = some (.cells #[v0, v1, v2, v3, v4, v5, v6, v7, v8, v9, v10, v11, v12] t (0, 0)) := by
  have hs : ∀ {X : World} {cur : Array Value} (i : Nat) (v : Value), X.heap[B]? = some (.cells cur t (0, 0)) → (X.setCell ⟨B, i, none⟩ v).heap[B]? = some (.cells (cur.setIfInBounds i v) t (0, 0)) := fun i v hx => by
    simp [World.setCell, Array.getElem?_modify, hx]
  have k0 : Keep (· = B) W W := Keep.refl _ _
  have k := ((((((((((((k0.set (p := ⟨B, 0, none⟩) (.inl rfl) v0).set (p := ⟨B, 1, none⟩) (.inl rfl) v1).set (p := ⟨B, 2, none⟩) (.inl rfl) v2).set (p := ⟨B, 3, none⟩) (.inl rfl) v3).set (p := ⟨B, 4, none⟩) (.inl rfl) v4).set (p := ⟨B, 5, none⟩) (.inl rfl) v5).set (p := ⟨B, 6, none⟩) (.inl rfl) v6).set (p := ⟨B, 7, none⟩) (.inl rfl) v7).set (p := ⟨B, 8, none⟩) (.inl rfl) v8).set (p := ⟨B, 9, none⟩) (.inl rfl) v9).set (p := ⟨B, 10, none⟩) (.inl rfl) v10).set (p := ⟨B, 11, none⟩) (.inl rfl) v11).set (p := ⟨B, 12, none⟩) (.inl rfl) v12
  refine ⟨_, rfl, k, ?_⟩
  have h12 := hs 12 v12 (hs 11 v11 (hs 10 v10 (hs 9 v9 (hs 8 v8 (hs 7 v7 (hs 6 v6 (hs 5 v5 (hs 4 v4 (hs 3 v3 (hs 2 v2 (hs 1 v1 (hs 0 v0 h))))))))))))
  simpa using h12
abbrev Cu.arr (x : Cu) : Array Value := #[.int .i64 x.row, .int .i64 x.col, .int .u8 x.rd, .bool x.kp, .bool x.wp, .bool x.og, .int .i64 x.a, .int .i64 x.b, .int .i64 x.c, .int .i64 x.d, .int .i64 x.l, .int .i64 x.r, .int .i64 x.s]
/-- a cursor in a variable of its own -/
def CVar (t : TypeId) (w : World) (H : Nat) (x : Cu) : Prop := w.heap[H]? = some (.cells x.arr t (0, 0))
section
variable {t : TypeId} {w w' : World} {H : Nat} {x y : Cu} {F : Nat → Prop} {p : Nat} {S T : PgS}
theorem CVar.cells (h : CVar t w H x) : w.cell? ⟨H, 0, none⟩ = some (.int .i64 x.row) ∧ w.cell? ⟨H, 1, none⟩ = some (.int .i64 x.col) ∧ w.cell? ⟨H, 2, none⟩ = some (.int .u8 x.rd) ∧ w.cell? ⟨H, 3, none⟩ = some (.bool x.kp) ∧ w.cell? ⟨H, 4, none⟩ = some (.bool x.wp) ∧ w.cell? ⟨H, 5, none⟩ = some (.bool x.og) ∧ w.cell? ⟨H, 6, none⟩ = some (.int .i64 x.a) ∧ w.cell? ⟨H, 7, none⟩ = some (.int .i64 x.b) ∧ w.cell? ⟨H, 8, none⟩ = some (.int .i64 x.c) ∧ w.cell? ⟨H, 9, none⟩ = some (.int .i64 x.d) ∧ w.cell? ⟨H, 10, none⟩ = some (.int .i64 x.l) ∧ w.cell? ⟨H, 11, none⟩ = some (.int .i64 x.r) ∧ w.cell? ⟨H, 12, none⟩ = some (.int .i64 x.s) ∧ H < w.heap.size := by
  refine ⟨?_, ?_, ?_, ?_, ?_, ?_, ?_, ?_, ?_, ?_, ?_, ?_, ?_, heap_in h⟩ <;> (rw [cell_in h]; rfl)
theorem CVar.fz (h : CVar t w H x) (q : Nat) : w.frozen? ⟨H, q, none⟩ = false := frozen_in h
theorem CVar.fz13 (h : CVar t w H x) : w.frozen? ⟨H, 0, none⟩ = false ∧ w.frozen? ⟨H, 1, none⟩ = false ∧ w.frozen? ⟨H, 2, none⟩ = false ∧ w.frozen? ⟨H, 3, none⟩ = false ∧ w.frozen? ⟨H, 4, none⟩ = false ∧ w.frozen? ⟨H, 5, none⟩ = false ∧ w.frozen? ⟨H, 6, none⟩ = false ∧ w.frozen? ⟨H, 7, none⟩ = false ∧ w.frozen? ⟨H, 8, none⟩ = false ∧ w.frozen? ⟨H, 9, none⟩ = false ∧ w.frozen? ⟨H, 10, none⟩ = false ∧ w.frozen? ⟨H, 11, none⟩ = false ∧ w.frozen? ⟨H, 12, none⟩ = false :=
  ⟨h.fz _, h.fz _, h.fz _, h.fz _, h.fz _, h.fz _, h.fz _, h.fz _, h.fz _, h.fz _, h.fz _, h.fz _, h.fz _⟩
theorem CVar.keep (h : CVar t w H x) (hk : Keep F w w') (hF : ¬ F H) : CVar t w' H x := (hk.block H (heap_in h) hF).trans h
theorem CVar.grow (h : CVar t w H x) (hb : Below w.heap.size w w') : CVar t w' H x := (hb.block H (heap_in h)).trans h
/-- a cursor is stored -/
theorem CVar.store (h : CVar t w H x) (y : Cu) : ∃ W', (((((((((((((w.setCell ⟨H, 0, none⟩ (.int .i64 y.row)).setCell ⟨H, 1, none⟩ (.int .i64 y.col)).setCell ⟨H, 2, none⟩ (.int .u8 y.rd)).setCell ⟨H, 3, none⟩ (.bool y.kp)).setCell ⟨H, 4, none⟩ (.bool y.wp)).setCell ⟨H, 5, none⟩ (.bool y.og)).setCell ⟨H, 6, none⟩ (.int .i64 y.a)).setCell ⟨H, 7, none⟩ (.int .i64 y.b)).setCell ⟨H, 8, none⟩ (.int .i64 y.c)).setCell ⟨H, 9, none⟩ (.int .i64 y.d)).setCell ⟨H, 10, none⟩ (.int .i64 y.l)).setCell ⟨H, 11, none⟩ (.int .i64 y.r)).setCell ⟨H, 12, none⟩ (.int .i64 y.s)) = W' ∧ Keep (· = H) w W' ∧ CVar t W' H y :=
  store13e h _ _ _ _ _ _ _ _ _ _ _ _ _
/-- a deed that began in W, behind which a variable was stored that is newer than w -/
theorem Did.var {W w1 wf : World} (hD : Did F p T W w1) (hb : Below w.heap.size w W) (hF : ∀ b, F b → b < w.heap.size) (hH : w.heap.size ≤ H) (hz : H < W.heap.size) (hk : Keep (· = H) w1 wf) : Did F p T w wf := by
  have hFH : ¬ F H := fun f => by have := hF H f; omega
  have k1 : Keep F w wf := ((Keep.of_below (F := F) hb).trans hD.1 (fun x hx => .inl hx)).trans hk (fun x hx => .inr (by omega))
  refine ⟨k1, (hD.2.keep hk (fun b hb2 e => ?_)).mono (fun b hb2 => ?_) (fun b hb2 => ?_)⟩
  · subst e
    rcases hb2 with f | f
    · exact hFH f
    · omega
  · have := hb.size
    have := hk.size
    rcases hb2 with f | f
    · exact .inl f
    · exact .inr ⟨by omega, by omega⟩
  · have h1 := k1.size
    rcases hb2 with f | f
    · have := hF b f; omega
    · exact f.2
end
end Go.Proofs.Ytignkkejkknddaa
