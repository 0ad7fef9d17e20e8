/- A cursor as plain data, on a page.  -/
import Derived.Test.YtignkkejkknddaaCursF2
import Derived.Test.YtignkkejkknddaaCursG
import Derived.Test.YtignkkejkknddaaPgA
import Derived.Test.YtignkkejkknddaaPgPen
namespace Go.Proofs.Ytignkkejkknddaa
open Go.RowKit
set_option linter.unusedVariables false
set_option linter.unusedSimpArgs false

/-- a cursor: where it stands, its pen, its flags, its sets -/
structure Cu where
  row : Int
  col : Int
  rd : Int
  kp : Bool
  wp : Bool
  og : Bool
  a : Int
  b : Int
  c : Int
  d : Int
  l : Int
  r : Int
  s : Int
abbrev Cu.v (x : Cu) : Value := .agg #[.int .i64 x.row, .int .i64 x.col, .int .u8 x.rd, .bool x.kp, .bool x.wp, .bool x.og, .int .i64 x.a, .int .i64 x.b, .int .i64 x.c, .int .i64 x.d, .int .i64 x.l, .int .i64 x.r, .int .i64 x.s]
/-- taken to a page of m rows and n columns -/
def onU (m n : Nat) (x : Cu) : Cu := { x with row := clampI 0 m x.row, col := clampI 0 n x.col, wp := false }
/-- within a width -/
def fitU (w : Int) (x : Cu) : Cu := { x with col := max 0 (min x.col (max w 1 - 1)), wp := x.wp && max 0 (min x.col (max w 1 - 1)) == x.col }
theorem clampI_nat {m : Nat} (h : 1 ≤ m) (x : Int) : 0 ≤ clampI 0 m x ∧ clampI 0 m x < m := by unfold clampI; omega
theorem onU_row {m n : Nat} (h : 1 ≤ m) (x : Cu) : ∃ k : Nat, (onU m n x).row = k ∧ k < m := by
  have := clampI_nat h x.row
  exact ⟨(clampI 0 m x.row).toNat, by unfold onU; simp only; omega, by omega⟩
theorem onU_col {m n : Nat} (h : 1 ≤ n) (x : Cu) : ∃ k : Nat, (onU m n x).col = k ∧ k < n := by
  have := clampI_nat h x.col
  exact ⟨(clampI 0 n x.col).toNat, by unfold onU; simp only; omega, by omega⟩
theorem onU_on {m n : Nat} (hm : 1 ≤ m) (hn : 1 ≤ n) (x : Cu) : onU m n (onU m n x) = onU m n x := by
  have h1 := clampI_nat hm x.row
  have h2 := clampI_nat hn x.col
  unfold onU
  simp only
  congr 1
  · unfold clampI at *; omega
  · unfold clampI at *; omega
theorem lineOf_short {S : PgS} (hS : S.Ok) (i : Int) : (lineOf S i).1.length ≤ 1000000 := by
  unfold lineOf
  split
  · rename_i h
    have hi : i.toNat < S.rows.length := by unfold thereI at h; simp at h; omega
    have := hS.wid S.rows[i.toNat] (List.getElem_mem hi)
    have := hS.c2
    rw [List.getD_eq_getElem?_getD, List.getElem?_eq_getElem hi]
    simp only [Option.getD_some]
    omega
  · simp
end Go.Proofs.Ytignkkejkknddaa
