/- Pages: an act of the laws.  -/
import Derived.Test.YtignkkejkknddaaGreatPgA
import Derived.Test.YtignkkejkknddaaGreatLineB
namespace Go.Proofs.YtignkkejkknddaaGreat
open Go.RowKit
set_option linter.unusedVariables false
set_option linter.unusedSimpArgs false

/-- an act: its numbers, its cell, its lists -/
structure ActD where
  kd : Int
  n : Int
  b : BxI
  r : Int
  c : Int
  y : Cl
  pa : Option Addr
  pc : Nat
  ps : List Int
  ra : Option Addr
  rc : Nat
  rw : List Cl
def ActD.cells (a : ActD) : List Value := [.int .i64 a.kd, .int .i64 a.n, .int .i64 a.b.t, .int .i64 a.b.l, .int .i64 a.b.b, .int .i64 a.b.r, .int .i64 a.r, .int .i64 a.c, .int .i32 a.y.g, .int .u8 a.y.r, .bool a.y.k, .slice a.pa a.ps.length a.pc, .slice a.ra a.rw.length a.rc]
def ActD.v (a : ActD) : Value := .agg a.cells.toArray
/-- what is true of every act that is handed over -/
structure ActD.Ok (a : ActD) (w : World) : Prop where
  r1 : -9223372036854775808 ≤ a.r
  c1 : -9223372036854775808 ≤ a.c
  y : a.y.ok
  ps : Ints w a.pa a.ps
  pl : a.ps.length ≤ a.pc
  pm : a.pc ≤ 9223372036854775807
  pn : a.pa = none → a.pc = 0
  rw : Rd encC 3 w a.ra a.rw
  rl : a.rw.length ≤ a.rc
  rm : a.rc ≤ 9223372036854775807
  rn : a.ra = none → a.rc = 0
  ro : ∀ y ∈ a.rw, y.ok
/-- no more than is played -/
def ActD.few (a : ActD) : ActD := { a with ps := a.ps.take 8, rw := a.rw.take 60, n := if a.kd = 14 then clampR a.n (-1) 30 else a.n, c := if a.kd = 14 then clampR a.c (-1) 30 else a.c }
theorem Rd.take' {α : Type} {enc : α → List Value} {size : Nat} {w : World} {a : Option Addr} {xs : List α} (h : Rd enc size w a xs) (k : Nat) : Rd enc size w a (xs.take k) := fun h0 => by
  have h1 : 0 < xs.length := by rw [List.length_take] at h0; omega
  obtain ⟨b, off, e, hlt, hc⟩ := h h1
  refine ⟨b, off, e, hlt, fun i hi j v hv => ?_⟩
  rw [List.length_take] at hi
  rw [List.getElem_take] at hv
  exact hc i (by omega) j v hv
theorem ActD.Ok.few {a : ActD} {w : World} (h : a.Ok w) : a.few.Ok w := by
  have e1 : a.few.ps.length ≤ a.ps.length := by simp [ActD.few]; omega
  have e2 : a.few.rw.length ≤ a.rw.length := by simp [ActD.few]; omega
  refine ⟨h.r1, ?_, h.y, h.ps.take' 8, Nat.le_trans e1 h.pl, h.pm, h.pn, h.rw.take' 60, Nat.le_trans e2 h.rl, h.rm, h.rn, fun y hy => h.ro y (List.mem_of_mem_take hy)⟩
  have := h.c1
  simp only [ActD.few]
  split
  · unfold clampR; split <;> (try split) <;> omega
  · exact this
theorem ActD.Ok.below {a : ActD} {w w' : World} (h : a.Ok w) (hb : Below w.heap.size w w') : a.Ok w' := { h with ps := h.ps.below hb, rw := h.rw.below hb }
end Go.Proofs.YtignkkejkknddaaGreat
