/- Numbers out of lists, margins, and the loops of the law's own helpers. -/
import Derived.Test.YtdfiknemfpkdmaaBox
namespace Go.Proofs.Ytdfiknemfpkdmaa
open Go.RowKit
set_option linter.unusedVariables false
set_option linter.unusedSimpArgs false

theorem getD_out {xs : List Int} {k : Nat} (h : xs.length ≤ k) : xs.getD k 0 = 0 := by simp [List.getD_eq_getElem?_getD, List.getElem?_eq_none h]
/-- the number at a place of a list; 0: none -/
def at0 (xs : List Int) (i : Int) : Int := if i < 0 then 0 else xs.getD i.toNat 0
def num0 (xs : List Int) (i m : Int) : Int := if i < 0 then 0 else xs.getD (i.toNat + m.toNat) 0

def bspanA (f : Int) : Int := if f = 0 then 1 else f
def lastA (n l : Int) : Int := if l = 0 ∨ n < l then n else l
def spanOk (n f l : Int) : Bool := decide (0 ≤ f) && decide (0 ≤ l) && decide (bspanA f < lastA n l)
def spanV (n f l : Int) : Value :=
  .tuple #[.int .i64 (if spanOk n f l then bspanA f - 1 else 0), .int .i64 (if spanOk n f l then lastA n l else 0), .bool (spanOk n f l)]
theorem tuple3_eq {k : IntKind} {a b a' b' : Int} {c c' : Bool} (h1 : a = a') (h2 : b = b') (h3 : c = c') : Value.tuple #[.int k a, .int k b, .bool c] = .tuple #[.int k a', .int k b', .bool c'] := by
  subst h1 h2 h3; rfl
theorem spanV_no {n f l : Int} (h : f < 0 ∨ l < 0 ∨ lastA n l ≤ bspanA f) : spanV n f l = .tuple #[.int .i64 0, .int .i64 0, .bool false] := by
  have e : spanOk n f l = false := by unfold spanOk; simp; omega
  unfold spanV; simp [e]
theorem spanV_yes {n f l a b : Int} (h : 0 ≤ f ∧ 0 ≤ l ∧ bspanA f < lastA n l) (ha : a = bspanA f - 1) (hb : b = lastA n l) : spanV n f l = .tuple #[.int .i64 a, .int .i64 b, .bool true] := by
  have e : spanOk n f l = true := by unfold spanOk; simp; omega
  unfold spanV; simp [e, ha, hb]

def sideF (f l : Int) : Int := if f < 0 ∨ l < 0 then 0 else max f 1 - 1
def sideL (n f l : Int) : Int := if f < 0 ∨ l < 0 then 0 else lastA n l
def sideOk (n f l : Int) : Bool := decide (0 ≤ f ∧ 0 ≤ l ∧ max f 1 ≤ lastA n l)
end Go.Proofs.Ytdfiknemfpkdmaa
