/- Acts on pages among a law's arguments.  -/
import Derived.Test.YtpahcgappaifnaaFrameLine
import Derived.Test.YtpahcgappaifnaaPgAct
namespace Go.Proofs.Ytpahcgappaifnaa
open Go.ChangeShapes Go.WideShapes Go.ChangeAt Go.RowKit
set_option linter.unusedVariables false
set_option linter.unusedSimpArgs false

instance : Inhabited ActD := ⟨⟨0, 0, ⟨0, 0, 0, 0⟩, 0, 0, ⟨0, 0, false⟩, none, 0, [], none, 0, []⟩⟩
/-- a list of numbers, of cells, as it stands in one cell -/
theorem ints_cell {H : Type} {enc : TypeId × Value → H} {W : World} {n : Nat} {cs : List Value} {x : DataW H × List MemPlace} (h : DataW.trod enc Try.prog W 0 (fun _ => true) true n 55 cs = some x) :
    ∃ (a : Option Addr) (c : Nat) (xs : List Int), cs = [.slice a xs.length c] ∧ Ints W a xs ∧ xs.length ≤ c ∧ c ≤ maxLen ∧ (a = none → c = 0) := by
  have hs : (cs = [.slice none 0 0]) ∨ ∃ x m c, cs = [.slice (some x) m c] := by
    rcases Go.Deep.open_slice Try.underlying55 h with ⟨hcs, _⟩ | ⟨x, len, cap, m, n, D, Pl, hcs, _⟩
    · exact .inl hcs
    · exact .inr ⟨_, _, _, hcs⟩
  rcases hs with rfl | ⟨ad, m, c, rfl⟩
  · exact ⟨none, 0, [], rfl, fun h0 => absurd h0 (by simp), by simp, by simp, fun _ => rfl⟩
  · obtain ⟨a, c', xs, e, rd, hl, hc, _, _⟩ := open_ints_rd (v := .slice (some ad) m c) (d := x.1) (ps := x.2) Try.underlying55 Try.underlying3 (by kernel_rfl) ⟨_, _, _, rfl⟩ ⟨n, h⟩
    injection e with e1 e2 e3
    subst e1 e2 e3
    exact ⟨_, _, xs, rfl, rd, hl, hc, fun e => by cases e⟩
theorem cells_cell {H : Type} {enc : TypeId × Value → H} {W : World} {n : Nat} {cs : List Value} {x : DataW H × List MemPlace} (h : DataW.trod enc Try.prog W 0 (fun _ => true) true n 54 cs = some x) :
    ∃ (a : Option Addr) (c : Nat) (xs : List Cl), cs = [.slice a xs.length c] ∧ Rd encC 3 W a xs ∧ xs.length ≤ c ∧ c ≤ maxLen ∧ (a = none → c = 0) ∧ ∀ y ∈ xs, y.ok := by
  have hs : (cs = [.slice none 0 0]) ∨ ∃ x m c, cs = [.slice (some x) m c] := by
    rcases Go.Deep.open_slice Try.underlying54 h with ⟨hcs, _⟩ | ⟨x, len, cap, m, n, D, Pl, hcs, _⟩
    · exact .inl hcs
    · exact .inr ⟨_, _, _, hcs⟩
  rcases hs with rfl | ⟨ad, m, c, rfl⟩
  · exact ⟨none, 0, [], rfl, fun h0 => absurd h0 (by simp), by simp, by simp, fun _ => rfl, by simp⟩
  · obtain ⟨a, c', xs, e, rd, hl, hc, ho, _⟩ := open_cells (v := .slice (some ad) m c) (d := x.1) (ps := x.2) ⟨_, _, _, rfl⟩ ⟨n, h⟩
    injection e with e1 e2 e3
    subst e1 e2 e3
    exact ⟨_, _, xs, rfl, rd, hl, hc, (fun e => by cases e), ho⟩
end Go.Proofs.Ytpahcgappaifnaa
