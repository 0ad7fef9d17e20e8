/- Renditions: what the functions of rend and of the reference return.  -/
import Derived.Test.YtdfiknemfpkdmaaOwn
namespace Go.Proofs.Ytdfiknemfpkdmaa
open Go.RowKit
set_option linter.unusedVariables false
set_option linter.unusedSimpArgs false

/-- A rendition, part by part: bold, underlined, blinking, reverse, hidden. -/
structure Fl where
  b : Bool
  u : Bool
  k : Bool
  r : Bool
  h : Bool
  deriving DecidableEq
def bi (x : Bool) (n : Int) : Int := if x then n else 0
def Fl.num (f : Fl) : Int := bi f.b 1 + bi f.u 2 + bi f.k 4 + bi f.r 8 + bi f.h 16
def Fl.of (r : Int) : Fl := ⟨r % 2 == 1, r / 2 % 2 == 1, r / 4 % 2 == 1, r / 8 % 2 == 1, r / 16 % 2 == 1⟩
def Fl.no : Fl := ⟨false, false, false, false, false⟩
def Fl.cells (f : Fl) : Array Value := #[.bool f.b, .bool f.u, .bool f.k, .bool f.r, .bool f.h]
def oneF (f : Fl) (n : Int) : Fl :=
  if n = 0 then Fl.no else if n = 1 then { f with b := true } else if n = 22 then { f with b := false } else if n = 4 then { f with u := true } else if n = 24 then { f with u := false }
  else if n = 5 then { f with k := true } else if n = 25 then { f with k := false } else if n = 7 then { f with r := true } else if n = 27 then { f with r := false }
  else if n = 8 then { f with h := true } else if n = 28 then { f with h := false } else f
def turnF (f : Fl) (n : Int) : Fl :=
  if n = 0 then ⟨!f.b, !f.u, !f.k, !f.r, f.h⟩ else if n = 1 then { f with b := !f.b } else if n = 4 then { f with u := !f.u } else if n = 5 then { f with k := !f.k }
  else if n = 7 then { f with r := !f.r } else if n = 8 then { f with h := !f.h } else f
def partI (n : Int) : Int := if n = 1 then 1 else if n = 4 then 2 else if n = 5 then 4 else if n = 7 then 8 else if n = 8 then 16 else 0
def endedI (n : Int) : Int := if n = 22 then 1 else if n = 24 then 2 else if n = 25 then 4 else if n = 27 then 8 else if n = 28 then 16 else 0

theorem Fl.num_of (f : Fl) : Fl.of f.num = f := by
  obtain ⟨b, u, k, r, h⟩ := f
  cases b <;> cases u <;> cases k <;> cases r <;> cases h <;> decide
theorem Fl.num_bd (f : Fl) : 0 ≤ f.num ∧ f.num ≤ 31 := by
  obtain ⟨b, u, k, r, h⟩ := f
  cases b <;> cases u <;> cases k <;> cases r <;> cases h <;> decide
theorem and31_all : ∀ k : Fin 256, (k.val : Int) % 32 = (Fl.of (k.val : Int)).num := by decide +kernel
theorem and31 {r : Int} (h : 0 ≤ r ∧ r ≤ 255) : r % 32 = (Fl.of r).num := by
  have := and31_all ⟨r.toNat, by omega⟩
  simpa [show ((r.toNat : Nat) : Int) = r by omega] using this
theorem one_all (f : Fl) : ∀ m ∈ [(1 : Int), 4, 5, 7, 8, 22, 24, 25, 27, 28, 2], bits .andNot .u8 (bits .or .u8 f.num (partI m)) (endedI m) = (oneF f m).num := by
  obtain ⟨b, u, k, r, h⟩ := f
  cases b <;> cases u <;> cases k <;> cases r <;> cases h <;> decide +kernel
theorem turn_all (f : Fl) : ∀ m ∈ [(1 : Int), 4, 5, 7, 8, 2], bits .xor .u8 f.num (partI m) = (turnF f m).num := by
  obtain ⟨b, u, k, r, h⟩ := f
  cases b <;> cases u <;> cases k <;> cases r <;> cases h <;> decide +kernel
theorem turn_zero (f : Fl) : bits .xor .u8 f.num 15 = (turnF f 0).num := by
  obtain ⟨b, u, k, r, h⟩ := f
  cases b <;> cases u <;> cases k <;> cases r <;> cases h <;> decide +kernel
theorem one_bits (f : Fl) (n : Int) (h0 : n ≠ 0) : bits .andNot .u8 (bits .or .u8 f.num (partI n)) (endedI n) = (oneF f n).num := by
  by_cases h : n ∈ [(1 : Int), 4, 5, 7, 8, 22, 24, 25, 27, 28]
  · simp at h
    exact one_all f n (by simp; omega)
  · simp at h
    have e1 : partI n = partI 2 := by unfold partI; simp [h]
    have e2 : endedI n = endedI 2 := by unfold endedI; simp [h]
    have e3 : oneF f n = oneF f 2 := by unfold oneF; simp [h, h0]
    rw [e1, e2, e3]
    exact one_all f 2 (by simp)
theorem turn_bits (f : Fl) (n : Int) (h0 : n ≠ 0) : bits .xor .u8 f.num (partI n) = (turnF f n).num := by
  by_cases h : n ∈ [(1 : Int), 4, 5, 7, 8]
  · simp at h
    exact turn_all f n (by simp; omega)
  · simp at h
    have e1 : partI n = partI 2 := by unfold partI; simp [h]
    have e3 : turnF f n = turnF f 2 := by unfold turnF; simp [h, h0]
    rw [e1, e3]
    exact turn_all f 2 (by simp)

def foldR (F : Fl → Int → Fl) (f : Fl) (xs : List Int) : Fl := if xs = [] then F f 0 else xs.foldl F f
theorem foldl_take (F : Fl → Int → Fl) (f : Fl) (xs : List Int) (k : Nat) (h : k < xs.length) : (xs.take (k + 1)).foldl F f = F ((xs.take k).foldl F f) xs[k] := by
  rw [List.take_succ_eq_append_getElem h, List.foldl_append]; rfl

end Go.Proofs.Ytdfiknemfpkdmaa
