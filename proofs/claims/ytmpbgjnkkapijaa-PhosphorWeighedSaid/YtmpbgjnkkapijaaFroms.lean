/- A rendition out of its letters: plain laws. -/
import Derived.Test.YtmpbgjnkkapijaaLetters
namespace Go.Proofs.Ytmpbgjnkkapijaa
open Go.RowKit
set_option linter.unusedVariables false

def flag (f : Fl) : Nat → Bool
  | 0 => f.b
  | 1 => f.u
  | 2 => f.k
  | 3 => f.r
  | _ => f.h
def chrOf : Nat → UInt8
  | 0 => 98
  | 1 => 117
  | 2 => 107
  | 3 => 114
  | _ => 104
def setF (f : Fl) : Nat → Fl
  | 0 => { f with b := true }
  | 1 => { f with u := true }
  | 2 => { f with k := true }
  | 3 => { f with r := true }
  | _ => { f with h := true }
def posOf (c : UInt8) : Option Nat := if c = 98 then some 0 else if c = 117 then some 1 else if c = 107 then some 2 else if c = 114 then some 3 else if c = 104 then some 4 else none
def fromF (nx : Nat) (f : Fl) : List UInt8 → Option Fl
  | [] => some f
  | c :: cs => match posOf c with
    | none => none
    | some p => if p < nx then none else fromF (p + 1) (setF f p) cs
theorem posOf_some {c : UInt8} {p : Nat} (h : posOf c = some p) : p < 5 ∧ chrOf p = c := by
  unfold posOf at h
  split at h
  · rename_i e; subst e; cases h; decide
  · split at h
    · rename_i e; subst e; cases h; decide
    · split at h
      · rename_i e; subst e; cases h; decide
      · split at h
        · rename_i e; subst e; cases h; decide
        · split at h
          · rename_i e; subst e; cases h; decide
          · cases h
theorem flag_set (f : Fl) (p i : Nat) (hp : p < 5) (hi : i < 5) : flag (setF f p) i = if i = p then true else flag f i := by
  have hp' : p = 0 ∨ p = 1 ∨ p = 2 ∨ p = 3 ∨ p = 4 := by omega
  have hi' : i = 0 ∨ i = 1 ∨ i = 2 ∨ i = 3 ∨ i = 4 := by omega
  rcases hp' with rfl | rfl | rfl | rfl | rfl <;> rcases hi' with rfl | rfl | rfl | rfl | rfl <;> rfl
theorem flag_ext {f g : Fl} (h : ∀ i, i < 5 → flag f i = flag g i) : f = g := by
  obtain ⟨b, u, k, r, d⟩ := f
  obtain ⟨b', u', k', r', d'⟩ := g
  have h0 := h 0 (by omega)
  have h1 := h 1 (by omega)
  have h2 := h 2 (by omega)
  have h3 := h 3 (by omega)
  have h4 := h 4 (by omega)
  simp only [flag] at h0 h1 h2 h3 h4
  subst h0 h1 h2 h3 h4
  rfl
def lettersFrom (f : Fl) (k : Nat) : List UInt8 := (List.range' k (5 - k)).flatMap fun i => bl (flag f i) (chrOf i)
theorem lettersFrom_step (f : Fl) (k : Nat) (h : k < 5) : lettersFrom f k = bl (flag f k) (chrOf k) ++ lettersFrom f (k + 1) := by
  unfold lettersFrom
  rw [show 5 - k = (5 - (k + 1)) + 1 by omega, List.range'_succ, List.flatMap_cons]
theorem lettersFrom_skip (f : Fl) (nx : Nat) : ∀ d, nx + d ≤ 5 → (∀ i, nx ≤ i → i < nx + d → flag f i = false) → lettersFrom f nx = lettersFrom f (nx + d)
  | 0, _, _ => rfl
  | d + 1, hd, h => by
    rw [lettersFrom_skip f nx d (by omega) (fun i h1 h2 => h i h1 (by omega)), lettersFrom_step f (nx + d) (by omega), h (nx + d) (by omega) (by omega)]
    rfl
theorem lettersFrom_all (f : Fl) : lettersFrom f 0 = lettersTo f 5 := by simp [lettersFrom, lettersTo, flag, chrOf, List.range']
theorem from_sound : ∀ (s : List UInt8) (nx : Nat) (f g : Fl), nx ≤ 5 → fromF nx f s = some g → (∀ i, nx ≤ i → i < 5 → flag f i = false) → s = lettersFrom g nx ∧ ∀ i, i < nx → flag g i = flag f i
  | [], nx, f, g, hn, h, h0 => by
    simp only [fromF, Option.some.injEq] at h
    subst h
    refine ⟨?_, fun i _ => rfl⟩
    rw [lettersFrom_skip f nx (5 - nx) (by omega) (fun i h1 h2 => h0 i h1 (by omega)), show nx + (5 - nx) = 5 by omega]
    rfl
  | c :: cs, nx, f, g, hn, h, h0 => by
    simp only [fromF] at h
    split at h
    · cases h
    · rename_i p hp
      obtain ⟨p5, hc⟩ := posOf_some hp
      split at h
      · cases h
      · rename_i hnp
        obtain ⟨i1, i2⟩ := from_sound cs (p + 1) (setF f p) g (by omega) h (fun i h1 h2 => by rw [flag_set f p i p5 h2, if_neg (by omega)]; exact h0 i (by omega) h2)
        have hg : ∀ i, i < p → flag g i = flag f i := fun i hi => by rw [i2 i (by omega), flag_set f p i p5 (by omega), if_neg (by omega)]
        refine ⟨?_, fun i hi => hg i (by omega)⟩
        rw [lettersFrom_skip g nx (p - nx) (by omega) (fun i h1 h2 => by rw [hg i (by omega)]; exact h0 i h1 (by omega)), show nx + (p - nx) = p by omega, lettersFrom_step g p p5, i2 p (by omega), flag_set f p p p5 p5, if_pos rfl, bl_t, hc, ← i1]
        rfl
theorem from_letters (f : Fl) : fromF 0 Fl.no (lettersTo f 5) = some f := by
  obtain ⟨b, u, k, r, h⟩ := f
  cases b <;> cases u <;> cases k <;> cases r <;> cases h <;> decide +kernel
theorem from_only {s : List UInt8} {g : Fl} (h : fromF 0 Fl.no s = some g) : s = lettersTo g 5 := by
  rw [← lettersFrom_all]
  exact (from_sound s 0 Fl.no g (by omega) h (fun i _ _ => by unfold flag Fl.no; split <;> rfl)).1
theorem letters_inj {f g : Fl} (h : lettersTo f 5 = lettersTo g 5) : f = g := by
  have := from_letters f
  rw [h, from_letters g] at this
  injection this with this
  exact this.symm
theorem letters_size (f : Fl) : (lettersTo f 5).length + 1 = (numsTo f 5).length := by
  obtain ⟨b, u, k, r, h⟩ := f
  cases b <;> cases u <;> cases k <;> cases r <;> cases h <;> rfl
theorem nums_make (f g : Fl) : foldR oneF g (numsTo f 5) = f := by
  obtain ⟨b, u, k, r, h⟩ := f
  obtain ⟨b', u', k', r', h'⟩ := g
  cases b <;> cases u <;> cases k <;> cases r <;> cases h <;> rfl
theorem or_set (f : Fl) : bits .or .u8 f.num 1 = (setF f 0).num ∧ bits .or .u8 f.num 2 = (setF f 1).num ∧ bits .or .u8 f.num 4 = (setF f 2).num ∧ bits .or .u8 f.num 8 = (setF f 3).num ∧ bits .or .u8 f.num 16 = (setF f 4).num := by
  obtain ⟨b, u, k, r, h⟩ := f
  cases b <;> cases u <;> cases k <;> cases r <;> cases h <;> decide +kernel
end Go.Proofs.Ytmpbgjnkkapijaa
