/- Bytes as rows: the walk of the reference's function. -/
import Derived.Test.YtmpbgjnkkapijaaDec2
namespace Go.Proofs.Ytmpbgjnkkapijaa
open Go.RowKit
set_option linter.unusedVariables false
set_option linter.unusedSimpArgs false

def at0 (l : List Int) (m : Nat) : Int := l.getD m 0
theorem at0_mem {l : List Int} {m : Nat} (hm : m < l.length) : at0 l m = l[m] := by unfold at0; rw [List.getD_eq_getElem?_getD, List.getElem?_eq_getElem hm]; rfl
theorem Rd.byte {w : World} {a : Option Addr} {bs : List Int} (h : Rd (encI .u8) 1 w a bs) (h0 : 0 < bs.length) : ∃ g o, a = some ⟨g, o, none⟩ ∧ g < w.heap.size ∧ ∀ m, m < bs.length → w.cell? ⟨g, o + m, none⟩ = some (.int .u8 (at0 bs m)) := by
  obtain ⟨g, o, e, hlt, hc⟩ := h h0
  refine ⟨g, o, e, hlt, fun m hm => ?_⟩
  have := hc m hm 0 (.int .u8 (at0 bs m)) (by rw [at0_mem hm]; rfl)
  simpa using this
/-- bytes 1 to k - 1 of the run at j + 7 are those of the run ahead of it -/
def eqTo (bs : List Int) (j : Nat) : Nat → Bool
  | 0 => true
  | k + 1 => eqTo bs j k && (k == 0 || at0 bs (j + 7 + k) == at0 bs (j + k))
theorem clOf_inj {a b c d r k a' b' c' d' r' k' : Int} (ha : isByte a) (hb : isByte b) (hc : isByte c) (hd : isByte d) (hr : isByte r) (hk : 0 ≤ k) (hk' : ¬ k > 1)
    (ha' : isByte a') (hb' : isByte b') (hc' : isByte c') (hd' : isByte d') (hr' : isByte r') (hq : 0 ≤ k') (hq' : ¬ k' > 1) : clOf a b c d r k = clOf a' b' c' d' r' k' ↔ (a = a' ∧ b = b' ∧ c = c' ∧ d = d' ∧ r = r' ∧ k = k') := by
  constructor
  · intro h
    have h1 := enc_glyph ha hb hc hd hr hk hk' 1
    rw [h, enc_glyph ha' hb' hc' hd' hr' hq hq' 1] at h1
    simp only [List.cons.injEq, true_and, and_true] at h1
    obtain ⟨h1, h2, h3, h4, h5, h6⟩ := h1
    exact ⟨h1.symm, h2.symm, h3.symm, h4.symm, h5.symm, h6.symm⟩
  · rintro ⟨rfl, rfl, rfl, rfl, rfl, rfl⟩; rfl
theorem drop7 {l : List Int} {j : Nat} (h : j + 7 ≤ l.length) : l.drop j = at0 l j :: at0 l (j + 1) :: at0 l (j + 2) :: at0 l (j + 3) :: at0 l (j + 4) :: at0 l (j + 5) :: at0 l (j + 6) :: l.drop (j + 7) := by
  have g : ∀ m (hm : m < l.length), at0 l m = l[m] := fun m hm => at0_mem hm
  rw [List.drop_eq_getElem_cons (by omega), List.drop_eq_getElem_cons (by omega), List.drop_eq_getElem_cons (by omega), List.drop_eq_getElem_cons (by omega), List.drop_eq_getElem_cons (by omega), List.drop_eq_getElem_cons (by omega), List.drop_eq_getElem_cons (by omega),
    g j (by omega), g (j + 1) (by omega), g (j + 2) (by omega), g (j + 3) (by omega), g (j + 4) (by omega), g (j + 5) (by omega), g (j + 6) (by omega)]
/-- the run at j -/
def rnAt (bs : List Int) (j : Nat) : Rn := ⟨clOf (at0 bs (j + 1)) (at0 bs (j + 2)) (at0 bs (j + 3)) (at0 bs (j + 4)) (at0 bs (j + 5)) (at0 bs (j + 6)), (at0 bs j).toNat⟩
/-- what is known of the run ahead of j -/
def ahead (bs : List Int) (last : Rn) (j : Nat) : Prop := (j = 0 ∧ last = zeroR) ∨ ∃ i, j = i + 7 ∧ last = rnAt bs i ∧ at0 bs i ≠ 0 ∧ ¬ at0 bs (i + 6) > 1
theorem byte_at {bs : List Int} (h : ∀ b ∈ bs, isByte b) (m : Nat) : isByte (at0 bs m) := by
  unfold at0
  rw [List.getD_eq_getElem?_getD]
  rcases Nat.lt_or_ge m bs.length with hm | hm
  · rw [List.getElem?_eq_getElem hm]; exact h _ (List.getElem_mem hm)
  · rw [List.getElem?_eq_none hm]; exact ⟨by simp, by simp⟩
theorem goes_eqTo {bs : List Int} (h : ∀ b ∈ bs, isByte b) (i : Nat) (h0 : at0 bs i ≠ 0) (h1 : ¬ at0 bs (i + 6) > 1) (h2 : ¬ at0 bs (i + 7 + 6) > 1) : goesOn (rnAt bs i) (rnAt bs (i + 7)) ↔ at0 bs i < 255 ∧ eqTo bs i 7 = true := by
  have hi := byte_at h i
  have hl : 0 < (rnAt bs i).n ∧ ((rnAt bs i).n < 255 ↔ at0 bs i < 255) := by
    unfold isByte at hi; simp only [rnAt]; omega
  unfold goesOn
  have hc : (rnAt bs i).c = (rnAt bs (i + 7)).c ↔ eqTo bs i 7 = true := by
    simp only [rnAt]
    rw [clOf_inj (byte_at h _) (byte_at h _) (byte_at h _) (byte_at h _) (byte_at h _) (byte_at h _).1 h1 (byte_at h _) (byte_at h _) (byte_at h _) (byte_at h _) (byte_at h _) (byte_at h _).1 h2]
    simp only [eqTo, Bool.and_eq_true, Bool.or_eq_true, beq_iff_eq, Nat.add_eq, Nat.reduceEqDiff, false_or, true_or, true_and, Nat.succ_ne_zero]
    constructor
    · rintro ⟨e1, e2, e3, e4, e5, e6⟩
      simp_all
    · intro hh
      simp_all
  rw [hc, hl.2]
  exact ⟨fun hh => hh.2, fun hh => ⟨hl.1, hh⟩⟩
theorem dec_at {bs : List Int} (last : Rn) (j : Nat) (hj : j + 7 ≤ bs.length) : dec last (bs.drop j) =
    if at0 bs j = 0 ∨ at0 bs (j + 6) > 1 then none else if goesOn last (rnAt bs j) then none else (dec (rnAt bs j) (bs.drop (j + 7))).map (List.replicate (rnAt bs j).n (rnAt bs j).c ++ ·) := by
  rw [drop7 hj]; rfl
end Go.Proofs.Ytmpbgjnkkapijaa
