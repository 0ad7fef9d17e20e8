/- Rows of cells as runs, as bytes, and back. No program in sight. -/
import Derived.Test.YtmpbgjnkkapijaaCell
namespace Go.Proofs.Ytmpbgjnkkapijaa
open Go.RowKit
set_option linter.unusedVariables false

/-- A run: a cell, and how often. -/
structure Rn where
  c : Cl
  n : Nat
  deriving DecidableEq
def merge (r : Rn) : List Cl → List Rn
  | [] => [r]
  | x :: xs => if r.c = x ∧ r.n < 255 then merge ⟨r.c, r.n + 1⟩ xs else r :: merge ⟨x, 1⟩ xs
def runsL : List Cl → List Rn
  | [] => []
  | x :: xs => merge ⟨x, 1⟩ xs
def stepR (rs : List Rn) (c : Cl) : List Rn :=
  match rs[rs.length - 1]? with
  | none => rs ++ [⟨c, 1⟩]
  | some r => if r.c = c ∧ r.n < 255 then rs.set (rs.length - 1) ⟨r.c, r.n + 1⟩ else rs ++ [⟨c, 1⟩]
theorem merge_pos (r : Rn) (xs : List Cl) : 0 < (merge r xs).length := by
  induction xs generalizing r with
  | nil => simp [merge]
  | cons x xs ih => unfold merge; split <;> simp [ih]
theorem stepR_cons (r : Rn) (rs : List Rn) (c : Cl) (h : 0 < rs.length) : stepR (r :: rs) c = r :: stepR rs c := by
  rcases rs with _ | ⟨s, rs⟩
  · simp at h
  · unfold stepR
    simp only [List.length_cons, Nat.add_sub_cancel]
    rw [show (r :: s :: rs)[rs.length + 1]? = (s :: rs)[rs.length]? by simp]
    cases (s :: rs)[rs.length]? with
    | none => rfl
    | some q => simp only; split <;> simp
theorem merge_snoc (r : Rn) (xs : List Cl) (c : Cl) : merge r (xs ++ [c]) = stepR (merge r xs) c := by
  induction xs generalizing r with
  | nil =>
    simp only [List.nil_append, merge, stepR]
    simp
  | cons x xs ih =>
    simp only [List.cons_append, merge]
    split
    · exact ih _
    · rw [ih, stepR_cons _ _ _ (merge_pos _ _)]
theorem runs_snoc (xs : List Cl) (c : Cl) : runsL (xs ++ [c]) = stepR (runsL xs) c := by
  rcases xs with _ | ⟨x, xs⟩
  · simp [runsL, merge, stepR]
  · simp only [List.cons_append, runsL]
    exact merge_snoc _ _ _
def Rn.ok (r : Rn) : Prop := r.c.ok ∧ 1 ≤ r.n ∧ r.n ≤ 255
theorem merge_ok (r : Rn) (xs : List Cl) (hr : r.ok) (hx : ∀ x ∈ xs, x.ok) : ∀ q ∈ merge r xs, q.ok := by
  induction xs generalizing r with
  | nil => intro q hq; simp [merge] at hq; subst hq; exact hr
  | cons x xs ih =>
    unfold merge
    split
    · rename_i h
      exact ih _ ⟨hr.1, by have := hr.2; simp only; omega⟩ (fun y hy => hx y (List.mem_cons_of_mem _ hy))
    · intro q hq
      rcases List.mem_cons.1 hq with rfl | hq
      · exact hr
      · exact ih _ ⟨hx x (List.mem_cons_self ..), by simp, by simp⟩ (fun y hy => hx y (List.mem_cons_of_mem _ hy)) q hq
theorem runs_ok (xs : List Cl) (hx : ∀ x ∈ xs, x.ok) : ∀ q ∈ runsL xs, q.ok := by
  rcases xs with _ | ⟨x, xs⟩
  · simp [runsL]
  · exact merge_ok _ _ ⟨hx x (List.mem_cons_self ..), by simp, by simp⟩ (fun y hy => hx y (List.mem_cons_of_mem _ hy))
theorem merge_len (r : Rn) (xs : List Cl) : (merge r xs).length ≤ xs.length + 1 := by
  induction xs generalizing r with
  | nil => simp [merge]
  | cons x xs ih =>
    unfold merge
    split
    · have := ih ⟨r.c, r.n + 1⟩; simp only [List.length_cons]; omega
    · have := ih ⟨x, 1⟩; simp only [List.length_cons]; omega
theorem runs_len (xs : List Cl) : (runsL xs).length ≤ xs.length := by
  rcases xs with _ | ⟨x, xs⟩
  · simp [runsL]
  · exact merge_len _ _

/-- a run as bytes -/
def encRun (r : Rn) : List Int :=
  [(r.n : Int), r.c.g % 4294967296 / 16777216, r.c.g % 4294967296 / 65536 % 256, r.c.g % 4294967296 / 256 % 256, r.c.g % 4294967296 % 256, r.c.r, bi r.c.k 1]
def encL (rs : List Rn) : List Int := rs.flatMap encRun
theorem encRun_len (r : Rn) : (encRun r).length = 7 := rfl
theorem encL_len : ∀ rs : List Rn, (encL rs).length = rs.length * 7
  | [] => rfl
  | r :: rs => by simp only [encL, List.flatMap_cons, List.length_append, encRun_len, List.length_cons]; rw [show (List.flatMap encRun rs).length = rs.length * 7 from encL_len rs]; omega
theorem encL_append (rs ss : List Rn) : encL (rs ++ ss) = encL rs ++ encL ss := by simp [encL]
def isByte (n : Int) : Prop := 0 ≤ n ∧ n ≤ 255
theorem encRun_byte (r : Rn) (h : r.ok) : ∀ b ∈ encRun r, isByte b := by
  obtain ⟨⟨h1, h2⟩, h3, h4⟩ := h
  intro b hb
  have hk : 0 ≤ bi r.c.k 1 ∧ bi r.c.k 1 ≤ 1 := by cases r.c.k <;> simp [bi]
  simp only [encRun, List.mem_cons, List.not_mem_nil, or_false] at hb
  unfold isByte
  rcases hb with rfl | rfl | rfl | rfl | rfl | rfl | rfl <;> omega
theorem encL_byte (rs : List Rn) (h : ∀ r ∈ rs, r.ok) : ∀ b ∈ encL rs, isByte b := by
  intro b hb
  obtain ⟨r, hr, hb⟩ := List.mem_flatMap.1 hb
  exact encRun_byte r (h r hr) b hb

def glyphOf (a b c d : Int) : Int := if a * 16777216 + b * 65536 + c * 256 + d ≥ 2147483648 then a * 16777216 + b * 65536 + c * 256 + d - 4294967296 else a * 16777216 + b * 65536 + c * 256 + d
def clOf (a b c d r k : Int) : Cl := ⟨glyphOf a b c d, r, k == 1⟩
/-- does a run go on from the one ahead of it, which was not full? -/
def goesOn (last r : Rn) : Prop := 0 < last.n ∧ last.n < 255 ∧ last.c = r.c
instance (a b : Rn) : Decidable (goesOn a b) := by unfold goesOn; exact inferInstance
def dec (last : Rn) : List Int → Option (List Cl)
  | [] => some []
  | n :: a :: b :: c :: d :: r :: k :: rest =>
    if n = 0 ∨ k > 1 then none
    else if goesOn last ⟨clOf a b c d r k, n.toNat⟩ then none
    else (dec ⟨clOf a b c d r k, n.toNat⟩ rest).map (List.replicate n.toNat (clOf a b c d r k) ++ ·)
  | _ => none
def zeroR : Rn := ⟨⟨0, 0, false⟩, 0⟩
theorem dec_short (last : Rn) (bs : List Int) (h0 : 0 < bs.length) (h : bs.length < 7) : dec last bs = none := by
  rcases bs with _ | ⟨x1, _ | ⟨x2, _ | ⟨x3, _ | ⟨x4, _ | ⟨x5, _ | ⟨x6, _ | ⟨x7, t⟩⟩⟩⟩⟩⟩⟩
  · simp at h0
  · simp [dec]
  · simp [dec]
  · simp [dec]
  · simp [dec]
  · simp [dec]
  · simp [dec]
  · simp only [List.length_cons] at h; omega
theorem glyph_enc {c : Cl} (h : c.ok) : clOf (c.g % 4294967296 / 16777216) (c.g % 4294967296 / 65536 % 256) (c.g % 4294967296 / 256 % 256) (c.g % 4294967296 % 256) c.r (bi c.k 1) = c := by
  obtain ⟨⟨h1, h2⟩, h3⟩ := h
  obtain ⟨g, r, k⟩ := c
  simp only at h1 h2 h3
  simp only [clOf, glyphOf, Cl.mk.injEq, true_and]
  refine ⟨?_, by cases k <;> simp [bi]⟩
  split <;> omega
theorem enc_glyph {a b c d r k : Int} (ha : isByte a) (hb : isByte b) (hc : isByte c) (hd : isByte d) (hr : isByte r) (hk : 0 ≤ k) (hk' : ¬ k > 1) (n : Nat) :
    encRun ⟨clOf a b c d r k, n⟩ = [(n : Int), a, b, c, d, r, k] := by
  unfold isByte at ha hb hc hd hr
  have e : glyphOf a b c d % 4294967296 = a * 16777216 + b * 65536 + c * 256 + d := by unfold glyphOf; split <;> omega
  have hk2 : k = 0 ∨ k = 1 := by omega
  simp only [encRun, clOf, e, List.cons.injEq, true_and, and_true]
  refine ⟨by omega, by omega, by omega, by omega, ?_⟩
  rcases hk2 with rfl | rfl <;> simp [bi]
theorem clOf_ok {a b c d r k : Int} (ha : isByte a) (hb : isByte b) (hc : isByte c) (hd : isByte d) (hr : isByte r) : (clOf a b c d r k).ok := by
  unfold isByte at ha hb hc hd hr
  unfold clOf Cl.ok glyphOf
  simp only
  split <;> omega
theorem dec_run (last r : Rn) (rest : List Int) (h : r.ok) (hg : ¬ goesOn last r) : dec last (encRun r ++ rest) = (dec r rest).map (List.replicate r.n r.c ++ ·) := by
  obtain ⟨h1, h2, h3⟩ := h
  simp only [encRun, List.cons_append, List.nil_append, dec]
  rw [glyph_enc h1, Int.toNat_natCast, if_neg (by have : bi r.c.k 1 ≤ 1 := (by cases r.c.k <;> simp [bi]); omega), if_neg hg]
theorem dec_merge (xs : List Cl) : ∀ (r last : Rn), r.ok → (∀ x ∈ xs, x.ok) → ¬ goesOn last r → dec last (encL (merge r xs)) = some (List.replicate r.n r.c ++ xs) := by
  induction xs with
  | nil =>
    intro r last hr _ hg
    have := dec_run last r [] hr hg
    simp only [List.append_nil] at this
    simp [merge, encL, this, dec]
  | cons x xs ih =>
    intro r last hr hx hg
    have hx' : ∀ y ∈ xs, y.ok := fun y hy => hx y (List.mem_cons_of_mem _ hy)
    unfold merge
    split
    · rename_i h
      rw [ih ⟨r.c, r.n + 1⟩ last ⟨hr.1, by have := hr.2; simp only; omega⟩ hx' hg]
      simp only [List.replicate_succ', List.append_assoc, List.cons_append, List.nil_append]
      rw [h.1]
    · rename_i h
      rw [show encL (r :: merge ⟨x, 1⟩ xs) = encRun r ++ encL (merge ⟨x, 1⟩ xs) from rfl, dec_run last r _ hr hg,
        ih ⟨x, 1⟩ r ⟨hx x (List.mem_cons_self ..), by simp, by simp⟩ hx' (by unfold goesOn; simp only; intro hh; exact h ⟨hh.2.2, hh.2.1⟩)]
      simp
theorem dec_enc (xs : List Cl) (hx : ∀ x ∈ xs, x.ok) : dec zeroR (encL (runsL xs)) = some xs := by
  rcases xs with _ | ⟨x, xs⟩
  · rfl
  · have := dec_merge xs ⟨x, 1⟩ zeroR ⟨hx x (List.mem_cons_self ..), by simp, by simp⟩ (fun y hy => hx y (List.mem_cons_of_mem _ hy)) (by simp [goesOn, zeroR])
    exact this
theorem merge_rep (c : Cl) (ys : List Cl) : ∀ (k m : Nat), m + k ≤ 255 → merge ⟨c, m⟩ (List.replicate k c ++ ys) = merge ⟨c, m + k⟩ ys
  | 0, m, _ => by simp
  | k + 1, m, h => by
    rw [List.replicate_succ, List.cons_append, merge, if_pos ⟨rfl, by simp only; omega⟩, merge_rep c ys k (m + 1) (by omega)]
    congr 2
    omega
theorem dec_canon : ∀ (bs : List Int) (last : Rn) (ys : List Cl), (∀ b ∈ bs, isByte b) → dec last bs = some ys →
    (0 < last.n → merge last ys = last :: runsL ys) ∧ encL (runsL ys) = bs ∧ ∀ y ∈ ys, y.ok
  | [], last, ys, _, h => by
    simp only [dec, Option.some.injEq] at h
    subst h
    simp [merge, runsL, encL]
  | n :: a :: b :: c :: d :: r :: k :: rest, last, ys, hb, h => by
    have b0 := hb n (by simp)
    have b1 := hb a (by simp)
    have b2 := hb b (by simp)
    have b3 := hb c (by simp)
    have b4 := hb d (by simp)
    have b5 := hb r (by simp)
    have b6 := hb k (by simp)
    simp only [dec] at h
    split at h
    · cases h
    · rename_i h1
      split at h
      · cases h
      · rename_i hg
        obtain ⟨ys', h2, rfl⟩ := Option.map_eq_some_iff.1 h
        obtain ⟨i1, i2, i3⟩ := dec_canon rest _ ys' (fun x hx => hb x (by simp [hx])) h2
        unfold isByte at b0 b6
        have hn : 1 ≤ n.toNat := by omega
        obtain ⟨m, hm⟩ : ∃ m, n.toNat = m + 1 := ⟨n.toNat - 1, by omega⟩
        have e1 : ((n.toNat : Nat) : Int) = n := by omega
        have hrun : runsL (List.replicate n.toNat (clOf a b c d r k) ++ ys') = ⟨clOf a b c d r k, n.toNat⟩ :: runsL ys' := by
          rw [← i1 (by simp only; omega), hm, List.replicate_succ, List.cons_append, runsL, merge_rep _ _ _ _ (by omega), Nat.add_comm]
        refine ⟨fun hl => ?_, ?_, ?_⟩
        · simp only [hm, List.replicate_succ, List.cons_append, runsL, merge]
          rw [if_neg]
          intro hh
          exact hg ⟨hl, hh.2, hh.1⟩
        · rw [hrun]
          show encRun _ ++ encL (runsL ys') = _
          rw [i2, enc_glyph b1 b2 b3 b4 b5 (by omega) (by omega), e1]
          rfl
        · intro y hy
          rcases List.mem_append.1 hy with hy | hy
          · rw [(List.mem_replicate.1 hy).2]; exact clOf_ok b1 b2 b3 b4 b5
          · exact i3 y hy
  | [x1], last, ys, _, h => by simp [dec] at h
  | [x1, x2], last, ys, _, h => by simp [dec] at h
  | [x1, x2, x3], last, ys, _, h => by simp [dec] at h
  | [x1, x2, x3, x4], last, ys, _, h => by simp [dec] at h
  | [x1, x2, x3, x4, x5], last, ys, _, h => by simp [dec] at h
  | [x1, x2, x3, x4, x5, x6], last, ys, _, h => by simp [dec] at h
end Go.Proofs.Ytmpbgjnkkapijaa
