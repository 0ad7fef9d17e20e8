/- Pages: what an act leaves alone: the cells outside of its box, the sizes of the lines. Plain.  -/
import Derived.Test.YtignkkejkknddaaGreatPgE
import Derived.Test.YtignkkejkknddaaGreatLineE
import Derived.Test.YtignkkejkknddaaGreatPgB
import Derived.Test.YtignkkejkknddaaGreatPgNew
namespace Go.Proofs.YtignkkejkknddaaGreat
open Go.RowKit
set_option linter.unusedVariables false
set_option linter.unusedSimpArgs false

theorem rowsJ_getD {S : PgS} {t j : Nat} {g : Nat → List Cl × Int → List Cl × Int} {i : Nat} (hi : i < S.rows.length) : (rowsJ S t g j).rows.getD i ([], 0) = if t ≤ i ∧ i < t + j then g i (S.rows.getD i ([], 0)) else S.rows.getD i ([], 0) := by
  have h' : i < (rowsJ S t g j).rows.length := by rw [rowsJ_len]; exact hi
  rw [List.getD_eq_getElem?_getD, List.getElem?_eq_getElem h', Option.getD_some, rowsJ_get hi h', List.getD_eq_getElem?_getD, List.getElem?_eq_getElem hi, Option.getD_some]
end Go.Proofs.YtignkkejkknddaaGreat
/- Pages: plain laws of moving twice, and of moving all away.  -/
namespace Go.Proofs.YtignkkejkknddaaGreat
open Go.RowKit
set_option linter.unusedVariables false
set_option linter.unusedSimpArgs false

/-- a span laid over -/
theorem layCut_get (xs ys : List Cl) (l r : Int) (hl : ys.length = xs.length) (h0 : 0 ≤ l) (hlr : l ≤ r) (hr : r ≤ xs.length) (k : Nat) : (layR xs l r (cutR ys l r))[k]? = if l ≤ k ∧ (k : Int) < r then ys[k]? else xs[k]? := by
  have h := offN_le xs.length l r (by omega)
  have hs : spanN xs.length l r = r - l := by unfold spanN; omega
  unfold layR
  rw [layOn_get _ _ _ _ (by rw [List.length_take, cutR_len]; omega), List.length_take, cutR_len, hl]
  by_cases e : r = l
  · rw [if_neg (by omega), if_neg (by omega)]
  · have ho : (offN xs.length l r : Int) = l := by
      unfold offN
      rw [if_neg (by omega)]
      unfold spanA
      omega
    by_cases hk : l ≤ k ∧ (k : Int) < r
    · rw [if_pos (by omega), if_pos hk, List.getElem?_take, if_pos (by omega)]
      unfold cutR
      rw [hl, List.getElem?_take, if_pos (by omega), List.getElem?_drop]
      congr 1
      omega
    · rw [if_neg (by omega), if_neg hk]
structure BxI.Fits (b : BxI) (m n : Nat) : Prop where
  t0 : 0 ≤ b.t
  tb : b.t ≤ b.b
  bm : b.b ≤ m
  l0 : 0 ≤ b.l
  lr : b.l ≤ b.r
  rn : b.r ≤ n
def rowD (S : PgS) (i : Nat) : List Cl × Int := S.rows.getD i ([], 0)
theorem rowD_in {S : PgS} {i : Nat} (h : i < S.rows.length) : rowD S i = S.rows[i] := by simp [rowD, h]
theorem rowD_len {S : PgS} (hS : S.Ok) {i : Nat} (h : i < S.rows.length) : (rowD S i).1.length = S.cols := by rw [rowD_in h]; exact hS.len h
theorem PgS.ext_rows {S T : PgS} (hl : S.rows.length = T.rows.length) (hc : S.cols = T.cols) (h : ∀ i, i < S.rows.length → rowD S i = rowD T i) : S = T := by
  cases S with
  | mk rs c => cases T with
    | mk rt d =>
      simp only at hc
      subst hc
      congr 1
      refine List.ext_getElem hl fun i h1 h2 => ?_
      have := h i h1
      rwa [rowD_in h1, rowD_in h2] at this
section
variable {S : PgS} {b : BxI}
theorem moveS_len {n : Int} : (moveS S b n).rows.length = S.rows.length := rowsJ_len
theorem move_cell (hS : S.Ok) (hb : b.Fits S.rows.length S.cols) (n : Int) {i : Nat} (hi : i < S.rows.length) (k : Nat) :
    (rowD (moveS S b n) i).1[k]? = if b.t ≤ i ∧ (i : Int) < b.b ∧ b.l ≤ k ∧ (k : Int) < b.r then (moveSrc S b n i).1[k]? else (rowD S i).1[k]? := by
  have h1 := hb.t0; have h2 := hb.tb; have h3 := hb.bm; have h4 := hb.l0; have h5 := hb.lr; have h6 := hb.rn
  have hl := rowD_len hS hi
  have hm := moveSrc_len hS hb.t0 hb.bm n i
  unfold moveS
  rw [show rowD (rowsJ S b.t.toNat (moveRow S b n) (b.b - b.t).toNat) i = if b.t.toNat ≤ i ∧ i < b.t.toNat + (b.b - b.t).toNat then moveRow S b n i (rowD S i) else rowD S i from rowsJ_getD hi]
  by_cases hin : b.t ≤ i ∧ (i : Int) < b.b
  · rw [if_pos (by omega)]
    unfold moveRow
    by_cases hw : b.r - b.l < S.cols
    · rw [if_pos hw]
      simp only
      rw [layCut_get _ _ _ _ (by rw [hm, hl]) h4 h5 (by rw [hl]; exact h6)]
      by_cases hk : b.l ≤ k ∧ (k : Int) < b.r
      · rw [if_pos hk, if_pos ⟨hin.1, hin.2, hk⟩]
      · rw [if_neg hk, if_neg (fun h => hk h.2.2)]
    · rw [if_neg hw]
      by_cases hk : b.l ≤ k ∧ (k : Int) < b.r
      · rw [if_pos ⟨hin.1, hin.2, hk⟩]
      · rw [if_neg (fun h => hk h.2.2), List.getElem?_eq_none (by omega), List.getElem?_eq_none (by omega)]
  · rw [if_neg (by omega), if_neg (fun h => hin ⟨h.1, h.2.1⟩)]
theorem each_row (f : List Cl → Int → Int → List Cl) {i : Nat} (hb : b.Fits S.rows.length S.cols) (hi : i < S.rows.length) :
    rowD (eachS S b f) i = if b.t ≤ i ∧ (i : Int) < b.b then (f (rowD S i).1 b.l b.r, (rowD S i).2) else rowD S i := by
  have h1 := hb.t0; have h2 := hb.tb
  unfold eachS
  rw [show rowD (rowsJ S b.t.toNat (fun _ row => (f row.1 b.l b.r, row.2)) (b.b - b.t).toNat) i = if b.t.toNat ≤ i ∧ i < b.t.toNat + (b.b - b.t).toNat then (f (rowD S i).1 b.l b.r, (rowD S i).2) else rowD S i from rowsJ_getD hi]
  by_cases hin : b.t ≤ i ∧ (i : Int) < b.b
  · rw [if_pos hin, if_pos (by omega)]
  · rw [if_neg hin, if_neg (by omega)]
theorem eachS_len (f : List Cl → Int → Int → List Cl) : (eachS S b f).rows.length = S.rows.length := rowsJ_len
/-- all rows of a box go: it is erased -/
theorem away (hS : S.Ok) (hb : b.Fits S.rows.length S.cols) {n : Int} (hn : (S.rows.length : Int) ≤ n) (i k : Nat) : atS (moveS S b n) i k = atS (eachS S b (fun xs l r => eachR xs l r fun _ => erC)) i k := by
  unfold atS
  rw [moveS_len, eachS_len]
  have h1 := hb.t0; have h3 := hb.bm; have h4 := hb.l0; have h6 := hb.rn
  show (if inB 0 0 S.rows.length S.cols i k = true then (rowD (moveS S b n) i).1.getD k noC else erC) = (if inB 0 0 S.rows.length S.cols i k = true then (rowD (eachS S b _) i).1.getD k noC else erC)
  by_cases hi : i < S.rows.length
  · congr 1
    rw [List.getD_eq_getElem?_getD, List.getD_eq_getElem?_getD, move_cell hS hb n hi, each_row _ hb hi]
    have hl := rowD_len hS hi
    by_cases hin : b.t ≤ i ∧ (i : Int) < b.b
    · rw [if_pos hin]
      simp only
      unfold eachR
      rw [updR_opt]
      by_cases hk : b.l ≤ k ∧ (k : Int) < b.r
      · rw [if_pos ⟨hin.1, hin.2, hk⟩]
        have e1 : moveSrc S b n i = (List.replicate S.cols erC, 0) := by
          unfold moveSrc
          rw [if_neg (by omega)]
        have hkl : k < (rowD S i).1.length := by omega
        rw [e1, List.getElem?_eq_getElem hkl, Option.map_some, if_pos ⟨hkl, inS_iff.2 ⟨by omega, by omega, hk⟩⟩]
        simp only
        rw [List.getElem?_replicate, if_pos (by omega)]
      · rw [if_neg (fun h => hk h.2.2)]
        rcases Nat.lt_or_ge k (rowD S i).1.length with hkl | hkl
        · rw [List.getElem?_eq_getElem hkl, Option.map_some, if_neg (fun h => hk (inS_iff.1 h.2).2.2)]
        · rw [List.getElem?_eq_none hkl]
          rfl
    · rw [if_neg hin, if_neg (fun h => hin ⟨h.1, h.2.1⟩)]
  · have hf : inB 0 0 S.rows.length S.cols i k = false := by
      cases e : inB 0 0 S.rows.length S.cols i k
      · rfl
      · obtain ⟨x, y, e1, e2, h5, h6⟩ := inB_nat e
        omega
    rw [hf]
    rfl
end
end Go.Proofs.YtignkkejkknddaaGreat
/- Several pages that share no memory.  -/
namespace Go.Proofs.YtignkkejkknddaaGreat
open Go.RowKit
set_option linter.unusedVariables false
set_option linter.unusedSimpArgs false

/-- pages that lie apart from each other and from all that is older than B -/
structure Pages (B : Nat) (w0 w : World) (ps : List (Nat × PgS)) : Prop where
  below : Below B w0 w
  bw : B ≤ w0.heap.size
  ex : ∃ F : Nat → Nat → Prop, (∀ i (h : i < ps.length), PageAt w (F i) ps[i].1 ps[i].2) ∧ (∀ i j b, i < ps.length → j < ps.length → F i b → F j b → i = j) ∧ ∀ i b, i < ps.length → F i b → B ≤ b
section
variable {B : Nat} {w0 w w1 w2 : World} {F G : Nat → Prop} {p q : Nat} {S T : PgS} {ps : List (Nat × PgS)} {x : More}
theorem Pages.one (hb : Below B w0 w) (hB : B ≤ w0.heap.size) (hp : PageAt w F p S) (hF : ∀ b, F b → B ≤ b) : Pages B w0 w [(p, S)] := by
  refine ⟨hb, hB, fun _ => F, fun i h => ?_, fun i j b hi hj _ _ => ?_, fun i b _ h => hF b h⟩
  · obtain rfl : i = 0 := by simpa using h
    exact hp
  · simp at hi hj
    omega
theorem Pages.new (h : Pages B w0 w ps) (hf : ∀ b, G b → w.heap.size ≤ b) (hP : PageAt (ext w x) G q T) : Pages B w0 (ext w x) (ps ++ [(q, T)]) := by
  obtain ⟨hb, hB, F, h1, h2, h3⟩ := h
  have hBw := Nat.le_trans hB hb.size
  refine ⟨below_ext hb (Nat.le_trans hB hb.size) x, hB, fun i b => if i = ps.length then G b else F i b, fun i hi => ?_, fun i j b hi hj fi fj => ?_, fun i b hi fi => ?_⟩
  · by_cases e : i = ps.length
    · subst e
      simpa using hP
    · have hi' : i < ps.length := by simp at hi; omega
      rw [List.getElem_append_left hi']
      simp only [e, if_false]
      exact (h1 i hi').grow (below_of_ext w x)
  · simp at hi hj
    by_cases e1 : i = ps.length <;> by_cases e2 : j = ps.length
    · omega
    · simp only [e1, e2, if_true, if_false] at fi fj
      have := (h1 j (by omega)).lt b fj
      have := hf b fi
      omega
    · simp only [e1, e2, if_true, if_false] at fi fj
      have := (h1 i (by omega)).lt b fi
      have := hf b fj
      omega
    · simp only [e1, e2, if_false] at fi fj
      exact h2 i j b (by omega) (by omega) fi fj
  · simp at hi
    by_cases e : i = ps.length
    · simp only [e, if_true] at fi
      have := hf b fi
      omega
    · simp only [e, if_false] at fi
      exact h3 i b (by omega) fi
theorem Pages.grow (h : Pages B w0 w ps) (hb : Below w.heap.size w w1) : Pages B w0 w1 ps :=
  ⟨h.below.trans (hb.mono (Nat.le_trans h.bw h.below.size)), h.bw, h.ex.elim fun F hF => ⟨F, fun i hi => (hF.1 i hi).grow hb, hF.2⟩⟩
theorem Pages.get (h : Pages B w0 w ps) (i : Nat) (hi : i < ps.length) : ∃ F, PageAt w F ps[i].1 ps[i].2 ∧ ∀ w1 w2 T, Below w.heap.size w w1 → Did F ps[i].1 T w1 w2 → Pages B w0 w2 (ps.set i (ps[i].1, T)) := by
  obtain ⟨hb, hB, F, h1, h2, h3⟩ := h
  refine ⟨F i, h1 i hi, fun w1 w2 T hb1 hd => ?_⟩
  have hd := hd.back hb1 (h1 i hi).lt
  refine ⟨hb.trans (hd.1.below (fun b f => h3 i b hi f) (Nat.le_trans hB hb.size)), hB, fun j b => if j = i then more (F i) w w2 b else F j b, fun j hj => ?_, fun j k b hj hk fj fk => ?_, fun j b hj fj => ?_⟩
  · rw [List.length_set] at hj
    by_cases e : j = i
    · subst e
      simpa using hd.2
    · rw [List.getElem_set_ne (fun e' => e e'.symm)]
      simp only [e, if_false]
      exact (h1 j hj).keep hd.1 (fun b fj fi => e (h2 j i b hj hi fj fi))
  · rw [List.length_set] at hj hk
    by_cases e1 : j = i <;> by_cases e2 : k = i
    · omega
    · simp only [e1, e2, if_true, if_false] at fj fk
      rcases fj with f | f
      · rw [e1]; exact h2 i k b hi hk f fk
      · have := (h1 k hk).lt b fk
        omega
    · simp only [e1, e2, if_true, if_false] at fj fk
      rcases fk with f | f
      · rw [e2]; exact h2 j i b hj hi fj f
      · have := (h1 j hj).lt b fj
        omega
    · simp only [e1, e2, if_false] at fj fk
      exact h2 j k b hj hk fj fk
  · rw [List.length_set] at hj
    by_cases e : j = i
    · simp only [e, if_true] at fj
      rcases fj with f | f
      · exact h3 i b hi f
      · exact Nat.le_trans (Nat.le_trans hB hb.size) f.1
    · simp only [e, if_false] at fj
      exact h3 j b hj fj
end
end Go.Proofs.YtignkkejkknddaaGreat
