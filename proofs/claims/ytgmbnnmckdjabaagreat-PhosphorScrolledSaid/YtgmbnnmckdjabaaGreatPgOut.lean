/- Pages: what an act leaves alone: the cells outside of its box, the sizes of the lines. Plain.  -/
import Derived.Test.YtgmbnnmckdjabaaGreatPgF
namespace Go.Proofs.YtgmbnnmckdjabaaGreat
open Go.RowKit
set_option linter.unusedVariables false
set_option linter.unusedSimpArgs false

theorem onB_sub {m n : Nat} {b : BxI} {i k : Int} (h1 : (onB m n b).t ≤ i) (h2 : i < (onB m n b).b) (h3 : (onB m n b).l ≤ k) (h4 : k < (onB m n b).r) : b.t ≤ i ∧ i < b.b ∧ b.l ≤ k ∧ k < b.r := by
  obtain ⟨t, l, b', r⟩ := b
  unfold onB meetI at h1 h2 h3 h4
  simp only at h1 h2 h3 h4 ⊢
  split at h1 <;> simp_all <;> omega
theorem rowsJ_getD {S : PgS} {t j : Nat} {g : Nat → List Cl × Int → List Cl × Int} {i : Nat} (hi : i < S.rows.length) : (rowsJ S t g j).rows.getD i ([], 0) = if t ≤ i ∧ i < t + j then g i (S.rows.getD i ([], 0)) else S.rows.getD i ([], 0) := by
  have h' : i < (rowsJ S t g j).rows.length := by rw [rowsJ_len]; exact hi
  rw [List.getD_eq_getElem?_getD, List.getElem?_eq_getElem h', Option.getD_some, rowsJ_get hi h', List.getD_eq_getElem?_getD, List.getElem?_eq_getElem hi, Option.getD_some]
theorem updR_getD (xs : List Cl) (p : Nat → Bool) (g : Nat → Cl → Cl) (j k : Nat) (h : p k = false) : (updR xs p g j).getD k noC = xs.getD k noC := by
  rw [List.getD_eq_getElem?_getD, List.getD_eq_getElem?_getD, updR_opt]
  cases xs[k]? with
  | none => rfl
  | some x => simp [h]
theorem eachR_out (xs : List Cl) (l r : Int) (F : Cl → Cl) (k : Nat) (h : ¬ (l ≤ k ∧ (k : Int) < r)) : (eachR xs l r F).getD k noC = xs.getD k noC :=
  updR_getD _ _ _ _ _ (by unfold inS; simp only [decide_eq_false_iff_not]; omega)
theorem movR_out (xs : List Cl) (l r n : Int) (k : Nat) (h : ¬ (l ≤ k ∧ (k : Int) < r)) : (movR xs l r n).getD k noC = xs.getD k noC :=
  updR_getD _ _ _ _ _ (by unfold inS; simp only [decide_eq_false_iff_not]; omega)
theorem layR_out (xs ys : List Cl) (l r : Int) (k : Nat) (h : ¬ (l ≤ k ∧ (k : Int) < r)) : (layR xs l r ys).getD k noC = xs.getD k noC := by
  have ho := offN_le xs.length l r (by omega)
  rw [List.getD_eq_getElem?_getD, List.getD_eq_getElem?_getD]
  unfold layR
  rw [layOn_get _ _ _ _ (by rw [List.length_take]; omega), if_neg]
  intro hk
  rw [List.length_take] at hk
  unfold offN at hk
  split at hk
  · omega
  · unfold spanN spanA at *
    omega
/-- what an act leaves alone -/
structure Outs (S T : PgS) (b : BxI) (rs : Bool) : Prop where
  len : T.rows.length = S.rows.length
  cols : T.cols = S.cols
  cell : ∀ i k : Nat, i < S.rows.length → k < S.cols → inB b.t b.l b.b b.r i k = false → (T.rows.getD i ([], 0)).1.getD k noC = (S.rows.getD i ([], 0)).1.getD k noC
  size : ∀ i : Nat, i < S.rows.length → (rs && decide (b.l ≤ 0) && decide ((S.cols : Int) ≤ b.r) && decide (b.t ≤ i) && decide ((i : Int) < b.b)) = false → (T.rows.getD i ([], 0)).2 = (S.rows.getD i ([], 0)).2
theorem outs_rows {S : PgS} (b : BxI) (rs : Bool) (g : Nat → List Cl × Int → List Cl × Int)
    (hg : ∀ (i k : Nat) x, k < S.cols → (onB S.rows.length S.cols b).t ≤ i → (i : Int) < (onB S.rows.length S.cols b).b → ¬ ((onB S.rows.length S.cols b).l ≤ k ∧ (k : Int) < (onB S.rows.length S.cols b).r) → (g i x).1.getD k noC = x.1.getD k noC)
    (hz : ∀ (i : Nat) x, (onB S.rows.length S.cols b).t ≤ i → (i : Int) < (onB S.rows.length S.cols b).b → (rs && decide (b.l ≤ 0) && decide ((S.cols : Int) ≤ b.r) && decide (b.t ≤ i) && decide ((i : Int) < b.b)) = false → (g i x).2 = x.2) :
    Outs S (rowsJ S (onB S.rows.length S.cols b).t.toNat g ((onB S.rows.length S.cols b).b - (onB S.rows.length S.cols b).t).toNat) b rs := by
  have HB := onB_in S.rows.length S.cols b
  refine ⟨by simp, rfl, fun i k hi hk hn => ?_, fun i hi hn => ?_⟩
  · rw [rowsJ_getD hi]
    split
    · rename_i h
      refine hg i k _ hk (by omega) (by omega) (fun hh => ?_)
      have := onB_sub (i := i) (k := k) (by omega) (by omega) hh.1 hh.2
      simp [inB] at hn
      omega
    · rfl
  · rw [rowsJ_getD hi]
    split
    · exact hz i _ (by omega) (by omega) hn
    · rfl
theorem outs_each {S : PgS} (b : BxI) (rs : Bool) (f : List Cl → Int → Int → List Cl) (hf : ∀ (xs : List Cl) (l r : Int) (k : Nat), ¬ (l ≤ k ∧ (k : Int) < r) → (f xs l r).getD k noC = xs.getD k noC) : Outs S (eachS S (onB S.rows.length S.cols b) f) b rs :=
  outs_rows b rs _ (fun i k x _ _ _ h => hf _ _ _ _ h) (fun _ _ _ _ _ => rfl)
theorem outs_move {S : PgS} (b : BxI) (n : Int) : Outs S (moveS S (onB S.rows.length S.cols b) n) b true := by
  have HB := onB_in S.rows.length S.cols b
  refine outs_rows b true _ (fun i k x hk h1 h2 h => ?_) (fun i x h1 h2 h => ?_)
  · unfold moveRow
    split
    · exact layR_out _ _ _ _ _ h
    · omega
  · unfold moveRow
    split
    · rfl
    · rename_i q
      have e : (onB S.rows.length S.cols b).l = 0 ∧ (onB S.rows.length S.cols b).r = S.cols := by omega
      have h3 := onB_sub (m := S.rows.length) (n := S.cols) (b := b) (i := i) (k := 0) h1 h2 (by omega) (by omega)
      have h4 := onB_sub (m := S.rows.length) (n := S.cols) (b := b) (i := i) (k := S.cols - 1) h1 h2 (by omega) (by omega)
      simp at h
      omega
/-- the acts of kinds 1 to 10 -/
theorem outs_do {S : PgS} (a : ActD) (h1 : 1 ≤ a.kd) (h2 : a.kd ≤ 10) : Outs S (doS S a) a.b (decide (a.kd < 3)) := by
  obtain ⟨kd, n, b, pr, pc', y, pa, pc, ps, ra, rc, rw⟩ := a
  simp only at h1 h2 ⊢
  have hk : kd = 1 ∨ kd = 2 ∨ kd = 3 ∨ kd = 4 ∨ kd = 5 ∨ kd = 6 ∨ kd = 7 ∨ kd = 8 ∨ kd = 9 ∨ kd = 10 := by omega
  rcases hk with rfl | rfl | rfl | rfl | rfl | rfl | rfl | rfl | rfl | rfl
  · rw [show doS S ⟨1, n, b, pr, pc', y, pa, pc, ps, ra, rc, rw⟩ = moveS S (onB S.rows.length S.cols b) (clampR n 0 1000) from rfl]
    exact outs_move b _
  · rw [show doS S ⟨2, n, b, pr, pc', y, pa, pc, ps, ra, rc, rw⟩ = moveS S (onB S.rows.length S.cols b) (-clampR n 0 1000) from rfl]
    exact outs_move b _
  · rw [show doS S ⟨3, n, b, pr, pc', y, pa, pc, ps, ra, rc, rw⟩ = eachS S (onB S.rows.length S.cols b) (fun xs l r => movR xs l r (-clampR n 0 (cntN xs.length l r 0))) from rfl]
    exact outs_each b _ _ (fun xs l r k h => movR_out _ _ _ _ _ h)
  · rw [show doS S ⟨4, n, b, pr, pc', y, pa, pc, ps, ra, rc, rw⟩ = eachS S (onB S.rows.length S.cols b) (fun xs l r => movR xs l r (clampR n 0 (cntN xs.length l r 0))) from rfl]
    exact outs_each b _ _ (fun xs l r k h => movR_out _ _ _ _ _ h)
  · rw [show doS S ⟨5, n, b, pr, pc', y, pa, pc, ps, ra, rc, rw⟩ = eachS S (onB S.rows.length S.cols b) (fun xs l r => eachR xs l r (fun _ => y)) from rfl]
    exact outs_each b _ _ (fun xs l r k h => eachR_out _ _ _ _ _ h)
  · rw [show doS S ⟨6, n, b, pr, pc', y, pa, pc, ps, ra, rc, rw⟩ = eachS S (onB S.rows.length S.cols b) (fun xs l r => eachR xs l r (fun _ => erC)) from rfl]
    exact outs_each b _ _ (fun xs l r k h => eachR_out _ _ _ _ _ h)
  · rw [show doS S ⟨7, n, b, pr, pc', y, pa, pc, ps, ra, rc, rw⟩ = eachS S (onB S.rows.length S.cols b) (fun xs l r => eachR xs l r cleanC) from rfl]
    exact outs_each b _ _ (fun xs l r k h => eachR_out _ _ _ _ _ h)
  · rw [show doS S ⟨8, n, b, pr, pc', y, pa, pc, ps, ra, rc, rw⟩ = eachS S (onB S.rows.length S.cols b) (fun xs l r => eachR xs l r (applyC ps)) from rfl]
    exact outs_each b _ _ (fun xs l r k h => eachR_out _ _ _ _ _ h)
  · rw [show doS S ⟨9, n, b, pr, pc', y, pa, pc, ps, ra, rc, rw⟩ = eachS S (onB S.rows.length S.cols b) (fun xs l r => eachR xs l r (flipC ps)) from rfl]
    exact outs_each b _ _ (fun xs l r k h => eachR_out _ _ _ _ _ h)
  · rw [show doS S ⟨10, n, b, pr, pc', y, pa, pc, ps, ra, rc, rw⟩ = eachS S (onB S.rows.length S.cols b) (fun xs l r => eachR xs l r (keepC y.k)) from rfl]
    exact outs_each b _ _ (fun xs l r k h => eachR_out _ _ _ _ _ h)
end Go.Proofs.YtgmbnnmckdjabaaGreat
