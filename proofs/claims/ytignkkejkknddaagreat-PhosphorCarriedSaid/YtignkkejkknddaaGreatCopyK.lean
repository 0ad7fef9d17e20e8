/- copy between rows whose elements have many cells. -/
import Derived.Test.YtignkkejkknddaaGreatOwn2
import Derived.Laws.CopyOwn
namespace Go.Proofs.YtignkkejkknddaaGreat
open Go.RowKit
set_option linter.unusedVariables false
set_option linter.unusedSimpArgs false
variable {P : Program} {α : Type} {enc : α → List Value} {size : Nat}

theorem run_copy_k (w : World) (dT sT ty elem : TypeId) (k g o dLen dCap : Nat) (a : Addr) (sLen sCap : Nat) (cur : Array Value) (t : TypeId) (n : Nat) (cs : List Value)
    (hu : P.underlying dT = some (.slice elem)) (hs : (P.info? elem).map (·.size) = some k)
    (hg : w.heap[g]? = some (.cells cur t (0, 0))) (hn : n = Nat.min sLen dLen) (hcs : cs.length = n * k)
    (hsrc : ∀ j v, cs[j]? = some v → w.cell? (a.add j) = some v) (hfit : o + cs.length ≤ cur.size) (h1 : ∀ v ∈ cs, v.oneCell' = true) :
    (Builtin.copy_ #[dT, sT] ty #[.slice (some ⟨g, o, none⟩) dLen dCap, .slice (some a) sLen sCap]).run P w =
      .ok (goInt n) (w.setRow g (cur.toList.take o ++ cs ++ cur.toList.drop (o + cs.length)).toArray) := by
  have hl := run_loadCells_list (P := P) w a cs hsrc
  have hst := run_storeCells_at P g o t cs 0 cur w hg (by simpa using hfit) h1
  rw [hcs] at hl
  cases hq : P.info? elem with
  | none => simp [hq] at hs
  | some i =>
    have hi : i.size = k := by simpa [hq] using hs
    simp [Builtin.copy_, run_underlying hu, Builtin.lenOf, Builtin.firstCells, sizeOf, typeInfo, hq, hi, ← hn, hl, hst]
theorem run_copy_none_k (w : World) (dT sT ty elem : TypeId) (k : Nat) (d a : Option Addr) (dLen dCap sLen sCap : Nat) (hu : P.underlying dT = some (.slice elem)) (hs : (P.info? elem).map (·.size) = some k) (hn : Nat.min sLen dLen = 0) :
    (Builtin.copy_ #[dT, sT] ty #[.slice d dLen dCap, .slice a sLen sCap]).run P w = .ok (goInt 0) w := by
  cases hq : P.info? elem with
  | none => simp [hq] at hs
  | some i =>
    have hl : ∀ (x : Addr), (loadCells x 0).run P w = .ok #[] w := fun x => by simpa using run_loadCells_list (P := P) w x [] (by simp)
    cases d <;> cases a <;> simp [Builtin.copy_, run_underlying hu, Builtin.lenOf, Builtin.firstCells, sizeOf, typeInfo, hq, hn, storeCells, hl]

/-- zs laid over xs from place off on -/
def layOn (xs : List α) (off : Nat) (zs : List α) : List α := xs.take off ++ (zs ++ xs.drop (off + zs.length))
theorem layOn_len (xs : List α) (off : Nat) (zs : List α) (h : off + zs.length ≤ xs.length) : (layOn xs off zs).length = xs.length := by simp [layOn]; omega
theorem layOn_nil (xs : List α) (off : Nat) : layOn xs off [] = xs := by simp [layOn]
theorem flat_take (henc : ∀ y, (enc y).length = size) : ∀ (xs : List α) (m : Nat), (xs.take m).flatMap enc = (xs.flatMap enc).take (m * size)
  | [], m => by simp
  | x :: xs, 0 => by simp
  | x :: xs, m + 1 => by
    simp only [List.take_succ_cons, List.flatMap_cons, flat_take henc xs m]
    rw [List.take_append, henc x, List.take_of_length_le (l := enc x) (by rw [henc x, Nat.succ_mul]; omega), show (m + 1) * size - size = m * size by rw [Nat.succ_mul]; omega]
theorem flat_drop (henc : ∀ y, (enc y).length = size) : ∀ (xs : List α) (m : Nat), (xs.drop m).flatMap enc = (xs.flatMap enc).drop (m * size)
  | [], m => by simp
  | x :: xs, 0 => by simp
  | x :: xs, m + 1 => by
    simp only [List.drop_succ_cons, List.flatMap_cons, flat_drop henc xs m]
    rw [List.drop_append, henc x, (List.drop_eq_nil_of_le (by rw [henc x, Nat.succ_mul]; omega) : (enc x).drop ((m + 1) * size) = []), show (m + 1) * size - size = m * size by rw [Nat.succ_mul]; omega, List.nil_append]
theorem take_splice (X cs : List Value) (p N : Nat) (hp : p + cs.length ≤ N) (hN : N ≤ X.length) :
    (X.take p ++ cs ++ X.drop (p + cs.length)).take N = (X.take N).take p ++ (cs ++ (X.take N).drop (p + cs.length)) := by
  rw [List.take_append, List.take_of_length_le (by simp; omega), List.take_take, List.drop_take, List.append_assoc]
  congr 2
  · congr 1; omega
  · congr 2; simp; omega
theorem own_lay {e : TypeId} {B g n cap : Nat} {w : World} {xs zs : List α} {cur : Array Value} (henc : ∀ y, (enc y).length = size) (h : Own enc size e B w (.slice (some ⟨g, 0, none⟩) n cap) xs) (hg : w.heap[g]? = some (.cells cur e (0, 0)))
    (off : Nat) (hoff : off + zs.length ≤ xs.length) :
    Own enc size e B (w.setRow g (cur.toList.take (off * size) ++ zs.flatMap enc ++ cur.toList.drop (off * size + (zs.flatMap enc).length)).toArray) (.slice (some ⟨g, 0, none⟩) n cap) (layOn xs off zs) := by
  have hn : n = xs.length := by
    obtain ⟨A, c, e, _, _⟩ := h.form
    injection e
  subst hn
  have hl := layOn_len xs off zs hoff
  rcases h.2 with ⟨h1, _⟩ | ⟨g', cap', cur', hv, hB, hg', h2, h3, h4, h5⟩
  · cases h1
  · injection hv with e1 e2 e3
    injection e1 with e1
    injection e1 with e1
    subst e1 e3
    rw [hg] at hg'
    injection hg' with hg'
    injection hg' with hg'
    subst hg'
    have z1 : (zs.flatMap enc).length = zs.length * size := flat_len henc zs
    have z2 : off * size + zs.length * size ≤ xs.length * size := by rw [← Nat.add_mul]; exact Nat.mul_le_mul_right _ hoff
    have z3 : xs.length * size ≤ cap * size := Nat.mul_le_mul_right _ h2
    refine ⟨by rw [flat_len henc], .inr ⟨g, cap, _, by rw [hl], hB, setRow_heap w g cur _ e _ hg, by rw [hl]; exact h2, h3, ?_, ?_⟩⟩
    · simp only [List.size_toArray, List.length_append, List.length_take, List.length_drop, Array.length_toList]
      omega
    · rw [hl]
      show List.take (xs.length * size) (_ : List Value) = _
      simp only [List.toList_toArray]
      rw [take_splice _ _ _ _ (by omega) (by simp only [Array.length_toList]; omega), h5]
      simp only [layOn, List.flatMap_append, flat_take henc, flat_drop henc]
      rw [z1, Nat.add_mul]
/-- the same as an equation of the run, with the world behind it -/
theorem run_copy_lay {w : World} (dT sT ty elem : TypeId) (hu : P.underlying dT = some (.slice elem)) (hsz : (P.info? elem).map (·.size) = some size)
    (henc : ∀ y, (enc y).length = size) (hone : ∀ y, ∀ u ∈ enc y, u.oneCell' = true)
    (dp sp : Option Addr) (dLen dCap sCap : Nat) (ys : List α)
    (e : TypeId) (B : Nat) (A : Option Addr) (n c : Nat) (xs : List α) (hO : Own enc size e B w (.slice A n c) xs) (off : Nat) (hpos : 0 < dLen → ∃ g, A = some ⟨g, 0, none⟩ ∧ dp = some ⟨g, off * size, none⟩)
    (hoff : off + (ys.take dLen).length ≤ xs.length) (hR : Rd enc size w sp ys) :
    ∃ w', (Builtin.copy_ #[dT, sT] ty #[.slice dp dLen dCap, .slice sp ys.length sCap]).run P w = .ok (goInt (Nat.min ys.length dLen)) w' ∧
      Own enc size e B w' (.slice A n c) (layOn xs off (ys.take dLen)) ∧ Below B w w' ∧ w'.heap.size = w.heap.size ∧ ∀ b : Nat, A ≠ some ⟨b, 0, none⟩ → w'.heap[b]? = w.heap[b]? := by
  have hlen : (ys.take dLen).length = Nat.min ys.length dLen := by rw [List.length_take]; exact Nat.min_comm _ _
  by_cases h0 : Nat.min ys.length dLen = 0
  · have hrun := run_copy_none_k (P := P) w dT sT ty elem size dp sp dLen dCap ys.length sCap hu hsz h0
    have hz : ys.take dLen = [] := List.eq_nil_of_length_eq_zero (by rw [hlen]; exact h0)
    rw [hz, layOn_nil, h0]
    exact ⟨w, hrun, hO, Below.refl _ _, rfl, fun _ _ => rfl⟩
  · have hm : Nat.min ys.length dLen ≤ dLen := Nat.min_le_right _ _
    have hm2 : Nat.min ys.length dLen ≤ ys.length := Nat.min_le_left _ _
    obtain ⟨g, rfl, rfl⟩ := hpos (by omega)
    obtain ⟨b, o', rfl, hlt, hc⟩ := hR (by omega)
    rcases hO.2 with ⟨h1, _⟩ | ⟨g', cap', cur, hv, hB, hg, h2, h3, h4, h5⟩
    · cases h1
    · injection hv with e1 e2 e3
      injection e1 with e1
      injection e1 with e1
      subst e1 e3
      have z1 : ((ys.take dLen).flatMap enc).length = Nat.min ys.length dLen * size := by rw [flat_len henc, hlen]
      have z2 : off * size + Nat.min ys.length dLen * size ≤ xs.length * size := by rw [← Nat.add_mul]; exact Nat.mul_le_mul_right _ (by rw [← hlen]; exact hoff)
      have z3 : xs.length * size ≤ c * size := Nat.mul_le_mul_right _ h2
      have hrun := run_copy_k (P := P) w dT sT ty elem size g (off * size) dLen dCap ⟨b, o', none⟩ ys.length sCap cur e (Nat.min ys.length dLen) ((ys.take dLen).flatMap enc) hu hsz hg rfl z1
        (fun j v hj => by
          have hjl : j < (ys.take dLen).length * size := by
            rw [← flat_len henc]
            exact (List.getElem?_eq_some_iff.1 hj).1
          obtain ⟨i, q, hi, hq, rfl, hfl⟩ := flat_at henc (ys.take dLen) j hjl
          rw [hfl] at hj
          rw [addr_add]
          exact hc i (by rw [hlen] at hi; omega) q v (by simpa using hj))
        (by rw [z1]; omega)
        (fun v hv => by
          rw [List.mem_flatMap] at hv
          obtain ⟨y, _, hy⟩ := hv
          exact hone y v hy)
      have hk := own_lay henc hO hg off hoff
      have hall : ∀ cs : Array Value, Below B w (w.setRow g cs) ∧ (w.setRow g cs).heap.size = w.heap.size ∧ ∀ b : Nat, (some (⟨g, 0, none⟩ : Addr)) ≠ some ⟨b, 0, none⟩ → (w.setRow g cs).heap[b]? = w.heap[b]? := by
        intro cs
        refine ⟨⟨rfl, rfl, rfl, by simp, fun k hk => setRow_other w g k _ (by omega)⟩, setRow_size _ _ _, ?_⟩
        intro b' hb'
        have : b' ≠ g := fun hh => hb' (by rw [hh])
        rw [setRow_other w g b' _ this]
      have hall := hall (List.take (off * size) cur.toList ++ List.flatMap enc (List.take dLen ys) ++ List.drop (off * size + (List.flatMap enc (List.take dLen ys)).length) cur.toList).toArray
      exact ⟨_, hrun, hk, hall.1, hall.2.1, hall.2.2⟩
end Go.Proofs.YtignkkejkknddaaGreat
