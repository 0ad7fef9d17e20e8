/- One cell stored anew into a row of the call's own. -/
import Derived.Test.YtmpbgjnkkapijaaTurns
import Derived.Laws.OwnMore
namespace Go.Proofs.Ytmpbgjnkkapijaa
open Go.RowKit

theorem flat_set3 (y : Cl) : ∀ (xs : List Cl) (i : Nat), i < xs.length → (((xs.flatMap encC).set (i * 3) (.int .i32 y.g)).set (i * 3 + 1) (.int .u8 y.r)).set (i * 3 + 2) (.bool y.k) = (xs.set i y).flatMap encC
  | [], i, h => by simp at h
  | x :: xs, 0, h => by simp [encC]
  | x :: xs, i + 1, h => by
    have ih := flat_set3 y xs i (by simpa using h)
    rw [show (i + 1) * 3 = i * 3 + 3 by omega, show i * 3 + 3 + 1 = i * 3 + 1 + 3 by omega, show i * 3 + 3 + 2 = i * 3 + 2 + 3 by omega]
    simp only [List.flatMap_cons, List.set_cons_succ]
    rw [← ih]
    simp [encC]
theorem own_set3 {e : TypeId} {B g n cap : Nat} {w : World} {xs : List Cl} (h : Own encC 3 e B w (.slice (some ⟨g, 0, none⟩) n cap) xs) (i : Nat) (hi : i < xs.length) (y : Cl) :
    Own encC 3 e B (((w.setCell ⟨g, i * 3, none⟩ (.int .i32 y.g)).setCell ⟨g, i * 3 + 1, none⟩ (.int .u8 y.r)).setCell ⟨g, i * 3 + 2, none⟩ (.bool y.k)) (.slice (some ⟨g, 0, none⟩) n cap) (xs.set i y) := by
  have hn : n = xs.length := by
    obtain ⟨A, c, e, _, _⟩ := h.form
    injection e
  subst hn
  have h' : w.ownsRow B e 3 (.slice (some ⟨g, 0, none⟩) xs.length cap) xs.length (xs.flatMap encC) := h
  have h3 := (((h'.stored (i * 3) (.int .i32 y.g)).1.stored (i * 3 + 1) (.int .u8 y.r)).1.stored (i * 3 + 2) (.bool y.k)).1
  rw [flat_set3 y xs i hi] at h3
  unfold Own
  rw [List.length_set]
  exact h3
theorem own_at {e : TypeId} {B n cap : Nat} {A : Option Addr} {w : World} {xs : List Cl} (h : Own encC 3 e B w (.slice A n cap) xs) (j : Nat) (hj : j < xs.length) :
    ∃ g, A = some ⟨g, 0, none⟩ ∧ B ≤ g ∧ g < w.heap.size ∧ w.cell? ⟨g, j * 3, none⟩ = some (.int .i32 xs[j].g) ∧ w.cell? ⟨g, j * 3 + 1, none⟩ = some (.int .u8 xs[j].r) ∧ w.cell? ⟨g, j * 3 + 2, none⟩ = some (.bool xs[j].k) ∧ ∀ i, w.frozen? ⟨g, i, none⟩ = false := by
  have hn : n = xs.length := by
    obtain ⟨A, c, e, _, _⟩ := h.form
    injection e
  subst hn
  rcases h.2 with ⟨h1, h2⟩ | ⟨g, cap', cur, h1, hB, hg, h2, h3, h4, h5⟩
  · omega
  · injection h1 with h1 _ _
    subst h1
    have hlt := (Array.getElem?_eq_some_iff.1 hg).1
    have key : ∀ k v, k < 3 → (encC xs[j])[k]? = some v → w.cell? ⟨g, j * 3 + k, none⟩ = some v := by
      intro k v hk hv
      have := h.cells (g := g) rfl (j * 3 + k) v (by rw [flat_get encC_len xs j hj k hk]; exact hv)
      rw [addr_add] at this
      simpa using this
    exact ⟨g, rfl, hB, hlt, key 0 _ (by omega) rfl, key 1 _ (by omega) rfl, key 2 _ (by omega) rfl, fun i => h.frozenAt i⟩
def mid (p : List Cl) (j : Nat) : List Cl := (p.take j).map turned ++ p.drop j
theorem mid_len (p : List Cl) (j : Nat) (h : j ≤ p.length) : (mid p j).length = p.length := by simp [mid]; omega
theorem mid_get (p : List Cl) (j : Nat) (h : j < p.length) (h' : j < (mid p j).length) : (mid p j)[j] = p[j] := by
  have : (mid p j)[j]? = some p[j] := by
    unfold mid
    rw [List.getElem?_append_right (by simp; omega), List.length_map, List.length_take, Nat.min_eq_left (Nat.le_of_lt h), Nat.sub_self, List.getElem?_drop, Nat.add_zero, List.getElem?_eq_getElem h]
  exact (List.getElem?_eq_some_iff.1 this).2
theorem mid_set (p : List Cl) (j : Nat) (h : j < p.length) : (mid p j).set j (turned p[j]) = mid p (j + 1) := by
  unfold mid
  rw [List.set_append_right _ _ (by simp; omega), List.length_map, List.length_take, Nat.min_eq_left (Nat.le_of_lt h), Nat.sub_self, List.drop_eq_getElem_cons h, List.set_cons_zero, List.take_succ_eq_append_getElem h, List.map_append, List.append_assoc]
  rfl
theorem mid_zero (p : List Cl) : mid p 0 = p := by simp [mid]
theorem mid_end (p : List Cl) (j : Nat) (h : p.length ≤ j) : mid p j = p.map turned := by simp [mid, List.take_of_length_le h, List.drop_eq_nil_of_le h]
end Go.Proofs.Ytmpbgjnkkapijaa
