/- Cells: what proofs of every seat share, with no function of the program but those of phosphorref01 that compare and copy rows.  -/
import Derived.Test.YtignkkejkknddaaGreatOwn2
import Derived.Laws.OwnMore
import Derived.Laws.StructEq
namespace Go.Proofs.YtignkkejkknddaaGreat
open Go.RowKit
set_option linter.unusedVariables false
set_option linter.unusedSimpArgs false

/-- A cell: its glyph, its rendition, whether it is kept. -/
structure Cl where
  g : Int
  r : Int
  k : Bool
  deriving DecidableEq
def encC (c : Cl) : List Value := [.int .i32 c.g, .int .u8 c.r, .bool c.k]
def Cl.ok (c : Cl) : Prop := (-2147483648 ≤ c.g ∧ c.g ≤ 2147483647) ∧ 0 ≤ c.r ∧ c.r ≤ 255
theorem encC_len (c : Cl) : (encC c).length = 3 := rfl
theorem encC_one (c : Cl) : ∀ u ∈ encC c, u.oneCell' = true := by
  intro u hu
  simp [encC] at hu
  rcases hu with rfl | rfl | rfl <;> rfl
theorem cell_info : (Tryz.prog.info? 60).map (fun i => (i.zero, i.size, i.bytes)) = some (some (.agg #[.int .i32 0, .int .u8 0, .bool false]), 3, 8) := by kernel_rfl
theorem cell_new {w : World} {g : Nat} (e : TypeId) (c : Cl) (hg : g = w.heap.size) : Rd encC 3 (w.alloc (.cells #[.int .i32 c.g, .int .u8 c.r, .bool c.k] e)) (some ⟨g, 0, none⟩) [c] :=
  (Own.new (B := 0) (e := e) encC_len hg (xs := [c]) (rfl : (1 : Nat) = [c].length) _ rfl (Nat.zero_le _) (by simp [maxLen])).rd encC_len
theorem Rd.cell3 {w : World} {a : Option Addr} {cs : List Cl} (h : Rd encC 3 w a cs) {k : Nat} (hk : k < cs.length) :
    ∃ b off, a = some ⟨b, off, none⟩ ∧ b < w.heap.size ∧ w.cell? ⟨b, off + k * 3, none⟩ = some (.int .i32 cs[k].g) ∧ w.cell? ⟨b, off + k * 3 + 1, none⟩ = some (.int .u8 cs[k].r) ∧ w.cell? ⟨b, off + k * 3 + 2, none⟩ = some (.bool cs[k].k) := by
  obtain ⟨b, off, e, hlt, hc⟩ := h (by omega)
  exact ⟨b, off, e, hlt, hc k hk 0 _ rfl, hc k hk 1 _ rfl, hc k hk 2 _ rfl⟩
theorem Rd.cell1 {α : Type} {enc : α → List Value} {w : World} {a : Option Addr} {xs : List α} (h : Rd enc 1 w a xs) {k : Nat} (hk : k < xs.length) {v : Value} (hv : enc xs[k] = [v]) :
    ∃ b off, a = some ⟨b, off, none⟩ ∧ b < w.heap.size ∧ w.cell? ⟨b, off + k, none⟩ = some v := by
  obtain ⟨b, off, e, hlt, hc⟩ := h (by omega)
  exact ⟨b, off, e, hlt, by simpa using hc k hk 0 v (by rw [hv]; rfl)⟩

theorem flat_set3 (y : Cl) : ∀ (xs : List Cl) (i : Nat), i < xs.length → (((xs.flatMap encC).set (i * 3) (.int .i32 y.g)).set (i * 3 + 1) (.int .u8 y.r)).set (i * 3 + 2) (.bool y.k) = (xs.set i y).flatMap encC
  | [], i, h => by simp at h
  | x :: xs, 0, h => by simp [encC]
  | x :: xs, i + 1, h => by
    have ih := flat_set3 y xs i (by simpa using h)
    rw [show (i + 1) * 3 = i * 3 + 3 by omega, show i * 3 + 3 + 1 = i * 3 + 1 + 3 by omega, show i * 3 + 3 + 2 = i * 3 + 2 + 3 by omega]
    simp only [List.flatMap_cons, List.set_cons_succ]
    rw [← ih]
    simp [encC]
theorem own_set3 {e : TypeId} {B g n cap : Nat} {w : World} {xs : List Cl} (h : Own encC 3 e B w (.slice (some ⟨g, 0, none⟩) n cap) xs) (i : Nat) (hi : i < xs.length) (y : Cl) :
    Own encC 3 e B (((w.setCell ⟨g, i * 3, none⟩ (.int .i32 y.g)).setCell ⟨g, i * 3 + 1, none⟩ (.int .u8 y.r)).setCell ⟨g, i * 3 + 2, none⟩ (.bool y.k)) (.slice (some ⟨g, 0, none⟩) n cap) (xs.set i y) := by
  have hn : n = xs.length := by
    obtain ⟨A, c, e, _, _⟩ := h.form
    injection e
  subst hn
  have h' : w.ownsRow B e 3 (.slice (some ⟨g, 0, none⟩) xs.length cap) xs.length (xs.flatMap encC) := h
  have h3 := (((h'.stored (i * 3) (.int .i32 y.g)).1.stored (i * 3 + 1) (.int .u8 y.r)).1.stored (i * 3 + 2) (.bool y.k)).1
  rw [flat_set3 y xs i hi] at h3
  unfold Own
  rw [List.length_set]
  exact h3
theorem own_at {e : TypeId} {B n cap : Nat} {A : Option Addr} {w : World} {xs : List Cl} (h : Own encC 3 e B w (.slice A n cap) xs) (j : Nat) (hj : j < xs.length) :
    ∃ g, A = some ⟨g, 0, none⟩ ∧ B ≤ g ∧ g < w.heap.size ∧ w.cell? ⟨g, j * 3, none⟩ = some (.int .i32 xs[j].g) ∧ w.cell? ⟨g, j * 3 + 1, none⟩ = some (.int .u8 xs[j].r) ∧ w.cell? ⟨g, j * 3 + 2, none⟩ = some (.bool xs[j].k) ∧ ∀ i, w.frozen? ⟨g, i, none⟩ = false := by
  have hn : n = xs.length := by
    obtain ⟨A, c, e, _, _⟩ := h.form
    injection e
  subst hn
  rcases h.2 with ⟨h1, h2⟩ | ⟨g, cap', cur, h1, hB, hg, h2, h3, h4, h5⟩
  · omega
  · injection h1 with h1 _ _
    subst h1
    have hlt := (Array.getElem?_eq_some_iff.1 hg).1
    have key : ∀ k v, k < 3 → (encC xs[j])[k]? = some v → w.cell? ⟨g, j * 3 + k, none⟩ = some v := by
      intro k v hk hv
      have := h.cells (g := g) rfl (j * 3 + k) v (by rw [flat_get encC_len xs j hj k hk]; exact hv)
      rw [addr_add] at this
      simpa using this
    exact ⟨g, rfl, hB, hlt, key 0 _ (by omega) rfl, key 1 _ (by omega) rfl, key 2 _ (by omega) rfl, fun i => h.frozenAt i⟩
/-- two cells held against each other -/
def eqC (c d : Cl) : Bool := decide (c = d)
theorem eqC_t {c d : Cl} (h : c = d) : eqC c d = true := by simp [eqC, h]
theorem eqC_f {c d : Cl} (h : ¬ c = d) : eqC c d = false := by simp [eqC, h]
theorem cell_neq (g r : Int) (k : Bool) (g' r' : Int) (k' : Bool) (w : World) :
    (binOp .neq 60 (.agg #[.int .i32 g, .int .u8 r, .bool k]) (.agg #[.int .i32 g', .int .u8 r', .bool k'])).run Tryz.prog w = .ok (.bool (!eqC ⟨g, r, k⟩ ⟨g', r', k'⟩)) w := by
  have e : eqC ⟨g, r, k⟩ ⟨g', r', k'⟩ = (decide (g = g') && (decide (r = r') && decide (k = k'))) := by
    unfold eqC
    rw [Bool.eq_iff_iff]
    simp
  rw [e]
  by_cases h1 : g = g' <;> by_cases h2 : r = r' <;> by_cases h3 : k = k' <;> simp [go_sem, h1, h2, h3]
theorem eq_of_takeC {xs ys : List Cl} (h : xs.length = ys.length) (k : Nat) (hk : k = xs.length) (hr : ∀ j, j < k → xs[j]? = ys[j]?) : xs = ys := by
  apply List.ext_getElem?
  intro i
  rcases Nat.lt_or_ge i k with h1 | h1
  · exact hr i h1
  · rw [List.getElem?_eq_none (by omega), List.getElem?_eq_none (by omega)]

attribute [local go_sem ↓] cell_neq
def noC : Cl := ⟨0, 0, false⟩
theorem made_flat (n : Nat) : (madeCells #[.int .i32 0, .int .u8 0, .bool false] (n * 3)).toList = (List.replicate n noC).flatMap encC := by
  apply List.ext_getElem?
  intro k
  rcases Nat.lt_or_ge k (n * 3) with hk | hk
  · obtain ⟨i, j, hi, hj, rfl, he⟩ := flat_at encC_len (List.replicate n noC) k (by simpa using hk)
    rw [he]
    have hi' : i < n := by simpa using hi
    have h1 : (madeCells #[Value.int .i32 0, .int .u8 0, .bool false] (n * 3)).toList[i * 3 + j]? = some ((#[Value.int .i32 0, .int .u8 0, .bool false] : Array Value)[(i * 3 + j) % 3]!) := by
      simp [madeCells, Array.getElem?_toList, hk]
    rw [h1, show (i * 3 + j) % 3 = j by omega]
    simp only [List.getElem_replicate]
    match j, hj with
    | 0, _ => rfl
    | 1, _ => rfl
    | 2, _ => rfl
  · rw [List.getElem?_eq_none (by simp [madeCells]; omega), List.getElem?_eq_none (by rw [flat_len encC_len]; simp; omega)]

theorem make_cells (w : World) (n : Nat) (hb : n ≤ 1000000000) : ∃ x, (Instr.makeSlice 65 (.int .i64 (n : Int)) (.int .i64 (n : Int))).run Tryz.prog w = .ok (.slice (some ⟨w.heap.size, 0, none⟩) n n) (ext w x) ∧
    Own encC 3 60 w.heap.size (ext w x) (.slice (some ⟨w.heap.size, 0, none⟩) n n) (List.replicate n noC) := by
  obtain ⟨i, hi, hz, hsize, hby⟩ := info_parts cell_info
  obtain ⟨w', hrun, hown, hgr⟩ := run_make_full (P := Tryz.prog) w w.heap.size 65 60 i _ 3 Tryz.underlying65 hi hz hsize .i64 .i64 n (by rw [hby]; omega) (by simp [maxLen]; omega) (Nat.le_refl _)
  have hB : Below w.heap.size w w' := (Below.refl _ w).grown hgr (Nat.le_refl _) (fun k hk => by cases hk)
  obtain ⟨x, rfl⟩ := ext_of hB
  refine ⟨x, hrun, ?_⟩
  unfold Own
  rw [List.length_replicate, ← made_flat]
  exact hown
theorem cells_c (A : Option Addr) (C : Nat) (xs : List Cl) (w : World) (rd : Rd encC 3 w A xs) (hm : xs.length * 8 ≤ 140737488355328) (h63 : xs.length ≤ maxLen) :
    Calls Tryz.prog 130 #[.slice A xs.length C] w (fun e w' => ∃ A' c' x, e = .returned (.slice A' xs.length c') ∧ w' = ext w x ∧ Own encC 3 60 w.heap.size (ext w x) (.slice A' xs.length c') xs) := by
  have X := Lib.hid rd
  go_enter Tryz.func130, Tryz.ntmps130
  go_wp2_with (first
    | (at_builtin
       refine append_rd (U := w) (.tmp 3) (.tmp 4) _ 60 _ 8 rfl rfl Tryz.underlying65 cell_info rfl (by omega) encC_len encC_one [] xs _ A C rfl rfl ?_ (Own.new encC_len (by simp) rfl #[] rfl (Nat.le_refl _) (by simp [maxLen])) (by repeat (first | exact X.out | exact X | refine Rd.ext ?_ _ | refine Rd.alloc ?_ _ | refine Rd.drew ?_)) (by simp; omega) (by simp; omega) ?_
       · (repeat' (first | (with_reducible exact Below.refl _ _) | (with_reducible refine Below.alloc ?_ ?_ _) | (with_reducible refine below_ext ?_ ?_ _) | (with_reducible refine Below.drew ?_) | (with_reducible refine below_drewN ?_ _) | (with_reducible refine Below.setCell ?_ ?_ _) | go_size | (simp only [go_sem]; omega) | (simp [go_sem]; done) | (simp [go_sem]; omega)))
       intro A' c' x3 zs hz hO))
  rw [List.nil_append] at hz
  subst hz
  go_wp2_with fail
  all_goals go_returns
  all_goals exact ⟨A', c', x3, rfl, rfl, hO⟩
end Go.Proofs.YtignkkejkknddaaGreat
