/- Rows that lie in blocks of their own, some in the middle of one: what Apart does with them.  -/
import Derived.Test.YtignkkejkknddaaGreatClk
import Derived.Test.YtignkkejkknddaaGreatKeep
namespace Go.Proofs.YtignkkejkknddaaGreat
open Go.RowKit
set_option linter.unusedVariables false
set_option linter.unusedSimpArgs false

/-- a row: its block and where it begins there (none: nil), its length, its capacity -/
structure RowD where
  b : Option (Nat × Nat)
  n : Nat
  c : Nat
def RowD.v (r : RowD) : Value := .slice (r.b.map fun p => ⟨p.1, p.2, none⟩) r.n r.c
/-- its block is there, from base on, and has room for it -/
structure RowD.Live (base : Nat) (w : World) (r : RowD) : Prop where
  le : r.n ≤ r.c
  nil : r.b = none → r.c = 0
  blk : ∀ g off, r.b = some (g, off) → base ≤ g ∧ ∃ cur, w.heap[g]? = some (.cells cur 60 (0, 0)) ∧ off + r.c * 3 ≤ cur.size
/-- no two rows lie in one block -/
def Sep (rows : List RowD) : Prop := ∀ (i j : Nat) (r s : RowD), rows[i]? = some r → rows[j]? = some s → i ≠ j → ∀ g o g' o', r.b = some (g, o) → s.b = some (g', o') → g ≠ g'
/-- the cell that stands at a place of a row -/
def RowD.At (w : World) (r : RowD) (m : Nat) (y : Cl) : Prop := ∀ g off, r.b = some (g, off) → w.cell? ⟨g, off + m * 3, none⟩ = some (.int .i32 y.g) ∧ w.cell? ⟨g, off + m * 3 + 1, none⟩ = some (.int .u8 y.r) ∧ w.cell? ⟨g, off + m * 3 + 2, none⟩ = some (.bool y.k)
/-- what a store of a cell into a block does -/
structure Put3 (w : World) (g p : Nat) (y : Cl) (w' : World) : Prop where
  far : ∀ b, b ≠ g → w'.heap[b]? = w.heap[b]?
  size : w'.heap.size = w.heap.size
  blk : ∀ cur t fr, w.heap[g]? = some (.cells cur t fr) → ∃ cur', w'.heap[g]? = some (.cells cur' t fr) ∧ cur'.size = cur.size ∧ (∀ q, (q < p ∨ p + 2 < q) → cur'[q]? = cur[q]?) ∧
    (p + 2 < cur.size → cur'[p]? = some (.int .i32 y.g) ∧ cur'[p + 1]? = some (.int .u8 y.r) ∧ cur'[p + 2]? = some (.bool y.k))
theorem cell_of_blk {w : World} {g q : Nat} {cur : Array Value} {t : TypeId} {fr : Nat × Nat} (h : w.heap[g]? = some (.cells cur t fr)) : w.cell? ⟨g, q, none⟩ = cur[q]? := by
  simp [World.cell?, h]
section
variable {base : Nat} {w w' : World} {r s : RowD} {g p m : Nat} {y z : Cl}
theorem RowD.Live.put (h : r.Live base w) (hp : Put3 w g p y w') : r.Live base w' := by
  refine ⟨h.le, h.nil, fun g' off e => ?_⟩
  obtain ⟨h1, cur, h2, h3⟩ := h.blk g' off e
  by_cases hg : g' = g
  · subst hg
    obtain ⟨cur', q1, q2, _⟩ := hp.blk cur _ _ h2
    exact ⟨h1, cur', q1, by omega⟩
  · exact ⟨h1, cur, (hp.far g' hg).trans h2, h3⟩
theorem RowD.At.far (h : r.At w m z) (hne : ∀ o, r.b ≠ some (g, o)) (hp : Put3 w g p y w') : r.At w' m z := by
  intro g' off e
  have hg : g' ≠ g := fun e2 => hne off (by rw [e, e2])
  obtain ⟨h1, h2, h3⟩ := h g' off e
  have hf := hp.far g' hg
  unfold World.cell? at h1 h2 h3 ⊢
  rw [hf]
  exact ⟨h1, h2, h3⟩
theorem RowD.At.same {off k : Nat} (h : r.At w m z) (hl : r.Live base w) (hb : r.b = some (g, off)) (hk : k ≠ m) (hp : Put3 w g (off + k * 3) y w') : r.At w' m z := by
  intro g' off' e
  rw [hb] at e
  injection e with e
  injection e with e1 e2
  subst e1 e2
  obtain ⟨_, cur, h2, h3⟩ := hl.blk _ _ hb
  obtain ⟨cur', q1, q2, q3, _⟩ := hp.blk cur _ _ h2
  obtain ⟨h4, h5, h6⟩ := h _ _ hb
  rw [cell_of_blk h2] at h4 h5 h6
  rw [cell_of_blk q1, cell_of_blk q1, cell_of_blk q1, q3 _ (by omega), q3 _ (by omega), q3 _ (by omega)]
  exact ⟨h4, h5, h6⟩
theorem RowD.At.new {off k : Nat} (hl : r.Live base w) (hb : r.b = some (g, off)) (hk : k < r.c) (hp : Put3 w g (off + k * 3) y w') : r.At w' k y := by
  intro g' off' e
  rw [hb] at e
  injection e with e
  injection e with e1 e2
  subst e1 e2
  obtain ⟨_, cur, h2, h3⟩ := hl.blk _ _ hb
  obtain ⟨cur', q1, q2, _, q4⟩ := hp.blk cur _ _ h2
  have h5 : off + k * 3 + 2 < cur.size := by
    have : (k + 1) * 3 ≤ r.c * 3 := Nat.mul_le_mul_right _ hk
    omega
  rw [cell_of_blk q1, cell_of_blk q1, cell_of_blk q1]
  exact q4 h5
/-- a place of a row may be read and written -/
theorem RowD.Live.cells {off k : Nat} (hl : r.Live base w) (hb : r.b = some (g, off)) (hk : k < r.c) : g < w.heap.size ∧ base ≤ g ∧ (∃ v, w.cell? ⟨g, off + k * 3, none⟩ = some v) ∧ (∃ v, w.cell? ⟨g, off + k * 3 + 1, none⟩ = some v) ∧ (∃ v, w.cell? ⟨g, off + k * 3 + 2, none⟩ = some v) ∧ ∀ q, w.frozen? ⟨g, q, none⟩ = false := by
  obtain ⟨h1, cur, h2, h3⟩ := hl.blk _ _ hb
  have h5 : off + k * 3 + 2 < cur.size := by
    have : (k + 1) * 3 ≤ r.c * 3 := Nat.mul_le_mul_right _ hk
    omega
  refine ⟨(Array.getElem?_eq_some_iff.1 h2).1, h1, ?_, ?_, ?_, fun q => by simp [World.frozen?, h2]⟩
  · rw [cell_of_blk h2]; exact ⟨_, Array.getElem?_eq_getElem (by omega)⟩
  · rw [cell_of_blk h2]; exact ⟨_, Array.getElem?_eq_getElem (by omega)⟩
  · rw [cell_of_blk h2]; exact ⟨_, Array.getElem?_eq_getElem (by omega)⟩
theorem Put3.keep (hp : Put3 w g p y w') (hw : ∃ a b c : Value, w' = ((w.setCell ⟨g, p, none⟩ a).setCell ⟨g, p + 1, none⟩ b).setCell ⟨g, p + 2, none⟩ c) {w0 : World} {F : Nat → Prop} (hb : Keep F w0 w) (hB : F g) : Keep F w0 w' := by
  obtain ⟨a, b, c, rfl⟩ := hw
  exact ((hb.set (p := ⟨g, p, none⟩) (.inl hB) a).set (p := ⟨g, p + 1, none⟩) (.inl hB) b).set (p := ⟨g, p + 2, none⟩) (.inl hB) c
end
/-- the mark of a place: row j, cell m -/
def markC (j m : Nat) : Cl := ⟨1000 * (j : Int) + m, 0, false⟩
/-- all rows below i are marked, and the first k cells of row i -/
def Marked (w : World) (rows : List RowD) (i k : Nat) : Prop := ∀ (j m : Nat) (r : RowD), rows[j]? = some r → m < r.n → (j < i ∨ (j = i ∧ m < k)) → r.At w m (markC j m)
def AllLive (base : Nat) (w : World) (rows : List RowD) : Prop := ∀ r ∈ rows, r.Live base w
section
variable {base : Nat} {w w' : World} {rows : List RowD} {g i k off : Nat} {r : RowD}
theorem AllLive.put {p : Nat} {y : Cl} (h : AllLive base w rows) (hp : Put3 w g p y w') : AllLive base w' rows := fun r hr => (h r hr).put hp
theorem Marked.step (h : Marked w rows i k) (hl : AllLive base w rows) (hs : Sep rows) (hr : rows[i]? = some r) (hb : r.b = some (g, off)) (hk : k < r.n) (hp : Put3 w g (off + k * 3) (markC i k) w') : Marked w' rows i (k + 1) := by
  intro j m s hsj hm hjm
  have hlr := hl r (List.mem_of_getElem? hr)
  by_cases hji : j = i
  · subst hji
    rw [hr] at hsj
    injection hsj with hsj
    subst hsj
    by_cases hmk : m = k
    · subst hmk
      exact RowD.At.new hlr hb (Nat.lt_of_lt_of_le hm hlr.le) hp
    · exact (h j m r hr hm (.inr ⟨rfl, by omega⟩)).same hlr hb (Ne.symm hmk) hp
  · exact (h j m s hsj hm (.inl (by omega))).far (fun o e => hs j i s r hsj hr hji _ _ _ _ e hb rfl) hp
theorem Marked.next (h : Marked w rows i k) (hr : rows[i]? = some r) (hk : r.n ≤ k) : Marked w rows (i + 1) 0 := by
  intro j m s hsj hm hjm
  by_cases hji : j = i
  · subst hji
    rw [hr] at hsj
    injection hsj with hsj
    subst hsj
    exact h j m r hr hm (.inr ⟨rfl, by omega⟩)
  · exact h j m s hsj hm (.inl (by omega))
theorem Marked.none (w : World) (rows : List RowD) : Marked w rows 0 0 := fun j m r _ _ h => by omega
end
end Go.Proofs.YtignkkejkknddaaGreat
/- Apart: no two rows share memory.  -/
namespace Go.Proofs.YtignkkejkknddaaGreat
open Go.RowKit
set_option linter.unusedVariables false
set_option linter.unusedSimpArgs false

/-- the list of the rows -/
def Lst (w : World) (G : Nat) (rows : List RowD) : Prop := ∀ (j : Nat) (r : RowD), rows[j]? = some r → w.cell? ⟨G, j, none⟩ = some r.v
theorem Lst.put {w w' : World} {G g p : Nat} {y : Cl} {rows : List RowD} (h : Lst w G rows) (hp : Put3 w g p y w') (hne : G ≠ g) : Lst w' G rows := by
  intro j r hr
  have := h j r hr
  unfold World.cell? at this ⊢
  rw [hp.far G hne]
  exact this
/-- the rows' blocks -/
def blkOf (rows : List RowD) (b : Nat) : Prop := ∃ r ∈ rows, ∃ o, r.b = some (b, o)
/-- what stays true in all three loops -/
structure Ap (base : Nat) (w0 w : World) (G : Nat) (rows : List RowD) (i k : Nat) : Prop where
  bel : Keep (blkOf rows) w0 w
  live : AllLive base w rows
  lst : Lst w G rows
  mks : Marked w rows i k

/-- what a run of stores into a part of a block does -/
structure Puts (w : World) (g p q : Nat) (w' : World) : Prop where
  far : ∀ b, b ≠ g → w'.heap[b]? = w.heap[b]?
  blk : ∀ cur t fr, w.heap[g]? = some (.cells cur t fr) → ∃ cur', w'.heap[g]? = some (.cells cur' t fr) ∧ cur'.size = cur.size ∧ (∀ x, (x < p ∨ q ≤ x) → cur'[x]? = cur[x]?)
theorem Puts.one (w : World) (g p : Nat) (v : Value) : Puts w g p (p + 1) (w.setCell ⟨g, p, none⟩ v) := by
  refine ⟨fun b hb => Below.heap_setCell _ _ _ _ hb, fun cur t fr h => ⟨cur.setIfInBounds p v, ?_, by simp, fun x hx => Array.getElem?_setIfInBounds_ne (by omega)⟩⟩
  simp only [World.setCell, Array.getElem?_modify, if_pos, h]
  simp
theorem Puts.trans {w w1 w2 : World} {g p m q : Nat} (h : Puts w g p m w1) (k : Puts w1 g m q w2) (h1 : p ≤ m) (h2 : m ≤ q) : Puts w g p q w2 := by
  refine ⟨fun b hb => (k.far b hb).trans (h.far b hb), fun cur t fr e => ?_⟩
  obtain ⟨c1, a1, a2, a3⟩ := h.blk cur t fr e
  obtain ⟨c2, b1, b2, b3⟩ := k.blk c1 t fr a1
  exact ⟨c2, b1, b2.trans a2, fun x hx => (b3 x (by omega)).trans (a3 x (by omega))⟩
section
variable {base : Nat} {w0 w w' : World} {G g p q L i n c off : Nat} {rows : List RowD} {r : RowD}
/-- new blocks, and stores into them, leave all -/
theorem Ap.below (A : Ap base w0 w G rows L 0) (hGl : G < w.heap.size) (hbw : base ≤ w.heap.size) (hB : Below w.heap.size w w') : Ap base w0 w' G rows L 0 := by
  refine ⟨A.bel.trans (Keep.of_below (F := fun _ => False) hB) (fun _ f => f.elim), fun s hsm => ?_, fun j s hsj => ?_, fun j m s hsj hm hjm => ?_⟩
  · have h := A.live s hsm
    refine ⟨h.le, h.nil, fun g' off e => ?_⟩
    obtain ⟨h1, cur, h2, h3⟩ := h.blk g' off e
    exact ⟨h1, cur, (hB.block g' (Array.getElem?_eq_some_iff.1 h2).1).trans h2, h3⟩
  · rw [hB.cell hGl]
    exact A.lst j s hsj
  · intro g' off' e
    obtain ⟨h1, cur, h2, h3⟩ := (A.live s (List.mem_of_getElem? hsj)).blk g' off' e
    have hg := (Array.getElem?_eq_some_iff.1 h2).1
    have := A.mks j m s hsj hm hjm g' off' e
    rw [hB.cell hg, hB.cell hg, hB.cell hg]
    exact this
end

theorem Marked.again {base : Nat} {w w' : World} {rows : List RowD} {g i k off L : Nat} {r : RowD} (h : Marked w rows L 0) (hl : AllLive base w rows) (hs : Sep rows) (hr : rows[i]? = some r) (hb : r.b = some (g, off)) (hk : k < r.n) (hp : Put3 w g (off + k * 3) (markC i k) w') : Marked w' rows L 0 := by
  intro j m s hsj hm hjm
  have hlr := hl r (List.mem_of_getElem? hr)
  by_cases hji : j = i
  · subst hji
    rw [hr] at hsj
    injection hsj with hsj
    subst hsj
    by_cases hmk : m = k
    · subst hmk
      exact RowD.At.new hlr hb (Nat.lt_of_lt_of_le hm hlr.le) hp
    · exact (h j m r hr hm hjm).same hlr hb (Ne.symm hmk) hp
  · exact (h j m s hsj hm hjm).far (fun o e => hs j i s r hsj hr hji _ _ _ _ e hb rfl) hp

attribute [local go_sem ↓] cell_neq
end Go.Proofs.YtignkkejkknddaaGreat
/- Rows that calls have made, one after the other: each in memory of its own; a list that holds them.  -/
namespace Go.Proofs.YtignkkejkknddaaGreat
open Go.RowKit
set_option linter.unusedVariables false
set_option linter.unusedSimpArgs false

/-- rows from base on, each in a block of its own -/
structure RowsAt (base : Nat) (w : World) (rows : List RowD) : Prop where
  live : AllLive base w rows
  sep : Sep rows
section
variable {base B : Nat} {w w' : World} {rows : List RowD} {r : RowD}
theorem RowD.Live.below (h : r.Live base w) (hB : Below w.heap.size w w') : r.Live base w' := by
  refine ⟨h.le, h.nil, fun g' off e => ?_⟩
  obtain ⟨h1, cur, h2, h3⟩ := h.blk g' off e
  exact ⟨h1, cur, (hB.block g' (Array.getElem?_eq_some_iff.1 h2).1).trans h2, h3⟩
theorem RowD.Live.mono (h : r.Live B w) (hB : base ≤ B) : r.Live base w :=
  ⟨h.le, h.nil, fun g off e => ⟨Nat.le_trans hB (h.blk g off e).1, (h.blk g off e).2⟩⟩
theorem RowD.Live.lt (h : r.Live base w) {g off : Nat} (e : r.b = some (g, off)) : g < w.heap.size := by
  obtain ⟨_, cur, h2, _⟩ := h.blk g off e
  exact (Array.getElem?_eq_some_iff.1 h2).1
theorem RowsAt.nil (base : Nat) (w : World) : RowsAt base w [] := ⟨fun r hr => by simp at hr, fun i j r s h => by simp at h⟩
theorem RowsAt.below (h : RowsAt base w rows) (hB : Below w.heap.size w w') : RowsAt base w' rows := ⟨fun r hr => (h.live r hr).below hB, h.sep⟩
/-- one more, made after them -/
theorem RowsAt.snoc (h : RowsAt base w rows) (hbw : base ≤ w.heap.size) (hB : Below w.heap.size w w') (hr : r.Live w.heap.size w') : RowsAt base w' (rows ++ [r]) := by
  refine ⟨fun s hs => ?_, fun i j a b hi hj hij g o g' o' ha hb => ?_⟩
  · rcases List.mem_append.1 hs with hs | hs
    · exact (h.live s hs).below hB
    · simp only [List.mem_singleton] at hs
      subst hs
      exact hr.mono hbw
  · have key : ∀ (k : Nat) (c : RowD), (rows ++ [r])[k]? = some c → (k < rows.length ∧ rows[k]? = some c) ∨ (k = rows.length ∧ c = r) := by
      intro k c hk
      rcases Nat.lt_or_ge k rows.length with h1 | h1
      · rw [List.getElem?_append_left h1] at hk
        exact .inl ⟨h1, hk⟩
      · have h2 := (List.getElem?_eq_some_iff.1 hk).1
        simp only [List.length_append, List.length_singleton] at h2
        obtain rfl : k = rows.length := by omega
        simp at hk
        exact .inr ⟨rfl, hk.symm⟩
    rcases key i a hi with ⟨h1, h2⟩ | ⟨h1, h2⟩ <;> rcases key j b hj with ⟨h3, h4⟩ | ⟨h3, h4⟩
    · exact h.sep i j a b h2 h4 hij g o g' o' ha hb
    · subst h4
      have e1 := (h.live a (List.mem_of_getElem? h2)).lt ha
      have e2 := (hr.blk g' o' hb).1
      omega
    · subst h2
      have e1 := (h.live b (List.mem_of_getElem? h4)).lt hb
      have e2 := (hr.blk g o ha).1
      omega
    · omega
/-- a part of what a call made -/
theorem row_of_part {A : Option Addr} {n c : Nat} {xs : List Cl} (h : Own encC 3 60 B w (.slice A n c) xs) (p m k : Nat) (hp : p + k ≤ c) (hm : m ≤ k) : ∃ r : RowD, r.v = .slice (A.map fun a => ⟨a.block, a.off + p * 3, none⟩) m k ∧ r.n = m ∧ r.Live B w := by
  rcases h.2 with ⟨e, hn⟩ | ⟨g, cap, cur, e, hB, hg, h1, h2, h3, h4⟩
  · injection e with e1 e2 e3
    subst e1 e3
    refine ⟨⟨none, m, k⟩, rfl, rfl, ⟨hm, (fun _ => ?_), fun g off e => by cases e⟩⟩
    simp only
    omega
  · injection e with e1 e2 e3
    subst e1 e3
    refine ⟨⟨some (g, 0 + p * 3), m, k⟩, rfl, rfl, ⟨hm, (fun e => by cases e), fun g' off e => ?_⟩⟩
    injection e with e
    injection e with e1 e2
    subst e1 e2
    exact ⟨hB, cur, hg, by simp only; omega⟩
/-- the list of rows, its cells one by one -/
def encR (r : RowD) : List Value := [r.v]
end
end Go.Proofs.YtignkkejkknddaaGreat
