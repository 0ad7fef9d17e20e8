/- LineKeeps: nine lines that nine calls made, whatever the order of the rest.  -/
import Derived.Test.YtdlngbmgcedbpaaApart
import Derived.Test.YtdlngbmgcedbpaaSpareG3
import Derived.Test.YtdlngbmgcedbpaaLineInv2
namespace Go.Proofs.Ytdlngbmgcedbpaa
open Go.RowKit
set_option linter.unusedVariables false
set_option linter.unusedSimpArgs false

def upd {α : Type} (R : Nat → α) (k : Nat) (r : α) : Nat → α := fun j => bif j == k then r else R j
theorem upd_at {α : Type} (R : Nat → α) (k : Nat) (r : α) : upd R k r k = r := by simp [upd]
theorem upd_ne {α : Type} (R : Nat → α) {k j : Nat} (r : α) (h : j ≠ k) : upd R k r j = R j := by unfold upd; rw [beq_false_of_ne h]; rfl
/-- some rows, each in a block of its own -/
structure Many (base : Nat) (w : World) (D : Nat → Bool) (R : Nat → RowD) : Prop where
  live : ∀ j, D j = true → (R j).Live base w ∧ (R j).n ≤ 9000
  sep : ∀ i j, D i = true → D j = true → i ≠ j → ∀ g o g' o', (R i).b = some (g, o) → (R j).b = some (g', o') → g ≠ g'
section
variable {base : Nat} {w w' : World} {D : Nat → Bool} {R : Nat → RowD} {k : Nat} {r : RowD}
theorem Many.grow (h : Many base w D R) (hB : Below w.heap.size w w') : Many base w' D R := ⟨fun j hj => ⟨(h.live j hj).1.below hB, (h.live j hj).2⟩, h.sep⟩
theorem Many.add (h : Many base w D R) (hbw : base ≤ w.heap.size) (hB : Below w.heap.size w w') (hr : r.Live w.heap.size w') (hn : r.n ≤ 9000) : Many base w' (fun j => j == k || D j) (upd R k r) := by
  refine ⟨fun j hj => ?_, fun i j hi hj hij g o g' o' ha hb => ?_⟩
  · by_cases e : j = k
    · subst e
      rw [upd_at]
      exact ⟨hr.mono hbw, hn⟩
    · rw [upd_ne R r e]
      have hj' : D j = true := by simpa [e] using hj
      exact ⟨(h.live j hj').1.below hB, (h.live j hj').2⟩
  · by_cases e : i = k <;> by_cases e2 : j = k
    · omega
    · subst e
      rw [upd_at] at ha
      rw [upd_ne R r e2] at hb
      have e1 := (h.live j (by simpa [e2] using hj)).1.lt hb
      have e3 := (hr.blk g o ha).1
      omega
    · subst e2
      rw [upd_at] at hb
      rw [upd_ne R r e] at ha
      have e1 := (h.live i (by simpa [e] using hi)).1.lt ha
      have e3 := (hr.blk g' o' hb).1
      omega
    · rw [upd_ne R r e] at ha
      rw [upd_ne R r e2] at hb
      exact h.sep i j (by simpa [e] using hi) (by simpa [e2] using hj) hij g o g' o' ha hb
end
def isC (j : Nat) : Bool := [7, 15, 21, 27, 34, 41, 45, 47, 49].contains j
def nine (R : Nat → RowD) (Z : Nat → Int) : Array Value := #[(R 7).v, .int .i64 (Z 7), (R 15).v, .int .i64 (Z 15), (R 21).v, .int .i64 (Z 21), (R 27).v, .int .i64 (Z 27), (R 34).v, .int .i64 (Z 34), (R 41).v, .int .i64 (Z 41), (R 45).v, .int .i64 (Z 45), (R 47).v, .int .i64 (Z 47), (R 49).v, .int .i64 (Z 49)]
structure KF (base : Nat) (R : Nat → RowD) (Z : Nat → Int) (V60 V77 : Value) (L : Nat → Bool) (w : World) : Prop where
  m : Many base w (fun j => isC j && L j) R
  f33 : L 33 = true → ∃ H, V60 = .slice (some ⟨H, 0, none⟩) 1 1 ∧ Ints w (some ⟨H, 0, none⟩) [1]
  f50 : L 50 = true → (∀ j, isC j = true → L j = true) ∧ ∃ H, V77 = .slice (some ⟨H, 0, none⟩) 9 9 ∧ w.heap[H]? = some (.cells (nine R Z) 70 (0, 0))
section
variable {base : Nat} {R : Nat → RowD} {Z : Nat → Int} {V60 V77 : Value} {L : Nat → Bool} {w w' : World} {k : Nat} {r : RowD} {z : Int}
theorem KF.start (base : Nat) (w : World) : KF base R Z V60 V77 (fun _ => false) w := ⟨⟨fun j hj => by simp at hj, fun i j hi => by simp at hi⟩, fun h => by simp at h, fun h => by simp at h⟩
theorem KF.grow (h : KF base R Z V60 V77 L w) (hB : Below w.heap.size w w') : KF base R Z V60 V77 L w' := by
  refine ⟨h.m.grow hB, fun hl => ?_, fun hl => ?_⟩
  · obtain ⟨H, e, h1⟩ := h.f33 hl
    exact ⟨H, e, h1.below hB⟩
  · obtain ⟨hc, H, e, h1⟩ := h.f50 hl
    exact ⟨hc, H, e, (hB.block H (heap_lt h1)).trans h1⟩
theorem KF.pure (h : KF base R Z V60 V77 L w) (k : Nat) (hk : isC k = false) (h33 : ¬ 33 = k) (h50 : ¬ 50 = k) : KF base R Z V60 V77 (fun j => j == k || L j) w := by
  have e : (fun j => isC j && (j == k || L j)) = fun j => isC j && L j := by
    funext j
    by_cases hj : j = k
    · subst hj; simp [hk]
    · have hbq := beq_false_of_ne hj
      simp only [hbq, Bool.false_or]
  refine ⟨by rw [e]; exact h.m, fun hl => h.f33 (by simpa [h33] using hl), fun hl => ?_⟩
  obtain ⟨hc, hh⟩ := h.f50 (by simpa [h50] using hl)
  exact ⟨fun j hj => by simp [hc j hj], hh⟩
theorem KF.call (h : KF base R Z V60 V77 L w) (k : Nat) (z : Int) (hk : isC k = true) (hL : L k = false) (hbw : base ≤ w.heap.size) (hB : Below w.heap.size w w') (hr : r.Live w.heap.size w') (hn : r.n ≤ 9000) : KF base (upd R k r) (upd Z k z) V60 V77 (fun j => j == k || L j) w' := by
  have n33 : ¬ 33 = k := by rintro rfl; simp [isC] at hk
  have n50 : ¬ 50 = k := by rintro rfl; simp [isC] at hk
  have e : (fun j => isC j && (j == k || L j)) = fun j => j == k || (isC j && L j) := by
    funext j
    by_cases hj : j = k
    · subst hj; simp [hk]
    · have hbq := beq_false_of_ne hj
      simp only [hbq, Bool.false_or]
  refine ⟨by rw [e]; exact h.m.add hbw hB hr hn, fun hl => ?_, fun hl => ?_⟩
  · obtain ⟨H, e, h1⟩ := h.f33 (by simpa [n33] using hl)
    exact ⟨H, e, h1.below hB⟩
  · have := (h.f50 (by simpa [n50] using hl)).1 k hk
    rw [hL] at this
    cases this
theorem KF.nums (h : KF base R Z V60 V77 L w) {H : Nat} (hB : Below w.heap.size w w') (hi : Ints w' (some ⟨H, 0, none⟩) [1]) : KF base R Z (.slice (some ⟨H, 0, none⟩) 1 1) V77 (fun j => j == 33 || L j) w' := by
  have h2 := h.grow hB
  have e : (fun j => isC j && (j == 33 || L j)) = fun j => isC j && L j := by
    funext j
    by_cases hj : j = 33
    · subst hj; simp [isC]
    · have hbq := beq_false_of_ne hj
      simp only [hbq, Bool.false_or]
  refine ⟨by rw [e]; exact h2.m, fun _ => ⟨H, rfl, hi⟩, fun hl => ?_⟩
  obtain ⟨hc, hh⟩ := h2.f50 (by simpa using hl)
  exact ⟨fun j hj => by simp [hc j hj], hh⟩
theorem KF.lits (h : KF base R Z V60 V77 L w) {H : Nat} (hB : Below w.heap.size w w') (hall : ∀ j, isC j = true → L j = true) (hi : w'.heap[H]? = some (.cells (nine R Z) 70 (0, 0))) : KF base R Z V60 (.slice (some ⟨H, 0, none⟩) 9 9) (fun j => j == 50 || L j) w' := by
  have h2 := h.grow hB
  have e : (fun j => isC j && (j == 50 || L j)) = fun j => isC j && L j := by
    funext j
    by_cases hj : j = 50
    · subst hj; simp [isC]
    · have hbq := beq_false_of_ne hj
      simp only [hbq, Bool.false_or]
  exact ⟨by rw [e]; exact h2.m, fun hl => h2.f33 (by simpa using hl), fun _ => ⟨fun j hj => by simp [hall j hj], H, rfl, hi⟩⟩
end
/-- a call that answers a line in memory of its own -/
def NewR (w : World) (e : Ending) (w' : World) : Prop := ∃ (r : RowD) (z : Int) (x : More), e = .returned (.agg #[r.v, .int .i64 z]) ∧ w' = ext w x ∧ r.Live w.heap.size (ext w x) ∧ r.n ≤ 9000
theorem newR_of {w w' : World} {e : Ending} {xs : List Cl} {sz : Int} (h : NewL w xs sz e w') (hx : xs.length ≤ 9000) : NewR w e w' := by
  obtain ⟨A, c, x, rfl, rfl, hO⟩ := h
  obtain ⟨r, hv, hn, hl⟩ := row_of_own hO
  exact ⟨r, _, x, by rw [hv], rfl, hl, by omega⟩
end Go.Proofs.Ytdlngbmgcedbpaa
/- LineKeeps: the nine rows one by one; a part of a row that a call cut out.  -/
namespace Go.Proofs.Ytdlngbmgcedbpaa
open Go.RowKit
set_option linter.unusedVariables false
set_option linter.unusedSimpArgs false

def nineI : List Nat := [7, 15, 21, 27, 34, 41, 45, 47, 49]
def nineR (R : Nat → RowD) : List RowD := nineI.map R
theorem nineR_len (R : Nat → RowD) : (nineR R).length = 9 := rfl
theorem nine_at (R : Nat → RowD) (Z : Nat → Int) (j : Nat) (hj : j < 9) : ∃ (r : RowD) (z : Int), (nineR R)[j]? = some r ∧ (nine R Z)[j * 2]? = some r.v ∧ (nine R Z)[j * 2 + 1]? = some (.int .i64 z) := by
  match j, hj with
  | 0, _ => exact ⟨_, _, rfl, rfl, rfl⟩
  | 1, _ => exact ⟨_, _, rfl, rfl, rfl⟩
  | 2, _ => exact ⟨_, _, rfl, rfl, rfl⟩
  | 3, _ => exact ⟨_, _, rfl, rfl, rfl⟩
  | 4, _ => exact ⟨_, _, rfl, rfl, rfl⟩
  | 5, _ => exact ⟨_, _, rfl, rfl, rfl⟩
  | 6, _ => exact ⟨_, _, rfl, rfl, rfl⟩
  | 7, _ => exact ⟨_, _, rfl, rfl, rfl⟩
  | 8, _ => exact ⟨_, _, rfl, rfl, rfl⟩
/-- the rows so far: what Spare made, then what the calls made -/
theorem rows_ten {base B : Nat} {w : World} {R : Nat → RowD} {r0 : RowD} (hM : Many B w isC R) (hb : base ≤ B) (h0 : r0.Live base w) (hlt : ∀ g o, r0.b = some (g, o) → g < B) : RowsAt base w (r0 :: nineR R) ∧ ∀ r ∈ nineR R, r.n ≤ 9000 := by
  have hin : ∀ k : Nat, nineI[k]? ≠ none → ∃ q, nineI[k]? = some q ∧ isC q = true := by
    intro k hk
    cases h : nineI[k]? with
    | none => exact absurd h hk
    | some q =>
      refine ⟨q, rfl, ?_⟩
      have := List.mem_of_getElem? h
      unfold isC
      exact List.elem_iff.2 this
  have hget : ∀ (k : Nat) (r : RowD), (nineR R)[k]? = some r → ∃ q, nineI[k]? = some q ∧ isC q = true ∧ R q = r := by
    intro k r hk
    simp only [nineR, List.getElem?_map, Option.map_eq_some_iff] at hk
    obtain ⟨q, hq, e⟩ := hk
    obtain ⟨q', hq', hc⟩ := hin k (by rw [hq]; simp)
    rw [hq] at hq'
    injection hq' with hq'
    subst hq'
    exact ⟨q, hq, hc, e⟩
  have hnd : ∀ i j q : Nat, nineI[i]? = some q → nineI[j]? = some q → i = j := by
    intro i j q hi hj
    have hn : nineI.Nodup := by decide
    exact (List.getElem?_inj (List.getElem?_eq_some_iff.1 hi).1 hn).1 (hi.trans hj.symm)
  have hlive : ∀ r ∈ nineR R, r.Live B w ∧ r.n ≤ 9000 := by
    intro r hr
    obtain ⟨k, hk⟩ := List.getElem?_of_mem hr
    obtain ⟨q, _, hc, rfl⟩ := hget k r hk
    exact hM.live q hc
  refine ⟨⟨fun r hr => ?_, fun i j r s hi hj hij g o g' o' ha hb2 => ?_⟩, fun r hr => (hlive r hr).2⟩
  · rcases List.mem_cons.1 hr with rfl | hr
    · exact h0
    · exact (hlive r hr).1.mono hb
  · cases i with
    | zero =>
      cases j with
      | zero => omega
      | succ j =>
        simp only [List.getElem?_cons_zero, Option.some.injEq] at hi
        simp only [List.getElem?_cons_succ] at hj
        subst hi
        have e1 := hlt g o ha
        have e2 := ((hlive s (List.mem_of_getElem? hj)).1.blk g' o' hb2).1
        omega
    | succ i =>
      simp only [List.getElem?_cons_succ] at hi
      cases j with
      | zero =>
        simp only [List.getElem?_cons_zero, Option.some.injEq] at hj
        subst hj
        have e1 := hlt g' o' hb2
        have e2 := ((hlive r (List.mem_of_getElem? hi)).1.blk g o ha).1
        omega
      | succ j =>
        simp only [List.getElem?_cons_succ] at hj
        obtain ⟨p, hp, hcp, rfl⟩ := hget i r hi
        obtain ⟨q, hq, hcq, rfl⟩ := hget j s hj
        refine hM.sep p q hcp hcq (fun e => hij ?_) g o g' o' ha hb2
        subst e
        rw [hnd i j p hp hq]
/-- a call that answers a row in memory of its own -/
def CutR (w : World) (e : Ending) (w' : World) : Prop := ∃ (r : RowD) (x : More), e = .returned r.v ∧ w' = ext w x ∧ r.Live w.heap.size (ext w x) ∧ r.n ≤ 9000
theorem cutR_of {w w' : World} {e : Ending} {xs : List Cl} {f t : Int} (h : CutL w xs f t e w') (hx : xs.length ≤ 9000) : CutR w e w' := by
  obtain ⟨A, c, x, rfl, hO, h⟩ := h
  have hnil : (⟨none, 0, 0⟩ : RowD).Live w.heap.size (ext w x) := ⟨Nat.le_refl _, fun _ => rfl, fun g off e => by cases e⟩
  rcases h with ⟨_, rfl⟩ | ⟨g, rfl, rfl⟩
  · exact ⟨⟨none, 0, 0⟩, x, rfl, rfl, hnil, by simp⟩
  · unfold cutW
    by_cases h0 : spanN xs.length f t = 0
    · rw [if_pos h0]
      exact ⟨⟨none, 0, 0⟩, x, rfl, rfl, hnil, by simp⟩
    · rw [if_neg h0]
      have hle := offN_le xs.length f t (by omega)
      have hoff : offN xs.length f t = (spanA f).toNat := by unfold offN; rw [if_neg h0]
      have hcap := (own_cap hO).2.2
      rw [hoff] at hle
      obtain ⟨r, hv, hn, hl⟩ := row_of_part hO (spanA f).toNat (spanN xs.length f t).toNat (spanN xs.length f t).toNat (by omega) (Nat.le_refl _)
      exact ⟨r, x, by rw [hv]; simp, rfl, hl, by omega⟩
end Go.Proofs.Ytdlngbmgcedbpaa
/- An append to the list of rows leaves the rows.  -/
namespace Go.Proofs.Ytdlngbmgcedbpaa
open Go.RowKit
set_option linter.unusedVariables false

section
variable {base B : Nat} {w w' : World} {rows xs : List RowD} {r : RowD} {v : Value} {row : Option Nat}
theorem RowD.Live.grownBy (h : r.Live base w) (hg : w.grownBy w' row) (hne : ∀ g off, r.b = some (g, off) → some g ≠ row) : r.Live base w' := by
  refine ⟨h.le, h.nil, fun g' off e => ?_⟩
  obtain ⟨h1, cur, h2, h3⟩ := h.blk g' off e
  exact ⟨h1, cur, (hg.block g' (heap_lt h2) (hne g' off e)).trans h2, h3⟩
theorem RowD.Live.ne_own (h : r.Live base w) (ho : Own encR 1 68 B w v xs) : ∀ g off, r.b = some (g, off) → some g ≠ v.ownBlock := by
  intro g off e hv
  obtain ⟨_, cur, h2, _⟩ := h.blk g off e
  rcases ho.2 with ⟨rfl, _⟩ | ⟨g', cap, cur', rfl, _, hg, _⟩
  · simp [Value.ownBlock] at hv
  · simp only [Value.ownBlock, Option.some.injEq] at hv
    subst hv
    rw [h2] at hg
    injection hg with hg
    injection hg with _ e _
    exact absurd e (by decide)
theorem RowsAt.grownBy (h : RowsAt base w rows) (ho : Own encR 1 68 B w v xs) (hg : w.grownBy w' v.ownBlock) : RowsAt base w' rows :=
  ⟨fun r hr => (h.live r hr).grownBy hg ((h.live r hr).ne_own ho), h.sep⟩
/-- the same from 'all blocks but the list's own stay' -/
theorem RowsAt.far (h : RowsAt base w rows) (ho : Own encR 1 68 B w v xs) (hG : ∀ b, b < w.heap.size → v.ownBlock ≠ some b → w'.heap[b]? = w.heap[b]?) : RowsAt base w' rows := by
  refine ⟨fun r hr => ?_, h.sep⟩
  have hl := h.live r hr
  refine ⟨hl.le, hl.nil, fun g' off e => ?_⟩
  obtain ⟨h1, cur, h2, h3⟩ := hl.blk g' off e
  exact ⟨h1, cur, (hG g' (heap_lt h2) (fun hv => hl.ne_own ho g' off e hv.symm)).trans h2, h3⟩
/-- where the list lies: in a block of its own, apart from the rows -/
theorem list_at {n c : Nat} {A : Option Addr} (h : Own encR 1 68 B w (.slice A n c) xs) (hn : xs ≠ []) : ∃ G, A = some ⟨G, 0, none⟩ ∧ Lst w G xs ∧ ∀ (base : Nat) (r : RowD), r.Live base w → ∀ g o, r.b = some (g, o) → g ≠ G := by
  obtain ⟨G, rfl⟩ : ∃ G, A = some ⟨G, 0, none⟩ := by
    rcases h.2 with ⟨e, h0⟩ | ⟨g, cap, cur', e, _⟩
    · exact absurd (List.eq_nil_of_length_eq_zero h0) hn
    · injection e with e1
      exact ⟨g, e1⟩
  refine ⟨G, rfl, lst_of_own h, fun base r hl g o e hg => ?_⟩
  subst hg
  exact hl.ne_own h g o e rfl
end
end Go.Proofs.Ytdlngbmgcedbpaa
/- LineKeeps: the two rows that Cut makes last, and the append of both to the list of rows.  -/
namespace Go.Proofs.Ytdlngbmgcedbpaa
open Go.RowKit
set_option linter.unusedVariables false
set_option linter.unusedSimpArgs false

section
variable {base B : Nat} {w w' : World} {rows : List RowD} {r s : RowD}
/-- one more, in a block that none of them has -/
theorem RowsAt.add (h : RowsAt base w rows) (hr : r.Live base w) (hne : ∀ s ∈ rows, ∀ g o g' o', s.b = some (g, o) → r.b = some (g', o') → g ≠ g') : RowsAt base w (rows ++ [r]) := by
  refine ⟨fun s hs => ?_, fun i j a b hi hj hij g o g' o' ha hb => ?_⟩
  · rcases List.mem_append.1 hs with hs | hs
    · exact h.live s hs
    · simp only [List.mem_singleton] at hs
      subst hs
      exact hr
  · have key : ∀ (k : Nat) (c : RowD), (rows ++ [r])[k]? = some c → (k < rows.length ∧ rows[k]? = some c) ∨ (k = rows.length ∧ c = r) := by
      intro k c hk
      rcases Nat.lt_or_ge k rows.length with h1 | h1
      · rw [List.getElem?_append_left h1] at hk
        exact .inl ⟨h1, hk⟩
      · have h2 := (List.getElem?_eq_some_iff.1 hk).1
        simp only [List.length_append, List.length_singleton] at h2
        obtain rfl : k = rows.length := by omega
        simp at hk
        exact .inr ⟨rfl, hk.symm⟩
    rcases key i a hi with ⟨h1, h2⟩ | ⟨h1, h2⟩ <;> rcases key j b hj with ⟨h3, h4⟩ | ⟨h3, h4⟩
    · exact h.sep i j a b h2 h4 hij g o g' o' ha hb
    · subst h4
      exact hne a (List.mem_of_getElem? h2) g o g' o' ha hb
    · subst h2
      exact fun e => hne b (List.mem_of_getElem? h4) g' o' g o hb ha e.symm
    · omega
/-- two more, made after them -/
theorem RowsAt.two (h : RowsAt base w rows) (hbw : base ≤ w.heap.size) (hB : Below w.heap.size w w') (hr : r.Live w.heap.size w') (hs : s.Live w.heap.size w') (hne : ∀ g o g' o', r.b = some (g, o) → s.b = some (g', o') → g ≠ g') : RowsAt base w' (rows ++ [r, s]) := by
  have h1 := (h.below hB).add (hr.mono hbw) (fun q hq g o g' o' e1 e2 => by
    have := (h.live q hq).lt e1
    have := (hr.blk g' o' e2).1
    omega)
  have h2 := h1.add (hs.mono hbw) (fun q hq g o g' o' e1 e2 => by
    rcases List.mem_append.1 hq with hq | hq
    · have := (h.live q hq).lt e1
      have := (hs.blk g' o' e2).1
      omega
    · simp only [List.mem_singleton] at hq
      subst hq
      exact hne g o g' o' e1 e2)
  rwa [List.append_assoc] at h2
end
def isD (j : Nat) : Bool := j == 6 || j == 12
structure K13 (base : Nat) (wc wz : World) (ten : List RowD) (R : Nat → RowD) (V102 V103 : Value) (L : Nat → Bool) (w : World) : Prop where
  bc : Below wc.heap.size wc w
  pre : L 14 = false → Below wz.heap.size wz w ∧ Many wz.heap.size w (fun j => isD j && L j) R
  f13 : L 13 = true → L 6 = true ∧ L 12 = true ∧ (L 14 = false → ∃ H, V102 = .slice (some ⟨H, 0, none⟩) 2 2 ∧ Rd encR 1 w (some ⟨H, 0, none⟩) [R 6, R 12])
  f14 : L 14 = true → L 0 = true ∧ L 13 = true ∧ ∃ A c, V103 = .slice A (ten ++ [R 6, R 12]).length c ∧ Own encR 1 68 wc.heap.size w (.slice A (ten ++ [R 6, R 12]).length c) (ten ++ [R 6, R 12]) ∧ RowsAt base w (ten ++ [R 6, R 12]) ∧ (R 6).n ≤ 9000 ∧ (R 12).n ≤ 9000
  f15 : L 15 = true → L 14 = true
section
variable {base : Nat} {wc wz w w' : World} {ten : List RowD} {R : Nat → RowD} {V102 V103 : Value} {L : Nat → Bool} {k : Nat} {r : RowD}
theorem K13.start (base : Nat) (ten : List RowD) (R : Nat → RowD) (V102 V103 : Value) (h : Below wc.heap.size wc wz) : K13 base wc wz ten R V102 V103 (fun _ => false) wz.drew :=
  ⟨h.drew, fun _ => ⟨(Below.refl _ _).drew, ⟨fun j hj => by simp at hj, fun i j hi => by simp at hi⟩⟩, fun h => by simp at h, fun h => by simp at h, fun h => by simp at h⟩
theorem K13.pure (h : K13 base wc wz ten R V102 V103 L w) (k : Nat) (h6 : ¬ 6 = k) (h12 : ¬ 12 = k) (h13 : ¬ 13 = k) (h14 : ¬ 14 = k) (h15 : ¬ 15 = k) : K13 base wc wz ten R V102 V103 (fun j => j == k || L j) w := by
  have e : (fun j => isD j && (j == k || L j)) = fun j => isD j && L j := by
    funext j
    by_cases hj : j = k
    · subst hj
      have h6' : (j == 6) = false := beq_false_of_ne (Ne.symm h6)
      have h12' : (j == 12) = false := beq_false_of_ne (Ne.symm h12)
      simp [isD, h6', h12']
    · have hbq := beq_false_of_ne hj
      simp only [hbq, Bool.false_or]
  have b6 : (6 == k) = false := beq_false_of_ne h6
  have b12 : (12 == k) = false := beq_false_of_ne h12
  have b13 : (13 == k) = false := beq_false_of_ne h13
  have b14 : (14 == k) = false := beq_false_of_ne h14
  have b15 : (15 == k) = false := beq_false_of_ne h15
  refine ⟨h.bc, ?_, ?_, ?_, ?_⟩
  · simp only [b14, Bool.false_or, e]; exact h.pre
  · simp only [b6, b12, b13, b14, Bool.false_or]; exact h.f13
  · simp only [b13, b14, Bool.false_or]
    intro h1
    obtain ⟨q0, q⟩ := h.f14 h1
    exact ⟨by simp [q0], q⟩
  · simp only [b14, b15, Bool.false_or]; exact h.f15
theorem K13.no14 (h : K13 base wc wz ten R V102 V103 L w) (hL : L 13 = false) : L 14 = false := by
  cases h14 : L 14 with
  | false => rfl
  | true => have := (h.f14 h14).2.1; rw [hL] at this; cases this
theorem K13.no13 (h : K13 base wc wz ten R V102 V103 L w) (hL : L 6 = false ∨ L 12 = false) : L 13 = false := by
  cases h13 : L 13 with
  | false => rfl
  | true =>
    obtain ⟨a, b, _⟩ := h.f13 h13
    rcases hL with e | e
    · rw [e] at a; cases a
    · rw [e] at b; cases b
theorem K13.no15' (h : K13 base wc wz ten R V102 V103 L w) (hL : L 0 = false) : L 15 = false := by
  cases h15 : L 15 with
  | false => rfl
  | true => have := (h.f14 (h.f15 h15)).1; rw [hL] at this; cases this
theorem K13.no15 (h : K13 base wc wz ten R V102 V103 L w) (hL : L 14 = false) : L 15 = false := by
  cases h15 : L 15 with
  | false => rfl
  | true => have := h.f15 h15; rw [hL] at this; cases this
theorem K13.call (h : K13 base wc wz ten R V102 V103 L w) (hcz : Below wc.heap.size wc wz) (k : Nat) (hk : k = 6 ∨ k = 12) (hL : L k = false) (hB : Below w.heap.size w w') (hr : r.Live w.heap.size w') (hn : r.n ≤ 9000) : K13 base wc wz ten (upd R k r) V102 V103 (fun j => j == k || L j) w' := by
  have n13 : L 13 = false := h.no13 (by rcases hk with rfl | rfl; exact .inl hL; exact .inr hL)
  have n14 := h.no14 n13
  have n15 := h.no15 n14
  have e : (fun j => isD j && (j == k || L j)) = fun j => j == k || (isD j && L j) := by
    funext j
    by_cases hj : j = k
    · subst hj
      rcases hk with rfl | rfl <;> simp [isD]
    · have hbq := beq_false_of_ne hj
      simp only [hbq, Bool.false_or]
  have b13 : (13 == k) = false := by rcases hk with rfl | rfl <;> rfl
  have b14 : (14 == k) = false := by rcases hk with rfl | rfl <;> rfl
  have b15 : (15 == k) = false := by rcases hk with rfl | rfl <;> rfl
  obtain ⟨hz, hm⟩ := h.pre n14
  refine ⟨h.bc.trans (hB.mono h.bc.size), fun _ => ⟨hz.trans (hB.mono hz.size), ?_⟩, fun h1 => ?_, fun h1 => ?_, fun h1 => ?_⟩
  · rw [e]; exact hm.add hz.size hB hr hn
  · simp only [b13, Bool.false_or, n13] at h1; cases h1
  · simp only [b14, Bool.false_or, n14] at h1; cases h1
  · simp only [b15, Bool.false_or, n15] at h1; cases h1
theorem K13.lits (h : K13 base wc wz ten R V102 V103 L w) (hL : L 13 = false) (a6 : L 6 = true) (a12 : L 12 = true) (hB : Below w.heap.size w w') {H : Nat} (hi : Rd encR 1 w' (some ⟨H, 0, none⟩) [R 6, R 12]) : K13 base wc wz ten R (.slice (some ⟨H, 0, none⟩) 2 2) V103 (fun j => j == 13 || L j) w' := by
  have n14 := h.no14 hL
  have n15 := h.no15 n14
  have e : (fun j => isD j && (j == 13 || L j)) = fun j => isD j && L j := by
    funext j
    by_cases hj : j = 13
    · subst hj; simp [isD]
    · have hbq := beq_false_of_ne hj
      simp only [hbq, Bool.false_or]
  obtain ⟨hz, hm⟩ := h.pre n14
  refine ⟨h.bc.trans (hB.mono h.bc.size), fun _ => ⟨hz.trans (hB.mono hz.size), ?_⟩, fun h1 => ⟨by simp [a6], by simp [a12], fun _ => ⟨H, rfl, hi⟩⟩, fun h1 => ?_, fun h1 => ?_⟩
  · rw [e]; exact hm.grow hB
  · simp [n14] at h1
  · simp [n15] at h1
theorem K13.app (h : K13 base wc wz ten R V102 V103 L w) (hL : L 14 = false) (h0 : L 0 = true) (hp : L 13 = true) (hT : RowsAt base wz ten) (hbw : base ≤ wz.heap.size) {v : Value} (hv : Own encR 1 68 wc.heap.size w v ten) (hB : Below wc.heap.size wc w') {A : Option Addr} {c : Nat}
    (hO : Own encR 1 68 wc.heap.size w' (.slice A (ten ++ [R 6, R 12]).length c) (ten ++ [R 6, R 12])) (hG : ∀ b, b < w.heap.size → v.ownBlock ≠ some b → w'.heap[b]? = w.heap[b]?) :
    K13 base wc wz ten R V102 (.slice A (ten ++ [R 6, R 12]).length c) (fun j => j == 14 || L j) w' := by
  have n15 := h.no15 hL
  obtain ⟨hz, hm⟩ := h.pre hL
  obtain ⟨a6, a12, _⟩ := h.f13 hp
  have l6 := hm.live 6 (by simp [isD, a6])
  have l12 := hm.live 12 (by simp [isD, a12])
  have hs := hm.sep 6 12 (by simp [isD, a6]) (by simp [isD, a12]) (by decide)
  refine ⟨hB, fun h1 => by simp at h1, fun h1 => ⟨by simp [a6], by simp [a12], fun h1 => by simp at h1⟩, fun _ => ⟨by simp [h0], by simp [hp], A, c, rfl, hO, (hT.two hbw hz l6.1 l12.1 hs).far hv hG, l6.2, l12.2⟩, fun _ => by simp⟩
theorem K13.fin (h : K13 base wc wz ten R V102 V103 L w) (hp : L 14 = true) : K13 base wc wz ten R V102 V103 (fun j => j == 15 || L j) w := by
  have e : (fun j => isD j && (j == 15 || L j)) = fun j => isD j && L j := by
    funext j
    by_cases hj : j = 15
    · subst hj; simp [isD]
    · have hbq := beq_false_of_ne hj
      simp only [hbq, Bool.false_or]
  refine ⟨h.bc, fun h1 => ?_, fun h1 => ?_, fun h1 => ?_, fun h1 => ?_⟩
  · simp [hp] at h1
  · have := h.f13 (by simpa using h1)
    simpa using this
  · have := h.f14 hp
    simpa using this
  · simp [hp]
end
theorem apart_x {base G : Nat} {rows : List RowD} {w : World} (cp : Nat) (hl : Lst w G rows) (hR : RowsAt base w rows) (hG : ∀ (b : Nat) (r : RowD), r.Live b w → ∀ g o, r.b = some (g, o) → g ≠ G) (hb : base ≤ w.heap.size) (hlt : G < w.heap.size) (hn : rows.length ≤ 20) (hm : ∀ r ∈ rows, r.n ≤ 9000) (y : More) :
    Calls Try.prog 76 #[.slice (some ⟨G, 0, none⟩) rows.length cp] (ext w y) (fun e w' => e = .returned (.bool true) ∧ Below base (ext w y) w') :=
  apart_c base G rows (ext w y) cp (by simp; omega) (hR.below (below_of_ext w y)).live (fun j r hr => (cell_ext w y G j hlt).trans (hl j r hr)) hR.sep (fun r hr g o e => hG base r (hR.live r hr) g o e) hn hm
end Go.Proofs.Ytdlngbmgcedbpaa
