/- A list of rows of cells that is appended to; rows that stay.  -/
import Derived.Test.YtignkkejkknddaaGreatPgB
namespace Go.Proofs.YtignkkejkknddaaGreat
open Go.RowKit
set_option linter.unusedVariables false
set_option linter.unusedSimpArgs false

section
variable {α : Type} {enc : α → List Value} {size : Nat} {e : TypeId} {B : Nat} {w w' : World} {v : Value} {xs : List α} {F : Nat → Prop}
theorem own_kept (h : Own enc size e B w v xs) (hk : Keep F w w') (hF : ∀ b, F b → ¬ (B ≤ b ∧ b < w.heap.size)) : Own enc size e B w' v xs := h.keep fun k hv => hk.block k (h.lt k hv).2 (fun f => hF k f (h.lt k hv))
end
section
variable {base B : Nat} {w w' : World} {rows rows' xs : List RowD} {r : RowD} {v : Value}
/-- rows, and more rows that were made after them -/
theorem RowsAt.app (h : RowsAt base w rows) (hbw : base ≤ w.heap.size) (hB : Below w.heap.size w w') (hr : RowsAt w.heap.size w' rows') : RowsAt base w' (rows ++ rows') := by
  refine ⟨fun s hs => ?_, fun i j a b hi hj hij g o g' o' ha hb => ?_⟩
  · rcases List.mem_append.1 hs with hs | hs
    · exact (h.live s hs).below hB
    · exact (hr.live s hs).mono hbw
  · by_cases hi' : i < rows.length <;> by_cases hj' : j < rows.length
    · rw [List.getElem?_append_left hi'] at hi
      rw [List.getElem?_append_left hj'] at hj
      exact h.sep i j a b hi hj hij g o g' o' ha hb
    · rw [List.getElem?_append_left hi'] at hi
      rw [List.getElem?_append_right (by omega)] at hj
      have e1 := (h.live a (List.mem_of_getElem? hi)).lt ha
      have e2 := ((hr.live b (List.mem_of_getElem? hj)).blk g' o' hb).1
      omega
    · rw [List.getElem?_append_right (by omega)] at hi
      rw [List.getElem?_append_left hj'] at hj
      have e1 := (h.live b (List.mem_of_getElem? hj)).lt hb
      have e2 := ((hr.live a (List.mem_of_getElem? hi)).blk g o ha).1
      omega
    · rw [List.getElem?_append_right (by omega)] at hi
      rw [List.getElem?_append_right (by omega)] at hj
      exact hr.sep (i - rows.length) (j - rows.length) a b hi hj (by omega) g o g' o' ha hb
theorem row_not_list (h : r.Live base w) (ho : Own encR 1 65 B w v xs) : ∀ g off, r.b = some (g, off) → v.ownBlock ≠ some g := by
  intro g off e hv
  obtain ⟨_, cur, h2, _⟩ := h.blk g off e
  obtain ⟨cur', h3⟩ := Own.blk (ho.mono (Nat.zero_le _)) hv
  rw [h2] at h3
  injection h3 with h3
  injection h3 with _ e _
  exact absurd e (by decide)
/-- where the list lies: in a block of its own, apart from the rows -/
theorem list_lies {n c : Nat} {A : Option Addr} (h : Own encR 1 65 B w (.slice A n c) xs) (hn : xs ≠ []) : ∃ G, A = some ⟨G, 0, none⟩ ∧ Lst w G xs ∧ B ≤ G ∧ G < w.heap.size ∧ ∀ (base : Nat) (r : RowD), r.Live base w → ∀ g o, r.b = some (g, o) → g ≠ G := by
  obtain ⟨G, rfl⟩ : ∃ G, A = some ⟨G, 0, none⟩ := by
    rcases h.2 with ⟨e, h0⟩ | ⟨g, cap, cur', e, _⟩
    · exact absurd (List.eq_nil_of_length_eq_zero h0) hn
    · injection e with e1
      exact ⟨g, e1⟩
  refine ⟨G, rfl, lst_of_own h, (h.lt G rfl).1, (h.lt G rfl).2, fun base r hl g o e hg => ?_⟩
  subst hg
  exact row_not_list hl h g o e rfl
/-- what a line's cells are as a row -/
theorem row_of_line {g c : Nat} {ys : List Cl} {z : Int} (h : RowM.At w ⟨g, c, ys, z⟩) (hB : B ≤ g) : (⟨some (g, 0), ys.length, c⟩ : RowD).Live B w := by
  obtain ⟨r, h1, h2, h3⟩ := row_of_own (Own.lift h (B' := B) (fun k hk => by injection hk with hk; subst hk; exact hB))
  obtain ⟨rb, rn, rc⟩ := r
  simp only [RowD.v, RowM.sl] at h1
  injection h1 with e1 e2 e3
  subst e2 e3
  match rb, e1 with
  | some (a, b), e1 =>
    simp only [Option.map_some] at e1
    injection e1 with e1
    injection e1 with e1 e2
    subst e1 e2
    exact h3
/-- what Spare made is a row -/
theorem row_of_all {S n : Nat} {ys : List Cl} (h : Own encC 3 60 B w (.slice (some ⟨S, 0, none⟩) n n) ys) : (⟨some (S, 0), n, n⟩ : RowD).Live B w := by
  obtain ⟨r, h1, h2, h3⟩ := row_of_own h
  obtain ⟨rb, rn, rc⟩ := r
  simp only [RowD.v] at h1
  injection h1 with e1 e2 e3
  subst e2 e3
  match rb, e1 with
  | some (a, b), e1 =>
    simp only [Option.map_some] at e1
    injection e1 with e1
    injection e1 with e1 e2
    subst e1 e2
    exact h3
end
/-- rows are appended to a list of rows -/
theorem rows_append {U w : World} {ops : Array Oper} {rest : List Oper} {o : Oper} {a : Act} {Q : Exit → Act → World → Prop} {base : Nat} (s x : Operand) (hgd : o.guard = none)
    (ho : o.op = .call { callee := .builtin .append, args := #[s, x], argTypes := #[97, 97] })
    (rows ys : List RowD) (v : Value) (A : Option Addr) (c n : Nat) (hys : n = ys.length) (hs : a.eval s = v) (hx : a.eval x = .slice A n c)
    (hU : Below U.heap.size U w) (hown : Own encR 1 65 U.heap.size w v rows) (hr : Rd encR 1 w A ys) (hR : RowsAt base w (rows ++ ys)) (hn : rows.length + ys.length ≤ 1000)
    (h : ∀ A' c' n' x', Hid (Own encR 1 65 U.heap.size (ext U x') (.slice A' n' c') (rows ++ ys)) → Hid (n' = (rows ++ ys).length) → Hid (RowsAt base (ext U x') (rows ++ ys)) → wpList Tryz.prog ops Q rest (a.put o.dst (.slice A' n' c')) (ext U x')) : wpList Tryz.prog ops Q (o :: rest) a w := by
  subst hys
  refine wpList_plain hgd fun K hK => ?_
  obtain ⟨A', c', x', hrun, hO, hF, hG⟩ := run_append_far2 (P := Tryz.prog) U w 97 o.type 65 _ 24 Tryz.underlying97 cells_info rfl (by omega) encR_len encR_one rows ys v A c hU hown hr (by simp [maxLen]; omega) (by omega)
  unfold Oper.wp execOp
  simp only [ho, resolve, invoke, builtin, Sem.run_bind, Sem.run_pure, Result.andThen_ok, List.map_toArray, List.map_cons, List.map_nil, hs, hx, hrun]
  refine hK _ _ (h A' c' _ x' (Lib.hid hO) (Lib.hid rfl) (Lib.hid ⟨fun q hq => ?_, hR.sep⟩))
  have hl := hR.live q hq
  refine ⟨hl.le, hl.nil, fun g off e => ?_⟩
  obtain ⟨h1, cur, h2, h3⟩ := hl.blk g off e
  exact ⟨h1, cur, (hG g (hl.lt e) (row_not_list hl hown g off e)).trans h2, h3⟩
end Go.Proofs.YtignkkejkknddaaGreat
