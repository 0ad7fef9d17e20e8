/- Rows of cells in memory, one by one in a list: what Cells answers.  -/
import Derived.Test.YtignkkejkknddaaPgA
import Derived.Test.YtignkkejkknddaaApart
namespace Go.Proofs.Ytignkkejkknddaa
open Go.RowKit
set_option linter.unusedVariables false
set_option linter.unusedSimpArgs false

def RowD.adr (r : RowD) : Option Addr := r.b.map fun p => ⟨p.1, p.2, none⟩
def encQ (s : RowD × List Cl) : List Value := [s.1.v]
theorem encQ_len (s : RowD × List Cl) : (encQ s).length = 1 := rfl
theorem encQ_one (s : RowD × List Cl) : ∀ u ∈ encQ s, u.oneCell' = true := by
  intro u hu
  simp only [encQ, List.mem_singleton] at hu
  subst hu
  rfl
theorem cells_info : (Try.prog.info? 49).map (fun i => (i.zero, i.size, i.bytes)) = some (some (.slice none 0 0), 1, 24) := by kernel_rfl
/-- a list of rows, each of them memory of its own -/
structure CellsAt (B : Nat) (w : World) (V : Value) (rows : List (RowD × List Cl)) : Prop where
  own : Own encQ 1 49 B w V rows
  sep : RowsAt B w (rows.map Prod.fst)
  rd : ∀ s ∈ rows, s.1.n = s.2.length ∧ Rd encC 3 w s.1.adr s.2
section
variable {B : Nat} {w w' : World} {V : Value} {rows : List (RowD × List Cl)}
theorem Rd.keep {α : Type} {enc : α → List Value} {size : Nat} {a : Option Addr} {xs : List α} (h : Rd enc size w a xs) (hs : w.heap.size ≤ w'.heap.size) (hf : ∀ b off, a = some ⟨b, off, none⟩ → w'.heap[b]? = w.heap[b]?) : Rd enc size w' a xs := fun h0 => by
  obtain ⟨b, off, e, hlt, hc⟩ := h h0
  exact ⟨b, off, e, Nat.lt_of_lt_of_le hlt hs, fun i hi j v hv => (cell_of_heap (hf b off e)).trans (hc i hi j v hv)⟩
theorem adr_some {r : RowD} {b off : Nat} (h : r.adr = some ⟨b, off, none⟩) : r.b = some (b, off) := by
  unfold RowD.adr at h
  match hb : r.b with
  | none => rw [hb] at h; cases h
  | some p =>
    rw [hb] at h
    injection h with h
    injection h with h1 h2
    subst h1 h2
    rfl
theorem CellsAt.grow (h : CellsAt B w V rows) (hb : Below w.heap.size w w') : CellsAt B w' V rows :=
  ⟨h.own.below hb, h.sep.below hb, fun s hs => ⟨(h.rd s hs).1, (h.rd s hs).2.below hb⟩⟩
theorem CellsAt.keep {F : Nat → Prop} (h : CellsAt B w V rows) (hk : Keep F w w') (hF : ∀ b, F b → b < B) : CellsAt B w' V rows := by
  refine ⟨h.own.keep fun k hv => ?_, ⟨fun r hr => ?_, h.sep.sep⟩, fun s hs => ⟨(h.rd s hs).1, (h.rd s hs).2.keep hk.size fun b off e => ?_⟩⟩
  · have := h.own.lt k hv
    exact hk.block k this.2 (fun f => by have := hF k f; omega)
  · have hl := h.sep.live r hr
    refine ⟨hl.le, hl.nil, fun g off e => ?_⟩
    obtain ⟨h1, cur, h2, h3⟩ := hl.blk g off e
    exact ⟨h1, cur, (hk.block g (heap_in h2) (fun f => by have := hF g f; omega)).trans h2, h3⟩
  · have hl := h.sep.live s.1 (List.mem_map.2 ⟨s, hs, rfl⟩)
    obtain ⟨h1, cur, h2, h3⟩ := hl.blk b off (adr_some e)
    exact hk.block b (heap_in h2) (fun f => by have := hF b f; omega)
theorem CellsAt.nil (B : Nat) (w : World) : CellsAt B w (.slice none 0 0) [] := ⟨Own.nil _ _ _ _ _, RowsAt.nil _ _, fun s hs => by simp at hs⟩
theorem CellsAt.mono {B' : Nat} (h : CellsAt B w V rows) (hB : B' ≤ B) : CellsAt B' w V rows := ⟨h.own.mono hB, ⟨fun r hr => (h.sep.live r hr).mono hB, h.sep.sep⟩, h.rd⟩
theorem ownQR (h : Own encQ 1 49 B w V rows) : Own encR 1 49 B w V (rows.map Prod.fst) := by
  unfold Own at h ⊢
  rw [List.length_map, List.flatMap_map]
  exact h
end
/-- what Cut answers is a row of its own -/
theorem cutL_row {w w' : World} {e : Ending} {xs : List Cl} {f t : Int} (h : CutL w xs f t e w') (hm : xs.length ≤ 1000000) : ∃ (r : RowD) (x : More), e = .returned (.slice r.adr r.n r.c) ∧ w' = ext w x ∧ r.Live w.heap.size (ext w x) ∧ r.n = (cutR xs f t).length ∧ Rd encC 3 (ext w x) r.adr (cutR xs f t) := by
  have hlen := cutR_len xs f t
  obtain ⟨A, c, x, rfl, hO, h⟩ := h
  have hle := offN_le xs.length f t (by omega)
  have hnil : (⟨none, 0, 0⟩ : RowD).Live w.heap.size (ext w x) := ⟨Nat.le_refl _, fun _ => rfl, fun g off e => by cases e⟩
  rcases h with ⟨hx, rfl⟩ | ⟨g, rfl, rfl⟩
  · have h0 : (cutR xs f t).length = 0 := by omega
    exact ⟨⟨none, 0, 0⟩, x, rfl, rfl, hnil, by rw [h0], fun h => by omega⟩
  · unfold cutW
    by_cases h0 : spanN xs.length f t = 0
    · have h1 : (cutR xs f t).length = 0 := by rw [hlen, h0]; rfl
      rw [if_pos h0]
      exact ⟨⟨none, 0, 0⟩, x, rfl, rfl, hnil, by rw [h1], fun h => by omega⟩
    · rw [if_neg h0]
      have hoff : offN xs.length f t = (spanA f).toNat := by unfold offN; rw [if_neg h0]
      have hcap : xs.length ≤ c := by
        obtain ⟨A0, c0, e0, h1, _⟩ := hO.form
        injection e0 with _ _ e0
        omega
      rw [hoff] at hle
      obtain ⟨r, hv, hn, hl⟩ := row_of_part hO (spanA f).toNat (spanN xs.length f t).toNat (spanN xs.length f t).toNat (by omega) (Nat.le_refl _)
      refine ⟨r, x, by rw [show Value.slice r.adr r.n r.c = r.v from rfl, hv]; simp, rfl, hl, by omega, ?_⟩
      have hadr : r.adr = some ⟨g, (spanA f).toNat * 3, none⟩ := by
        have := hv
        simp only [RowD.v] at this
        injection this with this
        simpa [RowD.adr] using this
      rw [hadr]
      obtain ⟨b, off, e2, hd⟩ := (hO.rd encC_len).drop (k := (spanA f).toNat) (by omega)
      injection e2 with e2
      injection e2 with e2 e3
      subst e2 e3
      have h4 := hd.take (spanN xs.length f t).toNat
      rw [Nat.zero_add] at h4
      unfold cutR
      rw [hoff]
      exact h4
/-- the rows of a box of a page -/
def cellsS (S : PgS) (b : BxI) : List (List Cl) := (List.range (b.b - b.t).toNat).map fun i => cutR (S.rows.getD (b.t.toNat + i) ([], 0)).1 b.l b.r
/-- a call that answers rows of its own -/
def NewCells (w : World) (vals : List (List Cl)) (e : Ending) (w' : World) : Prop := ∃ V rows x, e = .returned V ∧ w' = ext w x ∧ CellsAt w.heap.size (ext w x) V rows ∧ rows.map Prod.snd = vals
end Go.Proofs.Ytignkkejkknddaa
/- Pages: Cells.  -/
namespace Go.Proofs.Ytignkkejkknddaa
open Go.RowKit
set_option linter.unusedVariables false
set_option linter.unusedSimpArgs false

section
variable {F : Nat → Prop} {p : Nat} {S : PgS} {w : World}
end
end Go.Proofs.Ytignkkejkknddaa
/- Pages, plainly: cell by cell changes of a page; what Copy makes of one.  -/
namespace Go.Proofs.Ytignkkejkknddaa
open Go.RowKit
set_option linter.unusedVariables false
set_option linter.unusedSimpArgs false

/-- each cell by its place -/
def mapS (S : PgS) (g : Nat → Nat → Cl → Cl) : PgS := ⟨S.rows.mapIdx fun i row => (row.1.mapIdx (g i), row.2), S.cols⟩
section
variable {S T : PgS} {g g' : Nat → Nat → Cl → Cl}
theorem mapS_len : (mapS S g).rows.length = S.rows.length := by simp [mapS]
theorem mapS_at {i : Nat} (h : i < S.rows.length) (h' : i < (mapS S g).rows.length) : (mapS S g).rows[i] = (S.rows[i].1.mapIdx (g i), S.rows[i].2) := by simp [mapS]
theorem mapS_congr (h : ∀ i (hi : i < S.rows.length) k (hk : k < S.rows[i].1.length), g i k S.rows[i].1[k] = g' i k S.rows[i].1[k]) : mapS S g = mapS S g' := by
  unfold mapS
  congr 1
  apply List.ext_getElem (by simp)
  intro i h1 h2
  simp only [List.length_mapIdx] at h1
  simp only [List.getElem_mapIdx]
  congr 1
  apply List.ext_getElem (by simp)
  intro k h3 h4
  simp only [List.length_mapIdx] at h3
  simp only [List.getElem_mapIdx]
  exact h i h1 k h3
theorem mapS_id (h : ∀ i (hi : i < S.rows.length) k (hk : k < S.rows[i].1.length), g i k S.rows[i].1[k] = S.rows[i].1[k]) : mapS S g = S := by
  cases S with | mk rows cols =>
  unfold mapS
  congr 1
  apply List.ext_getElem (by simp)
  intro i h1 h2
  simp only [List.getElem_mapIdx]
  refine Prod.ext ?_ rfl
  apply List.ext_getElem (by simp)
  intro k h3 h4
  simp only [List.getElem_mapIdx]
  exact h i h2 k h4
theorem mapS_row {i0 : Nat} (hi0 : i0 < S.rows.length) (h : ∀ i (hi : i < S.rows.length), i ≠ i0 → ∀ k (hk : k < S.rows[i].1.length), g i k S.rows[i].1[k] = g' i k S.rows[i].1[k]) {v : List Cl × Int} (hv : v = (S.rows[i0].1.mapIdx (g' i0), S.rows[i0].2)) : mapS S g' = setRowS (mapS S g) i0 v := by
  subst hv
  unfold mapS setRowS
  congr 1
  apply List.ext_getElem (by simp)
  intro i h1 h2
  simp only [List.length_mapIdx] at h1
  rw [List.getElem_set]
  simp only [List.getElem_mapIdx]
  by_cases e : i0 = i
  · subst e; rw [if_pos rfl]
  · rw [if_neg e]
    refine Prod.ext ?_ rfl
    apply List.ext_getElem (by simp)
    intro k h3 h4
    simp only [List.length_mapIdx] at h3
    simp only [List.getElem_mapIdx]
    exact (h i h1 (fun e' => e e'.symm) k h3).symm
theorem mapS_ok (h : S.Ok) (hg : ∀ i (hi : i < S.rows.length) k (hk : k < S.rows[i].1.length), (g i k S.rows[i].1[k]).ok) : (mapS S g).Ok := by
  refine ⟨by rw [mapS_len]; exact h.r1, by rw [mapS_len]; exact h.r2, h.c1, h.c2, fun r hr => ?_, fun r hr y hy => ?_⟩
  · obtain ⟨i, hi, rfl⟩ := List.getElem_of_mem hr
    have hi' := hi
    rw [mapS_len] at hi'
    rw [mapS_at hi', List.length_mapIdx]
    exact h.wid _ (List.getElem_mem hi')
  · obtain ⟨i, hi, rfl⟩ := List.getElem_of_mem hr
    have hi' := hi
    rw [mapS_len] at hi'
    rw [mapS_at hi'] at hy
    obtain ⟨k, hk, rfl⟩ := List.getElem_of_mem hy
    simp only [List.length_mapIdx] at hk
    simp only [List.getElem_mapIdx]
    exact hg i hi' k hk
theorem PgS.Ok.get (h : S.Ok) {i : Nat} (hi : i < S.rows.length) {k : Nat} (hk : k < S.rows[i].1.length) : S.rows[i].1[k].ok := h.ok _ (List.getElem_mem hi) _ (List.getElem_mem hk)
theorem PgS.Ok.len (h : S.Ok) {i : Nat} (hi : i < S.rows.length) : S.rows[i].1.length = S.cols := h.wid _ (List.getElem_mem hi)
end
/-- a cell of a page; nothing where there is none -/
def cellAt (T : PgS) (i k : Nat) : Cl := (T.rows.getD i ([], 0)).1.getD k noC
theorem cellAt_in {T : PgS} {i k : Nat} (h : i < T.rows.length) (hk : k < T.rows[i].1.length) : cellAt T i k = T.rows[i].1[k] := by simp [cellAt, h, hk]
theorem noC_ok : noC.ok := by simp [noC, Cl.ok]
theorem cellAt_ok {T : PgS} (h : T.Ok) (i k : Nat) : (cellAt T i k).ok := by
  by_cases h1 : i < T.rows.length
  · by_cases h2 : k < T.rows[i].1.length
    · rw [cellAt_in h1 h2]; exact h.get h1 h2
    · simp [cellAt, h1, h2, noC_ok]
  · simp [cellAt, h1, noC_ok]
/-- what is copied to a place: the first j rows of a box, from a place on -/
def pasteG (T : PgS) (b : BxI) (r c : Int) (j : Nat) (i k : Nat) (y : Cl) : Cl := if r ≤ i ∧ (i : Int) < r + j ∧ c ≤ k ∧ b.l + (k - c) < b.r then cellAt T (b.t + (i - r)).toNat (b.l + (k - c)).toNat else y
def pasteJ (S T : PgS) (b : BxI) (r c : Int) (j : Nat) : PgS := mapS S (pasteG T b r c j)
def pasteS (S T : PgS) (b : BxI) (r c : Int) : PgS := pasteJ S T b r c (b.b - b.t).toNat
section
variable {S T : PgS} {b : BxI} {r c : Int} {j : Nat}
theorem pasteJ_zero : pasteJ S T b r c 0 = S := mapS_id fun i hi k hk => if_neg (by omega)
theorem pasteJ_no (h : r + j < 0 ∨ (S.rows.length : Int) ≤ r + j) : pasteJ S T b r c (j + 1) = pasteJ S T b r c j := mapS_congr fun i hi k hk => by
  unfold pasteG
  congr 1
  simp only [Int.natCast_add, eq_iff_iff]
  omega
theorem pasteJ_right (hS : S.Ok) (h : (S.cols : Int) < c) : pasteJ S T b r c (j + 1) = pasteJ S T b r c j := mapS_congr fun i hi k hk => by
  rw [hS.len hi] at hk
  unfold pasteG
  rw [if_neg (by omega), if_neg (by omega)]
theorem pasteJ_left (h : c ≤ -(b.r - b.l)) : pasteJ S T b r c (j + 1) = pasteJ S T b r c j := mapS_congr fun i hi k hk => by
  unfold pasteG
  rw [if_neg (by omega), if_neg (by omega)]
theorem pasteJ_step (hS : S.Ok) (hT : T.Ok) (hl : 0 ≤ b.l) (hlr : b.l < b.r) (hr : b.r ≤ T.cols) (ht : 0 ≤ b.t) (hj : b.t.toNat + j < T.rows.length) (i0 : Nat) (hi : r + j = i0) (hi0 : i0 < S.rows.length) (hc : c ≤ S.cols) (cs : List Cl) (hcs : cs = cutR (T.rows.getD (b.t.toNat + j) ([], 0)).1 b.l b.r) (f : Int) (hf : f = max 0 c) (d : Nat) (hd : d = (-c).toNat) :
    pasteJ S T b r c (j + 1) = setRowS (pasteJ S T b r c j) i0 (layR S.rows[i0].1 f S.cols (cs.drop d), S.rows[i0].2) := by
  refine mapS_row hi0 (fun i hi' hne k hk => ?_) (Prod.ext ?_ rfl)
  · unfold pasteG
    congr 1
    simp only [Int.natCast_add, eq_iff_iff]
    omega
  · simp only
    have hTl := hT.len hj
    have hlen : cs.length = (b.r - b.l).toNat := by
      rw [hcs, cutR_len]
      simp only [hj, List.getD_eq_getElem?_getD, List.getElem?_eq_getElem, Option.getD_some, hTl]
      unfold spanN
      omega
    have hw := hS.len hi0
    have hspan : spanN S.rows[i0].1.length f S.cols = S.cols - f := by rw [hw]; unfold spanN; omega
    apply List.ext_getElem?
    intro k
    unfold layR
    rw [layOn_get _ _ _ _ (by
      have := offN_le S.rows[i0].1.length f S.cols (by omega)
      rw [List.length_take]; omega), List.length_take, List.length_drop, hspan, hlen, List.getElem?_mapIdx]
    rcases Nat.lt_or_ge k S.cols with hk | hk
    · rw [List.getElem?_eq_getElem (l := S.rows[i0].1) (i := k) (by omega)]
      simp only [Option.map_some]
      by_cases hin : f ≤ k ∧ b.l + (k - c) < b.r
      · have hoff : offN S.rows[i0].1.length f S.cols = f.toNat := by
          unfold offN
          rw [hspan, if_neg (by omega)]
          unfold spanA
          omega
        rw [hoff, if_pos (by omega), List.getElem?_take, if_pos (by omega), List.getElem?_drop]
        unfold pasteG
        rw [if_pos (by omega)]
        subst hcs
        have e0 : offN T.rows[b.t.toNat + j].1.length b.l b.r = b.l.toNat := by
          unfold offN
          rw [hTl, if_neg (by unfold spanN; omega)]
          unfold spanA
          omega
        unfold cutR
        simp only [hj, List.getD_eq_getElem?_getD, List.getElem?_eq_getElem, Option.getD_some]
        rw [e0, hTl, List.getElem?_take, if_pos (by unfold spanN; omega), List.getElem?_drop]
        have e1 : (b.t + ((i0 : Int) - r)).toNat = b.t.toNat + j := by omega
        have e2 : (b.l + ((k : Int) - c)).toNat = b.l.toNat + (d + (k - f.toNat)) := by omega
        have e3 : b.l.toNat + (d + (k - f.toNat)) < T.rows[b.t.toNat + j].1.length := by omega
        rw [e1, e2, cellAt_in hj e3, List.getElem?_eq_getElem e3]
      · have hno : ¬ (offN S.rows[i0].1.length f S.cols ≤ k ∧ k < offN S.rows[i0].1.length f S.cols + min (S.cols - f).toNat ((b.r - b.l).toNat - d)) := by
          rcases Int.lt_or_le f S.cols with h5 | h5
          · have hoff : offN S.rows[i0].1.length f S.cols = f.toNat := by
              unfold offN
              rw [hspan, if_neg (by omega)]
              unfold spanA
              omega
            rw [hoff]
            omega
          · omega
        rw [if_neg hno]
        unfold pasteG
        rw [if_neg (by omega)]
    · rw [if_neg (by
        have := offN_le S.rows[i0].1.length f S.cols (by omega)
        rw [hspan, hw] at this
        rw [hw]
        omega), List.getElem?_eq_none (l := S.rows[i0].1) (by omega)]
      rfl
theorem pasteJ_len : (pasteJ S T b r c j).rows.length = S.rows.length := mapS_len
theorem pasteJ_ok (hS : S.Ok) (hT : T.Ok) : (pasteJ S T b r c j).Ok := mapS_ok hS fun i hi k hk => by
  unfold pasteG
  split
  · exact cellAt_ok hT _ _
  · exact hS.get hi hk
/-- the row that comes next is still as it was -/
theorem pasteJ_at {i0 : Nat} (hi : r + j = i0) (hi0 : i0 < S.rows.length) (h' : i0 < (pasteJ S T b r c j).rows.length) : (pasteJ S T b r c j).rows[i0] = S.rows[i0] := by
  unfold pasteJ at h' ⊢
  rw [mapS_at hi0]
  refine Prod.ext ?_ rfl
  apply List.ext_getElem (by simp)
  intro k h3 h4
  simp only [List.getElem_mapIdx]
  unfold pasteG
  rw [if_neg (by omega)]
end
theorem onB_twice (m n : Nat) (x : BxI) : onB m n (onB m n x) = onB m n x := by
  have h := onB_in m n x
  generalize onB m n x = y at h ⊢
  obtain ⟨t, l, b, r⟩ := y
  simp only at h
  unfold onB meetI
  simp only [BxI.mk.injEq]
  split <;> omega
theorem Did.back {F : Nat → Prop} {p : Nat} {T : PgS} {w a b : World} (h : Did F p T a b) (hb : Below w.heap.size w a) (hF : ∀ x, F x → x < w.heap.size) : Did F p T w b := by
  have h1 := hb.size
  have h2 := h.1.size
  refine ⟨(Keep.of_below (F := F) hb).trans h.1 (fun x hx => .inl hx), h.2.mono (fun x hx => hx.elim .inl (fun e => .inr ⟨by omega, e.2⟩)) (fun x hx => ?_)⟩
  rcases hx with hx | hx
  · have := hF x hx
    omega
  · exact hx.2
end Go.Proofs.Ytignkkejkknddaa
/- Pages, plainly: rows of a box changed one by one.  -/
namespace Go.Proofs.Ytignkkejkknddaa
open Go.RowKit
set_option linter.unusedVariables false
set_option linter.unusedSimpArgs false

/-- j rows from t on are changed by f -/
def rowsJ (S : PgS) (t : Nat) (f : Nat → List Cl × Int → List Cl × Int) (j : Nat) : PgS := ⟨S.rows.mapIdx fun i row => if t ≤ i ∧ i < t + j then f i row else row, S.cols⟩
section
variable {S : PgS} {t j : Nat} {f g : Nat → List Cl × Int → List Cl × Int}
@[simp] theorem rowsJ_cols : (rowsJ S t f j).cols = S.cols := rfl
@[simp] theorem rowsJ_len : (rowsJ S t f j).rows.length = S.rows.length := by simp [rowsJ]
theorem rowsJ_get {i : Nat} (h : i < S.rows.length) (h' : i < (rowsJ S t f j).rows.length) : (rowsJ S t f j).rows[i] = if t ≤ i ∧ i < t + j then f i S.rows[i] else S.rows[i] := by simp [rowsJ]
theorem rowsJ_zero : rowsJ S t f 0 = S := by
  cases S with | mk rows cols =>
  unfold rowsJ
  congr 1
  apply List.ext_getElem (by simp)
  intro i h1 h2
  simp only [List.getElem_mapIdx]
  rw [if_neg (by omega)]
theorem rowsJ_at {i : Nat} (hi : t + j = i) (h : i < S.rows.length) (h' : i < (rowsJ S t f j).rows.length) : (rowsJ S t f j).rows[i] = S.rows[i] := by
  rw [rowsJ_get h, if_neg (by omega)]
theorem rowsJ_step {i : Nat} (hi : t + j = i) (h : i < S.rows.length) : rowsJ S t f (j + 1) = setRowS (rowsJ S t f j) i (f i S.rows[i]) := by
  unfold rowsJ setRowS
  congr 1
  apply List.ext_getElem (by simp)
  intro k h1 h2
  simp only [List.length_mapIdx] at h1
  rw [List.getElem_set]
  simp only [List.getElem_mapIdx]
  by_cases e : i = k
  · subst e; rw [if_pos rfl, if_pos (by omega)]
  · rw [if_neg e]
    by_cases h3 : t ≤ k ∧ k < t + j
    · rw [if_pos h3, if_pos (by omega)]
    · rw [if_neg h3, if_neg (by omega)]
theorem rowsJ_congr (h : ∀ i (hi : i < S.rows.length), t ≤ i → i < t + j → f i S.rows[i] = g i S.rows[i]) : rowsJ S t f j = rowsJ S t g j := by
  unfold rowsJ
  congr 1
  apply List.ext_getElem (by simp)
  intro k h1 h2
  simp only [List.length_mapIdx] at h1
  simp only [List.getElem_mapIdx]
  by_cases h3 : t ≤ k ∧ k < t + j
  · rw [if_pos h3, if_pos h3]; exact h k h1 h3.1 h3.2
  · rw [if_neg h3, if_neg h3]
theorem rowsJ_ok (hS : S.Ok) (hl : ∀ i (hi : i < S.rows.length), (f i S.rows[i]).1.length = S.cols) (hc : ∀ i (hi : i < S.rows.length), ∀ y ∈ (f i S.rows[i]).1, y.ok) : (rowsJ S t f j).Ok := by
  refine ⟨by rw [rowsJ_len]; exact hS.r1, by rw [rowsJ_len]; exact hS.r2, hS.c1, hS.c2, fun r hr => ?_, fun r hr y hy => ?_⟩
  · obtain ⟨i, hi, rfl⟩ := List.getElem_of_mem hr
    have hi' := hi
    rw [rowsJ_len] at hi'
    rw [rowsJ_get hi']
    split
    · exact hl i hi'
    · exact hS.len hi'
  · obtain ⟨i, hi, rfl⟩ := List.getElem_of_mem hr
    have hi' := hi
    rw [rowsJ_len] at hi'
    rw [rowsJ_get hi'] at hy
    split at hy
    · exact hc i hi' y hy
    · exact hS.ok _ (List.getElem_mem hi') y hy
end
/-- a deed on the span of every row of a box -/
def eachS (S : PgS) (b : BxI) (f : List Cl → Int → Int → List Cl) : PgS := rowsJ S b.t.toNat (fun _ row => (f row.1 b.l b.r, row.2)) (b.b - b.t).toNat
theorem eachS_ok {S : PgS} (hS : S.Ok) (b : BxI) {f : List Cl → Int → Int → List Cl} (hl : ∀ xs l r, (f xs l r).length = xs.length) (hc : ∀ xs l r, (∀ y ∈ xs, y.ok) → ∀ y ∈ f xs l r, y.ok) : (eachS S b f).Ok :=
  rowsJ_ok hS (fun i hi => by rw [hl]; exact hS.len hi) (fun i hi y hy => hc _ _ _ (hS.ok _ (List.getElem_mem hi)) y hy)
end Go.Proofs.Ytignkkejkknddaa
