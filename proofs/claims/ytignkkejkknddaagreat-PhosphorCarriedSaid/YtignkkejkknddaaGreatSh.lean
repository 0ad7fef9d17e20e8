/- phosphorlaw14.Sheet: two pages of the document's, one being filled, one being made.  -/
import Derived.Test.YtignkkejkknddaaGreatEdM
import Derived.Deep.Upon
import Derived.Deep.MidRow
import Derived.Laws.Tables
import Derived.Test.YtignkkejkknddaaGreatRegionF
import Derived.IntWalk
namespace Go.Proofs.YtignkkejkknddaaGreat
open Go.RowKit
set_option linter.unusedVariables false
set_option linter.unusedSimpArgs false

theorem setCells_blk {B : Nat} {t : TypeId} : ∀ (vs : List Value) (o : Nat) (W : World) (cur : Array Value), W.heap[B]? = some (.cells cur t (0, 0)) → o + vs.length = cur.size →
    (W.setCells B o vs).heap[B]? = some (.cells (cur.toList.take o ++ vs).toArray t (0, 0)) ∧ Keep (· = B) W (W.setCells B o vs)
  | [], o, W, cur, h, hl => by
    refine ⟨?_, Keep.refl _ _⟩
    have e : cur.toList.take o ++ [] = cur.toList := by rw [List.append_nil, List.take_of_length_le (by simp at hl ⊢; omega)]
    rw [e]
    exact h
  | v :: r, o, W, cur, h, hl => by
    have h1 : (W.setCell ⟨B, o, none⟩ v).heap[B]? = some (.cells (cur.setIfInBounds o v) t (0, 0)) := by simp [World.setCell, Array.getElem?_modify, h]
    obtain ⟨h2, h3⟩ := setCells_blk r (o + 1) (W.setCell ⟨B, o, none⟩ v) (cur.setIfInBounds o v) h1 (by simp at hl ⊢; omega)
    refine ⟨?_, ((Keep.refl (· = B) W).set (p := ⟨B, o, none⟩) (.inl rfl) v).trans h3 (fun x hx => .inl hx)⟩
    show ((W.setCell ⟨B, o, none⟩ v).setCells B (o + 1) r).heap[B]? = _
    rw [h2]
    have e : (cur.setIfInBounds o v).toList.take (o + 1) ++ r = cur.toList.take o ++ v :: r := by
      have hlt : o < cur.toList.length := by simp at hl ⊢; omega
      rw [Array.toList_setIfInBounds, List.take_succ_eq_append_getElem (by simpa using hlt), List.getElem_set_self, List.take_set_of_le (Nat.le_refl _), List.append_assoc]
      rfl
    rw [e]
theorem store_all {W : World} {B : Nat} {cur : Array Value} {t : TypeId} (h : W.heap[B]? = some (.cells cur t (0, 0))) (vs : List Value) (hl : cur.size = vs.length) :
    ∃ W', W.setCells B 0 vs = W' ∧ Keep (· = B) W W' ∧ W'.heap[B]? = some (.cells vs.toArray t (0, 0)) := by
  obtain ⟨h1, h2⟩ := setCells_blk vs 0 W cur h (by omega)
  exact ⟨_, rfl, h2, by simpa using h1⟩
/-- a new page of the document's, its list spelled out -/
theorem NewRef.some {S : PgS} {w w' : World} {e : Ending} (h : NewRef S w e w') {m : Nat} (hm : S.rows.length = m) (h0 : 0 < m) : ∃ L c rows x, e = .returned (.agg #[.slice (Option.some ⟨L, 0, none⟩) m c, .int .i64 S.cols]) ∧ w' = ext w x ∧ Lns (ext w x) (.slice (Option.some ⟨L, 0, none⟩) m c) rows ∧ rows.map RowM.val = S.rows ∧ ∀ b, foot (.slice (Option.some ⟨L, 0, none⟩) m c) rows b → w.heap.size ≤ b := by
  obtain ⟨V, rows, x, rfl, rfl, hl, hv, hf⟩ := h
  have hn : rows.length = m := by rw [← hm, ← hv]; simp
  obtain ⟨g, c, e, _, _⟩ := hl.own.some_of (by omega)
  subst e
  rw [hn] at hl hf ⊢
  exact ⟨g, c, rows, x, rfl, rfl, hl, hv, hf⟩
abbrev zero14 : Array Value := #[.slice none 0 0, .int .i64 0, .int .i64 0, .int .i64 0, .int .u8 0, .bool false, .bool false, .bool false, .int .i64 0, .int .i64 0, .int .i64 0, .int .i64 0, .int .i64 0, .int .i64 0, .int .i64 0, .int .i64 0, .int .i64 0, .int .i64 0, .int .i64 0]
/-- the first page, being filled, row by row; the page that is being made; the variables -/
structure Bg (w wr : World) (N H0 HR HW : Nat) (b : BgD) (L0 c0 : Nat) (V' : Value) (rows0 rows' : List RowM) (i : Nat) (S' : PgS) : Prop where
  below : Below w.heap.size w wr
  nle : N ≤ wr.heap.size
  hb : wr.heap[H0]? = some (.cells b.cells.toArray 33 (0, 0))
  hr : wr.heap[HR]? = some (.cells zero14 84 (0, 0))
  hw : wr.heap[HW]? = some (.cells #[V', .int .i64 S'.cols] 39 (0, 0))
  l0 : Lns wr (.slice (some ⟨L0, 0, none⟩) (begM b) c0) rows0
  l1 : Lns wr V' rows'
  val : rows'.map RowM.val = S'.rows
  fresh : ∀ j, i ≤ j → j < begM b → ∃ r, rows0[j]? = some r ∧ r.val = (List.replicate (begN b) erC, 0)
  two : (V' = .slice (some ⟨L0, 0, none⟩) (begM b) c0 ∧ rows' = rows0) ∨ (∀ r ∈ rows0, ¬ foot V' rows' r.g)
  new0 : ∀ x, foot (.slice (some ⟨L0, 0, none⟩) (begM b) c0) rows0 x → w.heap.size ≤ x ∧ x < N
  new1 : ∀ x, foot V' rows' x → w.heap.size ≤ x ∧ x < N
  lt : w.heap.size ≤ H0 ∧ w.heap.size ≤ HR ∧ w.heap.size ≤ HW ∧ H0 < N ∧ HR < N ∧ HW < N ∧ H0 ≠ HR ∧ H0 ≠ HW ∧ HR ≠ HW
theorem page_set07 {w : World} {p : Nat} {V n : Value} (h : w.heap[p]? = some (.cells #[V, n] 39 (0, 0))) (V' : Value) (k : Nat) : ((w.setCell ⟨p, 0, none⟩ V').setCell ⟨p, 1, none⟩ (.int .i64 k)).heap[p]? = some (.cells #[V', .int .i64 k] 39 (0, 0)) := by
  simp only [World.setCell, Array.getElem?_modify, if_pos, h]
  simp
section
variable {w wr W : World} {N H0 HR HW L0 c0 : Nat} {b : BgD} {V' : Value} {rows0 rows' : List RowM} {i k : Nat} {S S' : PgS} {v : List Cl × Int} {r : RowM}
theorem Bg.grow (h : Bg w wr N H0 HR HW b L0 c0 V' rows0 rows' i S') (hb : Below wr.heap.size wr W) : Bg w W N H0 HR HW b L0 c0 V' rows0 rows' i S' :=
  ⟨h.below.trans (hb.mono h.below.size), Nat.le_trans h.nle hb.size, (hb.block _ (heap_in h.hb)).trans h.hb, (hb.block _ (heap_in h.hr)).trans h.hr, (hb.block _ (heap_in h.hw)).trans h.hw, h.l0.grow hb, h.l1.grow hb, h.val, h.fresh, h.two, h.new0, h.new1, h.lt⟩
/-- what is newer is written -/
theorem Bg.keepF {F : Nat → Prop} (h : Bg w wr N H0 HR HW b L0 c0 V' rows0 rows' i S') (hk : Keep F wr W) (hF : ∀ x, F x → N ≤ x) : Bg w W N H0 HR HW b L0 c0 V' rows0 rows' i S' := by
  obtain ⟨a1, a2, a3, a4, a5, a6, _⟩ := h.lt
  have hw0 := h.below.size
  exact ⟨h.below.trans (hk.below (B := w.heap.size) (fun x e => by have := hF x e; omega) hw0), Nat.le_trans h.nle hk.size, (hk.block _ (heap_in h.hb) (fun e => by have := hF _ e; omega)).trans h.hb, (hk.block _ (heap_in h.hr) (fun e => by have := hF _ e; omega)).trans h.hr, (hk.block _ (heap_in h.hw) (fun e => by have := hF _ e; omega)).trans h.hw,
    h.l0.keep hk (fun x hx e => by have := h.new0 x hx; have := hF x e; omega), h.l1.keep hk (fun x hx e => by have := h.new1 x hx; have := hF x e; omega), h.val, h.fresh, h.two, h.new0, h.new1, h.lt⟩
theorem Bg.var {H : Nat} (h : Bg w wr N H0 HR HW b L0 c0 V' rows0 rows' i S') (hk : Keep (· = H) wr W) (hH : N ≤ H) : Bg w W N H0 HR HW b L0 c0 V' rows0 rows' i S' := h.keepF hk (fun x e => by omega)
/-- row j of the page that was made -/
theorem Bg.row {j : Nat} {v : List Cl × Int} (h : Bg w wr N H0 HR HW b L0 c0 V' rows0 rows' i S') (hj : S'.rows[j]? = some v) : ∃ r, rows'[j]? = some r ∧ r.val = v := by
  have h7 : (rows'.map RowM.val)[j]? = S'.rows[j]? := by rw [h.val]
  rw [List.getElem?_map, hj] at h7
  cases hq : rows'[j]? with
  | none => rw [hq] at h7; cases h7
  | some r => rw [hq] at h7; exact ⟨r, rfl, Option.some.inj h7⟩
theorem foot_set {V : Value} {rows : List RowM} {i : Nat} {r s : RowM} (hi : rows[i]? = some r) (hg : s.g = r.g) {x : Nat} (h : foot V (rows.set i s) x) : foot V rows x := by
  rcases h with h | ⟨q, hq, e⟩
  · exact .inl h
  · rcases List.mem_or_eq_of_mem_set hq with hq | rfl
    · exact .inr ⟨q, hq, e⟩
    · exact .inr ⟨r, List.mem_of_getElem? hi, by rw [← e, hg]⟩
theorem rowsM_set {rows : List RowM} {i : Nat} (s : RowM) : (rows.set i s).map RowM.val = (rows.map RowM.val).set i s.val := map_set_val rows i s
/-- a cell of the first page is stored -/
theorem Bg.put (h : Bg w wr N H0 HR HW b L0 c0 V' rows0 rows' (i + 1) (setRowS S i v)) (hS : S.rows.length = begM b) (him : i < begM b) (hv : v.1.length = begN b ∧ ∀ y ∈ v.1, y.ok)
    (hi : rows0[i]? = some r) (hr : r.xs.length = begN b ∧ ∀ y ∈ r.xs, y.ok) (hk : k < r.xs.length) (y : Cl) (hy : y.ok) :
    ∃ rows'' v2, (v2.1.length = begN b ∧ ∀ y ∈ v2.1, y.ok) ∧ Bg w (((wr.setCell ⟨r.g, k * 3, none⟩ (.int .i32 y.g)).setCell ⟨r.g, k * 3 + 1, none⟩ (.int .u8 y.r)).setCell ⟨r.g, k * 3 + 2, none⟩ (.bool y.k)) N H0 HR HW b L0 c0 V' (rows0.set i ⟨r.g, r.c, r.xs.set k y, r.z⟩) rows'' (i + 1) (setRowS S i v2) := by
  have hrm := List.mem_of_getElem? hi
  have hfr : foot (.slice (some ⟨L0, 0, none⟩) (begM b) c0) rows0 r.g := .inr ⟨r, hrm, rfl⟩
  have hK : Keep (· = r.g) wr (((wr.setCell ⟨r.g, k * 3, none⟩ (.int .i32 y.g)).setCell ⟨r.g, k * 3 + 1, none⟩ (.int .u8 y.r)).setCell ⟨r.g, k * 3 + 2, none⟩ (.bool y.k)) :=
    (((Keep.refl (· = r.g) wr).set (p := ⟨r.g, k * 3, none⟩) (.inl rfl) _).set (p := ⟨r.g, k * 3 + 1, none⟩) (.inl rfl) _).set (p := ⟨r.g, k * 3 + 2, none⟩) (.inl rfl) _
  have hP := h.l0.put hi hk y
  have n0 := h.l0.off h.hb (by decide) (by decide) _ hfr
  have n1 := h.l0.off h.hr (by decide) (by decide) _ hfr
  have n2 := h.l0.off h.hw (by decide) (by decide) _ hfr
  have hw0 := h.below.size
  have hn0 := h.new0 _ hfr
  have hlt : i < rows0.length := (List.getElem?_eq_some_iff.1 hi).1
  generalize ((wr.setCell ⟨r.g, k * 3, none⟩ (.int .i32 y.g)).setCell ⟨r.g, k * 3 + 1, none⟩ (.int .u8 y.r)).setCell ⟨r.g, k * 3 + 2, none⟩ (.bool y.k) = W at hK hP ⊢
  have fr : ∀ j, i + 1 ≤ j → j < begM b → ∃ q, (rows0.set i ⟨r.g, r.c, r.xs.set k y, r.z⟩)[j]? = some q ∧ q.val = (List.replicate (begN b) erC, 0) := fun j h1 h2 => by
    obtain ⟨q, e1, e2⟩ := h.fresh j h1 h2
    exact ⟨q, by rw [List.getElem?_set_ne (by omega)]; exact e1, e2⟩
  rcases h.two with ⟨e1, e2⟩ | hd
  · subst e1 e2
    refine ⟨rows'.set i ⟨r.g, r.c, r.xs.set k y, r.z⟩, (r.xs.set k y, r.z), ⟨by simpa using hr.1, fun q hq => ?_⟩, ?_⟩
    · rcases List.mem_or_eq_of_mem_set hq with hq | rfl
      · exact hr.2 _ hq
      · exact hy
    · refine ⟨h.below.trans (hK.below (B := w.heap.size) (fun x e => by omega) hw0), Nat.le_trans h.nle hK.size, (hK.block _ (heap_in h.hb) (fun e => n0 e.symm)).trans h.hb, (hK.block _ (heap_in h.hr) (fun e => n1 e.symm)).trans h.hr, (hK.block _ (heap_in h.hw) (fun e => n2 e.symm)).trans h.hw,
        hP, hP, ?_, fr, .inl ⟨rfl, rfl⟩, fun x hx => h.new0 x (foot_set (s := ⟨r.g, r.c, r.xs.set k y, r.z⟩) hi rfl hx), fun x hx => h.new1 x (foot_set (s := ⟨r.g, r.c, r.xs.set k y, r.z⟩) hi rfl hx), h.lt⟩
      rw [rowsM_set, h.val]
      simp [setRowS, RowM.val]
  · refine ⟨rows', v, hv, ⟨h.below.trans (hK.below (B := w.heap.size) (fun x e => by omega) hw0), Nat.le_trans h.nle hK.size, (hK.block _ (heap_in h.hb) (fun e => n0 e.symm)).trans h.hb, (hK.block _ (heap_in h.hr) (fun e => n1 e.symm)).trans h.hr, (hK.block _ (heap_in h.hw) (fun e => n2 e.symm)).trans h.hw,
        hP, h.l1.keep hK (fun x hx e => hd r hrm (e ▸ hx)), h.val, fr, .inr (fun s hs hf => ?_), fun x hx => h.new0 x (foot_set (s := ⟨r.g, r.c, r.xs.set k y, r.z⟩) hi rfl hx), h.new1, h.lt⟩⟩
    rcases List.mem_or_eq_of_mem_set hs with hs | rfl
    · exact hd s hs hf
    · exact hd r hrm hf
/-- the page that is being made is another one -/
theorem Bg.next {S5 : PgS} {V5 : Value} {rows5 : List RowM} {x : More} (h : Bg w wr N H0 HR HW b L0 c0 V' rows0 rows' i S') (hl : Lns (ext wr x) V5 rows5) (hv : rows5.map RowM.val = S5.rows) (hf : ∀ q, foot V5 rows5 q → wr.heap.size ≤ q) :
    Bg w (((ext wr x).setCell ⟨HW, 0, none⟩ V5).setCell ⟨HW, 1, none⟩ (.int .i64 S5.cols)) (((ext wr x).setCell ⟨HW, 0, none⟩ V5).setCell ⟨HW, 1, none⟩ (.int .i64 S5.cols)).heap.size H0 HR HW b L0 c0 V5 rows0 rows5 i S5 := by
  have hx := h.grow (below_of_ext wr x)
  have hK : Keep (· = HW) (ext wr x) (((ext wr x).setCell ⟨HW, 0, none⟩ V5).setCell ⟨HW, 1, none⟩ (.int .i64 S5.cols)) := ((Keep.refl (· = HW) (ext wr x)).set (p := ⟨HW, 0, none⟩) (.inl rfl) _).set (p := ⟨HW, 1, none⟩) (.inl rfl) _
  obtain ⟨a1, a2, a3, a4, a5, a6, a7, a8, a9⟩ := h.lt
  have hw0 := h.below.size
  have nl := h.nle
  have hwn := heap_in h.hw
  have e := page_set07 hx.hw V5 S5.cols
  have sz : (ext wr x).heap.size = wr.heap.size + x.sz := size_ext wr x
  have ks := hK.size
  generalize (((ext wr x).setCell ⟨HW, 0, none⟩ V5).setCell ⟨HW, 1, none⟩ (.int .i64 S5.cols)) = W at hK e ks ⊢
  refine ⟨hx.below.trans (hK.below (B := w.heap.size) (fun q e => by omega) hx.below.size), Nat.le_refl _, (hK.block _ (heap_in hx.hb) (by omega)).trans hx.hb, (hK.block _ (heap_in hx.hr) (by omega)).trans hx.hr, e,
    hx.l0.keep hK (fun q hq e => hx.l0.off hx.hw (by decide) (by decide) q hq e), hl.keep hK (fun q hq e => by have := hf q hq; omega), hv, h.fresh, .inr (fun r hr hq => ?_), fun q hq => ?_, fun q hq => ?_, ?_⟩
  · have h1 := hf _ hq
    have h2 := (h.new0 _ (.inr ⟨r, hr, rfl⟩)).2
    omega
  · have := h.new0 q hq
    omega
  · have h1 := hf q hq
    have h2 := hl.lt hq
    omega
  · omega
theorem Bg.le {j : Nat} (h : Bg w wr N H0 HR HW b L0 c0 V' rows0 rows' i S') (hj : i ≤ j) : Bg w wr N H0 HR HW b L0 c0 V' rows0 rows' j S' := { h with fresh := fun q h1 h2 => h.fresh q (by omega) h2 }
theorem lns_var {H : Nat} {v0 v1 V : Value} {rows : List RowM} {w w' : World} (hl : Lns w V rows) (hf : ∀ x, foot V rows x → x ≠ H) (e : (w.setCell ⟨H, 0, none⟩ v0).setCell ⟨H, 1, none⟩ v1 = w') : Lns w' V rows := by
  subst e
  exact hl.keep (((Keep.refl (· = H) w).set (p := ⟨H, 0, none⟩) (.inl rfl) v0).set (p := ⟨H, 1, none⟩) (.inl rfl) v1) hf
theorem Bg.start {rows : List RowM} {arr : Array Value} {ts ss : List Int} (hb : Below w.heap.size w wr) (h0 : wr.heap[H0]? = some (.cells arr 33 (0, 0))) (e : b.cells.toArray = arr) (hr : wr.heap[HR]? = some (.cells zero14 84 (0, 0)))
    (hw : wr.heap[HW]? = some (.cells #[.slice (some ⟨L0, 0, none⟩) (begM b) c0, .int .i64 (begJ ts ss (begM b) (begN b) 0).cols] 39 (0, 0))) (hl : Lns wr (.slice (some ⟨L0, 0, none⟩) (begM b) c0) rows) (hv : rows.map RowM.val = (begJ ts ss (begM b) (begN b) 0).rows)
    (hf : ∀ x, foot (.slice (some ⟨L0, 0, none⟩) (begM b) c0) rows x → w.heap.size ≤ x) (h1 : w.heap.size ≤ H0) (h2 : w.heap.size ≤ HR) (h3 : w.heap.size ≤ HW) (h4 : H0 ≠ HR) (h5 : H0 ≠ HW) (h6 : HR ≠ HW) :
    Bg w wr wr.heap.size H0 HR HW b L0 c0 (.slice (some ⟨L0, 0, none⟩) (begM b) c0) rows rows 0 (begJ ts ss (begM b) (begN b) 0) := by
  subst e
  refine ⟨hb, Nat.le_refl _, h0, hr, hw, hl, hl, hv, fun j _ hj => ?_, .inl ⟨rfl, rfl⟩, fun x hx => ⟨hf x hx, hl.lt hx⟩, fun x hx => ⟨hf x hx, hl.lt hx⟩, ⟨h1, h2, h3, heap_in h0, heap_in hr, heap_in hw, h4, h5, h6⟩⟩
  have h7 : (rows.map RowM.val)[j]? = (begJ ts ss (begM b) (begN b) 0).rows[j]? := by rw [hv]
  rw [List.getElem?_map] at h7
  have hlt : j < (begJ ts ss (begM b) (begN b) 0).rows.length := by rw [begJ_len]; exact hj
  rw [List.getElem?_eq_getElem hlt, begJ_get hj, if_neg (by omega)] at h7
  cases hq : rows[j]? with
  | none => rw [hq] at h7; cases h7
  | some r => rw [hq] at h7; exact ⟨r, rfl, Option.some.inj h7⟩
theorem rune_cell {a : Option Addr} {xs : List Int} (h : Rd (encI .i32) 1 w a xs) {k : Nat} (hk : k < xs.length) : ∃ b off, a = some ⟨b, off, none⟩ ∧ b < w.heap.size ∧ w.cell? ⟨b, off + k, none⟩ = some (.int .i32 xs[k]) := by
  obtain ⟨b, off, e, hlt, hc⟩ := h (by omega)
  exact ⟨b, off, e, hlt, by simpa using hc k hk 0 _ rfl⟩
end
/-- the first k cells of row i are laid -/
def xsK (ts : List Int) (n i k : Nat) : List Cl := (List.range n).map fun q => if q < k then begC ts (i * n + q) else erC
section
variable {ts : List Int} {n i k : Nat}
theorem xsK_len : (xsK ts n i k).length = n := by simp [xsK]
theorem xsK_zero : xsK ts n i 0 = List.replicate n erC := by
  apply List.ext_getElem (by simp [xsK])
  intro q h1 h2
  simp [xsK]
theorem xsK_all (ss : List Int) : xsK ts n i n = (begRow ts ss n i).1 := by
  unfold xsK begRow
  refine List.map_congr_left fun q hq => ?_
  rw [if_pos (by simpa using hq)]
theorem xsK_ok (h : ∀ n ∈ ts, -2147483648 ≤ n ∧ n ≤ 2147483647) : ∀ y ∈ xsK ts n i k, y.ok := fun y hy => by
  simp only [xsK, List.mem_map] at hy
  obtain ⟨q, _, rfl⟩ := hy
  split
  · exact begC_ok h _
  · exact erC_ok
theorem xsK_step (hk : k < n) (h : i * n + k < ts.length) : (xsK ts n i k).set k ⟨ts[i * n + k], ((i * n + k) % 3 : Nat), (i * n + k) % 5 == 0⟩ = xsK ts n i (k + 1) := by
  apply List.ext_getElem (by simp [xsK])
  intro q h1 h2
  rw [List.getElem_set]
  simp only [xsK, List.getElem_map, List.getElem_range]
  by_cases e : k = q
  · subst e
    rw [if_pos rfl, if_pos (by omega)]
    unfold begC
    rw [dif_pos h]
  · rw [if_neg e]
    by_cases hq : q < k
    · rw [if_pos hq, if_pos (by omega)]
    · rw [if_neg hq, if_neg (by omega)]
theorem xsK_skip (h : ¬ i * n + k < ts.length) : xsK ts n i (k + 1) = xsK ts n i k := by
  unfold xsK
  refine List.map_congr_left fun q hq => ?_
  by_cases hq : q < k
  · rw [if_pos (by omega), if_pos hq]
  · rw [if_neg hq]
    split
    · unfold begC
      rw [dif_neg (by omega)]
    · rfl
theorem beg_self {ss : List Int} {m : Nat} (hi : i < m) : setRowS (begJ ts ss m n i) i (List.replicate n erC, 0) = begJ ts ss m n i := by
  have hlt : i < (begJ ts ss m n i).rows.length := by rw [begJ_len]; exact hi
  have e : (List.replicate n erC, (0 : Int)) = (begJ ts ss m n i).rows[i] := by rw [begJ_get hi, if_neg (by omega)]
  rw [e]
  exact setRowS_self hlt
theorem begS_row {b : BgD} {j : Nat} (hj : j < begM b) : (begS b).rows[j]? = some (begRow b.ts b.ss (begN b) j) := by simp [begS, hj]
/-- a row is laid -/
theorem beg_set {ss : List Int} {m : Nat} {v : List Cl × Int} {z : Int} (hi : i < m) (hn : (begRow ts ss n i).1.length = n) (hz : sizeI z = begZ ss i) : setLineS (setRowS (begJ ts ss m n i) i v) i (xsK ts n i n) z = begJ ts ss m n (i + 1) := by
  unfold setLineS
  rw [if_pos (by unfold thereI; rw [setRowS_len, begJ_len]; simp; omega), xsK_all ss, show (setRowS (begJ ts ss m n i) i v).cols = n from rfl, resR_self hn, hz, begJ_step hi, Int.toNat_natCast, setRowS_twice]
  rfl
theorem beg_set2 {ss : List Int} {m : Nat} (hi : i < m) : setLineS (begJ ts ss m n i) i (begRow ts ss n i).1 (begRow ts ss n i).2 = begJ ts ss m n (i + 1) := by
  unfold setLineS
  have hz := begZ_in ss i
  rw [if_pos (by unfold thereI; rw [begJ_len]; simp; omega), show (begJ ts ss m n i).cols = n from rfl, resR_self (begRow_len _ _ _ _), begJ_step hi, Int.toNat_natCast]
  congr 2
  show sizeI (begZ ss i) = begZ ss i
  unfold sizeI
  rw [if_neg (by omega)]
end
end Go.Proofs.YtignkkejkknddaaGreat
/- Structs of many cells: read and written as they stand.  -/
namespace Go.Proofs.YtignkkejkknddaaGreat
open Go.RowKit
theorem range_blk {w : World} {b : Nat} {arr : Array Value} {t : TypeId} {fr : Nat × Nat} (h : w.heap[b]? = some (.cells arr t fr)) (o : Nat) (cs : List Value) (e : (arr.toList.drop o).take cs.length = cs) : w.rangeAt b o cs := by
  intro j v hj
  rw [cell_in h]
  have hlt : j < cs.length := (List.getElem?_eq_some_iff.1 hj).1
  have h1 : ((arr.toList.drop o).take cs.length)[j]? = some v := by rw [e]; exact hj
  rw [List.getElem?_take_of_lt hlt, List.getElem?_drop] at h1
  simpa using h1
theorem there_blk {w : World} {b : Nat} {arr : Array Value} {t : TypeId} (h : w.heap[b]? = some (.cells arr t (0, 0))) {n : Nat} (hn : n ≤ arr.size) : w.there b 0 n := by
  intro j hj
  rw [cell_in h, frozen_in h]
  refine ⟨?_, rfl⟩
  rw [Array.getElem?_eq_getElem (by omega)]
  rfl
/-- a struct of its own is stored whole -/
theorem store_new (w : World) (z : Array Value) (t : TypeId) (vs : List Value) (hl : z.size = vs.length) : ∃ W', (w.alloc (.cells z t)).setCells w.heap.size 0 vs = W' ∧ Below w.heap.size w W' ∧ W'.heap[w.heap.size]? = some (.cells vs.toArray t (0, 0)) := by
  obtain ⟨W', e, k, c⟩ := store_all (heap_at w (.cells z t) rfl) vs hl
  exact ⟨W', e, ((Below.refl _ _).alloc (Nat.le_refl _) _).trans (k.below (B := w.heap.size) (fun x e => by omega) (by simp)), c⟩
theorem foldl_splice (off : Nat) : ∀ (vs : List Value) (k : Nat) (cells : Array Value), off + k + vs.length ≤ cells.size →
    (vs.zipIdx k).foldl (fun cs (x : Value × Nat) => cs.setIfInBounds (off + x.2) x.1) cells = (cells.toList.take (off + k) ++ vs ++ cells.toList.drop (off + k + vs.length)).toArray
  | [], k, cells, _ => by simp
  | v :: vs, k, cells, h => by
    simp only [List.length_cons] at h
    rw [List.zipIdx_cons, List.foldl_cons, foldl_splice off vs (k + 1) _ (by simp; omega)]
    congr 1
    have hlt : off + k < cells.toList.length := by simp; omega
    simp only [Array.toList_setIfInBounds, List.length_cons]
    rw [show off + (k + 1) = off + k + 1 by omega, List.take_succ_eq_append_getElem (by simpa using hlt), List.getElem_set_self, List.take_set_of_le (Nat.le_refl _), List.drop_set_of_lt (by omega), List.append_assoc, List.append_assoc, List.append_assoc, show off + k + 1 + vs.length = off + k + (vs.length + 1) by omega]
    rfl
theorem fill_cons {place : Nat → Option (Nat × Nat)} {cells : Array Value} {i : Nat} {v : Value} {rest : List (Nat × Value)} {off size : Nat} {R : Option (Array Value)} (hp : place i = some (off, size)) (hs : v.cells.size = size) (hb : off + size ≤ cells.size)
    (h : Instr.fill place (cells.toList.take off ++ v.cells.toList ++ cells.toList.drop (off + size)).toArray rest = R) : Instr.fill place cells ((i, v) :: rest) = R := by
  subst hs
  unfold Instr.fill
  simp only [hp]
  rw [if_neg (by simp; omega)]
  have e := foldl_splice off v.cells.toList 0 cells (by simpa using hb)
  simp only [Nat.add_zero, Array.length_toList] at e
  rw [← h, ← e, ← Array.foldl_toList, Array.toList_zipIdx]
theorem sheet_built (a0 a1 c0 c1 c2 c3 c4 c5 c6 c7 c8 c9 c10 c11 c12 m0 m1 m2 m3 : Value) : Tryz.prog.built 84 [(0, .agg #[a0, a1]), (1, .agg #[c0, c1, c2, c3, c4, c5, c6, c7, c8, c9, c10, c11, c12]), (2, .agg #[m0, m1, m2, m3])] = some #[a0, a1, c0, c1, c2, c3, c4, c5, c6, c7, c8, c9, c10, c11, c12, m0, m1, m2, m3] :=
  (show Tryz.prog.built 84 [(0, .agg #[a0, a1]), (1, .agg #[c0, c1, c2, c3, c4, c5, c6, c7, c8, c9, c10, c11, c12]), (2, .agg #[m0, m1, m2, m3])] = Instr.fill (fun i => (#[(0, 2), (2, 13), (15, 4)] : Array (Nat × Nat))[i]?) zero14 [(0, .agg #[a0, a1]), (1, .agg #[c0, c1, c2, c3, c4, c5, c6, c7, c8, c9, c10, c11, c12]), (2, .agg #[m0, m1, m2, m3])] from by kernel_rfl).trans
    (fill_cons rfl rfl (Nat.le_of_ble_eq_true rfl) (fill_cons rfl rfl (Nat.le_of_ble_eq_true rfl) (fill_cons rfl rfl (Nat.le_of_ble_eq_true rfl) rfl)))
theorem sheet_build (a0 a1 c0 c1 c2 c3 c4 c5 c6 c7 c8 c9 c10 c11 c12 m0 m1 m2 m3 : Value) (w : World) : (Instr.build 84 #[(0, .agg #[a0, a1]), (1, .agg #[c0, c1, c2, c3, c4, c5, c6, c7, c8, c9, c10, c11, c12]), (2, .agg #[m0, m1, m2, m3])]).run Tryz.prog w = .ok (.agg #[a0, a1, c0, c1, c2, c3, c4, c5, c6, c7, c8, c9, c10, c11, c12, m0, m1, m2, m3]) w :=
  run_build w _ _ _ (sheet_built a0 a1 c0 c1 c2 c3 c4 c5 c6 c7 c8 c9 c10 c11 c12 m0 m1 m2 m3)
theorem yieldsIf_build {P : Program} {ops : Array Oper} {S : World → Prop} {op : Oper} {a : Act} (hw : Region.wanted op (yielded ops a.tmps) = true) (t : TypeId) (parts : Array (Nat × Operand)) (ho : op.op = .build t parts) (v : Value) (parts' : Array (Nat × Value)) (hp : (parts.map fun (i, x) => (i, a.eval x)) = parts')
    (h : ∀ w, (Instr.build t parts').run P w = .ok v w) : YieldsIf P ops S op v a :=
  .inl ⟨hw, fun w _ => by
    have := h w
    rw [← hp] at this
    unfold execOp
    simp only [ho, Sem.run_bind, this, Result.andThen_ok, Sem.run_pure]⟩
theorem all_one (cs : List Value) (h : cs.all (·.oneCell') = true) : cs.toArray.all (·.oneCell') = true := by simpa using h
end Go.Proofs.YtignkkejkknddaaGreat
/- Several variables and several pages that share no memory.  -/
namespace Go.Proofs.YtignkkejkknddaaGreat
open Go.RowKit
set_option linter.unusedVariables false
set_option linter.unusedSimpArgs false

/-- variables (block, what stands there) and pages, none of whose blocks are another's -/
structure Stt (B : Nat) (w0 w : World) (vs : List (Nat × Obj)) (ps : List (Nat × PgS)) : Prop where
  below : Below B w0 w
  bw : B ≤ w.heap.size
  var : ∀ v ∈ vs, w.heap[v.1]? = some v.2
  vge : ∀ v ∈ vs, B ≤ v.1
  key : (vs.map Prod.fst).Nodup
  ex : ∃ F : Nat → Nat → Prop, (∀ i (hi : i < ps.length), PageAt w (F i) ps[i].1 ps[i].2) ∧ (∀ i j b, i < ps.length → j < ps.length → i ≠ j → F i b → ¬ F j b) ∧ (∀ i b, i < ps.length → F i b → B ≤ b) ∧ (∀ i v, i < ps.length → v ∈ vs → ¬ F i v.1)
section
variable {B : Nat} {w0 w w1 w2 : World} {vs : List (Nat × Obj)} {ps : List (Nat × PgS)}
theorem Stt.lt (h : Stt B w0 w vs ps) {v : Nat × Obj} (hv : v ∈ vs) : v.1 < w.heap.size := heap_in (h.var v hv)
theorem Stt.grow (h : Stt B w0 w vs ps) (hb : Below w.heap.size w w1) : Stt B w0 w1 vs ps := by
  obtain ⟨F, f1, f2, f3, f4⟩ := h.ex
  exact ⟨h.below.trans (hb.mono h.bw), Nat.le_trans h.bw hb.size, fun v hv => (hb.block _ (h.lt hv)).trans (h.var v hv), h.vge, h.key, F, fun i hi => (f1 i hi).grow hb, f2, f3, f4⟩
theorem Stt.nil (hb : Below B w0 w) (hB : B ≤ w.heap.size) : Stt B w0 w [] [] :=
  ⟨hb, hB, fun v hv => by simp at hv, fun v hv => by simp at hv, by simp, fun _ _ => False, fun i hi => absurd hi (by simp), fun i j b hi => absurd hi (by simp), fun i b hi => absurd hi (by simp), fun i v hi => absurd hi (by simp)⟩
/-- a variable comes -/
theorem Stt.add (h : Stt B w0 w vs ps) (hb : Below w.heap.size w w1) {H : Nat} {o : Obj} (hH : w1.heap[H]? = some o) (hge : w.heap.size ≤ H) : Stt B w0 w1 (vs ++ [(H, o)]) ps := by
  have h1 := h.grow hb
  obtain ⟨F, f1, f2, f3, f4⟩ := h.ex
  refine ⟨h1.below, h1.bw, fun v hv => ?_, fun v hv => ?_, ?_, F, fun i hi => (f1 i hi).grow hb, f2, f3, fun i v hi hv f => ?_⟩
  · rcases List.mem_append.1 hv with hv | hv
    · exact h1.var v hv
    · rw [List.mem_singleton.1 hv]; exact hH
  · rcases List.mem_append.1 hv with hv | hv
    · exact h.vge v hv
    · rw [List.mem_singleton.1 hv]; exact Nat.le_trans h.bw hge
  · rw [List.map_append, List.nodup_append]
    refine ⟨h.key, by simp, fun a ha b hb2 e => ?_⟩
    obtain ⟨v, hv, rfl⟩ := List.mem_map.1 ha
    simp only [List.map_cons, List.map_nil, List.mem_singleton] at hb2
    have := h.lt hv
    omega
  · rcases List.mem_append.1 hv with hv | hv
    · exact f4 i v hi hv f
    · rw [List.mem_singleton.1 hv] at f
      have := (f1 i hi).lt _ f
      simp only at this
      omega
/-- a page comes -/
theorem Stt.page {G : Nat → Prop} {q : Nat} {T : PgS} (h : Stt B w0 w vs ps) (hb : Below w.heap.size w w1) (hq : PageAt w1 G q T) (hG : ∀ b, G b → w.heap.size ≤ b) : Stt B w0 w1 vs (ps ++ [(q, T)]) := by
  have h1 := h.grow hb
  obtain ⟨F, f1, f2, f3, f4⟩ := h.ex
  have hL : (ps ++ [(q, T)]).length = ps.length + 1 := by simp
  refine ⟨h1.below, h1.bw, h1.var, h.vge, h.key, fun i => if i < ps.length then F i else G, fun i hi => ?_, fun i j b hi hj hne f g => ?_, fun i b hi f => ?_, fun i v hi hv f => ?_⟩
  · by_cases e : i < ps.length
    · simp only [if_pos e, List.getElem_append_left e]
      exact (f1 i e).grow hb
    · obtain rfl : i = ps.length := by omega
      simp only [if_neg e]
      simpa using hq
  · by_cases e : i < ps.length <;> by_cases e2 : j < ps.length
    · simp only [if_pos e, if_pos e2] at f g; exact f2 i j b e e2 hne f g
    · simp only [if_pos e, if_neg e2] at f g
      have := (f1 i e).lt b f; have := hG b g; omega
    · simp only [if_neg e, if_pos e2] at f g
      have := (f1 j e2).lt b g; have := hG b f; omega
    · omega
  · by_cases e : i < ps.length
    · simp only [if_pos e] at f; exact f3 i b e f
    · simp only [if_neg e] at f; exact Nat.le_trans h.bw (hG b f)
  · by_cases e : i < ps.length
    · simp only [if_pos e] at f; exact f4 i v e hv f
    · simp only [if_neg e] at f
      have := hG _ f; have := h.lt hv; omega
/-- page i, and the way back behind a deed -/
theorem Stt.get (h : Stt B w0 w vs ps) (i : Nat) (hi : i < ps.length) : ∃ F, PageAt w F ps[i].1 ps[i].2 ∧ ∀ w1 w2 T, Below w.heap.size w w1 → Did F ps[i].1 T w1 w2 → Stt B w0 w2 vs (ps.set i (ps[i].1, T)) := by
  obtain ⟨F, f1, f2, f3, f4⟩ := h.ex
  refine ⟨F i, f1 i hi, fun w1 w2 T hb hD => ?_⟩
  have h1 := h.grow hb
  have hs := hD.1.size
  have hL : (ps.set i (ps[i].1, T)).length = ps.length := by simp
  have hfar : ∀ j b, j < ps.length → j ≠ i → F j b → ¬ more (F i) w1 w2 b := fun j b hj hne f g => by
    rcases g with g | g
    · exact f2 j i b hj hi hne f g
    · have := ((f1 j hj).grow hb).lt b f; omega
  refine ⟨h1.below.trans (hD.1.below (B := B) (fun b f => f3 i b hi f) h1.bw), Nat.le_trans h1.bw hs, fun v hv => (hD.1.block _ (h1.lt hv) (f4 i v hi hv)).trans (h1.var v hv), h.vge, h.key, fun j => if j = i then more (F i) w1 w2 else F j, fun j hj => ?_, fun j k b hj hk hne f g => ?_, fun j b hj f => ?_, fun j v hj hv f => ?_⟩
  · rw [hL] at hj
    by_cases e : j = i
    · subst e
      simp only [if_true, List.getElem_set_self]
      exact hD.2
    · simp only [if_neg e, List.getElem_set_ne (fun q => e q.symm)]
      exact ((f1 j hj).grow hb).keep hD.1 (fun b f g => f2 j i b hj hi e f g)
  · rw [hL] at hj hk
    by_cases e : j = i <;> by_cases e2 : k = i
    · omega
    · simp only [if_pos e, if_neg e2] at f g; exact hfar k b hk e2 g f
    · simp only [if_neg e, if_pos e2] at f g; exact hfar j b hj e f g
    · simp only [if_neg e, if_neg e2] at f g; exact f2 j k b hj hk hne f g
  · rw [hL] at hj
    by_cases e : j = i
    · simp only [if_pos e] at f
      rcases f with f | f
      · exact f3 i b hi f
      · have := h1.bw; omega
    · simp only [if_neg e] at f; exact f3 j b hj f
  · rw [hL] at hj
    by_cases e : j = i
    · simp only [if_pos e] at f
      rcases f with f | f
      · exact f4 i v hi hv f
      · have := h1.lt hv; omega
    · simp only [if_neg e] at f; exact f4 j v hj hv f
end
end Go.Proofs.YtignkkejkknddaaGreat
/- A region that draws its order (XRegionF): three operations may come up. -/
namespace Go.Proofs.YtignkkejkknddaaGreat
open Go.RowKit

section
variable {P : Program} {Q : Exit → Act → World → Prop} {md : Region.Mode} {S : World → Prop} {z : Nat} {l : List Oper} {listed : List Bool} {a : Act} {w : World} {fuel : Nat}
theorem AtF.three (i j m : Nat) {oi oj om : Oper} (hi : l[i]? = some oi) (hj : l[j]? = some oj) (hm : l[m]? = some om) (hc : (decide (i < z) && decide (j < z) && decide (m < z) && decide (Region.ready md l.toArray listed.toArray = [i, j, m])) = true)
    (h1 : ∀ K : Act → World → Prop, Shut (∀ a w, S w → (S w → AtF P md l Q S z fuel (listed.set i true) a w) → K a w) → if Region.wanted oi (yielded l.toArray a.tmps) = true then Oper.wp P oi a w K Q else K (a.put oi.dst undef) w)
    (h2 : ∀ K : Act → World → Prop, Shut (∀ a w, S w → (S w → AtF P md l Q S z fuel (listed.set j true) a w) → K a w) → if Region.wanted oj (yielded l.toArray a.tmps) = true then Oper.wp P oj a w K Q else K (a.put oj.dst undef) w)
    (h3 : ∀ K : Act → World → Prop, Shut (∀ a w, S w → (S w → AtF P md l Q S z fuel (listed.set m true) a w) → K a w) → if Region.wanted om (yielded l.toArray a.tmps) = true then Oper.wp P om a w K Q else K (a.put om.dst undef) w) : AtF P md l Q S z (fuel + 1) listed a w := by
  intro inv
  simp only [Bool.and_eq_true, decide_eq_true_eq] at hc
  refine ⟨fun h0 => (by rw [h0] at hc; simp at hc), fun k hk => ?_⟩
  rw [hc.2] at hk
  simp only [List.mem_cons, List.not_mem_nil, or_false] at hk
  have hr : i ∈ Region.ready md l.toArray listed.toArray ∧ j ∈ Region.ready md l.toArray listed.toArray ∧ m ∈ Region.ready md l.toArray listed.toArray := by rw [hc.2]; simp
  rcases hk with rfl | rfl | rfl
  · have hi' : l.toArray[k]? = some oi := by simpa using hi
    refine wpOp_step hi' (fun K hK => h1 K ?_)
    intro a' w' hS' hA
    refine hK a' w' ⟨fun _ => hS', ?_⟩
    have := hA hS' (by have := inv.set hr.1 hc.1.1.1; simpa using this)
    simpa using this
  · have hj' : l.toArray[k]? = some oj := by simpa using hj
    refine wpOp_step hj' (fun K hK => h2 K ?_)
    intro a' w' hS' hA
    refine hK a' w' ⟨fun _ => hS', ?_⟩
    have := hA hS' (by have := inv.set hr.2.1 hc.1.1.2; simpa using this)
    simpa using this
  · have hm' : l.toArray[k]? = some om := by simpa using hm
    refine wpOp_step hm' (fun K hK => h3 K ?_)
    intro a' w' hS' hA
    refine hK a' w' ⟨fun _ => hS', ?_⟩
    have := hA hS' (by have := inv.set hr.2.2 hc.1.2; simpa using this)
    simpa using this
end
end Go.Proofs.YtignkkejkknddaaGreat
/- phosphorlaw14.Sheet: the walk.  -/
namespace Go.Proofs.YtignkkejkknddaaGreat
open Go.RowKit
set_option linter.unusedVariables false
set_option linter.unusedSimpArgs false

def SheetR (b : BgD) (w : World) (e : Ending) (w' : World) : Prop := ∃ p F A c, e = .returned (.tuple #[.pointer (some ⟨p, 0, none⟩), .agg #[.slice A (begM b) c, .int .i64 (begN b), .int .i64 b.cu.row, .int .i64 b.cu.col, .int .u8 b.cu.rd, .bool b.cu.kp, .bool b.cu.wp, .bool b.cu.og, .int .i64 b.cu.a, .int .i64 b.cu.b, .int .i64 b.cu.c, .int .i64 b.cu.d, .int .i64 b.cu.l, .int .i64 b.cu.r, .int .i64 b.cu.s, .int .i64 b.m.t, .int .i64 b.m.l, .int .i64 b.m.b, .int .i64 b.m.r]]) ∧
  Below w.heap.size w w' ∧ PageAt w' F p (begS b) ∧ RefAt w' (fun x => F x ∨ x < w.heap.size) (.agg #[.slice A (begM b) c, .int .i64 (begN b)]) (begS b) ∧ ∀ x, F x → w.heap.size ≤ x
set_option maxRecDepth 100000 in
set_option maxHeartbeats 16000000 in
theorem sheet_c (b : BgD) (w : World) (h : b.Ok w) : Calls Tryz.prog 32 #[b.v] w (SheetR b w) := by
  obtain ⟨hm1, hm2, hm⟩ := begM_in b
  obtain ⟨hn1, hn2, hn⟩ := begN_in b
  have hmS := Lib.hid (rfl : begM b = begM b)
  obtain ⟨rows, cols, sa, sc, ss, ta, tc, ts, ⟨row, col, rd, kp, wp, og, a, b', c, d, l, r, s⟩, ⟨mt, ml, mb, mr⟩⟩ := b
  generalize hB : (⟨rows, cols, sa, sc, ss, ta, tc, ts, ⟨row, col, rd, kp, wp, og, a, b', c, d, l, r, s⟩, ⟨mt, ml, mb, mr⟩⟩ : BgD) = B at *
  have hBv : B.v = .agg #[.int .i64 rows, .int .i64 cols, .slice sa ss.length sc, .slice ta ts.length tc, .int .i64 row, .int .i64 col, .int .u8 rd, .bool kp, .bool wp, .bool og, .int .i64 a, .int .i64 b', .int .i64 c, .int .i64 d, .int .i64 l, .int .i64 r, .int .i64 s, .int .i64 mt, .int .i64 ml, .int .i64 mb, .int .i64 mr] := by subst hB; rfl
  have hBr : B.rows = rows := by subst hB; rfl
  have hBc : B.cols = cols := by subst hB; rfl
  have hBa : B.cells.toArray = #[.int .i64 rows, .int .i64 cols, .slice sa ss.length sc, .slice ta ts.length tc, .int .i64 row, .int .i64 col, .int .u8 rd, .bool kp, .bool wp, .bool og, .int .i64 a, .int .i64 b', .int .i64 c, .int .i64 d, .int .i64 l, .int .i64 r, .int .i64 s, .int .i64 mt, .int .i64 ml, .int .i64 mb, .int .i64 mr] := by subst hB; rfl
  have hBt : B.ts = ts := by subst hB; rfl
  have hBs : B.ss = ss := by subst hB; rfl
  have hBcu : SheetR B w = fun e w' => ∃ p F A k, e = .returned (.tuple #[.pointer (some ⟨p, 0, none⟩), .agg #[.slice A (begM B) k, .int .i64 (begN B), .int .i64 row, .int .i64 col, .int .u8 rd, .bool kp, .bool wp, .bool og, .int .i64 a, .int .i64 b', .int .i64 c, .int .i64 d, .int .i64 l, .int .i64 r, .int .i64 s, .int .i64 mt, .int .i64 ml, .int .i64 mb, .int .i64 mr]]) ∧ Below w.heap.size w w' ∧ PageAt w' F p (begS B) ∧ RefAt w' (fun x => F x ∨ x < w.heap.size) (.agg #[.slice A (begM B) k, .int .i64 (begN B)]) (begS B) ∧ ∀ x, F x → w.heap.size ≤ x := by subst hB; rfl
  have hall := Lib.hid (begJ_all B)
  have hOS := Lib.hid h.ss
  have hOT := Lib.hid h.ts
  have hts := Lib.hid h.to'
  have hsl := h.sl
  have hsm := h.sm
  have htl := h.tl
  have htm := h.tm
  simp only [maxLen] at hsm htm
  rw [hBv]
  rw [hBr] at hm
  rw [hBc] at hn
  have CM := Lib.hid (fun w' => (by have := clamp_l rows 1 8 w'; rwa [hm] at this : Calls Tryz.prog 34 #[.int .i64 rows, .int .i64 1, .int .i64 8] w' (Gives w' (.int .i64 (begM B)))))
  have CN := Lib.hid (fun w' => (by have := clamp_l cols 1 9 w'; rwa [hn] at this : Calls Tryz.prog 34 #[.int .i64 cols, .int .i64 1, .int .i64 9] w' (Gives w' (.int .i64 (begN B)))))
  have hz : resizeS ⟨[], 0⟩ (begM B) (begN B) = begJ B.ts B.ss (begM B) (begN B) 0 := (begJ_zero (by unfold dimN; omega) (by unfold dimN; omega)).symm
  have NR := Lib.hid (fun w' => (by have := refnew_c (begM B) (begN B) w'; rwa [hz] at this : Calls Tryz.prog 82 #[.int .i64 (begM B), .int .i64 (begN B)] w' (NewRef (begJ B.ts B.ss (begM B) (begN B) 0) w')))
  rw [hBt, hBs] at NR hall
  have hsa : B.sa = sa := by subst hB; rfl
  have hta : B.ta = ta := by subst hB; rfl
  have hsc : B.sc = sc := by subst hB; rfl
  have htc : B.tc = tc := by subst hB; rfl
  rw [hBs, hsa] at hOS
  rw [hBt, hta] at hOT
  rw [hBt] at hts
  rw [hBs, hsc] at hsl
  rw [hBt, htc] at htl
  rw [hsc] at hsm
  rw [htc] at htm
  rw [hBcu]
  have hBT := Lib.hid hBt
  have hBS := Lib.hid hBs
  have hBA := Lib.hid hBa
  clear hm hn hz hBt hBs hBa hB hBv hBr hBc hBcu hsa hta hsc htc h hmS
  go_enter Tryz.func32, Tryz.ntmps32
  go_upto_region 1 with fail
  go_cut [4] (fun v wr => ∃ (HW L0 c0 : Nat) (rows1 : List RowM), v = .pointer (some ⟨HW, 0, none⟩) ∧ Hid (Bg w wr wr.heap.size w.heap.size (w.heap.size + 1) HW B L0 c0 (.slice (some ⟨L0, 0, none⟩) (begM B) c0) rows1 rows1 0 (begJ ts ss (begM B) (begN B) 0)))
  case first =>
   as_aux_lemma =>
    go_region_held3 (fun w' => w'.cell? ⟨w.heap.size, 0, none⟩ = some (.int .i64 rows) ∧ w'.cell? ⟨w.heap.size, 1, none⟩ = some (.int .i64 cols)) ((refine ⟨?_, ?_⟩ <;> simp [go_sem])) ((first
      | (go_at_call 34; ((with_reducible refine (CM.out _).mono ?_); rintro _ _ hgets; obtain ⟨rfl, x1, rfl⟩ := hgets.get; clear hgets))
      | (go_at_call 34; ((with_reducible refine (CN.out _).mono ?_); rintro _ _ hgets; obtain ⟨rfl, x2, rfl⟩ := hgets.get; clear hgets))
      | ((go_at_call 82); (with_reducible refine (NR.out _).mono ?_); (rintro _ _ hp); (obtain ⟨L0, c0, rows1, x3, rfl, rfl, hl1, hv1, hf1⟩ := hp.some begJ_len hm1); clear hp; (replace hl1 := Lib.hid hl1); (replace hv1 := Lib.hid hv1); (replace hf1 := Lib.hid hf1))))
    all_goals
      go_wp2
      refine Met.intro ?_
      go_step
      (repeat apply Exists.intro)
      refine ⟨?_, rfl⟩
      refine ⟨_, L0, c0, rows1, rfl, Lib.hid ?_⟩
      have hf2 : ∀ x, foot (.slice (some ⟨L0, 0, none⟩) (begM B) c0) rows1 x → w.heap.size ≤ x := fun x hx => by have := hf1.out x hx; simp at this; omega
      refine Bg.start ?_ ?_ hBA.out ?_ ?_ ?_ hv1.out hf2 (by omega) (by omega) ?_ (by omega) ?_ ?_
      · (repeat' (first | (with_reducible exact Below.refl _ _) | (with_reducible refine Below.alloc ?_ ?_ _) | (with_reducible refine below_ext ?_ ?_ _) | (with_reducible refine Below.drew ?_) | (with_reducible refine below_drewN ?_ _) | (with_reducible refine Below.setCell ?_ ?_ _) | go_size | (simp only [go_sem]; omega) | (simp [go_sem]; done) | (simp [go_sem]; omega)))
      · (repeat (first | ((with_reducible refine heap_at _ _ ?_); (focus (first | rfl | (simp [go_sem]; done) | (simp [go_sem]; omega)))) | ((with_reducible refine (heap_old _ _ ?_).trans ?_); (focus (first | (simp [go_sem]; done) | (simp [go_sem]; omega)))) | ((with_reducible refine (block_ext _ _ ?_).trans ?_); (focus (first | (simp [go_sem]; done) | (simp [go_sem]; omega)))) | ((with_reducible refine (heap_drew _ _).trans ?_))))
      · unfold zero14; (repeat (first | ((with_reducible refine heap_at _ _ ?_); (focus (first | rfl | (simp [go_sem]; done) | (simp [go_sem]; omega)))) | ((with_reducible refine (heap_old _ _ ?_).trans ?_); (focus (first | (simp [go_sem]; done) | (simp [go_sem]; omega)))) | ((with_reducible refine (block_ext _ _ ?_).trans ?_); (focus (first | (simp [go_sem]; done) | (simp [go_sem]; omega)))) | ((with_reducible refine (heap_drew _ _).trans ?_))))
      · (repeat (first | ((with_reducible refine heap_at _ _ ?_); (focus (first | rfl | (simp [go_sem]; done) | (simp [go_sem]; omega)))) | ((with_reducible refine (heap_old _ _ ?_).trans ?_); (focus (first | (simp [go_sem]; done) | (simp [go_sem]; omega)))) | ((with_reducible refine (block_ext _ _ ?_).trans ?_); (focus (first | (simp [go_sem]; done) | (simp [go_sem]; omega)))) | ((with_reducible refine (heap_drew _ _).trans ?_))))
      · first | ((refine hl1.out.grow ?_); (focus ((repeat' (first | (with_reducible exact Below.refl _ _) | (with_reducible refine Below.alloc ?_ ?_ _) | (with_reducible refine below_ext ?_ ?_ _) | (with_reducible refine Below.drew ?_) | (with_reducible refine below_drewN ?_ _) | (with_reducible refine Below.setCell ?_ ?_ _) | go_size | (simp only [go_sem]; omega) | (simp [go_sem]; done) | (simp [go_sem]; omega))); done))) | ((refine lns_var (H := w.heap.size + 1 + 1 + x1.sz + x2.sz) (v0 := .slice (some ⟨L0, 0, none⟩) (begM B) c0) (v1 := .int .i64 (begJ ts ss (begM B) (begN B) 0).cols) hl1.out (fun x hx => ?_) ?_); (focus (have := hf1.out x hx; simp at this; omega)); (focus (simp [go_sem]; done))) | ((refine lns_var (H := w.heap.size + 1 + 1 + x1.sz) (v0 := .slice (some ⟨L0, 0, none⟩) (begM B) c0) (v1 := .int .i64 (begJ ts ss (begM B) (begN B) 0).cols) hl1.out (fun x hx => ?_) ?_); (focus (have := hf1.out x hx; simp at this; omega)); (focus (simp [go_sem]; done))) | ((refine lns_var (H := w.heap.size + 1 + 1) (v0 := .slice (some ⟨L0, 0, none⟩) (begM B) c0) (v1 := .int .i64 (begJ ts ss (begM B) (begN B) 0).cols) hl1.out (fun x hx => ?_) ?_); (focus (have := hf1.out x hx; simp at this; omega)); (focus (simp [go_sem]; done)))
      · simp [go_sem]; try omega
      · simp [go_sem]; try omega
      · simp [go_sem]; try omega
  obtain ⟨HW, L0, c0, rows1, rfl, hBg⟩ := hcut
  have q0 : wc.cell? ⟨HW, 0, none⟩ = some (.slice (some ⟨L0, 0, none⟩) (begM B) c0) := by rw [cell_in hBg.out.hw]; rfl
  have ql := heap_in hBg.out.hw
  go_wp2_with fail
  go_loopw [22] (fun iv wr => ∃ (i L' c' : Nat) (rows0 rows' : List RowM), i ≤ begM B ∧ iv = .int .i64 i ∧ Hid (Bg w wr wr.heap.size w.heap.size (w.heap.size + 1) HW B L0 c0 (.slice (some ⟨L', 0, none⟩) (begM B) c') rows0 rows' i (begJ ts ss (begM B) (begN B) i))) (fun iv _ => begM B - (intOf iv).toNat)
  case atStart => exact ⟨0, L0, c0, rows1, rows1, by omega, rfl, hBg⟩
  case round =>
    clear hBg q0 ql
    obtain ⟨i, L', c', rows0, rows', hi, rfl, hG⟩ := hrel
    obtain ⟨Wa, hWa⟩ : ∃ Wa, Wa = wr := ⟨_, rfl⟩
    subst hWa
    by_cases hlt : i < begM B
    · obtain ⟨⟨g, k, xs, z⟩, hr0, hrv⟩ := hG.out.fresh i (Nat.le_refl _) hlt
      simp only [RowM.val, Prod.mk.injEq] at hrv
      obtain ⟨rfl, rfl⟩ := hrv
      obtain ⟨d0, d1, _, dl⟩ := hG.out.l0.slot hr0
      obtain ⟨kc1, kc2⟩ := (hG.out.l0.row _ (List.mem_of_getElem? hr0)).cap
      simp only [RowM.sl, List.length_replicate] at d0 d1 kc1 kc2
      have e1 : decide ((i : Int) < (begM B : Int)) = true := decide_eq_true (by omega)
      have p1 : 0 ≤ (i : Int) * (begN B : Int) := Int.mul_nonneg (by omega) (by omega)
      have p2 : (i : Int) * (begN B : Int) ≤ 72 := by
        have := Nat.mul_le_mul (show i ≤ 8 by omega) hn2
        rw [← Int.natCast_mul]
        omega
      have hmx : k ≤ 9223372036854775807 := by simp only [maxLen] at kc2; omega
      clear kc2
      have hGw := hG.out.below.size
      have hNl := hG.out.lt
      go_wp2_with fail
      go_loopw [30] (fun kv wv => ∃ (kk : Nat) (r0s r1s : List RowM) (v : List Cl × Int), kk ≤ begN B ∧ kv = .int .i64 kk ∧ Hid (Bg w wv Wa.heap.size w.heap.size (w.heap.size + 1) HW B L0 c0 (.slice (some ⟨L', 0, none⟩) (begM B) c') r0s r1s (i + 1) (setRowS (begJ ts ss (begM B) (begN B) i) i v)) ∧ Hid (r0s[i]? = some ⟨g, k, xsK ts (begN B) i kk, 0⟩) ∧ Hid (v.1.length = begN B ∧ ∀ y ∈ v.1, y.ok) ∧ Hid (wv.heap[Wa.heap.size]? = some (.cells #[.slice (some ⟨g, 0, none⟩) (begN B) k, .int .i64 0] 67 (0, 0)))) (fun kv _ => begN B - (intOf kv).toNat)
      case atStart =>
        refine ⟨0, rows0, rows', (List.replicate (begN B) erC, 0), by omega, rfl, Lib.hid ?_, Lib.hid ?_, Lib.hid ?_, Lib.hid ?_⟩
        · rw [beg_self hlt]
          refine (hG.out.grow ?_).le (by omega)
          (repeat' (first | (with_reducible exact Below.refl _ _) | (with_reducible refine Below.alloc ?_ ?_ _) | (with_reducible refine below_ext ?_ ?_ _) | (with_reducible refine Below.drew ?_) | (with_reducible refine below_drewN ?_ _) | (with_reducible refine Below.setCell ?_ ?_ _) | go_size | (simp only [go_sem]; omega) | (simp [go_sem]; done) | (simp [go_sem]; omega)))
        · rw [xsK_zero]; exact hr0
        · exact ⟨by simp, fun y hy => by rw [List.eq_of_mem_replicate hy]; exact erC_ok⟩
        · (repeat (first | ((with_reducible refine heap_at _ _ ?_); (focus (first | rfl | (simp [go_sem]; done) | (simp [go_sem]; omega)))) | ((with_reducible refine (heap_old _ _ ?_).trans ?_); (focus (first | (simp [go_sem]; done) | (simp [go_sem]; omega)))) | ((with_reducible refine (block_ext _ _ ?_).trans ?_); (focus (first | (simp [go_sem]; done) | (simp [go_sem]; omega)))) | ((with_reducible refine (heap_drew _ _).trans ?_))))
      case round =>
        obtain ⟨kk, r0s, r1s, v, hk, rfl, hB1, hr1, hv, hl⟩ := hrel
        have w1 : wr.cell? ⟨HW, 1, none⟩ = some (.int .i64 (begN B)) := by rw [cell_in hB1.out.hw]; rfl
        have b3 : wr.cell? ⟨w.heap.size, 3, none⟩ = some (.slice ta ts.length tc) := by rw [cell_in hB1.out.hb, hBA.out]; rfl
        have l0c : wr.cell? ⟨Wa.heap.size, 0, none⟩ = some (.slice (some ⟨g, 0, none⟩) (begN B) k) := by rw [cell_in hl.out]; rfl
        have wl := heap_in hB1.out.hw
        have bl := heap_in hB1.out.hb
        have ll := heap_in hl.out
        by_cases hkn : kk < begN B
        · have e2 : decide ((kk : Int) < (begN B : Int)) = true := decide_eq_true (by omega)
          have t1 : ((i : Int) * (begN B : Int) + kk).toNat = i * begN B + kk := by rw [← Int.natCast_mul]; omega
          by_cases hq : i * begN B + kk < ts.length
          · as_aux_lemma =>
            have e5 : decide ((i : Int) * (begN B : Int) + kk < ts.length) = true := decide_eq_true (by rw [← Int.natCast_mul]; omega)
            obtain ⟨tb, to', rfl, tl, tcell⟩ := rune_cell (hOT.out.below hB1.out.below) hq
            go_wp2_with fail
            have p3 : 0 ≤ (i : Int) * (begN B : Int) + kk := by omega
            have p4 : (i : Int) * (begN B : Int) + kk < ts.length := by rw [← Int.natCast_mul]; omega
            have gcell := (hB1.out.l0.row _ (List.mem_of_getElem? hr1.out))
            obtain ⟨g', eg, _, gl, f0, f1, f2, ff⟩ := own_at gcell kk (by simp only; rw [xsK_len]; exact hkn)
            injection eg with eg
            injection eg with eg
            subst eg
            clear gcell
            (refine wp_region_F (S := (fun w' => w'.cell? ⟨Wa.heap.size, 0, none⟩ = some (.slice (some ⟨g, 0, none⟩) (begN B) k) ∧ w'.cell? ⟨w.heap.size, 3, none⟩ = some (.slice (some ⟨tb, to', none⟩) ts.length tc) ∧ w'.cell? ⟨tb, to' + (i * begN B + kk), none⟩ = some (.int .i32 ts[i * begN B + kk]))) 16 [false, false, false, false, false, false, false, false, false, false, false, false, false, false, false, false, false] rfl rfl (by kernel_rfl) ?_ (fun hHeld => ?_); (focus ((try dsimp only); (refine ⟨?_, ?_, ?_⟩ <;> simp [go_sem, l0c, b3, tcell, ll, bl, tl]); done)))
            ((refine AtF.take (oi := ?_) (v := ?_) 0 ?_ ?_ ?_ ?_ (Or.inl ⟨?_, ?_⟩) (by assumption) ?_; rotate_left 2; rfl; kernel_rfl; kernel_rfl; exact (fun _ _ _ h => h); rfl; (focus (intro w hSw; (try dsimp only at hSw); go_simp; (try with_reducible rfl); done)); (try simp only [Act.put, List.setIfInBounds_toArray, List.set_cons_zero, List.set_cons_succ])); (refine AtF.take (oi := ?_) (v := ?_) 1 ?_ ?_ ?_ ?_ (Or.inl ⟨?_, ?_⟩) (by assumption) ?_; rotate_left 2; rfl; kernel_rfl; kernel_rfl; exact (fun _ _ _ h => h); rfl; (focus (intro w hSw; (try dsimp only at hSw); go_simp; (try with_reducible rfl); done)); (try simp only [Act.put, List.setIfInBounds_toArray, List.set_cons_zero, List.set_cons_succ])); (refine AtF.take (oi := ?_) (v := ?_) 2 ?_ ?_ ?_ ?_ (Or.inl ⟨?_, ?_⟩) (by assumption) ?_; rotate_left 2; rfl; kernel_rfl; kernel_rfl; exact (fun _ _ _ h => h); rfl; (focus (intro w hSw; (try dsimp only at hSw); go_simp; (try with_reducible rfl); done)); (try simp only [Act.put, List.setIfInBounds_toArray, List.set_cons_zero, List.set_cons_succ])); (refine AtF.take (oi := ?_) (v := ?_) 3 ?_ ?_ ?_ ?_ (Or.inl ⟨?_, ?_⟩) (by assumption) ?_; rotate_left 2; rfl; kernel_rfl; kernel_rfl; exact (fun _ _ _ h => h); rfl; (focus (intro w hSw; (try dsimp only at hSw); go_simp; (try with_reducible rfl); done)); (try simp only [Act.put, List.setIfInBounds_toArray, List.set_cons_zero, List.set_cons_succ])); (refine AtF.take (oi := ?_) (v := ?_) 4 ?_ ?_ ?_ ?_ (Or.inl ⟨?_, ?_⟩) (by assumption) ?_; rotate_left 2; rfl; kernel_rfl; kernel_rfl; exact (fun _ _ _ h => h); rfl; (focus (intro w hSw; (try dsimp only at hSw); go_simp; (try with_reducible rfl); done)); (try simp only [Act.put, List.setIfInBounds_toArray, List.set_cons_zero, List.set_cons_succ])); (refine AtF.take (oi := ?_) (v := ?_) 5 ?_ ?_ ?_ ?_ (Or.inl ⟨?_, ?_⟩) (by assumption) ?_; rotate_left 2; rfl; kernel_rfl; kernel_rfl; exact (fun _ _ _ h => h); rfl; (focus (intro w hSw; (try dsimp only at hSw); go_simp; (try with_reducible rfl); done)); (try simp only [Act.put, List.setIfInBounds_toArray, List.set_cons_zero, List.set_cons_succ])); (refine AtF.take (oi := ?_) (v := ?_) 6 ?_ ?_ ?_ ?_ (Or.inl ⟨?_, ?_⟩) (by assumption) ?_; rotate_left 2; rfl; kernel_rfl; kernel_rfl; exact (fun _ _ _ h => h); rfl; (focus (intro w hSw; (try dsimp only at hSw); go_simp; (try with_reducible rfl); done)); (try simp only [Act.put, List.setIfInBounds_toArray, List.set_cons_zero, List.set_cons_succ])); (refine AtF.take (oi := ?_) (v := ?_) 7 ?_ ?_ ?_ ?_ (Or.inl ⟨?_, ?_⟩) (by assumption) ?_; rotate_left 2; rfl; kernel_rfl; kernel_rfl; exact (fun _ _ _ h => h); rfl; (focus (intro w hSw; (try dsimp only at hSw); go_simp; (try with_reducible rfl); done)); (try simp only [Act.put, List.setIfInBounds_toArray, List.set_cons_zero, List.set_cons_succ])); (refine AtF.take (oi := ?_) (v := ?_) 8 ?_ ?_ ?_ ?_ (Or.inl ⟨?_, ?_⟩) (by assumption) ?_; rotate_left 2; rfl; kernel_rfl; kernel_rfl; exact (fun _ _ _ h => h); rfl; (focus (intro w hSw; (try dsimp only at hSw); go_simp; (try with_reducible rfl); done)); (try simp only [Act.put, List.setIfInBounds_toArray, List.set_cons_zero, List.set_cons_succ])); (refine AtF.take (oi := ?_) (v := ?_) 9 ?_ ?_ ?_ ?_ (Or.inl ⟨?_, ?_⟩) (by assumption) ?_; rotate_left 2; rfl; kernel_rfl; kernel_rfl; exact (fun _ _ _ h => h); rfl; (focus (intro w hSw; (try dsimp only at hSw); go_simp; (try with_reducible rfl); done)); (try simp only [Act.put, List.setIfInBounds_toArray, List.set_cons_zero, List.set_cons_succ])); (refine AtF.take (oi := ?_) (v := ?_) 10 ?_ ?_ ?_ ?_ (Or.inl ⟨?_, ?_⟩) (by assumption) ?_; rotate_left 2; rfl; kernel_rfl; kernel_rfl; exact (fun _ _ _ h => h); rfl; (focus (intro w hSw; (try dsimp only at hSw); go_simp; (try with_reducible rfl); done)); (try simp only [Act.put, List.setIfInBounds_toArray, List.set_cons_zero, List.set_cons_succ])); (refine AtF.take (oi := ?_) (v := ?_) 11 ?_ ?_ ?_ ?_ (Or.inl ⟨?_, ?_⟩) (by assumption) ?_; rotate_left 2; rfl; kernel_rfl; kernel_rfl; exact (fun _ _ _ h => h); rfl; (focus (intro w hSw; (try dsimp only at hSw); go_simp; (try with_reducible rfl); done)); (try simp only [Act.put, List.setIfInBounds_toArray, List.set_cons_zero, List.set_cons_succ])); (refine AtF.take (oi := ?_) (v := ?_) 12 ?_ ?_ ?_ ?_ (Or.inl ⟨?_, ?_⟩) (by assumption) ?_; rotate_left 2; rfl; kernel_rfl; kernel_rfl; exact (fun _ _ _ h => h); rfl; (focus (intro w hSw; (try dsimp only at hSw); go_simp; (try with_reducible rfl); done)); (try simp only [Act.put, List.setIfInBounds_toArray, List.set_cons_zero, List.set_cons_succ])); (refine AtF.take (oi := ?_) (v := ?_) 13 ?_ ?_ ?_ ?_ (Or.inl ⟨?_, ?_⟩) (by assumption) ?_; rotate_left 2; rfl; kernel_rfl; kernel_rfl; exact (fun _ _ _ h => h); rfl; (focus (intro w hSw; (try dsimp only at hSw); go_simp; (try with_reducible rfl); done)); (try simp only [Act.put, List.setIfInBounds_toArray, List.set_cons_zero, List.set_cons_succ])); (refine AtF.take (oi := ?_) (v := ?_) 14 ?_ ?_ ?_ ?_ (Or.inl ⟨?_, ?_⟩) (by assumption) ?_; rotate_left 2; rfl; kernel_rfl; kernel_rfl; exact (fun _ _ _ h => h); rfl; (focus (intro w hSw; (try dsimp only at hSw); go_simp; (try with_reducible rfl); done)); (try simp only [Act.put, List.setIfInBounds_toArray, List.set_cons_zero, List.set_cons_succ])); (refine AtF.take (oi := ?_) (v := ?_) 15 ?_ ?_ ?_ ?_ (Or.inl ⟨?_, ?_⟩) (by assumption) ?_; rotate_left 2; rfl; kernel_rfl; kernel_rfl; exact (fun _ _ _ h => h); rfl; (focus (intro w hSw; (try dsimp only at hSw); go_simp; (try with_reducible rfl); done)); (try simp only [Act.put, List.setIfInBounds_toArray, List.set_cons_zero, List.set_cons_succ])))
            (refine AtF.last (oi := ?_) ?_ ?_ (fun K hK => ?_); rotate_left 1; rfl; kernel_rfl; go_simp; skip; refine hK.out _ _ ?_; clear hK K; (try simp only [Act.put, List.setIfInBounds_toArray, List.set_cons_zero, List.set_cons_succ]))
            clear hHeld
            have u3 : IntKind.u8.wrap (((i : Int) * (begN B : Int) + kk).tmod 3) = (((i * begN B + kk) % 3 : Nat) : Int) := by
              rw [← Int.natCast_mul, ← Int.natCast_add]
              generalize i * begN B + kk = q
              rw [Int.tmod_eq_emod_of_nonneg (by omega), IntWalk.u8_in _ (by omega)]
              omega
            have u5 : ((((i : Int) * (begN B : Int) + kk).tmod 5) == 0) = ((i * begN B + kk) % 5 == 0) := by
              rw [← Int.natCast_mul, ← Int.natCast_add]
              generalize i * begN B + kk = q
              rw [Int.tmod_eq_emod_of_nonneg (by omega), Bool.eq_iff_iff]
              simp only [beq_iff_eq]
              omega
            rw [u3, u5]
            obtain ⟨W3, hW3⟩ : ∃ W3, W3 = ((wr.setCell ⟨g, kk * 3, none⟩ (.int .i32 ts[i * begN B + kk])).setCell ⟨g, kk * 3 + 1, none⟩ (.int .u8 ((i * begN B + kk) % 3 : Nat))).setCell ⟨g, kk * 3 + 2, none⟩ (.bool ((i * begN B + kk) % 5 == 0)) := ⟨_, rfl⟩
            have hBN := hB1.out.put begJ_len hlt hv.out hr1.out ⟨xsK_len, xsK_ok hts.out⟩ (k := kk) (by simp only; rw [xsK_len]; exact hkn) ⟨ts[i * begN B + kk], ((i * begN B + kk) % 3 : Nat), (i * begN B + kk) % 5 == 0⟩ ⟨hts.out _ (List.getElem_mem hq), by simp only; omega, by simp only; omega⟩
            simp only at hBN
            rw [← hW3] at hBN ⊢
            obtain ⟨rN, v2, hv2, hB2⟩ := hBN
            have hg0 := (hB1.out.new0 g (.inr ⟨_, List.mem_of_getElem? hr1.out, rfl⟩)).2
            have hlN := Lib.hid (show W3.heap[Wa.heap.size]? = some (.cells #[.slice (some ⟨g, 0, none⟩) (begN B) k, .int .i64 0] 67 (0, 0)) by
              rw [hW3, Below.heap_setCell _ _ _ _ (by simp only; omega), Below.heap_setCell _ _ _ _ (by simp only; omega), Below.heap_setCell _ _ _ _ (by simp only; omega)]
              exact hl.out)
            rw [xsK_step hkn hq] at hB2
            have hsl := (List.getElem?_eq_some_iff.1 hr1.out).1
            replace hB2 := Lib.hid (hB2.grow (show Below W3.heap.size W3 W3.drew by (repeat' (first | (with_reducible exact Below.refl _ _) | (with_reducible refine Below.alloc ?_ ?_ _) | (with_reducible refine below_ext ?_ ?_ _) | (with_reducible refine Below.drew ?_) | (with_reducible refine below_drewN ?_ _) | (with_reducible refine Below.setCell ?_ ?_ _) | go_size | (simp only [go_sem]; omega) | (simp [go_sem]; done) | (simp [go_sem]; omega)))))
            replace hv2 := Lib.hid hv2
            clear hW3 u3 u5 f0 f1 f2 ff
            go_wp2_with fail
            exact ⟨⟨kk + 1, _, rN, v2, by omega, by go_num, hB2, Lib.hid (by rw [List.getElem?_set_self hsl]), hv2, hlN⟩, by simp [intOf]; omega⟩
          · have e5 : decide ((i : Int) * (begN B : Int) + kk < ts.length) = false := decide_eq_false (by rw [← Int.natCast_mul]; omega)
            go_wp2_with fail
            exact ⟨⟨kk + 1, r0s, r1s, v, by omega, by go_num, hB1, Lib.hid (by rw [xsK_skip hq]; exact hr1.out), hv, hl⟩, by simp [intOf]; omega⟩
        · as_aux_lemma =>
          obtain rfl : kk = begN B := by omega
          have e2 : decide ((begN B : Int) < (begN B : Int)) = false := by simp
          have b2 : wr.cell? ⟨w.heap.size, 2, none⟩ = some (.slice sa ss.length sc) := by rw [cell_in hB1.out.hb, hBA.out]; rfl
          have l1c : wr.cell? ⟨Wa.heap.size, 1, none⟩ = some (.int .i64 0) := by rw [cell_in hl.out]; rfl
          have lf := frozen_in (q := 1) hl.out
          have hsz0 : ¬ i < ss.length → begZ ss i = 0 := fun h => by unfold begZ; rw [dif_neg h]
          go_upto_if 65 with fail
          go_cut [] (fun wq => ∃ zz : Int, Hid (Bg w wq Wa.heap.size w.heap.size (w.heap.size + 1) HW B L0 c0 (.slice (some ⟨L', 0, none⟩) (begM B) c') r0s r1s (i + 1) (setRowS (begJ ts ss (begM B) (begN B) i) i v)) ∧ Hid (wq.heap[Wa.heap.size]? = some (.cells #[.slice (some ⟨g, 0, none⟩) (begN B) k, .int .i64 zz] 67 (0, 0))) ∧ Hid (sizeI zz = begZ ss i))
          case first =>
           as_aux_lemma =>
            by_cases his : i < ss.length
            · have e3 : decide (i < ss.length) = true := decide_eq_true his
              obtain ⟨sb, so, rfl, sl, scell⟩ := Ints.cell (hOS.out.below hB1.out.below) his
              have CZ := Lib.hid (fun w' => clamp_l ss[i] 0 3 w')
              have hz3 := Lib.hid (show sizeI (clampR ss[i] 0 3) = begZ ss i by
                have := clampR_in ss[i] (show (0 : Int) ≤ 3 by omega)
                unfold begZ sizeI
                rw [dif_pos his, if_neg (by omega)])
              generalize clampR ss[i] 0 3 = zz at CZ hz3
              go_wp2_with (go_at_call 34; ((with_reducible refine (CZ.out _).mono ?_); rintro _ _ hgets; obtain ⟨rfl, x5, rfl⟩ := hgets.get; clear hgets))
              refine Met.intro ?_
              go_step
              (repeat apply Exists.intro)
              refine ⟨⟨zz, Lib.hid ((hB1.out.var (H := Wa.heap.size) ((Keep.refl (· = Wa.heap.size) wr).set (p := ⟨Wa.heap.size, 1, none⟩) (.inl rfl) (.int .i64 zz)) (Nat.le_refl _)).grow (below_of_ext _ x5)), Lib.hid ?_, hz3⟩, rfl⟩
              refine (block_ext _ _ (by simp; omega)).trans ?_
              simp [World.setCell, Array.getElem?_modify, hl.out]
            · have e3 : decide (i < ss.length) = false := decide_eq_false his
              go_wp2_with fail
              refine Met.intro ?_
              go_step
              (repeat apply Exists.intro)
              exact ⟨⟨0, hB1, hl, Lib.hid (by rw [hsz0 his]; rfl)⟩, rfl⟩
          obtain ⟨zz, hB3, hl3, hz3⟩ := hcut
          have v0 : wc.cell? ⟨HW, 0, none⟩ = some (.slice (some ⟨L', 0, none⟩) (begM B) c') := by rw [cell_in hB3.out.hw]; rfl
          have v1 : wc.cell? ⟨HW, 1, none⟩ = some (.int .i64 (begN B)) := by rw [cell_in hB3.out.hw]; rfl
          have vf0 := frozen_in (q := 0) hB3.out.hw
          have vf1 := frozen_in (q := 1) hB3.out.hw
          have m0 : wc.cell? ⟨Wa.heap.size, 0, none⟩ = some (.slice (some ⟨g, 0, none⟩) (begN B) k) := by rw [cell_in hl3.out]; rfl
          have m1 : wc.cell? ⟨Wa.heap.size, 1, none⟩ = some (.int .i64 zz) := by rw [cell_in hl3.out]; rfl
          have vl := heap_in hB3.out.hw
          have ml' := heap_in hl3.out
          have okJ : (setRowS (begJ ts ss (begM B) (begN B) i) i v).Ok := setRowS_ok (begJ_ok hts.out (by omega) (by omega)) i hv.out.1 hv.out.2
          have hrr : RowM.At wc ⟨g, k, xsK ts (begN B) i (begN B), 0⟩ := hB3.out.l0.row _ (List.mem_of_getElem? hr1.out)
          have RS := Lib.hid (fun w' (hb : Below wc.heap.size wc w') => (by
            have h1 := refset_c (.agg #[.slice (some ⟨L', 0, none⟩) (begM B) c', .int .i64 (begN B)]) i (some ⟨g, 0, none⟩) k (xsK ts (begN B) i (begN B)) zz (RefV.grow ⟨_, r1s, rfl, hB3.out.l1, hB3.out.val⟩ hb) okJ (hrr.rd.below hb) (by rw [xsK_len]; omega)
            rw [beg_set hlt (begRow_len _ _ _ _) hz3.out, xsK_len] at h1
            exact h1 : Calls Tryz.prog 83 #[.agg #[.slice (some ⟨L', 0, none⟩) (begM B) c', .int .i64 (begN B)], .int .i64 i, .agg #[.slice (some ⟨g, 0, none⟩) (begN B) k, .int .i64 zz]] w' (NewRef (begJ ts ss (begM B) (begN B) (i + 1)) w')))
          clear w1 b3 l0c wl bl ll b2 l1c lf hsz0 okJ hrr hB1 hl e1 e2
          go_wp2_with ((go_at_call 83); (with_reducible refine (RS.out _ (by (repeat' (first | (with_reducible exact Below.refl _ _) | (with_reducible refine Below.alloc ?_ ?_ _) | (with_reducible refine below_ext ?_ ?_ _) | (with_reducible refine Below.drew ?_) | (with_reducible refine below_drewN ?_ _) | (with_reducible refine Below.setCell ?_ ?_ _) | go_size | (simp only [go_sem]; omega) | (simp [go_sem]; done) | (simp [go_sem]; omega))))).mono ?_); (rintro _ _ hp); (obtain ⟨L5, c5, rows5, x5, rfl, rfl, hl5, hv5, hf5⟩ := hp.some begJ_len hm1); clear hp; (replace hl5 := Lib.hid hl5); (replace hv5 := Lib.hid hv5); (replace hf5 := Lib.hid hf5))
          have hN := hB3.out.next hl5.out hv5.out hf5.out
          rw [setCell_ext wc x5 HW 0 _ vl, setCell_ext _ x5 HW 1 _ (by simpa using vl)] at hN
          exact ⟨⟨i + 1, L5, c5, r0s, rows5, by omega, by go_num, Lib.hid hN⟩, by simp [intOf]; omega⟩
    · as_aux_lemma =>
      obtain rfl : i = begM B := by omega
      have e1 : decide ((begM B : Int) < (begM B : Int)) = false := by simp
      rw [hall.out] at hG
      have v0 : Wa.cell? ⟨HW, 0, none⟩ = some (.slice (some ⟨L', 0, none⟩) (begM B) c') := by rw [cell_in hG.out.hw]; rfl
      have v1 : Wa.cell? ⟨HW, 1, none⟩ = some (.int .i64 (begN B)) := by rw [cell_in hG.out.hw]; rfl
      have vl := heap_in hG.out.hw
      have NP := Lib.hid (fun w' => (by have := new_p (begM B) (begN B) w'; rwa [← begJ_zero (ts := ts) (ss := ss) (m := begM B) (n := begN B) (by unfold dimN; omega) (by unfold dimN; omega)] at this : Calls Tryz.prog 31 #[.int .i64 (begM B), .int .i64 (begN B)] w' (NewPg (begJ ts ss (begM B) (begN B) 0) w')))
      clear hi hlt
      go_upto_region 17 with ((go_at_call 31); (with_reducible refine (NP.out _).mono ?_); (rintro _ _ ⟨p, F, x6, rfl, rfl, hFg, hPg⟩); (replace hFg := Lib.hid hFg); (replace hPg := Lib.hid hPg))
      have hGp := hG.out.grow (below_of_ext Wa x6)
      obtain ⟨Wp, hWp⟩ : ∃ Wp, Wp = ext Wa x6 := ⟨_, rfl⟩
      rw [← hWp] at hGp hPg ⊢
      replace hGp := Lib.hid hGp
      clear hG hWp v0 v1 vl
      have v0 : Wp.cell? ⟨HW, 0, none⟩ = some (.slice (some ⟨L', 0, none⟩) (begM B) c') := by rw [cell_in hGp.out.hw]; rfl
      have vl := heap_in hGp.out.hw
      go_wp2_with fail
      go_loopw [87] (fun iv wv => ∃ j : Nat, j ≤ begM B ∧ iv = .int .i64 j ∧ Hid (Did F p (begJ ts ss (begM B) (begN B) j) Wp wv)) (fun iv _ => begM B - (intOf iv).toNat)
      case atStart => exact ⟨0, by omega, rfl, Lib.hid (Did.refl hPg.out)⟩
      case round =>
        clear v0 vl
        obtain ⟨j, hj, rfl, hD⟩ := hrel
        have hGj := hGp.out.keepF hD.out.1 hFg.out
        by_cases hjm : j < begM B
        · have e1 : decide ((j : Int) < (begM B : Int)) = true := decide_eq_true (by omega)
          obtain ⟨⟨g, k, xs, z⟩, hr, hrv⟩ := hGj.row (begS_row hjm)
          rw [hBT.out, hBS.out] at hrv
          obtain ⟨d0, d1, _, dl⟩ := hGj.l1.slot hr
          have hrr : RowM.At wr ⟨g, k, xs, z⟩ := hGj.l1.row _ (List.mem_of_getElem? hr)
          have okJ := begJ_ok (ts := ts) (ss := ss) (m := begM B) (n := begN B) (j := j) hts.out (by omega) (by omega)
          have kc := hrr.cap
          have hxz : (begRow ts ss (begN B) j).1 = xs ∧ (begRow ts ss (begN B) j).2 = z := by rw [← hrv]; exact ⟨rfl, rfl⟩
          have SL := Lib.hid (fun w' (hb : Below wr.heap.size wr w') => (by
            have h1 := setline_p (hD.out.2.grow hb) okJ j (some ⟨g, 0, none⟩) k z xs (hrr.rd.below hb)
            rw [← hxz.1, ← hxz.2, beg_set2 hjm, hxz.1, hxz.2] at h1
            exact h1 : Calls Tryz.prog 38 #[.pointer (some ⟨p, 0, none⟩), .int .i64 j, lineV (some ⟨g, 0, none⟩) xs.length k z] w' (fun e w2 => e = .returned (.tuple #[]) ∧ Did (more F Wp wr) p (begJ ts ss (begM B) (begN B) (j + 1)) w' w2)))
          simp only [RowM.sl] at d0 d1 kc
          simp only [maxLen] at kc
          obtain ⟨kc1, kc2⟩ := kc
          have PL := Lib.hid hD.out.2.lt
          have hFl := Lib.hid hPg.out.lt
          clear hxz hrv hrr hGj
          go_wp2_with ((go_at_call 38); (with_reducible refine (SL.out _ (by (repeat' (first | (with_reducible exact Below.refl _ _) | (with_reducible refine Below.alloc ?_ ?_ _) | (with_reducible refine below_ext ?_ ?_ _) | (with_reducible refine Below.drew ?_) | (with_reducible refine below_drewN ?_ _) | (with_reducible refine Below.setCell ?_ ?_ _) | go_size | (simp only [go_sem]; omega) | (simp [go_sem]; done) | (simp [go_sem]; omega))))).mono ?_); (rintro _ W5 ⟨rfl, hD5⟩); (replace hD5 := Lib.hid (Did.back hD5 (show Below wr.heap.size wr _ by (repeat' (first | (with_reducible exact Below.refl _ _) | (with_reducible refine Below.alloc ?_ ?_ _) | (with_reducible refine below_ext ?_ ?_ _) | (with_reducible refine Below.drew ?_) | (with_reducible refine below_drewN ?_ _) | (with_reducible refine Below.setCell ?_ ?_ _) | go_size | (simp only [go_sem]; omega) | (simp [go_sem]; done) | (simp [go_sem]; omega)))) PL.out)))
          exact ⟨⟨j + 1, by omega, by go_num, Lib.hid (hD.out.trans hD5.out hFl.out)⟩, by simp [intOf]; omega⟩
        · as_aux_lemma =>
          obtain rfl : j = begM B := by omega
          have e1 : decide ((begM B : Int) < (begM B : Int)) = false := by simp
          rw [hall.out] at hD
          have v0 : wr.cell? ⟨HW, 0, none⟩ = some (.slice (some ⟨L', 0, none⟩) (begM B) c') := by rw [cell_in hGj.hw]; rfl
          have v1 : wr.cell? ⟨HW, 1, none⟩ = some (.int .i64 (begN B)) := by rw [cell_in hGj.hw]; rfl
          have vl := heap_in hGj.hw
          have bl := heap_in hGj.hb
          have rg1 : wr.rangeAt w.heap.size 4 [.int .i64 row, .int .i64 col, .int .u8 rd, .bool kp, .bool wp, .bool og, .int .i64 a, .int .i64 b', .int .i64 c, .int .i64 d, .int .i64 l, .int .i64 r, .int .i64 s] := range_blk hGj.hb 4 _ (by rw [hBA.out]; rfl)
          have rg2 : wr.rangeAt w.heap.size 17 [.int .i64 mt, .int .i64 ml, .int .i64 mb, .int .i64 mr] := range_blk hGj.hb 17 _ (by rw [hBA.out]; rfl)
          go_upto_region 22 with fail
          (refine wp_region_F (S := (fun w' => w'.cell? ⟨HW, 0, none⟩ = some (.slice (some ⟨L', 0, none⟩) (begM B) c') ∧ w'.cell? ⟨HW, 1, none⟩ = some (.int .i64 (begN B)) ∧ w'.rangeAt w.heap.size 4 [.int .i64 row, .int .i64 col, .int .u8 rd, .bool kp, .bool wp, .bool og, .int .i64 a, .int .i64 b', .int .i64 c, .int .i64 d, .int .i64 l, .int .i64 r, .int .i64 s] ∧ w'.rangeAt w.heap.size 17 [.int .i64 mt, .int .i64 ml, .int .i64 mb, .int .i64 mr])) 8 [false, false, false, false, false, false, false, false, false] rfl rfl (by kernel_rfl) ?_ (fun hHeld => ?_); (focus ((try dsimp only); (exact ⟨by simp [go_sem, v0, vl], by simp [go_sem, v1, vl], rg1, rg2⟩); done)))
          ((refine AtF.take (oi := ?_) (v := ?_) 0 ?_ ?_ ?_ ?_ (Or.inl ⟨?_, ?_⟩) (by assumption) ?_; rotate_left 2; rfl; kernel_rfl; kernel_rfl; exact (fun _ _ _ h => h); rfl; (focus (intro w hSw; (try dsimp only at hSw); go_simp; (try with_reducible rfl); done)); (try simp only [Act.put, List.setIfInBounds_toArray, List.set_cons_zero, List.set_cons_succ])); (refine AtF.take (oi := ?_) (v := ?_) 1 ?_ ?_ ?_ ?_ (Or.inl ⟨?_, ?_⟩) (by assumption) ?_; rotate_left 2; rfl; kernel_rfl; kernel_rfl; exact (fun _ _ _ h => h); rfl; (focus (intro w hSw; (try dsimp only at hSw); go_simp; (try with_reducible rfl); done)); (try simp only [Act.put, List.setIfInBounds_toArray, List.set_cons_zero, List.set_cons_succ])); (refine AtF.take (oi := ?_) (v := ?_) 2 ?_ ?_ ?_ ?_ (Or.inl ⟨?_, ?_⟩) (by assumption) ?_; rotate_left 2; rfl; kernel_rfl; kernel_rfl; exact (fun _ _ _ h => h); rfl; (focus (intro w hSw; (try dsimp only at hSw); go_simp; (try with_reducible rfl); done)); (try simp only [Act.put, List.setIfInBounds_toArray, List.set_cons_zero, List.set_cons_succ])))
          (refine AtF.take (oi := ?_) (v := .agg #[.int .i64 row, .int .i64 col, .int .u8 rd, .bool kp, .bool wp, .bool og, .int .i64 a, .int .i64 b', .int .i64 c, .int .i64 d, .int .i64 l, .int .i64 r, .int .i64 s]) 3 ?_ ?_ ?_ ?_ ?_ (by assumption) ?_; rotate_left 1; rfl; kernel_rfl; kernel_rfl; exact (fun _ _ _ h => h); (focus ((refine yieldsIf_load_mid rfl 29 (.tmp 99) rfl w.heap.size 4 rfl [.int .i64 row, .int .i64 col, .int .u8 rd, .bool kp, .bool wp, .bool og, .int .i64 a, .int .i64 b', .int .i64 c, .int .i64 d, .int .i64 l, .int .i64 r, .int .i64 s] _ (fun w' hS => hS.2.2.1) Tryz.underlying29 rfl (by kernel_rfl)); done)); (try simp only [Act.put, List.setIfInBounds_toArray, List.set_cons_zero, List.set_cons_succ]))
          ((refine AtF.take (oi := ?_) (v := ?_) 4 ?_ ?_ ?_ ?_ (Or.inl ⟨?_, ?_⟩) (by assumption) ?_; rotate_left 2; rfl; kernel_rfl; kernel_rfl; exact (fun _ _ _ h => h); rfl; (focus (intro w hSw; (try dsimp only at hSw); go_simp; (try with_reducible rfl); done)); (try simp only [Act.put, List.setIfInBounds_toArray, List.set_cons_zero, List.set_cons_succ])))
          (refine AtF.take (oi := ?_) (v := .agg #[.int .i64 mt, .int .i64 ml, .int .i64 mb, .int .i64 mr]) 5 ?_ ?_ ?_ ?_ ?_ (by assumption) ?_; rotate_left 1; rfl; kernel_rfl; kernel_rfl; exact (fun _ _ _ h => h); (focus ((refine yieldsIf_load_mid rfl 31 (.tmp 101) rfl w.heap.size 17 rfl [.int .i64 mt, .int .i64 ml, .int .i64 mb, .int .i64 mr] _ (fun w' hS => hS.2.2.2) Tryz.underlying31 rfl (by kernel_rfl)); done)); (try simp only [Act.put, List.setIfInBounds_toArray, List.set_cons_zero, List.set_cons_succ]))
          (refine AtF.take (oi := ?_) (v := .agg #[.slice (some ⟨L', 0, none⟩) (begM B) c', .int .i64 (begN B), .int .i64 row, .int .i64 col, .int .u8 rd, .bool kp, .bool wp, .bool og, .int .i64 a, .int .i64 b', .int .i64 c, .int .i64 d, .int .i64 l, .int .i64 r, .int .i64 s, .int .i64 mt, .int .i64 ml, .int .i64 mb, .int .i64 mr]) 6 ?_ ?_ ?_ ?_ ?_ (by assumption) ?_; rotate_left 1; rfl; kernel_rfl; kernel_rfl; exact (fun _ _ _ h => h); (focus ((refine yieldsIf_build rfl 84 #[(0, .tmp 98), (1, .tmp 100), (2, .tmp 102)] rfl _ #[(0, .agg #[.slice (some ⟨L', 0, none⟩) (begM B) c', .int .i64 (begN B)]), (1, .agg #[.int .i64 row, .int .i64 col, .int .u8 rd, .bool kp, .bool wp, .bool og, .int .i64 a, .int .i64 b', .int .i64 c, .int .i64 d, .int .i64 l, .int .i64 r, .int .i64 s]), (2, .agg #[.int .i64 mt, .int .i64 ml, .int .i64 mb, .int .i64 mr])] (by kernel_rfl) (fun w' => ?_); exact sheet_build _ _ _ _ _ _ _ _ _ _ _ _ _ _ _ _ _ _ _ w'); done)); (try simp only [Act.put, List.setIfInBounds_toArray, List.set_cons_zero, List.set_cons_succ]))
          ((refine AtF.take (oi := ?_) (v := ?_) 7 ?_ ?_ ?_ ?_ (Or.inl ⟨?_, ?_⟩) (by assumption) ?_; rotate_left 2; rfl; kernel_rfl; kernel_rfl; exact (fun _ _ _ h => h); rfl; (focus (intro w hSw; (try dsimp only at hSw); go_simp; (try with_reducible rfl); done)); (try simp only [Act.put, List.setIfInBounds_toArray, List.set_cons_zero, List.set_cons_succ])))
          obtain ⟨W4, e4, k4, c4⟩ := store_all (show wr.drew.heap[w.heap.size + 1]? = _ from hGj.hr) [.slice (some ⟨L', 0, none⟩) (begM B) c', .int .i64 (begN B), .int .i64 row, .int .i64 col, .int .u8 rd, .bool kp, .bool wp, .bool og, .int .i64 a, .int .i64 b', .int .i64 c, .int .i64 d, .int .i64 l, .int .i64 r, .int .i64 s, .int .i64 mt, .int .i64 ml, .int .i64 mb, .int .i64 mr] rfl
          (refine AtF.last (oi := ?_) ?_ ?_ (fun K hK => ?_); rotate_left 1; rfl; kernel_rfl; refine step_do rfl ?_; (refine wp_store_mid 84 (.tmp 3) (.tmp 103) rfl (w.heap.size + 1) 0 #[.slice (some ⟨L', 0, none⟩) (begM B) c', .int .i64 (begN B), .int .i64 row, .int .i64 col, .int .u8 rd, .bool kp, .bool wp, .bool og, .int .i64 a, .int .i64 b', .int .i64 c, .int .i64 d, .int .i64 l, .int .i64 r, .int .i64 s, .int .i64 mt, .int .i64 ml, .int .i64 mb, .int .i64 mr] rfl rfl (there_blk (show wr.drew.heap[w.heap.size + 1]? = _ from hGj.hr) (Nat.le_refl _)) (by kernel_rfl) (all_one _ rfl) ?_); rw [show wr.drew.setCells (w.heap.size + 1) 0 (#[.slice (some ⟨L', 0, none⟩) (begM B) c', .int .i64 (begN B), .int .i64 row, .int .i64 col, .int .u8 rd, .bool kp, .bool wp, .bool og, .int .i64 a, .int .i64 b', .int .i64 c, .int .i64 d, .int .i64 l, .int .i64 r, .int .i64 s, .int .i64 mt, .int .i64 ml, .int .i64 mb, .int .i64 mr] : Array Value).toList = W4 from e4]; refine hK.out _ _ ?_; clear hK K; (try simp only [Act.put, List.setIfInBounds_toArray, List.set_cons_zero, List.set_cons_succ]))
          clear hHeld
          have hlt := hGj.lt
          have hFN : ∀ x, more F Wp wr x → Wa.heap.size ≤ x := fun x hx => hx.elim (hFg.out x) (fun e => Nat.le_trans hGp.out.nle e.1)
          have kd : Keep (· = w.heap.size + 1) wr W4 := (Keep.of_below (F := (· = w.heap.size + 1)) (show Below wr.heap.size wr wr.drew by (repeat' (first | (with_reducible exact Below.refl _ _) | (with_reducible refine Below.alloc ?_ ?_ _) | (with_reducible refine below_ext ?_ ?_ _) | (with_reducible refine Below.drew ?_) | (with_reducible refine below_drewN ?_ _) | (with_reducible refine Below.setCell ?_ ?_ _) | go_size | (simp only [go_sem]; omega) | (simp [go_sem]; done) | (simp [go_sem]; omega))))).trans k4 (fun x hx => .inl hx)
          have hP4 := hD.out.2.keep kd (fun x hx e => by have := hFN x hx; omega)
          have hR4 : RefAt W4 (fun x => more F Wp wr x ∨ x < w.heap.size) (.agg #[.slice (some ⟨L', 0, none⟩) (begM B) c', .int .i64 (begN B)]) (begS B) :=
            ⟨_, rows', rfl, hGj.l1.keep kd (fun x hx => hGj.l1.off hGj.hr (by decide) (by decide) x hx), hGj.val, fun x hx e => by
              have := hGj.new1 x hx
              rcases e with e | e
              · have := hFN x e; omega
              · omega⟩
          have hB4 : Below w.heap.size w W4 := hGj.below.trans (kd.below (B := w.heap.size) (fun x e => by omega) hGj.below.size)
          have FN := Lib.hid (And.intro hB4 (And.intro hP4 (And.intro hR4 (fun x (hx : more F Wp wr x) => (show w.heap.size ≤ x by have := hFN x hx; omega)))))
          have LV := run_loadVar_mid (P := Tryz.prog) W4 (w.heap.size + 1) 0 84 [.slice (some ⟨L', 0, none⟩) (begM B) c', .int .i64 (begN B), .int .i64 row, .int .i64 col, .int .u8 rd, .bool kp, .bool wp, .bool og, .int .i64 a, .int .i64 b', .int .i64 c, .int .i64 d, .int .i64 l, .int .i64 r, .int .i64 s, .int .i64 mt, .int .i64 ml, .int .i64 mb, .int .i64 mr] _ (range_blk c4 0 _ rfl) Tryz.underlying84 rfl (by kernel_rfl)
          clear hP4 hR4 hB4 hGj hD c4 k4 kd hlt e4 hFN v0 v1 rg1 rg2
          replace LV := Lib.hid LV
          go_wp2_with fail
          refine bodyPost_ret (v := .tuple #[.pointer (some ⟨p, 0, none⟩), .agg #[.slice (some ⟨L', 0, none⟩) (begM B) c', .int .i64 (begN B), .int .i64 row, .int .i64 col, .int .u8 rd, .bool kp, .bool wp, .bool og, .int .i64 a, .int .i64 b', .int .i64 c, .int .i64 d, .int .i64 l, .int .i64 r, .int .i64 s, .int .i64 mt, .int .i64 ml, .int .i64 mb, .int .i64 mr]]) ?_ rfl ?_
          · have LV' := LV.out
            simp [results, Tryz.f32, asAddr, LV']
          · exact ⟨_, _, _, _, rfl, FN.out⟩
end Go.Proofs.YtignkkejkknddaaGreat
