/- phosphorlaw14.Sheet: two pages of the document's, one being filled, one being made.  -/
import Derived.Test.YtdfiknemfpkdmaaEdM
import Derived.Test.YtdfiknemfpkdmaaEdP
import Derived.Test.YtdfiknemfpkdmaaEdN
import Derived.Deep.Upon
import Derived.Deep.MidRow
import Derived.Laws.Tables
namespace Go.Proofs.Ytdfiknemfpkdmaa
open Go.RowKit
set_option linter.unusedVariables false
set_option linter.unusedSimpArgs false

theorem setCells_blk {B : Nat} {t : TypeId} : ∀ (vs : List Value) (o : Nat) (W : World) (cur : Array Value), W.heap[B]? = some (.cells cur t (0, 0)) → o + vs.length = cur.size →
    (W.setCells B o vs).heap[B]? = some (.cells (cur.toList.take o ++ vs).toArray t (0, 0)) ∧ Keep (· = B) W (W.setCells B o vs)
  | [], o, W, cur, h, hl => by
    refine ⟨?_, Keep.refl _ _⟩
    have e : cur.toList.take o ++ [] = cur.toList := by rw [List.append_nil, List.take_of_length_le (by simp at hl ⊢; omega)]
    rw [e]
    exact h
  | v :: r, o, W, cur, h, hl => by
    have h1 : (W.setCell ⟨B, o, none⟩ v).heap[B]? = some (.cells (cur.setIfInBounds o v) t (0, 0)) := by simp [World.setCell, Array.getElem?_modify, h]
    obtain ⟨h2, h3⟩ := setCells_blk r (o + 1) (W.setCell ⟨B, o, none⟩ v) (cur.setIfInBounds o v) h1 (by simp at hl ⊢; omega)
    refine ⟨?_, ((Keep.refl (· = B) W).set (p := ⟨B, o, none⟩) (.inl rfl) v).trans h3 (fun x hx => .inl hx)⟩
    show ((W.setCell ⟨B, o, none⟩ v).setCells B (o + 1) r).heap[B]? = _
    rw [h2]
    have e : (cur.setIfInBounds o v).toList.take (o + 1) ++ r = cur.toList.take o ++ v :: r := by
      have hlt : o < cur.toList.length := by simp at hl ⊢; omega
      rw [Array.toList_setIfInBounds, List.take_succ_eq_append_getElem (by simpa using hlt), List.getElem_set_self, List.take_set_of_le (Nat.le_refl _), List.append_assoc]
      rfl
    rw [e]
theorem store_all {W : World} {B : Nat} {cur : Array Value} {t : TypeId} (h : W.heap[B]? = some (.cells cur t (0, 0))) (vs : List Value) (hl : cur.size = vs.length) :
    ∃ W', W.setCells B 0 vs = W' ∧ Keep (· = B) W W' ∧ W'.heap[B]? = some (.cells vs.toArray t (0, 0)) := by
  obtain ⟨h1, h2⟩ := setCells_blk vs 0 W cur h (by omega)
  exact ⟨_, rfl, h2, by simpa using h1⟩
/-- a new page of the document's, its list spelled out -/
theorem NewRef.some {S : PgS} {w w' : World} {e : Ending} (h : NewRef S w e w') {m : Nat} (hm : S.rows.length = m) (h0 : 0 < m) : ∃ L c rows x, e = .returned (.agg #[.slice (Option.some ⟨L, 0, none⟩) m c, .int .i64 S.cols]) ∧ w' = ext w x ∧ Lns (ext w x) (.slice (Option.some ⟨L, 0, none⟩) m c) rows ∧ rows.map RowM.val = S.rows ∧ ∀ b, foot (.slice (Option.some ⟨L, 0, none⟩) m c) rows b → w.heap.size ≤ b := by
  obtain ⟨V, rows, x, rfl, rfl, hl, hv, hf⟩ := h
  have hn : rows.length = m := by rw [← hm, ← hv]; simp
  obtain ⟨g, c, e, _, _⟩ := hl.own.some_of (by omega)
  subst e
  rw [hn] at hl hf ⊢
  exact ⟨g, c, rows, x, rfl, rfl, hl, hv, hf⟩
abbrev zero14 : Array Value := #[.slice none 0 0, .int .i64 0, .int .i64 0, .int .i64 0, .int .u8 0, .bool false, .bool false, .bool false, .int .i64 0, .int .i64 0, .int .i64 0, .int .i64 0, .int .i64 0, .int .i64 0, .int .i64 0, .int .i64 0, .int .i64 0, .int .i64 0, .int .i64 0]
/-- the first page, being filled, row by row; the page that is being made; the variables -/
structure Bg (w wr : World) (N H0 HR HW : Nat) (b : BgD) (L0 c0 : Nat) (V' : Value) (rows0 rows' : List RowM) (i : Nat) (S' : PgS) : Prop where
  below : Below w.heap.size w wr
  nle : N ≤ wr.heap.size
  hb : wr.heap[H0]? = some (.cells b.cells.toArray 33 (0, 0))
  hr : wr.heap[HR]? = some (.cells zero14 42 (0, 0))
  hw : wr.heap[HW]? = some (.cells #[V', .int .i64 S'.cols] 40 (0, 0))
  l0 : Lns wr (.slice (some ⟨L0, 0, none⟩) (begM b) c0) rows0
  l1 : Lns wr V' rows'
  val : rows'.map RowM.val = S'.rows
  fresh : ∀ j, i ≤ j → j < begM b → ∃ r, rows0[j]? = some r ∧ r.val = (List.replicate (begN b) erC, 0)
  two : (V' = .slice (some ⟨L0, 0, none⟩) (begM b) c0 ∧ rows' = rows0) ∨ (∀ r ∈ rows0, ¬ foot V' rows' r.g)
  new0 : ∀ x, foot (.slice (some ⟨L0, 0, none⟩) (begM b) c0) rows0 x → w.heap.size ≤ x ∧ x < N
  new1 : ∀ x, foot V' rows' x → w.heap.size ≤ x ∧ x < N
  lt : w.heap.size ≤ H0 ∧ w.heap.size ≤ HR ∧ w.heap.size ≤ HW ∧ H0 < N ∧ HR < N ∧ HW < N ∧ H0 ≠ HR ∧ H0 ≠ HW ∧ HR ≠ HW
theorem page_set07 {w : World} {p : Nat} {V n : Value} (h : w.heap[p]? = some (.cells #[V, n] 40 (0, 0))) (V' : Value) (k : Nat) : ((w.setCell ⟨p, 0, none⟩ V').setCell ⟨p, 1, none⟩ (.int .i64 k)).heap[p]? = some (.cells #[V', .int .i64 k] 40 (0, 0)) := by
  simp only [World.setCell, Array.getElem?_modify, if_pos, h]
  simp
section
variable {w wr W : World} {N H0 HR HW L0 c0 : Nat} {b : BgD} {V' : Value} {rows0 rows' : List RowM} {i k : Nat} {S S' : PgS} {v : List Cl × Int} {r : RowM}
theorem Bg.grow (h : Bg w wr N H0 HR HW b L0 c0 V' rows0 rows' i S') (hb : Below wr.heap.size wr W) : Bg w W N H0 HR HW b L0 c0 V' rows0 rows' i S' :=
  ⟨h.below.trans (hb.mono h.below.size), Nat.le_trans h.nle hb.size, (hb.block _ (heap_in h.hb)).trans h.hb, (hb.block _ (heap_in h.hr)).trans h.hr, (hb.block _ (heap_in h.hw)).trans h.hw, h.l0.grow hb, h.l1.grow hb, h.val, h.fresh, h.two, h.new0, h.new1, h.lt⟩
/-- what is newer is written -/
theorem Bg.keepF {F : Nat → Prop} (h : Bg w wr N H0 HR HW b L0 c0 V' rows0 rows' i S') (hk : Keep F wr W) (hF : ∀ x, F x → N ≤ x) : Bg w W N H0 HR HW b L0 c0 V' rows0 rows' i S' := by
  obtain ⟨a1, a2, a3, a4, a5, a6, _⟩ := h.lt
  have hw0 := h.below.size
  exact ⟨h.below.trans (hk.below (B := w.heap.size) (fun x e => by have := hF x e; omega) hw0), Nat.le_trans h.nle hk.size, (hk.block _ (heap_in h.hb) (fun e => by have := hF _ e; omega)).trans h.hb, (hk.block _ (heap_in h.hr) (fun e => by have := hF _ e; omega)).trans h.hr, (hk.block _ (heap_in h.hw) (fun e => by have := hF _ e; omega)).trans h.hw,
    h.l0.keep hk (fun x hx e => by have := h.new0 x hx; have := hF x e; omega), h.l1.keep hk (fun x hx e => by have := h.new1 x hx; have := hF x e; omega), h.val, h.fresh, h.two, h.new0, h.new1, h.lt⟩
theorem Bg.var {H : Nat} (h : Bg w wr N H0 HR HW b L0 c0 V' rows0 rows' i S') (hk : Keep (· = H) wr W) (hH : N ≤ H) : Bg w W N H0 HR HW b L0 c0 V' rows0 rows' i S' := h.keepF hk (fun x e => by omega)
/-- row j of the page that was made -/
theorem Bg.row {j : Nat} {v : List Cl × Int} (h : Bg w wr N H0 HR HW b L0 c0 V' rows0 rows' i S') (hj : S'.rows[j]? = some v) : ∃ r, rows'[j]? = some r ∧ r.val = v := by
  have h7 : (rows'.map RowM.val)[j]? = S'.rows[j]? := by rw [h.val]
  rw [List.getElem?_map, hj] at h7
  cases hq : rows'[j]? with
  | none => rw [hq] at h7; cases h7
  | some r => rw [hq] at h7; exact ⟨r, rfl, Option.some.inj h7⟩
theorem foot_set {V : Value} {rows : List RowM} {i : Nat} {r s : RowM} (hi : rows[i]? = some r) (hg : s.g = r.g) {x : Nat} (h : foot V (rows.set i s) x) : foot V rows x := by
  rcases h with h | ⟨q, hq, e⟩
  · exact .inl h
  · rcases List.mem_or_eq_of_mem_set hq with hq | rfl
    · exact .inr ⟨q, hq, e⟩
    · exact .inr ⟨r, List.mem_of_getElem? hi, by rw [← e, hg]⟩
theorem rowsM_set {rows : List RowM} {i : Nat} (s : RowM) : (rows.set i s).map RowM.val = (rows.map RowM.val).set i s.val := map_set_val rows i s
/-- a cell of the first page is stored -/
theorem Bg.put (h : Bg w wr N H0 HR HW b L0 c0 V' rows0 rows' (i + 1) (setRowS S i v)) (hS : S.rows.length = begM b) (him : i < begM b) (hv : v.1.length = begN b ∧ ∀ y ∈ v.1, y.ok)
    (hi : rows0[i]? = some r) (hr : r.xs.length = begN b ∧ ∀ y ∈ r.xs, y.ok) (hk : k < r.xs.length) (y : Cl) (hy : y.ok) :
    ∃ rows'' v2, (v2.1.length = begN b ∧ ∀ y ∈ v2.1, y.ok) ∧ Bg w (((wr.setCell ⟨r.g, k * 3, none⟩ (.int .i32 y.g)).setCell ⟨r.g, k * 3 + 1, none⟩ (.int .u8 y.r)).setCell ⟨r.g, k * 3 + 2, none⟩ (.bool y.k)) N H0 HR HW b L0 c0 V' (rows0.set i ⟨r.g, r.c, r.xs.set k y, r.z⟩) rows'' (i + 1) (setRowS S i v2) := by
  have hrm := List.mem_of_getElem? hi
  have hfr : foot (.slice (some ⟨L0, 0, none⟩) (begM b) c0) rows0 r.g := .inr ⟨r, hrm, rfl⟩
  have hK : Keep (· = r.g) wr (((wr.setCell ⟨r.g, k * 3, none⟩ (.int .i32 y.g)).setCell ⟨r.g, k * 3 + 1, none⟩ (.int .u8 y.r)).setCell ⟨r.g, k * 3 + 2, none⟩ (.bool y.k)) :=
    (((Keep.refl (· = r.g) wr).set (p := ⟨r.g, k * 3, none⟩) (.inl rfl) _).set (p := ⟨r.g, k * 3 + 1, none⟩) (.inl rfl) _).set (p := ⟨r.g, k * 3 + 2, none⟩) (.inl rfl) _
  have hP := h.l0.put hi hk y
  have n0 := h.l0.off h.hb (by decide) (by decide) _ hfr
  have n1 := h.l0.off h.hr (by decide) (by decide) _ hfr
  have n2 := h.l0.off h.hw (by decide) (by decide) _ hfr
  have hw0 := h.below.size
  have hn0 := h.new0 _ hfr
  have hlt : i < rows0.length := (List.getElem?_eq_some_iff.1 hi).1
  generalize ((wr.setCell ⟨r.g, k * 3, none⟩ (.int .i32 y.g)).setCell ⟨r.g, k * 3 + 1, none⟩ (.int .u8 y.r)).setCell ⟨r.g, k * 3 + 2, none⟩ (.bool y.k) = W at hK hP ⊢
  have fr : ∀ j, i + 1 ≤ j → j < begM b → ∃ q, (rows0.set i ⟨r.g, r.c, r.xs.set k y, r.z⟩)[j]? = some q ∧ q.val = (List.replicate (begN b) erC, 0) := fun j h1 h2 => by
    obtain ⟨q, e1, e2⟩ := h.fresh j h1 h2
    exact ⟨q, by rw [List.getElem?_set_ne (by omega)]; exact e1, e2⟩
  rcases h.two with ⟨e1, e2⟩ | hd
  · subst e1 e2
    refine ⟨rows'.set i ⟨r.g, r.c, r.xs.set k y, r.z⟩, (r.xs.set k y, r.z), ⟨by simpa using hr.1, fun q hq => ?_⟩, ?_⟩
    · rcases List.mem_or_eq_of_mem_set hq with hq | rfl
      · exact hr.2 _ hq
      · exact hy
    · refine ⟨h.below.trans (hK.below (B := w.heap.size) (fun x e => by omega) hw0), Nat.le_trans h.nle hK.size, (hK.block _ (heap_in h.hb) (fun e => n0 e.symm)).trans h.hb, (hK.block _ (heap_in h.hr) (fun e => n1 e.symm)).trans h.hr, (hK.block _ (heap_in h.hw) (fun e => n2 e.symm)).trans h.hw,
        hP, hP, ?_, fr, .inl ⟨rfl, rfl⟩, fun x hx => h.new0 x (foot_set (s := ⟨r.g, r.c, r.xs.set k y, r.z⟩) hi rfl hx), fun x hx => h.new1 x (foot_set (s := ⟨r.g, r.c, r.xs.set k y, r.z⟩) hi rfl hx), h.lt⟩
      rw [rowsM_set, h.val]
      simp [setRowS, RowM.val]
  · refine ⟨rows', v, hv, ⟨h.below.trans (hK.below (B := w.heap.size) (fun x e => by omega) hw0), Nat.le_trans h.nle hK.size, (hK.block _ (heap_in h.hb) (fun e => n0 e.symm)).trans h.hb, (hK.block _ (heap_in h.hr) (fun e => n1 e.symm)).trans h.hr, (hK.block _ (heap_in h.hw) (fun e => n2 e.symm)).trans h.hw,
        hP, h.l1.keep hK (fun x hx e => hd r hrm (e ▸ hx)), h.val, fr, .inr (fun s hs hf => ?_), fun x hx => h.new0 x (foot_set (s := ⟨r.g, r.c, r.xs.set k y, r.z⟩) hi rfl hx), h.new1, h.lt⟩⟩
    rcases List.mem_or_eq_of_mem_set hs with hs | rfl
    · exact hd s hs hf
    · exact hd r hrm hf
/-- the page that is being made is another one -/
theorem Bg.next {S5 : PgS} {V5 : Value} {rows5 : List RowM} {x : More} (h : Bg w wr N H0 HR HW b L0 c0 V' rows0 rows' i S') (hl : Lns (ext wr x) V5 rows5) (hv : rows5.map RowM.val = S5.rows) (hf : ∀ q, foot V5 rows5 q → wr.heap.size ≤ q) :
    Bg w (((ext wr x).setCell ⟨HW, 0, none⟩ V5).setCell ⟨HW, 1, none⟩ (.int .i64 S5.cols)) (((ext wr x).setCell ⟨HW, 0, none⟩ V5).setCell ⟨HW, 1, none⟩ (.int .i64 S5.cols)).heap.size H0 HR HW b L0 c0 V5 rows0 rows5 i S5 := by
  have hx := h.grow (below_of_ext wr x)
  have hK : Keep (· = HW) (ext wr x) (((ext wr x).setCell ⟨HW, 0, none⟩ V5).setCell ⟨HW, 1, none⟩ (.int .i64 S5.cols)) := ((Keep.refl (· = HW) (ext wr x)).set (p := ⟨HW, 0, none⟩) (.inl rfl) _).set (p := ⟨HW, 1, none⟩) (.inl rfl) _
  obtain ⟨a1, a2, a3, a4, a5, a6, a7, a8, a9⟩ := h.lt
  have hw0 := h.below.size
  have nl := h.nle
  have hwn := heap_in h.hw
  have e := page_set07 hx.hw V5 S5.cols
  have sz : (ext wr x).heap.size = wr.heap.size + x.sz := size_ext wr x
  have ks := hK.size
  generalize (((ext wr x).setCell ⟨HW, 0, none⟩ V5).setCell ⟨HW, 1, none⟩ (.int .i64 S5.cols)) = W at hK e ks ⊢
  refine ⟨hx.below.trans (hK.below (B := w.heap.size) (fun q e => by omega) hx.below.size), Nat.le_refl _, (hK.block _ (heap_in hx.hb) (by omega)).trans hx.hb, (hK.block _ (heap_in hx.hr) (by omega)).trans hx.hr, e,
    hx.l0.keep hK (fun q hq e => hx.l0.off hx.hw (by decide) (by decide) q hq e), hl.keep hK (fun q hq e => by have := hf q hq; omega), hv, h.fresh, .inr (fun r hr hq => ?_), fun q hq => ?_, fun q hq => ?_, ?_⟩
  · have h1 := hf _ hq
    have h2 := (h.new0 _ (.inr ⟨r, hr, rfl⟩)).2
    omega
  · have := h.new0 q hq
    omega
  · have h1 := hf q hq
    have h2 := hl.lt hq
    omega
  · omega
theorem Bg.le {j : Nat} (h : Bg w wr N H0 HR HW b L0 c0 V' rows0 rows' i S') (hj : i ≤ j) : Bg w wr N H0 HR HW b L0 c0 V' rows0 rows' j S' := { h with fresh := fun q h1 h2 => h.fresh q (by omega) h2 }
theorem lns_var {H : Nat} {v0 v1 V : Value} {rows : List RowM} {w w' : World} (hl : Lns w V rows) (hf : ∀ x, foot V rows x → x ≠ H) (e : (w.setCell ⟨H, 0, none⟩ v0).setCell ⟨H, 1, none⟩ v1 = w') : Lns w' V rows := by
  subst e
  exact hl.keep (((Keep.refl (· = H) w).set (p := ⟨H, 0, none⟩) (.inl rfl) v0).set (p := ⟨H, 1, none⟩) (.inl rfl) v1) hf
theorem Bg.start {rows : List RowM} {arr : Array Value} {ts ss : List Int} (hb : Below w.heap.size w wr) (h0 : wr.heap[H0]? = some (.cells arr 33 (0, 0))) (e : b.cells.toArray = arr) (hr : wr.heap[HR]? = some (.cells zero14 42 (0, 0)))
    (hw : wr.heap[HW]? = some (.cells #[.slice (some ⟨L0, 0, none⟩) (begM b) c0, .int .i64 (begJ ts ss (begM b) (begN b) 0).cols] 40 (0, 0))) (hl : Lns wr (.slice (some ⟨L0, 0, none⟩) (begM b) c0) rows) (hv : rows.map RowM.val = (begJ ts ss (begM b) (begN b) 0).rows)
    (hf : ∀ x, foot (.slice (some ⟨L0, 0, none⟩) (begM b) c0) rows x → w.heap.size ≤ x) (h1 : w.heap.size ≤ H0) (h2 : w.heap.size ≤ HR) (h3 : w.heap.size ≤ HW) (h4 : H0 ≠ HR) (h5 : H0 ≠ HW) (h6 : HR ≠ HW) :
    Bg w wr wr.heap.size H0 HR HW b L0 c0 (.slice (some ⟨L0, 0, none⟩) (begM b) c0) rows rows 0 (begJ ts ss (begM b) (begN b) 0) := by
  subst e
  refine ⟨hb, Nat.le_refl _, h0, hr, hw, hl, hl, hv, fun j _ hj => ?_, .inl ⟨rfl, rfl⟩, fun x hx => ⟨hf x hx, hl.lt hx⟩, fun x hx => ⟨hf x hx, hl.lt hx⟩, ⟨h1, h2, h3, heap_in h0, heap_in hr, heap_in hw, h4, h5, h6⟩⟩
  have h7 : (rows.map RowM.val)[j]? = (begJ ts ss (begM b) (begN b) 0).rows[j]? := by rw [hv]
  rw [List.getElem?_map] at h7
  have hlt : j < (begJ ts ss (begM b) (begN b) 0).rows.length := by rw [begJ_len]; exact hj
  rw [List.getElem?_eq_getElem hlt, begJ_get hj, if_neg (by omega)] at h7
  cases hq : rows[j]? with
  | none => rw [hq] at h7; cases h7
  | some r => rw [hq] at h7; exact ⟨r, rfl, Option.some.inj h7⟩
theorem rune_cell {a : Option Addr} {xs : List Int} (h : Rd (encI .i32) 1 w a xs) {k : Nat} (hk : k < xs.length) : ∃ b off, a = some ⟨b, off, none⟩ ∧ b < w.heap.size ∧ w.cell? ⟨b, off + k, none⟩ = some (.int .i32 xs[k]) := by
  obtain ⟨b, off, e, hlt, hc⟩ := h (by omega)
  exact ⟨b, off, e, hlt, by simpa using hc k hk 0 _ rfl⟩
end
/-- the first k cells of row i are laid -/
def xsK (ts : List Int) (n i k : Nat) : List Cl := (List.range n).map fun q => if q < k then begC ts (i * n + q) else erC
section
variable {ts : List Int} {n i k : Nat}
theorem xsK_len : (xsK ts n i k).length = n := by simp [xsK]
theorem xsK_zero : xsK ts n i 0 = List.replicate n erC := by
  apply List.ext_getElem (by simp [xsK])
  intro q h1 h2
  simp [xsK]
theorem xsK_all (ss : List Int) : xsK ts n i n = (begRow ts ss n i).1 := by
  unfold xsK begRow
  refine List.map_congr_left fun q hq => ?_
  rw [if_pos (by simpa using hq)]
theorem xsK_ok (h : ∀ n ∈ ts, -2147483648 ≤ n ∧ n ≤ 2147483647) : ∀ y ∈ xsK ts n i k, y.ok := fun y hy => by
  simp only [xsK, List.mem_map] at hy
  obtain ⟨q, _, rfl⟩ := hy
  split
  · exact begC_ok h _
  · exact erC_ok
theorem xsK_get (hk : k < n) (h' : k < (xsK ts n i k).length) : (xsK ts n i k)[k] = erC := by simp [xsK]
theorem xsK_step (hk : k < n) (h : i * n + k < ts.length) : (xsK ts n i k).set k ⟨ts[i * n + k], ((i * n + k) % 3 : Nat), (i * n + k) % 5 == 0⟩ = xsK ts n i (k + 1) := by
  apply List.ext_getElem (by simp [xsK])
  intro q h1 h2
  rw [List.getElem_set]
  simp only [xsK, List.getElem_map, List.getElem_range]
  by_cases e : k = q
  · subst e
    rw [if_pos rfl, if_pos (by omega)]
    unfold begC
    rw [dif_pos h]
  · rw [if_neg e]
    by_cases hq : q < k
    · rw [if_pos hq, if_pos (by omega)]
    · rw [if_neg hq, if_neg (by omega)]
theorem xsK_skip (h : ¬ i * n + k < ts.length) : xsK ts n i (k + 1) = xsK ts n i k := by
  unfold xsK
  refine List.map_congr_left fun q hq => ?_
  by_cases hq : q < k
  · rw [if_pos (by omega), if_pos hq]
  · rw [if_neg hq]
    split
    · unfold begC
      rw [dif_neg (by omega)]
    · rfl
theorem beg_self {ss : List Int} {m : Nat} (hi : i < m) : setRowS (begJ ts ss m n i) i (List.replicate n erC, 0) = begJ ts ss m n i := by
  have hlt : i < (begJ ts ss m n i).rows.length := by rw [begJ_len]; exact hi
  have e : (List.replicate n erC, (0 : Int)) = (begJ ts ss m n i).rows[i] := by rw [begJ_get hi, if_neg (by omega)]
  rw [e]
  exact setRowS_self hlt
theorem begS_row {b : BgD} {j : Nat} (hj : j < begM b) : (begS b).rows[j]? = some (begRow b.ts b.ss (begN b) j) := by simp [begS, hj]
/-- a row is laid -/
theorem beg_set {ss : List Int} {m : Nat} {v : List Cl × Int} {z : Int} (hi : i < m) (hn : (begRow ts ss n i).1.length = n) (hz : sizeI z = begZ ss i) : setLineS (setRowS (begJ ts ss m n i) i v) i (xsK ts n i n) z = begJ ts ss m n (i + 1) := by
  unfold setLineS
  rw [if_pos (by unfold thereI; rw [setRowS_len, begJ_len]; simp; omega), xsK_all ss, show (setRowS (begJ ts ss m n i) i v).cols = n from rfl, resR_self hn, hz, begJ_step hi, Int.toNat_natCast, setRowS_twice]
  rfl
theorem beg_set2 {ss : List Int} {m : Nat} (hi : i < m) : setLineS (begJ ts ss m n i) i (begRow ts ss n i).1 (begRow ts ss n i).2 = begJ ts ss m n (i + 1) := by
  unfold setLineS
  have hz := begZ_in ss i
  rw [if_pos (by unfold thereI; rw [begJ_len]; simp; omega), show (begJ ts ss m n i).cols = n from rfl, resR_self (begRow_len _ _ _ _), begJ_step hi, Int.toNat_natCast]
  congr 2
  show sizeI (begZ ss i) = begZ ss i
  unfold sizeI
  rw [if_neg (by omega)]
end
end Go.Proofs.Ytdfiknemfpkdmaa
/- Structs of many cells: read and written as they stand.  -/
namespace Go.Proofs.Ytdfiknemfpkdmaa
open Go.RowKit
theorem range_blk {w : World} {b : Nat} {arr : Array Value} {t : TypeId} {fr : Nat × Nat} (h : w.heap[b]? = some (.cells arr t fr)) (o : Nat) (cs : List Value) (e : (arr.toList.drop o).take cs.length = cs) : w.rangeAt b o cs := by
  intro j v hj
  rw [cell_in h]
  have hlt : j < cs.length := (List.getElem?_eq_some_iff.1 hj).1
  have h1 : ((arr.toList.drop o).take cs.length)[j]? = some v := by rw [e]; exact hj
  rw [List.getElem?_take_of_lt hlt, List.getElem?_drop] at h1
  simpa using h1
theorem there_blk {w : World} {b : Nat} {arr : Array Value} {t : TypeId} (h : w.heap[b]? = some (.cells arr t (0, 0))) {n : Nat} (hn : n ≤ arr.size) : w.there b 0 n := by
  intro j hj
  rw [cell_in h, frozen_in h]
  refine ⟨?_, rfl⟩
  rw [Array.getElem?_eq_getElem (by omega)]
  rfl
theorem range_grow {w : World} {b o : Nat} {cs : List Value} (h : w.rangeAt b o cs) (hb : b < w.heap.size) (x : More) : (ext w x).rangeAt b o cs := fun j v hv => (cell_ext w x b _ hb).trans (h j v hv)
/-- a struct of its own is stored whole -/
theorem store_new (w : World) (z : Array Value) (t : TypeId) (vs : List Value) (hl : z.size = vs.length) : ∃ W', (w.alloc (.cells z t)).setCells w.heap.size 0 vs = W' ∧ Below w.heap.size w W' ∧ W'.heap[w.heap.size]? = some (.cells vs.toArray t (0, 0)) := by
  obtain ⟨W', e, k, c⟩ := store_all (heap_at w (.cells z t) rfl) vs hl
  exact ⟨W', e, ((Below.refl _ _).alloc (Nat.le_refl _) _).trans (k.below (B := w.heap.size) (fun x e => by omega) (by simp)), c⟩
theorem foldl_splice (off : Nat) : ∀ (vs : List Value) (k : Nat) (cells : Array Value), off + k + vs.length ≤ cells.size →
    (vs.zipIdx k).foldl (fun cs (x : Value × Nat) => cs.setIfInBounds (off + x.2) x.1) cells = (cells.toList.take (off + k) ++ vs ++ cells.toList.drop (off + k + vs.length)).toArray
  | [], k, cells, _ => by simp
  | v :: vs, k, cells, h => by
    simp only [List.length_cons] at h
    rw [List.zipIdx_cons, List.foldl_cons, foldl_splice off vs (k + 1) _ (by simp; omega)]
    congr 1
    have hlt : off + k < cells.toList.length := by simp; omega
    simp only [Array.toList_setIfInBounds, List.length_cons]
    rw [show off + (k + 1) = off + k + 1 by omega, List.take_succ_eq_append_getElem (by simpa using hlt), List.getElem_set_self, List.take_set_of_le (Nat.le_refl _), List.drop_set_of_lt (by omega), List.append_assoc, List.append_assoc, List.append_assoc, show off + k + 1 + vs.length = off + k + (vs.length + 1) by omega]
    rfl
theorem fill_cons {place : Nat → Option (Nat × Nat)} {cells : Array Value} {i : Nat} {v : Value} {rest : List (Nat × Value)} {off size : Nat} {R : Option (Array Value)} (hp : place i = some (off, size)) (hs : v.cells.size = size) (hb : off + size ≤ cells.size)
    (h : Instr.fill place (cells.toList.take off ++ v.cells.toList ++ cells.toList.drop (off + size)).toArray rest = R) : Instr.fill place cells ((i, v) :: rest) = R := by
  subst hs
  unfold Instr.fill
  simp only [hp]
  rw [if_neg (by simp; omega)]
  have e := foldl_splice off v.cells.toList 0 cells (by simpa using hb)
  simp only [Nat.add_zero, Array.length_toList] at e
  rw [← h, ← e, ← Array.foldl_toList, Array.toList_zipIdx]
theorem sheet_built (a0 a1 c0 c1 c2 c3 c4 c5 c6 c7 c8 c9 c10 c11 c12 m0 m1 m2 m3 : Value) : Try.prog.built 42 [(0, .agg #[a0, a1]), (1, .agg #[c0, c1, c2, c3, c4, c5, c6, c7, c8, c9, c10, c11, c12]), (2, .agg #[m0, m1, m2, m3])] = some #[a0, a1, c0, c1, c2, c3, c4, c5, c6, c7, c8, c9, c10, c11, c12, m0, m1, m2, m3] :=
  (show Try.prog.built 42 [(0, .agg #[a0, a1]), (1, .agg #[c0, c1, c2, c3, c4, c5, c6, c7, c8, c9, c10, c11, c12]), (2, .agg #[m0, m1, m2, m3])] = Instr.fill (fun i => (#[(0, 2), (2, 13), (15, 4)] : Array (Nat × Nat))[i]?) zero14 [(0, .agg #[a0, a1]), (1, .agg #[c0, c1, c2, c3, c4, c5, c6, c7, c8, c9, c10, c11, c12]), (2, .agg #[m0, m1, m2, m3])] from by kernel_rfl).trans
    (fill_cons rfl rfl (Nat.le_of_ble_eq_true rfl) (fill_cons rfl rfl (Nat.le_of_ble_eq_true rfl) (fill_cons rfl rfl (Nat.le_of_ble_eq_true rfl) rfl)))
theorem sheet_build (a0 a1 c0 c1 c2 c3 c4 c5 c6 c7 c8 c9 c10 c11 c12 m0 m1 m2 m3 : Value) (w : World) : (Instr.build 42 #[(0, .agg #[a0, a1]), (1, .agg #[c0, c1, c2, c3, c4, c5, c6, c7, c8, c9, c10, c11, c12]), (2, .agg #[m0, m1, m2, m3])]).run Try.prog w = .ok (.agg #[a0, a1, c0, c1, c2, c3, c4, c5, c6, c7, c8, c9, c10, c11, c12, m0, m1, m2, m3]) w :=
  run_build w _ _ _ (sheet_built a0 a1 c0 c1 c2 c3 c4 c5 c6 c7 c8 c9 c10 c11 c12 m0 m1 m2 m3)
theorem yieldsIf_build {P : Program} {ops : Array Oper} {S : World → Prop} {op : Oper} {a : Act} (hw : Region.wanted op (yielded ops a.tmps) = true) (t : TypeId) (parts : Array (Nat × Operand)) (ho : op.op = .build t parts) (v : Value) (parts' : Array (Nat × Value)) (hp : (parts.map fun (i, x) => (i, a.eval x)) = parts')
    (h : ∀ w, (Instr.build t parts').run P w = .ok v w) : YieldsIf P ops S op v a :=
  .inl ⟨hw, fun w _ => by
    have := h w
    rw [← hp] at this
    unfold execOp
    simp only [ho, Sem.run_bind, this, Result.andThen_ok, Sem.run_pure]⟩
theorem all_one (cs : List Value) (h : cs.all (·.oneCell') = true) : cs.toArray.all (·.oneCell') = true := by simpa using h
end Go.Proofs.Ytdfiknemfpkdmaa
