/- Lines: a law's own line, its span and its cell; lists of pairs of lines. -/
import Derived.Test.YtdlngbmgcedbpaaLineInv
import Derived.Test.YtdlngbmgcedbpaaRegionInv2
namespace Go.Proofs.Ytdlngbmgcedbpaa
open Go.RowKit
set_option linter.unusedVariables false
set_option linter.unusedSimpArgs false

structure LawE (w wx : World) (A : Option Addr) (c : Nat) (sz : Int) (xs : List Cl) (f t n : Int) (y : Cl) : Prop where
  below : Below w.heap.size w wx
  l0 : wx.cell? ⟨w.heap.size, 0, none⟩ = some (.slice A xs.length c)
  l1 : wx.cell? ⟨w.heap.size, 1, none⟩ = some (.int .i64 sz)
  s0 : wx.cell? ⟨w.heap.size + 1, 0, none⟩ = some (.int .i64 f)
  s1 : wx.cell? ⟨w.heap.size + 1, 1, none⟩ = some (.int .i64 t)
  s2 : wx.cell? ⟨w.heap.size + 1, 2, none⟩ = some (.int .i64 n)
  k0 : wx.cell? ⟨w.heap.size + 1 + 1, 0, none⟩ = some (.int .i32 y.g)
  k1 : wx.cell? ⟨w.heap.size + 1 + 1, 1, none⟩ = some (.int .u8 y.r)
  k2 : wx.cell? ⟨w.heap.size + 1 + 1, 2, none⟩ = some (.bool y.k)
  lt : w.heap.size + 1 + 1 < wx.heap.size
  rd : Rd encC 3 wx A xs
  cap : (A = none → c = 0) ∧ c ≤ 9223372036854775807 ∧ xs.length ≤ c
theorem LawE.grow {w wx wy : World} {A : Option Addr} {c : Nat} {sz : Int} {xs : List Cl} {f t n : Int} {y : Cl} (h : LawE w wx A c sz xs f t n y) (hb : Below wx.heap.size wx wy) : LawE w wy A c sz xs f t n y := by
  have h0 := Nat.lt_of_succ_lt h.lt
  have h1 := Nat.lt_of_succ_lt h0
  exact ⟨h.below.trans (hb.mono h.below.size), (hb.cell (p := ⟨_, _, none⟩) h1).trans h.l0, (hb.cell (p := ⟨_, _, none⟩) h1).trans h.l1, (hb.cell (p := ⟨_, _, none⟩) h0).trans h.s0, (hb.cell (p := ⟨_, _, none⟩) h0).trans h.s1, (hb.cell (p := ⟨_, _, none⟩) h0).trans h.s2,
    (hb.cell (p := ⟨_, _, none⟩) h.lt).trans h.k0, (hb.cell (p := ⟨_, _, none⟩) h.lt).trans h.k1, (hb.cell (p := ⟨_, _, none⟩) h.lt).trans h.k2, Nat.lt_of_lt_of_le h.lt hb.size, h.rd.below hb, h.cap⟩
theorem LawE.start {w : World} {A A1 : Option Addr} {c1 C m : Nat} {sz : Int} {xs : List Cl} {f t n g r : Int} {k : Bool} {x0 x1 : More} {B : Nat}
    (hO : Own encC 3 87 B (ext (ext (((w.alloc (.cells #[.slice A m C, .int .i64 sz] 70)).alloc (.cells #[.int .i64 f, .int .i64 t, .int .i64 n] 72)).alloc (.cells #[.int .i32 g, .int .u8 r, .bool k] 87)) x0) x1) (.slice A1 xs.length c1) xs) (hB : w.heap.size < B) :
    LawE w (ext (ext (((w.alloc (.cells #[.slice A1 xs.length c1, .int .i64 sz] 70)).alloc (.cells #[.int .i64 f, .int .i64 t, .int .i64 n] 72)).alloc (.cells #[.int .i32 g, .int .u8 r, .bool k] 87)) x0) x1) A1 c1 sz xs f t n ⟨g, r, k⟩ := by
  refine ⟨by (repeat' (first | (with_reducible exact Below.refl _ _) | (with_reducible refine Below.alloc ?_ ?_ _) | (with_reducible refine below_ext ?_ ?_ _) | (with_reducible refine Below.drew ?_) | (with_reducible refine below_drewN ?_ _) | (with_reducible refine Below.setCell ?_ ?_ _) | go_size | (simp only [go_sem]; omega) | (simp [go_sem]; done) | (simp [go_sem]; omega))), by simp [go_sem], by simp [go_sem], by simp [go_sem], by simp [go_sem], by simp [go_sem], by simp [go_sem], by simp [go_sem], by simp [go_sem], by simp [go_sem], ?_, own_cap hO⟩
  have h := own_set_far (own_set_far hO w.heap.size 0 hB (.slice A1 xs.length c1)) w.heap.size 1 hB (.int .i64 sz)
  have h2 := h.rd encC_len
  simpa [go_sem] using h2
/-- a list of two lines that read alike -/
def PairF (w : World) (R : List Cl) (sz : Int) (v : Value) : Prop := ∃ H A c A' c', v = .slice (some ⟨H, 0, none⟩) 2 2 ∧ w.heap[H]? = some (.cells #[.slice A R.length c, .int .i64 sz, .slice A' R.length c', .int .i64 sz] 70 (0, 0)) ∧ Rd encC 3 w A R ∧ Rd encC 3 w A' R
/-- a list of such lists -/
def PairsF (w : World) (sz : Int) (v : Value) : Prop := ∃ G p0 p1 p2 p3 p4 p5, v = .slice (some ⟨G, 0, none⟩) 6 6 ∧ w.heap[G]? = some (.cells #[p0, p1, p2, p3, p4, p5] 95 (0, 0)) ∧
  ∀ p ∈ [p0, p1, p2, p3, p4, p5], ∃ R, R.length ≤ 300 ∧ PairF w R sz p
section
variable {w w' : World} {R : List Cl} {sz : Int} {v : Value}
theorem PairF.grow (h : PairF w R sz v) (hb : Below w.heap.size w w') : PairF w' R sz v := by
  obtain ⟨H, A, c, A', c', e, h1, h2, h3⟩ := h
  exact ⟨H, A, c, A', c', e, (hb.block H (heap_lt h1)).trans h1, h2.below hb, h3.below hb⟩
theorem PairsF.grow (h : PairsF w sz v) (hb : Below w.heap.size w w') : PairsF w' sz v := by
  obtain ⟨G, p0, p1, p2, p3, p4, p5, e, h1, h2⟩ := h
  refine ⟨G, p0, p1, p2, p3, p4, p5, e, (hb.block G (heap_lt h1)).trans h1, fun p hp => ?_⟩
  obtain ⟨R, hR, hP⟩ := h2 p hp
  exact ⟨R, hR, hP.grow hb⟩
theorem PairF.new {wb : World} {A A' : Option Addr} {c c' : Nat} (h : Own encC 3 87 wb.heap.size w (.slice A R.length c) R) (h' : Own encC 3 87 wb.heap.size w (.slice A' R.length c') R) :
    PairF (w.alloc (.cells #[.slice A R.length c, .int .i64 sz, .slice A' R.length c', .int .i64 sz] 70)) R sz (.slice (some ⟨w.heap.size, 0, none⟩) 2 2) :=
  ⟨_, A, c, A', c', rfl, heap_alloc_new w _, (h.rd encC_len).alloc _, (h'.rd encC_len).alloc _⟩
theorem PairsF.new {R0 R1 R2 R3 R4 R5 : List Cl} {p0 p1 p2 p3 p4 p5 : Value} (h0 : PairF w R0 sz p0) (h1 : PairF w R1 sz p1) (h2 : PairF w R2 sz p2) (h3 : PairF w R3 sz p3) (h4 : PairF w R4 sz p4) (h5 : PairF w R5 sz p5)
    (l0 : R0.length ≤ 300) (l1 : R1.length ≤ 300) (l2 : R2.length ≤ 300) (l3 : R3.length ≤ 300) (l4 : R4.length ≤ 300) (l5 : R5.length ≤ 300) :
    PairsF (w.alloc (.cells #[p0, p1, p2, p3, p4, p5] 95)) sz (.slice (some ⟨w.heap.size, 0, none⟩) 6 6) := by
  have hb : Below w.heap.size w (w.alloc (.cells #[p0, p1, p2, p3, p4, p5] 95)) := (Below.refl _ _).alloc (Nat.le_refl _) _
  refine ⟨_, p0, p1, p2, p3, p4, p5, rfl, heap_alloc_new w _, fun p hp => ?_⟩
  simp only [List.mem_cons, List.not_mem_nil, or_false] at hp
  rcases hp with rfl | rfl | rfl | rfl | rfl | rfl
  · exact ⟨R0, l0, h0.grow hb⟩
  · exact ⟨R1, l1, h1.grow hb⟩
  · exact ⟨R2, l2, h2.grow hb⟩
  · exact ⟨R3, l3, h3.grow hb⟩
  · exact ⟨R4, l4, h4.grow hb⟩
  · exact ⟨R5, l5, h5.grow hb⟩
theorem PairsF.at (h : PairsF w sz v) : ∃ G, v = .slice (some ⟨G, 0, none⟩) 6 6 ∧ G < w.heap.size ∧ ∀ j, j < 6 → ∃ R H A c A' c', w.cell? ⟨G, j, none⟩ = some (.slice (some ⟨H, 0, none⟩) 2 2) ∧ R.length ≤ 300 ∧ H < w.heap.size ∧
    w.cell? ⟨H, 0, none⟩ = some (.slice A R.length c) ∧ w.cell? ⟨H, 1, none⟩ = some (.int .i64 sz) ∧ w.cell? ⟨H, 2, none⟩ = some (.slice A' R.length c') ∧ w.cell? ⟨H, 3, none⟩ = some (.int .i64 sz) ∧ Rd encC 3 w A R ∧ Rd encC 3 w A' R := by
  obtain ⟨G, p0, p1, p2, p3, p4, p5, e, h1, h2⟩ := h
  refine ⟨G, e, heap_lt h1, fun j hj => ?_⟩
  have key : ∀ p, p ∈ [p0, p1, p2, p3, p4, p5] → w.cell? ⟨G, j, none⟩ = some p → ∃ R H A c A' c', w.cell? ⟨G, j, none⟩ = some (.slice (some ⟨H, 0, none⟩) 2 2) ∧ R.length ≤ 300 ∧ H < w.heap.size ∧
    w.cell? ⟨H, 0, none⟩ = some (.slice A R.length c) ∧ w.cell? ⟨H, 1, none⟩ = some (.int .i64 sz) ∧ w.cell? ⟨H, 2, none⟩ = some (.slice A' R.length c') ∧ w.cell? ⟨H, 3, none⟩ = some (.int .i64 sz) ∧ Rd encC 3 w A R ∧ Rd encC 3 w A' R := by
    intro p hp hc
    obtain ⟨R, hR, H, A, c, A', c', e, q1, q2, q3⟩ := h2 p hp
    subst e
    exact ⟨R, H, A, c, A', c', hc, hR, heap_lt q1, by simp [World.cell?, q1], by simp [World.cell?, q1], by simp [World.cell?, q1], by simp [World.cell?, q1], q2, q3⟩
  match j, hj with
  | 0, _ => exact key p0 (by simp) (by simp [World.cell?, h1])
  | 1, _ => exact key p1 (by simp) (by simp [World.cell?, h1])
  | 2, _ => exact key p2 (by simp) (by simp [World.cell?, h1])
  | 3, _ => exact key p3 (by simp) (by simp [World.cell?, h1])
  | 4, _ => exact key p4 (by simp) (by simp [World.cell?, h1])
  | 5, _ => exact key p5 (by simp) (by simp [World.cell?, h1])
end
end Go.Proofs.Ytdlngbmgcedbpaa
