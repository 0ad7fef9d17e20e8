/- Lines: a variable that holds a line, said lightly; the law's own copy of a line. -/
import Derived.Test.YtdlngbmgcedbpaaLine23
import Derived.Test.YtdlngbmgcedbpaaAwake3
namespace Go.Proofs.Ytdlngbmgcedbpaa
open Go.RowKit
set_option linter.unusedVariables false
set_option linter.unusedSimpArgs false

theorem own_over {α : Type} {enc : α → List Value} {size : Nat} {e : TypeId} {V V' : World} {x : More} {v : Value} {xs : List α} {B : Nat} (h : Own enc size e B (ext V x) v xs) (hB : V.heap.size ≤ B) (hs : V'.heap.size = V.heap.size) : Own enc size e B (ext V' x) v xs := by
  refine ⟨h.1, ?_⟩
  rcases h.2 with hn | ⟨g, cap, cur, rfl, hBg, hg, rest⟩
  · exact .inl hn
  · refine .inr ⟨g, cap, cur, rfl, hBg, ?_, rest⟩
    rw [← hg]
    simp only [ext]
    rw [Array.getElem?_append_right (by omega), Array.getElem?_append_right (by omega), hs]
theorem own_cap {α : Type} {enc : α → List Value} {size : Nat} {e : TypeId} {B : Nat} {w : World} {A : Option Addr} {n c : Nat} {xs : List α} (h : Own enc size e B w (.slice A n c) xs) : (A = none → c = 0) ∧ c ≤ 9223372036854775807 ∧ xs.length ≤ c := by
  rcases h.2 with ⟨h1, hn⟩ | ⟨g, cap, cur, h1, _, _, h2, h3, _⟩
  · injection h1 with e1 e2 e3
    subst e3
    exact ⟨fun _ => rfl, by omega, by omega⟩
  · injection h1 with e1 e2 e3
    subst e1 e3
    simp only [maxLen] at h3
    exact ⟨fun h => by (cases h), h3, h2⟩
/-- In wx, grown out of wb, the variable s holds a line that reads as R. -/
def LineAt (wb : World) (R : List Cl) (sz : Int) (s : Value) (wx : World) : Prop := ∃ H A c, s = .pointer (some ⟨H, 0, none⟩) ∧ wb.heap.size ≤ H ∧ H < wx.heap.size ∧ wx.cell? ⟨H, 0, none⟩ = some (.slice A R.length c) ∧ wx.cell? ⟨H, 1, none⟩ = some (.int .i64 sz) ∧
  Rd encC 3 wx A R ∧ (A = none → c = 0) ∧ c ≤ 9223372036854775807 ∧ R.length ≤ c
theorem LineAt.mk {wb wx : World} {H c n : Nat} {A : Option Addr} {sz : Int} {R : List Cl} (hn : n = R.length) (h1 : wb.heap.size ≤ H) (h2 : H < wx.heap.size) (h3 : wx.cell? ⟨H, 0, none⟩ = some (.slice A n c)) (h4 : wx.cell? ⟨H, 1, none⟩ = some (.int .i64 sz)) (h5 : Rd encC 3 wx A R)
    (h6 : (A = none → c = 0) ∧ c ≤ 9223372036854775807 ∧ R.length ≤ c) : LineAt wb R sz (.pointer (some ⟨H, 0, none⟩)) wx := by
  subst hn
  exact ⟨H, A, c, rfl, h1, h2, h3, h4, h5, h6⟩
/-- In wx, grown out of w, l is the law's own line (the span lies behind it). -/
structure LawL (w wx : World) (A : Option Addr) (c : Nat) (sz : Int) (xs : List Cl) (f t n : Int) : Prop where
  below : Below w.heap.size w wx
  l0 : wx.cell? ⟨w.heap.size, 0, none⟩ = some (.slice A xs.length c)
  l1 : wx.cell? ⟨w.heap.size, 1, none⟩ = some (.int .i64 sz)
  s0 : wx.cell? ⟨w.heap.size + 1, 0, none⟩ = some (.int .i64 f)
  s1 : wx.cell? ⟨w.heap.size + 1, 1, none⟩ = some (.int .i64 t)
  s2 : wx.cell? ⟨w.heap.size + 1, 2, none⟩ = some (.int .i64 n)
  lt : w.heap.size + 1 < wx.heap.size
  rd : Rd encC 3 wx A xs
  cap : (A = none → c = 0) ∧ c ≤ 9223372036854775807 ∧ xs.length ≤ c
theorem LawL.grow {w wx wy : World} {A : Option Addr} {c : Nat} {sz : Int} {xs : List Cl} {f t n : Int} (h : LawL w wx A c sz xs f t n) (hb : Below wx.heap.size wx wy) : LawL w wy A c sz xs f t n := by
  have h0 := Nat.lt_of_succ_lt h.lt
  exact ⟨h.below.trans (hb.mono h.below.size), (hb.cell (p := ⟨_, _, none⟩) h0).trans h.l0, (hb.cell (p := ⟨_, _, none⟩) h0).trans h.l1, (hb.cell (p := ⟨_, _, none⟩) h.lt).trans h.s0, (hb.cell (p := ⟨_, _, none⟩) h.lt).trans h.s1, (hb.cell (p := ⟨_, _, none⟩) h.lt).trans h.s2,
    Nat.lt_of_lt_of_le h.lt hb.size, h.rd.below hb, h.cap⟩
/-- how the law's own line comes about -/
theorem LawL.start {w : World} {A A1 : Option Addr} {c1 C m : Nat} {sz : Int} {xs : List Cl} {f t n : Int} {x0 x1 : More} {B : Nat}
    (hO : Own encC 3 87 B (ext (ext ((w.alloc (.cells #[.slice A m C, .int .i64 sz] 70)).alloc (.cells #[.int .i64 f, .int .i64 t, .int .i64 n] 72)) x0) x1) (.slice A1 xs.length c1) xs) (hB : w.heap.size < B) :
    LawL w (ext (ext ((w.alloc (.cells #[.slice A1 xs.length c1, .int .i64 sz] 70)).alloc (.cells #[.int .i64 f, .int .i64 t, .int .i64 n] 72)) x0) x1) A1 c1 sz xs f t n := by
  refine ⟨by (repeat' (first | (with_reducible exact Below.refl _ _) | (with_reducible refine Below.alloc ?_ ?_ _) | (with_reducible refine below_ext ?_ ?_ _) | (with_reducible refine Below.drew ?_) | (with_reducible refine below_drewN ?_ _) | (with_reducible refine Below.setCell ?_ ?_ _) | go_size | (simp only [go_sem]; omega) | (simp [go_sem]; done) | (simp [go_sem]; omega))), by simp [go_sem], by simp [go_sem], by simp [go_sem], by simp [go_sem], by simp [go_sem], by simp [go_sem], ?_, own_cap hO⟩
  have h := own_set_far (own_set_far hO w.heap.size 0 hB (.slice A1 xs.length c1)) w.heap.size 1 hB (.int .i64 sz)
  have h2 := h.rd encC_len
  simpa [go_sem] using h2
end Go.Proofs.Ytdlngbmgcedbpaa
