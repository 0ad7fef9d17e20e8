/- Lines: what is known of a variable, of a line that a call has made, and of a variable that holds it, whatever else has been done meanwhile. -/
import Derived.Test.YtdlngbmgcedbpaaLineAt
import Derived.Test.YtdlngbmgcedbpaaLine26
import Derived.Test.YtdlngbmgcedbpaaRegionInv
namespace Go.Proofs.Ytdlngbmgcedbpaa
open Go.RowKit
set_option linter.unusedVariables false
set_option linter.unusedSimpArgs false

def VarF (wb w : World) (v : Value) : Prop := ∃ H c0 c1, v = .pointer (some ⟨H, 0, none⟩) ∧ wb.heap.size ≤ H ∧ w.heap[H]? = some (.cells #[c0, c1] 70 (0, 0))
def RowF (wb w : World) (xs : List Cl) (sz : Int) (v : Value) : Prop := ∃ A c, v = .agg #[.slice A xs.length c, .int .i64 sz] ∧ Own encC 3 87 wb.heap.size w (.slice A xs.length c) xs
def HeldF (wb w : World) (xs : List Cl) (sz : Int) (v : Value) : Prop := ∃ H A c, v = .pointer (some ⟨H, 0, none⟩) ∧ wb.heap.size ≤ H ∧ w.heap[H]? = some (.cells #[.slice A xs.length c, .int .i64 sz] 70 (0, 0)) ∧ Own encC 3 87 wb.heap.size w (.slice A xs.length c) xs
theorem heap_lt {w : World} {H : Nat} {o : Obj} (h : w.heap[H]? = some o) : H < w.heap.size := (Array.getElem?_eq_some_iff.1 h).1
section
variable {wb w w' : World} {xs : List Cl} {sz : Int} {v : Value}
theorem VarF.grow (h : VarF wb w v) (hb : Below w.heap.size w w') : VarF wb w' v := by
  obtain ⟨H, c0, c1, rfl, h1, h2⟩ := h
  exact ⟨H, c0, c1, rfl, h1, (hb.block H (heap_lt h2)).trans h2⟩
theorem RowF.grow (h : RowF wb w xs sz v) (hb : Below w.heap.size w w') : RowF wb w' xs sz v := by
  obtain ⟨A, c, rfl, h1⟩ := h
  exact ⟨A, c, rfl, h1.below hb⟩
theorem HeldF.grow (h : HeldF wb w xs sz v) (hb : Below w.heap.size w w') : HeldF wb w' xs sz v := by
  obtain ⟨H, A, c, rfl, h1, h2, h3⟩ := h
  exact ⟨H, A, c, rfl, h1, (hb.block H (heap_lt h2)).trans h2, h3.below hb⟩
/-- a line is stored into a variable -/
structure Put (w : World) (H : Nat) (x y : Value) (w' : World) : Prop where
  at_ : w'.heap[H]? = some (.cells #[x, y] 70 (0, 0))
  far : ∀ b, b ≠ H → w'.heap[b]? = w.heap[b]?
  size : w'.heap.size = w.heap.size
theorem put_of {H : Nat} {c0 c1 x y : Value} (h : w.heap[H]? = some (.cells #[c0, c1] 70 (0, 0))) : Put w H x y ((w.setCell ⟨H, 0, none⟩ x).setCell ⟨H, 1, none⟩ y) := by
  refine ⟨?_, fun b hb => ?_, by simp⟩
  · simp only [World.setCell, Array.getElem?_modify, if_pos, h]
    simp
  · rw [Below.heap_setCell _ _ _ _ (fun e => hb e), Below.heap_setCell _ _ _ _ (fun e => hb e)]
theorem own_put {H : Nat} {x y : Value} {c : Array Value} {A : Option Addr} {n k : Nat} {B : Nat} (h : Own encC 3 87 B w (.slice A n k) xs) (hH : w.heap[H]? = some (.cells c 70 (0, 0))) (hp : Put w H x y w') : Own encC 3 87 B w' (.slice A n k) xs := by
  refine ⟨h.1, ?_⟩
  rcases h.2 with hn | ⟨g, cap, cur, hv, hBg, hg, rest⟩
  · exact .inl hn
  · refine .inr ⟨g, cap, cur, hv, hBg, ?_, rest⟩
    rw [hp.far g ?_]
    · exact hg
    · rintro rfl
      rw [hH] at hg
      injection hg with hg
      injection hg with _ e _
      exact absurd e (by decide)
theorem VarF.put {H : Nat} {x y : Value} (h : VarF wb w v) (hp : Put w H x y w') : VarF wb w' v := by
  obtain ⟨H', c0, c1, rfl, h1, h2⟩ := h
  by_cases e : H' = H
  · subst e
    exact ⟨H', x, y, rfl, h1, hp.at_⟩
  · exact ⟨H', c0, c1, rfl, h1, (hp.far H' e).trans h2⟩
theorem RowF.put {H : Nat} {x y : Value} {c : Array Value} (h : RowF wb w xs sz v) (hH : w.heap[H]? = some (.cells c 70 (0, 0))) (hp : Put w H x y w') : RowF wb w' xs sz v := by
  obtain ⟨A, k, rfl, h1⟩ := h
  exact ⟨A, k, rfl, own_put h1 hH hp⟩
theorem HeldF.put {H : Nat} {x y : Value} {c : Array Value} (h : HeldF wb w xs sz v) (hne : v ≠ .pointer (some ⟨H, 0, none⟩)) (hH : w.heap[H]? = some (.cells c 70 (0, 0))) (hp : Put w H x y w') : HeldF wb w' xs sz v := by
  obtain ⟨H', A, k, rfl, h1, h2, h3⟩ := h
  exact ⟨H', A, k, rfl, h1, (hp.far H' (fun e => hne (by rw [e]))).trans h2, own_put h3 hH hp⟩
theorem HeldF.of {H : Nat} {c : Array Value} {A : Option Addr} {k n : Nat} (hn : n = xs.length) (hB : wb.heap.size ≤ H) (hH : w.heap[H]? = some (.cells c 70 (0, 0))) (h : Own encC 3 87 wb.heap.size w (.slice A xs.length k) xs) (hp : Put w H (.slice A n k) (.int .i64 sz) w') : HeldF wb w' xs sz (.pointer (some ⟨H, 0, none⟩)) := by
  subst hn
  exact ⟨H, A, k, rfl, hB, hp.at_, own_put h hH hp⟩
theorem VarF.new (hb : wb.heap.size ≤ w.heap.size) (c0 c1 : Value) : VarF wb (w.alloc (.cells #[c0, c1] 70)) (.pointer (some ⟨w.heap.size, 0, none⟩)) :=
  ⟨w.heap.size, c0, c1, rfl, hb, heap_alloc_new w _⟩
theorem VarF.ne (h : VarF wb w v) : v ≠ .pointer (some ⟨w.heap.size, 0, none⟩) := by
  obtain ⟨H, c0, c1, rfl, h1, h2⟩ := h
  intro e
  injection e with e
  injection e with e
  injection e with e
  have := heap_lt h2
  omega
theorem RowF.of {A : Option Addr} {k : Nat} (hb : wb.heap.size ≤ w.heap.size) {x : More} (h : Own encC 3 87 w.heap.size (ext w x) (.slice A xs.length k) xs) : RowF wb (ext w x) xs sz (.agg #[.slice A xs.length k, .int .i64 sz]) :=
  ⟨A, k, rfl, h.mono hb⟩
theorem below_put {H : Nat} {x y : Value} (hb : Below wb.heap.size wb w) (hB : wb.heap.size ≤ H) : Below wb.heap.size wb ((w.setCell ⟨H, 0, none⟩ x).setCell ⟨H, 1, none⟩ y) := (hb.setCell (by simpa using hB) _).setCell (by simpa using hB) _
theorem HeldF.lineAt (h : HeldF wb w xs sz v) : LineAt wb xs sz v w := by
  obtain ⟨H, A, c, rfl, h1, h2, h3⟩ := h
  exact ⟨H, A, c, rfl, h1, heap_lt h2, by simp [World.cell?, h2], by simp [World.cell?, h2], h3.rd encC_len, own_cap h3⟩
end
/-- In wx, grown out of w, l is the law's own line. -/
structure LawM (w wx : World) (A : Option Addr) (c : Nat) (sz : Int) (xs : List Cl) : Prop where
  below : Below w.heap.size w wx
  l0 : wx.cell? ⟨w.heap.size, 0, none⟩ = some (.slice A xs.length c)
  l1 : wx.cell? ⟨w.heap.size, 1, none⟩ = some (.int .i64 sz)
  lt : w.heap.size < wx.heap.size
  rd : Rd encC 3 wx A xs
  cap : (A = none → c = 0) ∧ c ≤ 9223372036854775807 ∧ xs.length ≤ c
theorem LawM.grow {w wx wy : World} {A : Option Addr} {c : Nat} {sz : Int} {xs : List Cl} (h : LawM w wx A c sz xs) (hb : Below wx.heap.size wx wy) : LawM w wy A c sz xs :=
  ⟨h.below.trans (hb.mono h.below.size), (hb.cell (p := ⟨_, _, none⟩) h.lt).trans h.l0, (hb.cell (p := ⟨_, _, none⟩) h.lt).trans h.l1, Nat.lt_of_lt_of_le h.lt hb.size, h.rd.below hb, h.cap⟩
theorem LawM.start {w : World} {A A1 : Option Addr} {c1 C m : Nat} {sz : Int} {xs : List Cl} {x0 x1 : More} {B : Nat}
    (hO : Own encC 3 87 B (ext (ext (w.alloc (.cells #[.slice A m C, .int .i64 sz] 70)) x0) x1) (.slice A1 xs.length c1) xs) (hB : w.heap.size < B) :
    LawM w (ext (ext (w.alloc (.cells #[.slice A1 xs.length c1, .int .i64 sz] 70)) x0) x1) A1 c1 sz xs := by
  refine ⟨by (repeat' (first | (with_reducible exact Below.refl _ _) | (with_reducible refine Below.alloc ?_ ?_ _) | (with_reducible refine below_ext ?_ ?_ _) | (with_reducible refine Below.drew ?_) | (with_reducible refine below_drewN ?_ _) | (with_reducible refine Below.setCell ?_ ?_ _) | go_size | (simp only [go_sem]; omega) | (simp [go_sem]; done) | (simp [go_sem]; omega))), by simp [go_sem], by simp [go_sem], by simp [go_sem], ?_, own_cap hO⟩
  have h := own_set_far (own_set_far hO w.heap.size 0 hB (.slice A1 xs.length c1)) w.heap.size 1 hB (.int .i64 sz)
  have h2 := h.rd encC_len
  simpa [go_sem] using h2
end Go.Proofs.Ytdlngbmgcedbpaa
