/- A page and the document's page that are one, as a law holds them.  -/
import Derived.Test.YtgmbnnmckdjabaaGreatAwake7
import Derived.Test.YtgmbnnmckdjabaaGreatPgG
namespace Go.Proofs.YtgmbnnmckdjabaaGreat
open Go.RowKit
set_option linter.unusedVariables false
set_option linter.unusedSimpArgs false

/-- the page p, and the document's page U in the variable H; both were made since w -/
structure Twin (w W : World) (F : Nat → Prop) (p H : Nat) (V : Value) (S : PgS) : Prop where
  below : Below w.heap.size w W
  page : PageAt W F p S
  blk : W.heap[H]? = some (.cells #[V, .int .i64 S.cols] 27 (0, 0))
  ref : RefAt W (fun b => F b ∨ b < w.heap.size) (.agg #[V, .int .i64 S.cols]) S
  ge : ∀ b, F b → w.heap.size ≤ b ∧ b < H
  hh : w.heap.size ≤ H
section
variable {w W W2 : World} {F : Nat → Prop} {p H : Nat} {V : Value} {S : PgS}
theorem Twin.start {n : Int} (hb : Below w.heap.size w W) (hp : PageAt W F p S) (hr : RefAt W (fun b => F b ∨ b < w.heap.size) (.agg #[V, .int .i64 n]) S) (hf : ∀ b, F b → w.heap.size ≤ b) (hn : n = S.cols) :
    Twin w (W.alloc (.cells #[V, .int .i64 n] 27)) F p W.heap.size V S := by
  subst hn
  have hg : Below W.heap.size W (W.alloc (.cells #[V, .int .i64 S.cols] 27)) := by (repeat' (first | (with_reducible exact Below.refl _ _) | (with_reducible refine Below.alloc ?_ ?_ _) | (with_reducible refine below_ext ?_ ?_ _) | (with_reducible refine Below.drew ?_) | (with_reducible refine below_drewN ?_ _) | (with_reducible refine Below.setCell ?_ ?_ _) | go_size | (simp only [go_sem]; omega) | (simp [go_sem]; done) | (simp [go_sem]; omega)))
  exact ⟨hb.trans (hg.mono hb.size), hp.grow hg, heap_alloc_new _ _, hr.grow hg, fun b f => ⟨hf b f, hp.lt b f⟩, hb.size⟩
theorem Twin.grow (h : Twin w W F p H V S) (hb : Below W.heap.size W W2) : Twin w W2 F p H V S :=
  ⟨h.below.trans (hb.mono h.below.size), h.page.grow hb, (hb.block H (heap_in h.blk)).trans h.blk, h.ref.grow hb, h.ge, h.hh⟩
theorem Twin.old (h : Twin w W F p H V S) {b : Nat} (hb : b < w.heap.size) : W.heap[b]? = w.heap[b]? := h.below.block b hb
end
theorem box_at (w : World) (o : Obj) (x : More) : (ext (w.alloc o) x).heap[w.heap.size]? = some o := (block_ext _ _ (by simp)).trans (heap_alloc_new _ _)
/-- an act's thirteen cells are stored -/
theorem store13 {W : World} {B : Nat} {u0 u1 u2 u3 u4 u5 u6 u7 u8 u9 u10 u11 u12 : Value} {t : TypeId} (h : W.heap[B]? = some (.cells #[u0, u1, u2, u3, u4, u5, u6, u7, u8, u9, u10, u11, u12] t (0, 0))) (v0 v1 v2 v3 v4 v5 v6 v7 v8 v9 v10 v11 v12 : Value) :
    ∃ W', (((((((((((((W.setCell ⟨B, 0, none⟩ v0).setCell ⟨B, 1, none⟩ v1).setCell ⟨B, 2, none⟩ v2).setCell ⟨B, 3, none⟩ v3).setCell ⟨B, 4, none⟩ v4).setCell ⟨B, 5, none⟩ v5).setCell ⟨B, 6, none⟩ v6).setCell ⟨B, 7, none⟩ v7).setCell ⟨B, 8, none⟩ v8).setCell ⟨B, 9, none⟩ v9).setCell ⟨B, 10, none⟩ v10).setCell ⟨B, 11, none⟩ v11).setCell ⟨B, 12, none⟩ v12) = W' ∧ Keep (· = B) W W' ∧ W'.heap[B]? = some (.cells #[v0, v1, v2, v3, v4, v5, v6, v7, v8, v9, v10, v11, v12] t (0, 0)) := by
  have hs : ∀ {X : World} {cur : Array Value} (i : Nat) (v : Value), X.heap[B]? = some (.cells cur t (0, 0)) → (X.setCell ⟨B, i, none⟩ v).heap[B]? = some (.cells (cur.setIfInBounds i v) t (0, 0)) := fun i v hx => by
    simp [World.setCell, Array.getElem?_modify, hx]
  have k0 : Keep (· = B) W W := Keep.refl _ _
  have k := ((((((((((((k0.set (p := ⟨B, 0, none⟩) (.inl rfl) v0).set (p := ⟨B, 1, none⟩) (.inl rfl) v1).set (p := ⟨B, 2, none⟩) (.inl rfl) v2).set (p := ⟨B, 3, none⟩) (.inl rfl) v3).set (p := ⟨B, 4, none⟩) (.inl rfl) v4).set (p := ⟨B, 5, none⟩) (.inl rfl) v5).set (p := ⟨B, 6, none⟩) (.inl rfl) v6).set (p := ⟨B, 7, none⟩) (.inl rfl) v7).set (p := ⟨B, 8, none⟩) (.inl rfl) v8).set (p := ⟨B, 9, none⟩) (.inl rfl) v9).set (p := ⟨B, 10, none⟩) (.inl rfl) v10).set (p := ⟨B, 11, none⟩) (.inl rfl) v11).set (p := ⟨B, 12, none⟩) (.inl rfl) v12
  refine ⟨_, rfl, k, ?_⟩
  have h12 := hs 12 v12 (hs 11 v11 (hs 10 v10 (hs 9 v9 (hs 8 v8 (hs 7 v7 (hs 6 v6 (hs 5 v5 (hs 4 v4 (hs 3 v3 (hs 2 v2 (hs 1 v1 (hs 0 v0 h))))))))))))
  simpa using h12
theorem playNew_ok {w : World} (m n : Int) (acts : List ActD) (h : ∀ a ∈ acts, a.Ok w) : (playNew m n acts).Ok :=
  playS_ok (new_ok _ _) _ (fun a ha => ⟨(h a (List.mem_of_mem_take ha)).y, (h a (List.mem_of_mem_take ha)).ro⟩)
/-- Play, called in a world that has grown -/
theorem play_at {w : World} (m n : Int) (acts : List ActD) (A : Option Addr) (C : Nat) (rd : Rd ActD.cells 13 w A acts) (hl : acts.length ≤ C) (hm : C ≤ maxLen) (ha : ∀ a ∈ acts, a.Ok w) (w' : World) (h : Below w.heap.size w w') :
    Calls Tryz.prog 5 #[.int .i64 m, .int .i64 n, .slice A acts.length C] w' (PlayR (playNew m n acts) w') :=
  play_c m n acts A C w' (rd.below h) (fun a h' => (ha a h').below h) (by simp only [maxLen] at hm; omega)
end Go.Proofs.YtgmbnnmckdjabaaGreat
