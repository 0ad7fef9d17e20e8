/- Append onto a slice of the call's own: what it leaves alone. -/
import Derived.Test.YtignkkejkknddaaGreatOwn
namespace Go.Proofs.YtignkkejkknddaaGreat
open Go.RowKit

/-- From one world to the next only the block of the slice v may have been written; v' lies in v's block or in a new one. -/
structure Far (w w' : World) (v v' : Value) : Prop where
  size : w.heap.size ≤ w'.heap.size
  cell : ∀ b, b < w.heap.size → v.ownBlock ≠ some b → ∀ i, w'.cell? ⟨b, i, none⟩ = w.cell? ⟨b, i, none⟩
  block : ∀ b, b < w.heap.size → v.ownBlock ≠ some b → v'.ownBlock ≠ some b
theorem Own.lt {α : Type} {enc : α → List Value} {size : Nat} {e : TypeId} {B : Nat} {w : World} {v : Value} {xs : List α} (h : Own enc size e B w v xs) : ∀ k, v.ownBlock = some k → B ≤ k ∧ k < w.heap.size := World.ownsRow.lt h
section
variable {α : Type} {enc : α → List Value} {size : Nat} {P : Program}
theorem run_append_far (U w : World) (t ty e : TypeId) (z : Value) (bytes : Nat) (ht : P.underlying t = some (.slice e)) (hinfo : (P.info? e).map (fun i => (i.zero, i.size, i.bytes)) = some (some z, size, bytes))
    (hzs : z.cells.size = size) (hsz : 0 < size) (henc : ∀ y, (enc y).length = size) (hone : ∀ y, ∀ u ∈ enc y, u.oneCell' = true) (xs ys : List α) (v : Value) (A : Option Addr) (c : Nat)
    (hU : Below U.heap.size U w) (hown : Own enc size e U.heap.size w v xs) (hr : Rd enc size w A ys) (h63 : xs.length + ys.length ≤ maxLen) (hb : (xs.length + ys.length) * bytes ≤ 140737488355328) :
    ∃ A' c' x', (Builtin.append_ #[t, t] ty #[v, .slice A ys.length c]).run P w = .ok (.slice A' (xs ++ ys).length c') (ext U x') ∧ Own enc size e U.heap.size (ext U x') (.slice A' (xs ++ ys).length c') (xs ++ ys) ∧
      Far w (ext U x') v (.slice A' (xs ++ ys).length c') := by
  obtain ⟨i, hi, hz, hsize, hby⟩ := info_parts hinfo
  rcases Nat.eq_zero_or_pos ys.length with h0 | h0
  · have hys : ys = [] := List.eq_nil_of_length_eq_zero h0
    subst hys
    obtain ⟨A0, c0, rfl, hc0, hc1⟩ := hown.form
    obtain ⟨x', rfl⟩ := ext_of hU
    refine ⟨A0, c0, x', ?_, by simpa using hown, ⟨Nat.le_refl _, fun _ _ _ _ => rfl, fun b _ hne => by simpa using hne⟩⟩
    rcases hown.2 with ⟨h1, hn⟩ | ⟨g, cap, cur, h1, hB, hg, h2, h3, h4, h5⟩
    · rw [h1]
      have hx : xs = [] := List.eq_nil_of_length_eq_zero hn
      subst hx
      injection h1 with e1 _ e3
      subst e1 e3
      cases A <;> simp [Builtin.append_, run_underlying ht, sizeOf, typeInfo, hi, Builtin.lenOf, Builtin.firstCells, loadCells, loadCellsFrom]
    · injection h1 with e1 e2 e3
      subst e1 e3
      cases A <;> simp [Builtin.append_, run_underlying ht, sizeOf, typeInfo, hi, Builtin.lenOf, Builtin.firstCells, hc0, storeCells, loadCells, loadCellsFrom]
  · obtain ⟨b, off, rfl, hlt, hc⟩ := hr h0
    have hl := flat_len henc ys
    have hnews : ∀ j u, (ys.flatMap enc)[j]? = some u → w.cell? ((⟨b, off, none⟩ : Addr).add j) = some u := by
      intro j u hu
      have hj : j < ys.length * size := by rw [← hl]; exact (List.getElem?_eq_some_iff.1 hu).1
      obtain ⟨i', j', hi', hj', rfl, he⟩ := flat_at henc ys j hj
      rw [addr_add]
      exact hc i' hi' j' u (he ▸ hu)
    have h1 : ∀ u ∈ ys.flatMap enc, u.oneCell' = true := by
      intro u hu
      obtain ⟨y, _, hy⟩ := List.mem_flatMap.1 hu
      exact hone y u hy
    obtain ⟨v', w', hrun, hown', hgr, _, hbl⟩ := run_append_own_at (P := P) w U.heap.size t ty e i z size bytes ht hi hz hsize hby hzs hsz v xs.length _ hown ⟨b, off, none⟩ ys.length c _ hl hnews h1 h63 hb hU.size
    have hB : Below U.heap.size U w' := hU.grown hgr hU.size (fun k hk => (hown.lt k hk).1)
    obtain ⟨x', rfl⟩ := ext_of hB
    have hO : Own enc size e U.heap.size (ext U x') v' (xs ++ ys) := by
      unfold Own
      rw [List.length_append, List.flatMap_append]
      exact hown'
    obtain ⟨A', c', rfl, _, _⟩ := hO.form
    refine ⟨A', c', x', hrun, hO, ⟨hgr.size, fun b hb hne i => hgr.cell_far ⟨b, i, none⟩ hb (fun e => hne e.symm), fun b hb hne he => ?_⟩⟩
    rcases hbl with h | h
    · exact hne (h.symm.trans he)
    · rw [h] at he; simp at he; omega

theorem append_far {U w : World} {ops : Array Oper} {rest : List Oper} {o : Oper} {a : Act} {Q : Exit → Act → World → Prop} (s x : Operand) (t e : TypeId) (z : Value) (bytes : Nat)
    (hgd : o.guard = none) (ho : o.op = .call { callee := .builtin .append, args := #[s, x], argTypes := #[t, t] })
    (ht : P.underlying t = some (.slice e)) (hinfo : (P.info? e).map (fun i => (i.zero, i.size, i.bytes)) = some (some z, size, bytes)) (hzs : z.cells.size = size) (hsz : 0 < size)
    (henc : ∀ y, (enc y).length = size) (hone : ∀ y, ∀ u ∈ enc y, u.oneCell' = true) (xs ys : List α) (v : Value) (A : Option Addr) (c : Nat) (hs : a.eval s = v) (hx : a.eval x = .slice A ys.length c)
    (hU : Below U.heap.size U w) (hown : Own enc size e U.heap.size w v xs) (hr : Rd enc size w A ys) (h63 : xs.length + ys.length ≤ maxLen) (hb : (xs.length + ys.length) * bytes ≤ 140737488355328)
    (h : ∀ A' c' x' zs, zs = xs ++ ys → Own enc size e U.heap.size (ext U x') (.slice A' zs.length c') zs → Far w (ext U x') v (.slice A' zs.length c') → wpList P ops Q rest (a.put o.dst (.slice A' zs.length c')) (ext U x')) : wpList P ops Q (o :: rest) a w := by
  refine wpList_plain hgd fun K hK => ?_
  obtain ⟨A', c', x', hrun, hO, hF⟩ := run_append_far (P := P) U w t o.type e z bytes ht hinfo hzs hsz henc hone xs ys v A c hU hown hr h63 hb
  unfold Oper.wp execOp
  simp only [ho, resolve, invoke, builtin, Sem.run_bind, Sem.run_pure, Result.andThen_ok, List.map_toArray, List.map_cons, List.map_nil, hs, hx, hrun]
  exact hK _ _ (h A' c' x' _ rfl hO hF)

theorem own_swap {e : TypeId} {w : World} {o o' : Obj} {y : More} {v : Value} {xs : List α} (h : Own enc size e (w.heap.size + 1) (ext (w.alloc o) y) v xs) : Own enc size e (w.heap.size + 1) (ext (w.alloc o') y) v xs := by
  refine ⟨h.1, ?_⟩
  rcases h.2 with hn | ⟨g, cap, cur, rfl, hB, hg, rest⟩
  · exact .inl hn
  · refine .inr ⟨g, cap, cur, rfl, hB, ?_, rest⟩
    rw [← hg]
    simp only [ext, World.alloc]
    rw [Array.getElem?_append_right (by simpa using hB), Array.getElem?_append_right (by simpa using hB)]
    simp
end
end Go.Proofs.YtignkkejkknddaaGreat
