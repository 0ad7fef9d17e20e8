/- Slices of the call's own: what they hold, and append onto them, said of a world that has only grown. -/
import Derived.Test.YtdjkjbkmmdmipaaLib
import Derived.Maps.AppendAt
import Derived.Deep.AppendLies
namespace Go.Proofs.Ytdjkjbkmmdmipaa
open Go.RowKit

/-- A slice value of the call's own (its block lies from B on) that holds just xs. -/
def Own {α : Type} (enc : α → List Value) (size : Nat) (e : TypeId) (B : Nat) (w : World) (v : Value) (xs : List α) : Prop := w.ownsRow B e size v xs.length (xs.flatMap enc)

theorem flat_len {α : Type} {enc : α → List Value} {size : Nat} (henc : ∀ y, (enc y).length = size) : ∀ xs : List α, (xs.flatMap enc).length = xs.length * size
  | [] => by simp
  | x :: xs => by simp [flat_len henc xs, henc x, Nat.add_mul, Nat.add_comm]
theorem flat_get {α : Type} {enc : α → List Value} {size : Nat} (henc : ∀ y, (enc y).length = size) : ∀ (xs : List α) (i : Nat) (h : i < xs.length) (j : Nat), j < size → (xs.flatMap enc)[i * size + j]? = (enc xs[i])[j]?
  | [], i, h, j, hj => by simp at h
  | x :: xs, 0, h, j, hj => by simp [List.getElem?_append_left, henc x, hj]
  | x :: xs, i + 1, h, j, hj => by
    simp only [List.flatMap_cons, List.getElem_cons_succ]
    rw [List.getElem?_append_right (by rw [henc x, Nat.add_mul]; omega), henc x, ← flat_get henc xs i (by simpa using h) j hj]
    congr 1
    rw [Nat.add_mul]; omega
/-- from a place in the cells to the value and the cell of it -/
theorem flat_at {α : Type} {enc : α → List Value} {size : Nat} (henc : ∀ y, (enc y).length = size) (xs : List α) (k : Nat) (hk : k < xs.length * size) :
    ∃ i j, ∃ h : i < xs.length, j < size ∧ k = i * size + j ∧ (xs.flatMap enc)[k]? = (enc xs[i])[j]? := by
  have hs : 0 < size := by
    rcases Nat.eq_zero_or_pos size with h | h
    · subst h; simp at hk
    · exact h
  have hi : k / size < xs.length := (Nat.div_lt_iff_lt_mul hs).2 hk
  refine ⟨k / size, k % size, hi, Nat.mod_lt _ hs, ?_, ?_⟩
  · rw [Nat.mul_comm]; exact (Nat.div_add_mod k size).symm
  · rw [← flat_get henc xs (k / size) hi (k % size) (Nat.mod_lt _ hs)]
    congr 1
    rw [Nat.mul_comm]; exact (Nat.div_add_mod k size).symm

section
variable {α : Type} {enc : α → List Value} {size : Nat} {e : TypeId} {B : Nat} {w w' : World} {v : Value} {xs : List α}
theorem addr_add (b off j : Nat) : (⟨b, off, none⟩ : Addr).add j = ⟨b, off + j, none⟩ := by
  unfold Addr.add
  split
  · rename_i h; subst h; rfl
  · rfl
theorem Own.form (h : Own enc size e B w v xs) : ∃ A c, v = .slice A xs.length c ∧ xs.length ≤ c ∧ c ≤ maxLen := by
  rcases h.2 with ⟨rfl, hn⟩ | ⟨g, cap, cur, rfl, _, _, h1, h2, _⟩
  · exact ⟨none, 0, by rw [hn], by omega, by simp [maxLen]⟩
  · exact ⟨_, cap, rfl, h1, h2⟩
theorem Own.rd {A : Option Addr} {n c : Nat} (henc : ∀ y, (enc y).length = size) (h : Own enc size e B w (.slice A n c) xs) : Rd enc size w A xs := fun h0 => by
  rcases h.2 with ⟨h1, hn⟩ | ⟨g, cap, cur, h1, hB, hg, h2, h3, h4, h5⟩
  · omega
  · injection h1 with h1 _ _
    subst h1
    have hlt := (Array.getElem?_eq_some_iff.1 hg).1
    refine ⟨g, 0, rfl, hlt, fun i hi j u hu => ?_⟩
    have hj : j < size := by
      have := (List.getElem?_eq_some_iff.1 hu).1
      rw [henc] at this
      exact this
    have := h.cells (g := g) rfl (i * size + j) u (by rw [flat_get henc xs i hi j hj]; exact hu)
    rw [addr_add] at this
    exact this
theorem Own.below (h : Own enc size e B w v xs) (hb : Below w.heap.size w w') : Own enc size e B w' v xs := by
  refine ⟨h.1, ?_⟩
  rcases h.2 with hn | ⟨g, cap, cur, rfl, hB, hg, rest⟩
  · exact .inl hn
  · exact .inr ⟨g, cap, cur, rfl, hB, (hb.block g (Array.getElem?_eq_some_iff.1 hg).1).trans hg, rest⟩
theorem Own.ext (h : Own enc size e B w v xs) (x : More) : Own enc size e B (ext w x) v xs := h.below (below_of_ext w x)
theorem Own.alloc (h : Own enc size e B w v xs) (o : Obj) : Own enc size e B (w.alloc o) v xs := h.below ((Below.refl _ _).alloc (Nat.le_refl _) o)
theorem Own.drew (h : Own enc size e B w v xs) : Own enc size e B w.drew v xs := h.below ((Below.refl _ _).drew)
theorem Own.mono {B' : Nat} (h : Own enc size e B w v xs) (hB : B' ≤ B) : Own enc size e B' w v xs := by
  refine ⟨h.1, ?_⟩
  rcases h.2 with hn | ⟨g, cap, cur, rfl, hB', rest⟩
  · exact .inl hn
  · exact .inr ⟨g, cap, cur, rfl, by omega, rest⟩
theorem Own.nil (enc : α → List Value) (size : Nat) (e : TypeId) (B : Nat) (w : World) : Own enc size e B w (.slice none 0 0) ([] : List α) := ⟨by simp, .inl ⟨rfl, rfl⟩⟩
theorem Own.lit (henc : ∀ y, (enc y).length = size) (w : World) (cs : Array Value) (hcs : cs.toList = xs.flatMap enc) (hB : B ≤ w.heap.size) (hm : xs.length ≤ maxLen) :
    Own enc size e B (w.alloc (.cells cs e)) (.slice (some ⟨w.heap.size, 0, none⟩) xs.length xs.length) xs := by
  have := World.ownsRow_lit (base := B) (e := e) (size := size) w cs xs.length hB hm (by rw [← Array.length_toList, hcs, flat_len henc])
  rw [hcs] at this
  exact this
theorem Own.new (henc : ∀ y, (enc y).length = size) {g n : Nat} (hg : g = w.heap.size) (hn : n = xs.length) (cs : Array Value) (hcs : cs.toList = xs.flatMap enc) (hB : B ≤ w.heap.size) (hm : xs.length ≤ maxLen) :
    Own enc size e B (w.alloc (.cells cs e)) (.slice (some ⟨g, 0, none⟩) n n) xs := by
  subst hg hn
  exact Own.lit henc w cs hcs hB hm
end

section
variable {α : Type} {enc : α → List Value} {size : Nat} {P : Program}
theorem run_append_rd (U w : World) (t ty e : TypeId) (z : Value) (bytes : Nat) (ht : P.underlying t = some (.slice e)) (hinfo : (P.info? e).map (fun i => (i.zero, i.size, i.bytes)) = some (some z, size, bytes))
    (hzs : z.cells.size = size) (hsz : 0 < size) (henc : ∀ y, (enc y).length = size) (hone : ∀ y, ∀ u ∈ enc y, u.oneCell' = true) (xs ys : List α) (v : Value) (A : Option Addr) (c : Nat)
    (hU : Below U.heap.size U w) (hown : Own enc size e U.heap.size w v xs) (hr : Rd enc size w A ys) (h63 : xs.length + ys.length ≤ maxLen) (hb : (xs.length + ys.length) * bytes ≤ 140737488355328) :
    ∃ A' c' x', (Builtin.append_ #[t, t] ty #[v, .slice A ys.length c]).run P w = .ok (.slice A' (xs ++ ys).length c') (ext U x') ∧ Own enc size e U.heap.size (ext U x') (.slice A' (xs ++ ys).length c') (xs ++ ys) := by
  obtain ⟨i, hi, hz, hsize, hby⟩ := info_parts hinfo
  rcases Nat.eq_zero_or_pos ys.length with h0 | h0
  · have hys : ys = [] := List.eq_nil_of_length_eq_zero h0
    subst hys
    obtain ⟨A0, c0, rfl, hc0, hc1⟩ := hown.form
    obtain ⟨x', rfl⟩ := ext_of hU
    refine ⟨A0, c0, x', ?_, by simpa using hown⟩
    rcases hown.2 with ⟨h1, hn⟩ | ⟨g, cap, cur, h1, hB, hg, h2, h3, h4, h5⟩
    · rw [h1]
      have hx : xs = [] := List.eq_nil_of_length_eq_zero hn
      subst hx
      injection h1 with e1 _ e3
      subst e1 e3
      cases A <;> simp [Builtin.append_, run_underlying ht, sizeOf, typeInfo, hi, Builtin.lenOf, Builtin.firstCells, loadCells, loadCellsFrom]
    · injection h1 with e1 e2 e3
      subst e1 e3
      cases A <;> simp [Builtin.append_, run_underlying ht, sizeOf, typeInfo, hi, Builtin.lenOf, Builtin.firstCells, hc0, storeCells, loadCells, loadCellsFrom]
  · obtain ⟨b, off, rfl, hlt, hc⟩ := hr h0
    have hl := flat_len henc ys
    have hnews : ∀ j u, (ys.flatMap enc)[j]? = some u → w.cell? ((⟨b, off, none⟩ : Addr).add j) = some u := by
      intro j u hu
      have hj : j < ys.length * size := by rw [← hl]; exact (List.getElem?_eq_some_iff.1 hu).1
      obtain ⟨i', j', hi', hj', rfl, he⟩ := flat_at henc ys j hj
      rw [addr_add]
      exact hc i' hi' j' u (he ▸ hu)
    have h1 : ∀ u ∈ ys.flatMap enc, u.oneCell' = true := by
      intro u hu
      obtain ⟨y, _, hy⟩ := List.mem_flatMap.1 hu
      exact hone y u hy
    obtain ⟨v', w', hrun, hown', hgr, _, _⟩ := run_append_own_at (P := P) w U.heap.size t ty e i z size bytes ht hi hz hsize hby hzs hsz v xs.length _ hown ⟨b, off, none⟩ ys.length c _ hl hnews h1 h63 hb hU.size
    have hB : Below U.heap.size U w' := hU.grown hgr hU.size (fun k hk => (hown.lt k hk).1)
    obtain ⟨x', rfl⟩ := ext_of hB
    have hO : Own enc size e U.heap.size (ext U x') v' (xs ++ ys) := by
      unfold Own
      rw [List.length_append, List.flatMap_append]
      exact hown'
    obtain ⟨A', c', rfl, _, _⟩ := hO.form
    exact ⟨A', c', x', hrun, hO⟩

theorem append_rd {U w : World} {ops : Array Oper} {rest : List Oper} {o : Oper} {a : Act} {Q : Exit → Act → World → Prop} (s x : Operand) (t e : TypeId) (z : Value) (bytes : Nat)
    (hgd : o.guard = none) (ho : o.op = .call { callee := .builtin .append, args := #[s, x], argTypes := #[t, t] })
    (ht : P.underlying t = some (.slice e)) (hinfo : (P.info? e).map (fun i => (i.zero, i.size, i.bytes)) = some (some z, size, bytes)) (hzs : z.cells.size = size) (hsz : 0 < size)
    (henc : ∀ y, (enc y).length = size) (hone : ∀ y, ∀ u ∈ enc y, u.oneCell' = true) (xs ys : List α) (v : Value) (A : Option Addr) (c : Nat) (hs : a.eval s = v) (hx : a.eval x = .slice A ys.length c)
    (hU : Below U.heap.size U w) (hown : Own enc size e U.heap.size w v xs) (hr : Rd enc size w A ys) (h63 : xs.length + ys.length ≤ maxLen) (hb : (xs.length + ys.length) * bytes ≤ 140737488355328)
    (h : ∀ A' c' x' zs, zs = xs ++ ys → Own enc size e U.heap.size (ext U x') (.slice A' zs.length c') zs → wpList P ops Q rest (a.put o.dst (.slice A' zs.length c')) (ext U x')) : wpList P ops Q (o :: rest) a w := by
  refine wpList_plain hgd fun K hK => ?_
  obtain ⟨A', c', x', hrun, hO⟩ := run_append_rd (P := P) U w t o.type e z bytes ht hinfo hzs hsz henc hone xs ys v A c hU hown hr h63 hb
  unfold Oper.wp execOp
  simp only [ho, resolve, invoke, builtin, Sem.run_bind, Sem.run_pure, Result.andThen_ok, List.map_toArray, List.map_cons, List.map_nil, hs, hx, hrun]
  exact hK _ _ (h A' c' x' _ rfl hO)
end
theorem encI_len (k : IntKind) (y : Int) : (encI k y).length = 1 := rfl
theorem encI_one (k : IntKind) (y : Int) : ∀ u ∈ encI k y, u.oneCell' = true := by
  intro u hu
  simp [encI] at hu
  subst hu
  rfl
end Go.Proofs.Ytdjkjbkmmdmipaa
