/- A law's frame: arguments opened, and what a call that leaves all that was there alone says of the statement. -/
import Derived.Test.YtdjkjbkmmdmipaaRows
import Derived.Test.YtdjkjbkmmdmipaaLib
import Derived.ProofKit
import Derived.OpenShut
import Derived.ShutString
import Derived.ChangeOld
import Derived.SizedLaws
import Derived.Deep.Slices
import Derived.Lib.SmallJoins
namespace Go.Proofs.Ytdjkjbkmmdmipaa
open Go.ChangeShapes Go.WideShapes Go.ChangeAt Go.RowKit

theorem own : ownKnob Try.prog.godebug = none := by kernel_rfl
theorem laidOut : laidOutB Try.prog = true := by kernel_rfl

section
variable {H : Type} {enc : TypeId × Value → H} {P : Program} {W W' : World}
theorem stays_all (hl : laidOutB P = true) (hb : Below W.heap.size W W') : ∀ {ts : List TypeId} {vs : List Value} {ds : List (DataW H)} {ps : List MemPlace},
    (∀ t ∈ ts, P.readableRec t = true ∧ t < P.types.size) → DataW.TrodAll enc P W 0 (fun _ => true) true ts vs ds ps → (∀ x ∈ ps, x.block < W.heap.size) →
    DataW.TrodAll enc P W' 0 (fun b => decide (b < W.heap.size)) true ts vs ds ps
  | [], _, _, _, _, h, _ => by
    obtain ⟨rfl, rfl, rfl⟩ := trodAll_nil h
    exact trodAll_mk0
  | _ :: _, _, _, _, hr, h, hp => by
    obtain ⟨v, vs1, d, ds1, a, b, rfl, rfl, rfl, h1, h2⟩ := trodAll_cons h
    have ht := hr _ (List.mem_cons_self ..)
    exact trodAll_cons_mk (Below.trod hl ht.1 ht.2 h1 hb (fun x hx => hp x (List.mem_append_left _ hx)))
      (stays_all hl hb (fun t ht' => hr t (List.mem_cons_of_mem _ ht')) h2 (fun x hx => hp x (List.mem_append_right _ hx)))

theorem law_post {f : Func} {s : ChangeSpec} {args : Array Value} {ds gs : List (DataW H)} {before : List MemPlace} {tb : TypeId}
    (hl : laidOutB P = true) (hvars : s.vars = []) (hts0 : (f.params.toList.all fun t => P.readableRec t && decide (t < P.types.size)) = true) (hres : f.resultTypes = #[tb]) (htb : P.underlying tb = some .bool)
    (hW : DataW.Whole enc P f.params.toList s.vars false W args.toList ds gs before) (hs : s.fn H (ds ++ gs) = { results := [.lit (.bool true)], args := ds }) (hb : Below W.heap.size W W') :
    s.post enc P f false true false false W args (.bool true) W' := by
  have hts : ∀ t ∈ f.params.toList, P.readableRec t = true ∧ t < P.types.size := fun t ht => by simpa using List.all_eq_true.1 hts0 t ht
  have hold : ∀ p ∈ before, p.block < W.heap.size := fun p hp => hW.lt p hp
  have hW0 := hW
  obtain ⟨p, q, hA, hV, rfl, hfz, hnd⟩ := hW
  rw [hvars] at hV
  obtain ⟨rfl, rfl⟩ := trodVars_none hV
  refine ⟨ds, [], _, [], p, [], hW0, ?_, ?_, ?_, hb.frame _, fun h => by cases h⟩
  · rw [hs, hres]
    exact trodAll_mk1 (shut_bool htb _)
  · rw [hs]
    exact stays_all hl hb hts hA (fun x hx => hold x (List.mem_append_left _ hx))
  · rw [hs, hvars]
    rfl
end

section
variable {H : Type} {enc : TypeId × Value → H} {P : Program} {W : World}
theorem open_ints_rd {t e : TypeId} {k : IntKind} {v : Value} {d : DataW H} {ps : List MemPlace} (ht : P.underlying t = some (.slice e)) (he : P.underlying e = some (.int k)) (hc : P.cellsOf e = 1)
    (hv : ∃ a n c, v = .slice a n c) (h : DataW.Trod enc P W 0 (fun _ => true) true t v d ps) :
    ∃ (a : Option Addr) (c : Nat) (xs : List Int), v = .slice a xs.length c ∧ Rd (encI k) 1 W a xs ∧ xs.length ≤ c ∧ c ≤ maxLen ∧ (∀ n ∈ xs, (Lit.int k n).wf = true) ∧
      ((d = .nil ∧ c = 0) ∨ ∃ es sp, d = .slice es sp ∧ es.length + sp.length = c) := by
  obtain ⟨a0, n0, c0, rfl⟩ := hv
  obtain ⟨fuel, hf⟩ := h
  rcases open_ints ht he hc hf with ⟨hcs, hx⟩ | ⟨x, l, c, zs, hcs, _, hl, hm, hz, hx, hcell, hwz⟩
  · simp [Value.cells] at hcs
    obtain ⟨rfl, rfl, rfl⟩ := hcs
    simp only [Prod.mk.injEq] at hx
    exact ⟨none, 0, [], rfl, fun h0 => absurd h0 (by simp), by simp, by simp, by simp, .inl ⟨hx.1, rfl⟩⟩
  · simp [Value.cells] at hcs
    obtain ⟨rfl, rfl, rfl⟩ := hcs
    have hz' : zs.length = c0 := by simpa using hz
    have hlen : (zs.take n0).length = n0 := by rw [List.length_take]; omega
    simp only [Prod.mk.injEq] at hx
    refine ⟨some x, c0, zs.take n0, by rw [hlen], fun h0 => ?_, by omega, hm, fun n hn => hwz n (List.mem_of_mem_take hn), .inr ⟨_, _, hx.1, by simp [lits]; omega⟩⟩
    rw [hlen] at h0
    obtain ⟨b, off, spot⟩ := x
    have c1 := hcell 0 (by omega)
    have hspot : spot = none := by simpa [Addr.add] using World.cell?_spot c1
    subst hspot
    refine ⟨b, off, rfl, ?_, fun i hi j u hu => ?_⟩
    · have := World.block_lt_of_cell? W _ c1
      simpa [Addr.add] using this
    · rw [hlen] at hi
      have c2 := hcell i (by omega)
      have hj : j = 0 := by
        rcases j with _ | j
        · rfl
        · simp [encI] at hu
      subst hj
      simp [encI] at hu
      rw [← hu]
      have e1 : ({ block := b, off := off, spot := none } : Addr).add i = ⟨b, off + (i * 1 + 0), none⟩ := by
        unfold Addr.add
        by_cases h : i = 0
        · simp [h]
        · simp [h]
      rw [e1] at c2
      rw [c2]
      simp [List.getD_eq_getElem?_getD, show i < zs.length by omega]
end

section
variable {H : Type} {enc : TypeId × Value → H} {P : Program} {W : World}
/-- A slice of whatever elements, each read by 'hel'. -/
theorem open_slice_rd {α : Type} [Inhabited α] {en : α → List Value} {size : Nat} {ok : α → Prop} {t e : TypeId} {v : Value} {d : DataW H} {ps : List MemPlace} (ht : P.underlying t = some (.slice e)) (hc : P.cellsOf e = size) (hsz : 0 < size)
    (hen : ∀ y, (en y).length = size)
    (hel : ∀ (n : Nat) (cs : List Value) (x : DataW H × List MemPlace), cs.length = size → DataW.trod enc P W 0 (fun _ => true) true n e cs = some x → ∃ y, cs = en y ∧ ok y)
    (hv : ∃ a n c, v = .slice a n c) (h : DataW.Trod enc P W 0 (fun _ => true) true t v d ps) :
    ∃ (a : Option Addr) (c : Nat) (xs : List α), v = .slice a xs.length c ∧ Rd en size W a xs ∧ xs.length ≤ c ∧ c ≤ maxLen ∧ (∀ n ∈ xs, ok n) ∧
      ((d = .nil ∧ c = 0) ∨ ∃ es sp, d = .slice es sp ∧ es.length + sp.length = c) := by
  obtain ⟨a0, n0, c0, rfl⟩ := hv
  obtain ⟨fuel, hf⟩ := h
  rcases Go.Deep.open_slice ht hf with ⟨hcs, hx⟩ | ⟨x, len, cap, m, n, D, Pl, hcs, _, hl, hm, hmm, hx, hi⟩
  · simp [Value.cells] at hcs
    obtain ⟨rfl, rfl, rfl⟩ := hcs
    simp only [Prod.mk.injEq] at hx
    exact ⟨none, 0, [], rfl, fun h0 => absurd h0 (by simp), by simp, by simp, by simp, .inl ⟨hx.1, rfl⟩⟩
  · simp [Value.cells] at hcs
    obtain ⟨rfl, rfl, rfl⟩ := hcs
    have hm' : m = c0 := by simpa using hmm
    subst hm'
    simp only [Prod.mk.injEq] at hx
    rw [hc] at hi
    obtain ⟨f, hf'⟩ := Go.Deep.choose_lt (α := α) (n := m) (p := fun i y => ok y ∧ ∀ j, j < size → W.cell? ((x.add (i * size)).add j) = (en y)[j]?) (by
      intro i him
      obtain ⟨cs', h1, h2⟩ := hi i him
      obtain ⟨_, hl', hat⟩ := World.cells?_some h1
      obtain ⟨y, rfl, hy⟩ := hel n cs' _ hl' h2
      exact ⟨y, hy, hat⟩)
    have hlen : ((List.range n0).map f).length = n0 := by simp
    refine ⟨some x, m, (List.range n0).map f, by rw [hlen], fun h0 => ?_, by omega, hm, fun y hy => ?_, .inr ⟨_, _, hx.1, by simp; omega⟩⟩
    · rw [hlen] at h0
      obtain ⟨b, off, spot⟩ := x
      have c1 := (hf' 0 (by omega)).2 0 hsz
      rw [show ((en (f 0))[0]?) = some ((en (f 0))[0]'(by rw [hen]; exact hsz)) from List.getElem?_eq_getElem _] at c1
      have hspot : spot = none := by simpa [Addr.add] using World.cell?_spot c1
      subst hspot
      refine ⟨b, off, rfl, ?_, fun i hi j u hu => ?_⟩
      · have := World.block_lt_of_cell? W _ c1
        simpa [Addr.add] using this
      · rw [hlen] at hi
        have hj : j < size := by
          have := (List.getElem?_eq_some_iff.1 hu).1
          rwa [hen] at this
        have c2 := (hf' i (by omega)).2 j hj
        rw [Go.Deep.add_add] at c2
        have e1 : ({ block := b, off := off, spot := none } : Addr).add (i * size + j) = ⟨b, off + (i * size + j), none⟩ := by
          unfold Addr.add
          split
          · rename_i h; rw [h]; rfl
          · rfl
        rw [e1] at c2
        rw [c2, ← hu]
        simp
    · obtain ⟨i, hi', rfl⟩ := List.mem_map.1 hy
      exact (hf' i (by have := List.mem_range.1 hi'; omega)).1
end

end Go.Proofs.Ytdjkjbkmmdmipaa
