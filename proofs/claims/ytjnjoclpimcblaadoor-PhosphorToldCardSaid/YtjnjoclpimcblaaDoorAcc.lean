/- An accumulator of numbers in memory: append that writes its own block alone; what stores and calls do to it. -/
import Derived.Test.YtjnjoclpimcblaaDoorOwn
import Derived.Test.YtjnjoclpimcblaaDoorInts
import Derived.Test.YtjnjoclpimcblaaDoorPa
import Derived.Test.YtjnjoclpimcblaaDoorRegionE
namespace Go.Proofs.YtjnjoclpimcblaaDoor
open Go.RowKit
set_option linter.unusedVariables false
set_option linter.unusedSimpArgs false

/-- Between the two worlds only blocks of F may have been written; new ones have come. -/
structure Keep (F : Nat → Prop) (w w' : World) : Prop where
  os : w'.os = w.os
  tape : w'.tape = w.tape
  output : w'.output = w.output
  size : w.heap.size ≤ w'.heap.size
  block : ∀ k, k < w.heap.size → ¬ F k → w'.heap[k]? = w.heap[k]?
theorem heap_in {w : World} {H : Nat} {o : Obj} (h : w.heap[H]? = some o) : H < w.heap.size := (Array.getElem?_eq_some_iff.1 h).1
theorem cell_in {w : World} {H q : Nat} {cur : Array Value} {t : TypeId} {fr : Nat × Nat} (h : w.heap[H]? = some (.cells cur t fr)) : w.cell? ⟨H, q, none⟩ = cur[q]? := by
  simp [World.cell?, h]
theorem frozen_in {w : World} {H q : Nat} {cur : Array Value} {t : TypeId} (h : w.heap[H]? = some (.cells cur t (0, 0))) : w.frozen? ⟨H, q, none⟩ = false := by
  simp [World.frozen?, h]
section
variable {F G : Nat → Prop} {a b c w w' : World} {B : Nat}
theorem Keep.refl (F : Nat → Prop) (w : World) : Keep F w w := ⟨rfl, rfl, rfl, Nat.le_refl _, fun _ _ _ => rfl⟩
theorem Keep.trans (h : Keep F a b) (k : Keep G b c) (hG : ∀ x, G x → F x ∨ a.heap.size ≤ x) : Keep F a c :=
  ⟨k.os.trans h.os, k.tape.trans h.tape, k.output.trans h.output, Nat.le_trans h.size k.size, fun i hi hF =>
    (k.block i (Nat.lt_of_lt_of_le hi h.size) (fun g => (hG i g).elim hF (fun e => by omega))).trans (h.block i hi hF)⟩
theorem Keep.of_below (h : Below w.heap.size w w') : Keep F w w' := ⟨h.os, h.tape, h.output, h.size, fun k hk _ => h.block k hk⟩
theorem Keep.below (h : Keep F w w') (hF : ∀ b, F b → B ≤ b) (hB : B ≤ w.heap.size) : Below B w w' := ⟨h.os, h.tape, h.output, h.size, fun k hk => h.block k (by omega) (fun f => by have := hF k f; omega)⟩
theorem Keep.set (h : Keep F w w') {p : Addr} (hb : F p.block ∨ w.heap.size ≤ p.block) (u : Value) : Keep F w (w'.setCell p u) :=
  ⟨h.os, h.tape, h.output, by simpa [World.setCell] using h.size, fun k hk hF => (Below.heap_setCell _ _ _ _ (fun e => by subst e; exact hb.elim hF (fun e => by omega))).trans (h.block k hk hF)⟩
theorem Keep.mono (h : Keep F w w') (hG : ∀ x, F x → G x) : Keep G w w' := ⟨h.os, h.tape, h.output, h.size, fun k hk hF => h.block k hk (fun f => hF (hG k f))⟩
end
section
variable {α : Type} {enc : α → List Value} {size : Nat} {P : Program} {e : TypeId} {B B' : Nat} {w w' : World} {v : Value} {xs : List α}
theorem Own.keep (h : Own enc size e B w v xs) (hf : ∀ k, v.ownBlock = some k → w'.heap[k]? = w.heap[k]?) : Own enc size e B w' v xs := by
  refine ⟨h.1, ?_⟩
  rcases h.2 with hn | ⟨g, cap, cur, hv, hB, hg, rest⟩
  · exact .inl hn
  · exact .inr ⟨g, cap, cur, hv, hB, (hf g (by rw [hv]; rfl)).trans hg, rest⟩
theorem Own.lift (h : Own enc size e B w v xs) (hf : ∀ k, v.ownBlock = some k → B' ≤ k) : Own enc size e B' w v xs := by
  refine ⟨h.1, ?_⟩
  rcases h.2 with hn | ⟨g, cap, cur, hv, hB, hg, rest⟩
  · exact .inl hn
  · exact .inr ⟨g, cap, cur, hv, hf g (by rw [hv]; rfl), hg, rest⟩
theorem Own.blk (h : Own enc size e B w v xs) {k : Nat} (hk : v.ownBlock = some k) : ∃ cur, w.heap[k]? = some (.cells cur e (0, 0)) := by
  rcases h.2 with ⟨rfl, _⟩ | ⟨g, cap, cur, rfl, hB, hg, rest⟩
  · cases hk
  · injection hk with hk
    subst hk
    exact ⟨cur, hg⟩
theorem run_append_keep (w : World) (t ty e : TypeId) (z : Value) (bytes : Nat) (ht : P.underlying t = some (.slice e)) (hinfo : (P.info? e).map (fun i => (i.zero, i.size, i.bytes)) = some (some z, size, bytes))
    (hzs : z.cells.size = size) (hsz : 0 < size) (henc : ∀ y, (enc y).length = size) (hone : ∀ y, ∀ u ∈ enc y, u.oneCell' = true) (xs ys : List α) (v : Value) (A : Option Addr) (c : Nat)
    (hown : Own enc size e 0 w v xs) (hr : Rd enc size w A ys) (h63 : xs.length + ys.length ≤ maxLen) (hb : (xs.length + ys.length) * bytes ≤ 140737488355328) :
    ∃ A' c' w', (Builtin.append_ #[t, t] ty #[v, .slice A ys.length c]).run P w = .ok (.slice A' (xs ++ ys).length c') w' ∧ Own enc size e 0 w' (.slice A' (xs ++ ys).length c') (xs ++ ys) ∧
      Keep (fun k => v.ownBlock = some k) w w' ∧ (∀ k, (Value.slice A' (xs ++ ys).length c').ownBlock = some k → v.ownBlock = some k ∨ w.heap.size ≤ k) := by
  obtain ⟨i, hi, hz, hsize, hby⟩ := info_parts hinfo
  rcases Nat.eq_zero_or_pos ys.length with h0 | h0
  · have hys : ys = [] := List.eq_nil_of_length_eq_zero h0
    subst hys
    obtain ⟨A0, c0, rfl, hc0, hc1⟩ := hown.form
    refine ⟨A0, c0, w, ?_, by simpa using hown, Keep.refl _ _, fun k hk => .inl (by simpa using hk)⟩
    rcases hown.2 with ⟨h1, hn⟩ | ⟨g, cap, cur, h1, hB, hg, h2, h3, h4, h5⟩
    · rw [h1]
      have hx : xs = [] := List.eq_nil_of_length_eq_zero hn
      subst hx
      injection h1 with e1 _ e3
      subst e1 e3
      cases A <;> simp [Builtin.append_, run_underlying ht, sizeOf, typeInfo, hi, Builtin.lenOf, Builtin.firstCells, loadCells, loadCellsFrom]
    · injection h1 with e1 e2 e3
      subst e1 e3
      cases A <;> simp [Builtin.append_, run_underlying ht, sizeOf, typeInfo, hi, Builtin.lenOf, Builtin.firstCells, hc0, storeCells, loadCells, loadCellsFrom]
  · obtain ⟨b, off, rfl, hlt, hc⟩ := hr h0
    have hl := flat_len henc ys
    have hnews : ∀ j u, (ys.flatMap enc)[j]? = some u → w.cell? ((⟨b, off, none⟩ : Addr).add j) = some u := by
      intro j u hu
      have hj : j < ys.length * size := by rw [← hl]; exact (List.getElem?_eq_some_iff.1 hu).1
      obtain ⟨i', j', hi', hj', rfl, he⟩ := flat_at henc ys j hj
      rw [addr_add]
      exact hc i' hi' j' u (he ▸ hu)
    have h1 : ∀ u ∈ ys.flatMap enc, u.oneCell' = true := by
      intro u hu
      obtain ⟨y, _, hy⟩ := List.mem_flatMap.1 hu
      exact hone y u hy
    obtain ⟨v', w', hrun, hown', hgr, _, hbl⟩ := run_append_own_at (P := P) w 0 t ty e i z size bytes ht hi hz hsize hby hzs hsz v xs.length _ hown ⟨b, off, none⟩ ys.length c _ hl hnews h1 h63 hb (Nat.zero_le _)
    have hO : Own enc size e 0 w' v' (xs ++ ys) := by
      unfold Own
      rw [List.length_append, List.flatMap_append]
      exact hown'
    obtain ⟨A', c', rfl, _, _⟩ := hO.form
    refine ⟨A', c', w', hrun, hO, ⟨hgr.os, hgr.tape, hgr.output, hgr.size, fun k hk hF => hgr.block k hk (fun e => hF e.symm)⟩, fun k hk => ?_⟩
    rcases hbl with h | h
    · exact .inl (h.symm.trans hk)
    · right
      have h' := h.symm.trans hk
      injection h' with h'
      omega
theorem step_append_keep {w : World} {ops : Array Oper} {o : Oper} {a : Act} {K : Act → World → Prop} {Q : Exit → Act → World → Prop} {E : Prop} (s x : Operand) (t e : TypeId) (z : Value) (bytes : Nat)
    (hgd : o.guard = none) (ho : o.op = .call { callee := .builtin .append, args := #[s, x], argTypes := #[t, t] })
    (ht : P.underlying t = some (.slice e)) (hinfo : (P.info? e).map (fun i => (i.zero, i.size, i.bytes)) = some (some z, size, bytes)) (hzs : z.cells.size = size) (hsz : 0 < size)
    (henc : ∀ y, (enc y).length = size) (hone : ∀ y, ∀ u ∈ enc y, u.oneCell' = true) (xs ys : List α) (v : Value) (A : Option Addr) (c : Nat) (hs : a.eval s = v) (hx : a.eval x = .slice A ys.length c)
    (hown : Own enc size e 0 w v xs) (hr : Rd enc size w A ys) (h63 : xs.length + ys.length ≤ maxLen) (hb : (xs.length + ys.length) * bytes ≤ 140737488355328)
    (h : ∀ A' c' w' zs, zs = xs ++ ys → Own enc size e 0 w' (.slice A' zs.length c') zs → Keep (fun k => v.ownBlock = some k) w w' → (∀ k, (Value.slice A' zs.length c').ownBlock = some k → v.ownBlock = some k ∨ w.heap.size ≤ k) → K (a.put o.dst (.slice A' zs.length c')) w') :
    if Region.wanted o (yielded ops a.tmps) = true then Oper.wp P o a w K Q else E := by
  have hw : Region.wanted o (yielded ops a.tmps) = true := by simp [Region.wanted, hgd]
  rw [if_pos hw]
  obtain ⟨A', c', w', hrun, hO, hK, hF⟩ := run_append_keep (P := P) w t o.type e z bytes ht hinfo hzs hsz henc hone xs ys v A c hown hr h63 hb
  unfold Oper.wp execOp
  simp only [ho, resolve, invoke, builtin, Sem.run_bind, Sem.run_pure, Result.andThen_ok, List.map_toArray, List.map_cons, List.map_nil, hs, hx, hrun]
  exact h A' c' w' _ rfl hO hK hF
end
theorem int_newA {w : World} {g : Nat} (e : TypeId) (n : Int) (hg : g = w.heap.size) : Rd (encI .i64) 1 (w.alloc (.cells #[.int .i64 n] e)) (some ⟨g, 0, none⟩) [n] :=
  (Own.new (B := 0) (e := e) (encI_len _) hg (xs := [n]) (rfl : (1 : Nat) = [n].length) _ rfl (Nat.zero_le _) (by simp [maxLen])).rd (encI_len _)

/- ---------------------------------------- the accumulator ---------------------------------------- -/
abbrev ptrV (b : Nat) : Value := .pointer (some ⟨b, 0, none⟩)
def accO (sl : Value) (n : Int) (bg : Bool) : Obj := .cells #[sl, .int .i64 n, .bool bg] 45
structure AccAt (w : World) (F : Nat → Prop) (b : Nat) (a : AccS) : Prop where
  ex : ∃ sl, w.heap[b]? = some (accO sl a.now a.begun) ∧ Own (encI .i64) 1 3 0 w sl a.done ∧ ∀ k, sl.ownBlock = some k → F k
  fb : F b
def AccDid (w : World) (F : Nat → Prop) (b : Nat) (a : AccS) (w' : World) : Prop := ∃ F', AccAt w' F' b a ∧ Keep F w w' ∧ ∀ x, F' x → F x ∨ w.heap.size ≤ x
section
variable {w w' w'' : World} {F G : Nat → Prop} {b : Nat} {a a' : AccS} {sl sl' : Value} {n n' : Int} {bg bg' : Bool}
theorem set_acc0 (h : w.heap[b]? = some (accO sl n bg)) : (w.setCell ⟨b, 0, none⟩ sl').heap[b]? = some (accO sl' n bg) := by
  simp [World.setCell, Array.getElem?_modify, h, accO]
theorem set_acc1 (h : w.heap[b]? = some (accO sl n bg)) : (w.setCell ⟨b, 1, none⟩ (.int .i64 n')).heap[b]? = some (accO sl n' bg) := by
  simp [World.setCell, Array.getElem?_modify, h, accO]
theorem set_acc2 (h : w.heap[b]? = some (accO sl n bg)) : (w.setCell ⟨b, 2, none⟩ (.bool bg')).heap[b]? = some (accO sl n bg') := by
  simp [World.setCell, Array.getElem?_modify, h, accO]
theorem set_far {p k : Nat} {i : Nat} {v : Value} (h : k ≠ p) : (w.setCell ⟨p, i, none⟩ v).heap[k]? = w.heap[k]? := Below.heap_setCell _ _ _ _ (fun e => h e)
theorem AccAt.lt (h : AccAt w F b a) : b < w.heap.size := by obtain ⟨sl, h1, _⟩ := h.ex; exact heap_in h1
theorem own_not_acc (hb : w.heap[b]? = some (accO sl n bg)) {xs : List Int} {v : Value} (ho : Own (encI .i64) 1 3 0 w v xs) : v.ownBlock ≠ some b := by
  intro e
  obtain ⟨cur, hc⟩ := ho.blk e
  rw [hb] at hc
  injection hc with hc
  injection hc with _ h _
  exact absurd h (by decide)
theorem AccAt.grow (h : AccAt w F b a) (hb : Below w.heap.size w w') : AccAt w' F b a := by
  obtain ⟨sl, h1, h2, h3⟩ := h.ex
  exact ⟨⟨sl, (hb.block b (heap_in h1)).trans h1, h2.keep fun k hk => hb.block k (h2.lt k hk).2, h3⟩, h.fb⟩
theorem AccAt.keep (h : AccAt w F b a) (hk : Keep G w w') (hG : ∀ x, F x → ¬ G x) : AccAt w' F b a := by
  obtain ⟨sl, h1, h2, h3⟩ := h.ex
  exact ⟨⟨sl, (hk.block b (heap_in h1) (hG b h.fb)).trans h1, h2.keep fun k hk' => hk.block k (h2.lt k hk').2 (hG k (h3 k hk')), h3⟩, h.fb⟩
theorem AccDid.refl (h : AccAt w F b a) : AccDid w F b a w := ⟨F, h, Keep.refl _ _, fun x hx => .inl hx⟩
theorem AccDid.trans (h : AccDid w F b a w') (k : ∀ F', AccAt w' F' b a → AccDid w' F' b a' w'') : AccDid w F b a' w'' := by
  obtain ⟨F1, h1, k1, f1⟩ := h
  obtain ⟨F2, h2, k2, f2⟩ := k F1 h1
  refine ⟨F2, h2, k1.trans k2 f1, fun x hx => ?_⟩
  rcases f2 x hx with h | h
  · exact f1 x h
  · exact .inr (Nat.le_trans k1.size h)
theorem AccDid.cons (hk : Keep F w w') (hF : ∀ x, G x → F x ∨ w.heap.size ≤ x) (k : AccDid w' G b a' w'') : AccDid w F b a' w'' := by
  obtain ⟨F2, h2, k2, f2⟩ := k
  refine ⟨F2, h2, hk.trans k2 hF, fun x hx => ?_⟩
  rcases f2 x hx with h | h
  · exact hF x h
  · exact .inr (Nat.le_trans hk.size h)
theorem AccAt.new (w : World) : AccAt (w.alloc (.cells #[.slice none 0 0, .int .i64 0, .bool false] 45)) (fun x => x = w.heap.size) w.heap.size AccS.nil :=
  ⟨⟨.slice none 0 0, Array.getElem?_push_size, Own.nil _ _ _ _ _, fun k hk => by cases hk⟩, rfl⟩
theorem AccDid.grow (h : AccDid w F b a w') (hb : Below w'.heap.size w' w'') : AccDid w F b a w'' := by
  obtain ⟨F1, h1, k1, f1⟩ := h
  exact ⟨F1, h1.grow hb, k1.trans (Keep.of_below (F := fun _ => False) hb) (fun x hx => hx.elim), f1⟩
/-- the three cells stored anew, the row as it was -/
theorem acc_stored (h : AccAt w F b a) (hsl : w.heap[b]? = some (accO sl a.now a.begun)) (ho : Own (encI .i64) 1 3 0 w sl a.done) (hf : ∀ k, sl.ownBlock = some k → F k) (n' : Int) (bg' : Bool) :
    AccDid w F b ⟨a.done, n', bg'⟩ ((w.setCell ⟨b, 1, none⟩ (.int .i64 n')).setCell ⟨b, 2, none⟩ (.bool bg')) := by
  refine ⟨F, ⟨⟨sl, set_acc2 (set_acc1 hsl), ho.keep fun k hk => ?_, hf⟩, h.fb⟩, ((Keep.refl F w).set (p := ⟨b, 1, none⟩) (.inl h.fb) _).set (p := ⟨b, 2, none⟩) (.inl h.fb) _, fun x hx => .inl hx⟩
  have hne : k ≠ b := fun e => own_not_acc hsl ho (e ▸ hk)
  rw [set_far hne, set_far hne]
/-- the row appended to -/
theorem acc_pushed {w2 : World} {zs : List Int} {v : Value} (h : AccAt w F b a) (hsl : w.heap[b]? = some (accO sl a.now a.begun)) (ho : Own (encI .i64) 1 3 0 w sl a.done) (hf : ∀ k, sl.ownBlock = some k → F k)
    (hg : Below w.heap.size w w') (hk : Keep (fun k => sl.ownBlock = some k) w' w2) (ho2 : Own (encI .i64) 1 3 0 w2 v zs) (hf2 : ∀ k, v.ownBlock = some k → sl.ownBlock = some k ∨ w'.heap.size ≤ k) (n' : Int) (bg' : Bool) :
    AccDid w F b ⟨zs, n', bg'⟩ (((w2.setCell ⟨b, 0, none⟩ v).setCell ⟨b, 1, none⟩ (.int .i64 n')).setCell ⟨b, 2, none⟩ (.bool bg')) := by
  have hbs := heap_in hsl
  have hne := own_not_acc hsl ho
  have e1 : w2.heap[b]? = some (accO sl a.now a.begun) := (hk.block b (Nat.lt_of_lt_of_le hbs hg.size) hne).trans ((hg.block b hbs).trans hsl)
  have hK : Keep F w w2 := (Keep.of_below hg).trans hk (fun x hx => .inl (hf x hx))
  refine ⟨fun x => F x ∨ w.heap.size ≤ x, ⟨⟨v, set_acc2 (set_acc1 (set_acc0 e1)), ho2.keep fun k hk' => ?_, fun k hk' => ?_⟩, .inl h.fb⟩, ((hK.set (p := ⟨b, 0, none⟩) (.inl h.fb) _).set (p := ⟨b, 1, none⟩) (.inl h.fb) _).set (p := ⟨b, 2, none⟩) (.inl h.fb) _, fun x hx => hx⟩
  · have hne2 : k ≠ b := fun e => own_not_acc e1 ho2 (e ▸ hk')
    rw [set_far hne2, set_far hne2, set_far hne2]
  · rcases hf2 k hk' with h | h
    · exact .inl (hf k h)
    · exact .inr (Nat.le_trans hg.size h)
end
end Go.Proofs.YtjnjoclpimcblaaDoor
