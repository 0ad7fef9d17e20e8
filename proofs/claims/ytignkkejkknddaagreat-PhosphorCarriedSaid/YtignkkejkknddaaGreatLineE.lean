/- Lines: cells go on within their span.  -/
import Derived.Test.YtignkkejkknddaaGreatRow
import Derived.Test.YtignkkejkknddaaGreatLineD
import Derived.Deep.RegionLaw
namespace Go.Proofs.YtignkkejkknddaaGreat
open Go.RowKit
set_option linter.unusedVariables false
set_option linter.unusedSimpArgs false

/-- where a slice goes on from place m -/
def cutA (a : Option Addr) (k m : Nat) : Option Addr := if k = m then a else a.map (·.add (m * 3))
theorem slice_from (a : Option Addr) (n k m : Nat) (w : World) (hm : m ≤ n) : (Instr.sliceAt 65 (.slice a n k) (some (.int .i64 m)) none none).run Tryz.prog w = .ok (.slice (cutA a k m) (n - m) (k - m)) w := by
  have h0 : (0 : Int) ≤ (m : Int) := by omega
  have h1 : (m : Int) ≤ (n : Int) := by omega
  unfold cutA
  simp [go_sem, h0, h1]
theorem RowAt.copied {W2 wr wr' : World} {H c : Nat} {A : Option Addr} {sz : Int} {ys zs : List Cl} (h : RowAt W2 wr H A c sz ys) (hl : zs.length = ys.length) (hO : Own encC 3 60 W2.heap.size wr' (.slice A ys.length c) zs) (hb : Below W2.heap.size wr wr') (hs : wr'.heap.size = wr.heap.size)
    (hf : ∀ b : Nat, A ≠ some ⟨b, 0, none⟩ → wr'.heap[b]? = wr.heap[b]?) : RowAt W2 wr' H A c sz zs := by
  have hH := hf H (fun e => h.ne H e rfl)
  refine ⟨h.below.trans hb, h.ge, by rw [hs]; exact h.lt, ?_, ?_, h.ne, by rw [hl]; exact hO⟩
  · rw [cell_of_heap hH, h.h0, hl]
  · rw [cell_of_heap hH, h.h1]
theorem PartL.all {w w' : World} {xs : List Cl} {sz f t : Int} {e : Ending} (hm : xs.length ≤ 1000000) (h : PartL w xs sz f t e w') : ∃ A' c' x a k, w' = ext w x ∧ Own encC 3 60 w.heap.size (ext w x) (.slice A' xs.length c') xs ∧
    e = .returned (.tuple #[lineV A' xs.length c' sz, .slice a (cutR xs f t).length k]) ∧ (0 < (cutR xs f t).length → ∃ g, A' = some ⟨g, 0, none⟩ ∧ a = some ⟨g, offN xs.length f t * 3, none⟩) ∧ (cutR xs f t).length ≤ k ∧ k ≤ 9223372036854775807 ∧ (a = none → k = 0) ∧ Rd encC 3 (ext w x) a (cutR xs f t) := by
  obtain ⟨A', c', x, e1, hO, h⟩ := h
  have hh := offN_le xs.length f t (by omega)
  have hl := cutR_len xs f t
  rcases h with ⟨hn, e2⟩ | ⟨g, hg, e2⟩
  · have e0 : (cutR xs f t).length = 0 := by omega
    exact ⟨A', c', x, none, 0, e1, hO, by rw [e0]; exact e2, fun h => by omega, by omega, by omega, fun _ => rfl, fun q => by omega⟩
  · by_cases q : spanN xs.length f t = 0
    · have e0 : (cutR xs f t).length = 0 := by rw [hl, q]; rfl
      refine ⟨A', c', x, none, 0, e1, hO, ?_, fun h => by omega, by omega, by omega, fun _ => rfl, fun q => by omega⟩
      rw [e2, e0]; unfold cutV; rw [if_pos q]
    · have q0 : 0 < xs.length := by unfold spanN at q; omega
      obtain ⟨g', eg, h1, h2⟩ := hO.at0 q0
      simp only [maxLen] at h2
      have e3 : offN xs.length f t = (spanA f).toNat := by unfold offN; rw [if_neg q]
      refine ⟨A', c', x, some ⟨g, (spanA f).toNat * 3, none⟩, c' - (spanA f).toNat, e1, hO, by rw [e2, hl]; unfold cutV; rw [if_neg q], fun _ => ⟨g, hg, by rw [e3]⟩, by omega, by omega, fun e => (by cases e), ?_⟩
      subst hg
      have hr := hO.rd encC_len
      obtain ⟨b, off, e2, hd⟩ := hr.drop (k := (spanA f).toNat) (by omega)
      injection e2 with e2
      injection e2 with e2 e3
      subst e2 e3
      have h4 := hd.take (spanN xs.length f t).toNat
      rw [Nat.zero_add] at h4
      unfold cutR
      rw [e3]
      exact h4
end Go.Proofs.YtignkkejkknddaaGreat
/- Lines: Delete.  -/
namespace Go.Proofs.YtignkkejkknddaaGreat
open Go.RowKit
set_option linter.unusedVariables false
set_option linter.unusedSimpArgs false

attribute [local go_sem ↓] slice_from
end Go.Proofs.YtignkkejkknddaaGreat
/- Lines: Insert.  -/
namespace Go.Proofs.YtignkkejkknddaaGreat
open Go.RowKit
set_option linter.unusedVariables false
set_option linter.unusedSimpArgs false

attribute [local go_sem ↓] slice_from
end Go.Proofs.YtignkkejkknddaaGreat
/- Lines: the reference's Insert and Delete; the plain law of moving.  -/
namespace Go.Proofs.YtignkkejkknddaaGreat
open Go.RowKit
set_option linter.unusedVariables false
set_option linter.unusedSimpArgs false

end Go.Proofs.YtignkkejkknddaaGreat
/- Lines: the reference's new ones.  -/
namespace Go.Proofs.YtignkkejkknddaaGreat
open Go.RowKit
set_option linter.unusedVariables false
set_option linter.unusedSimpArgs false

section
variable {α : Type} {enc : α → List Value} {size : Nat} {P : Program}
theorem run_append_far2 (U w : World) (t ty e : TypeId) (z : Value) (bytes : Nat) (ht : P.underlying t = some (.slice e)) (hinfo : (P.info? e).map (fun i => (i.zero, i.size, i.bytes)) = some (some z, size, bytes))
    (hzs : z.cells.size = size) (hsz : 0 < size) (henc : ∀ y, (enc y).length = size) (hone : ∀ y, ∀ u ∈ enc y, u.oneCell' = true) (xs ys : List α) (v : Value) (A : Option Addr) (c : Nat)
    (hU : Below U.heap.size U w) (hown : Own enc size e U.heap.size w v xs) (hr : Rd enc size w A ys) (h63 : xs.length + ys.length ≤ maxLen) (hb : (xs.length + ys.length) * bytes ≤ 140737488355328) :
    ∃ A' c' x', (Builtin.append_ #[t, t] ty #[v, .slice A ys.length c]).run P w = .ok (.slice A' (xs ++ ys).length c') (ext U x') ∧ Own enc size e U.heap.size (ext U x') (.slice A' (xs ++ ys).length c') (xs ++ ys) ∧
      Far w (ext U x') v (.slice A' (xs ++ ys).length c') ∧ ∀ b, b < w.heap.size → v.ownBlock ≠ some b → (ext U x').heap[b]? = w.heap[b]? := by
  obtain ⟨i, hi, hz, hsize, hby⟩ := info_parts hinfo
  rcases Nat.eq_zero_or_pos ys.length with h0 | h0
  · have hys : ys = [] := List.eq_nil_of_length_eq_zero h0
    subst hys
    obtain ⟨A0, c0, rfl, hc0, hc1⟩ := hown.form
    obtain ⟨x', rfl⟩ := ext_of hU
    refine ⟨A0, c0, x', ?_, by simpa using hown, ⟨Nat.le_refl _, fun _ _ _ _ => rfl, fun b _ hne => by simpa using hne⟩, fun _ _ _ => rfl⟩
    rcases hown.2 with ⟨h1, hn⟩ | ⟨g, cap, cur, h1, hB, hg, h2, h3, h4, h5⟩
    · rw [h1]
      have hx : xs = [] := List.eq_nil_of_length_eq_zero hn
      subst hx
      injection h1 with e1 _ e3
      subst e1 e3
      cases A <;> simp [Builtin.append_, run_underlying ht, sizeOf, typeInfo, hi, Builtin.lenOf, Builtin.firstCells, loadCells, loadCellsFrom]
    · injection h1 with e1 e2 e3
      subst e1 e3
      cases A <;> simp [Builtin.append_, run_underlying ht, sizeOf, typeInfo, hi, Builtin.lenOf, Builtin.firstCells, hc0, storeCells, loadCells, loadCellsFrom]
  · obtain ⟨b, off, rfl, hlt, hc⟩ := hr h0
    have hl := flat_len henc ys
    have hnews : ∀ j u, (ys.flatMap enc)[j]? = some u → w.cell? ((⟨b, off, none⟩ : Addr).add j) = some u := by
      intro j u hu
      have hj : j < ys.length * size := by rw [← hl]; exact (List.getElem?_eq_some_iff.1 hu).1
      obtain ⟨i', j', hi', hj', rfl, he⟩ := flat_at henc ys j hj
      rw [addr_add]
      exact hc i' hi' j' u (he ▸ hu)
    have h1 : ∀ u ∈ ys.flatMap enc, u.oneCell' = true := by
      intro u hu
      obtain ⟨y, _, hy⟩ := List.mem_flatMap.1 hu
      exact hone y u hy
    obtain ⟨v', w', hrun, hown', hgr, _, hbl⟩ := run_append_own_at (P := P) w U.heap.size t ty e i z size bytes ht hi hz hsize hby hzs hsz v xs.length _ hown ⟨b, off, none⟩ ys.length c _ hl hnews h1 h63 hb hU.size
    have hB : Below U.heap.size U w' := hU.grown hgr hU.size (fun k hk => (hown.lt k hk).1)
    obtain ⟨x', rfl⟩ := ext_of hB
    have hO : Own enc size e U.heap.size (ext U x') v' (xs ++ ys) := by
      unfold Own
      rw [List.length_append, List.flatMap_append]
      exact hown'
    obtain ⟨A', c', rfl, _, _⟩ := hO.form
    refine ⟨A', c', x', hrun, hO, ⟨hgr.size, fun b hb hne i => hgr.cell_far ⟨b, i, none⟩ hb (fun e => hne e.symm), fun b hb hne he => ?_⟩, fun b hb hne => hgr.block b hb (fun e => hne e.symm)⟩
    rcases hbl with h | h
    · exact hne (h.symm.trans he)
    · rw [h] at he; simp at he; omega

theorem step_append_far {U w : World} {ops : Array Oper} {o : Oper} {a : Act} {K : Act → World → Prop} {Q : Exit → Act → World → Prop} {E : Prop} (s x : Operand) (t e : TypeId) (z : Value) (bytes : Nat)
    (hgd : o.guard = none) (ho : o.op = .call { callee := .builtin .append, args := #[s, x], argTypes := #[t, t] })
    (ht : P.underlying t = some (.slice e)) (hinfo : (P.info? e).map (fun i => (i.zero, i.size, i.bytes)) = some (some z, size, bytes)) (hzs : z.cells.size = size) (hsz : 0 < size)
    (henc : ∀ y, (enc y).length = size) (hone : ∀ y, ∀ u ∈ enc y, u.oneCell' = true) (xs ys : List α) (v : Value) (A : Option Addr) (c : Nat) (hs : a.eval s = v) (hx : a.eval x = .slice A ys.length c)
    (hU : Below U.heap.size U w) (hown : Own enc size e U.heap.size w v xs) (hr : Rd enc size w A ys) (h63 : xs.length + ys.length ≤ maxLen) (hb : (xs.length + ys.length) * bytes ≤ 140737488355328)
    (h : ∀ A' c' x' zs, zs = xs ++ ys → Own enc size e U.heap.size (ext U x') (.slice A' zs.length c') zs → Far w (ext U x') v (.slice A' zs.length c') → (∀ b, b < w.heap.size → v.ownBlock ≠ some b → (ext U x').heap[b]? = w.heap[b]?) → K (a.put o.dst (.slice A' zs.length c')) (ext U x')) :
    if Region.wanted o (yielded ops a.tmps) = true then Oper.wp P o a w K Q else E := by
  have hw : Region.wanted o (yielded ops a.tmps) = true := by simp [Region.wanted, hgd]
  rw [if_pos hw]
  obtain ⟨A', c', x', hrun, hO, hF, hG⟩ := run_append_far2 (P := P) U w t o.type e z bytes ht hinfo hzs hsz henc hone xs ys v A c hU hown hr h63 hb
  unfold Oper.wp execOp
  simp only [ho, resolve, invoke, builtin, Sem.run_bind, Sem.run_pure, Result.andThen_ok, List.map_toArray, List.map_cons, List.map_nil, hs, hx, hrun]
  exact h A' c' x' _ rfl hO hF hG
end
theorem RowAt.own_ne {W2 wr : World} {H c : Nat} {A : Option Addr} {sz : Int} {ys : List Cl} (h : RowAt W2 wr H A c sz ys) : (Value.slice A ys.length c).ownBlock ≠ some H := by
  intro e
  obtain ⟨g, rfl⟩ : ∃ g, A = some ⟨g, 0, none⟩ := by
    rcases h.own.2 with ⟨h1, _⟩ | ⟨g, cap, cur, hv, _⟩
    · rw [h1] at e; cases e
    · injection hv with e1 _ _
      exact ⟨g, e1⟩
  have e2 : some g = some H := e
  injection e2 with e2
  exact h.ne g rfl e2
theorem NewL.more {w w' : World} {xs : List Cl} {sz : Int} {e : Ending} (h : NewL w xs sz e w') (x : More) : NewL w xs sz e (ext w' x) := by
  obtain ⟨A', c', y, e1, rfl, hO⟩ := h
  refine ⟨A', c', ⟨y.objs ++ x.objs, x.drawn⟩, e1, ext_ext w y x, ?_⟩
  rw [← ext_ext]
  exact Own.ext hO x
theorem RowAt.appended {W2 wr w' : World} {H c c' : Nat} {A A' : Option Addr} {sz : Int} {ys zs : List Cl} (h : RowAt W2 wr H A c sz ys) (hb : Below W2.heap.size W2 w') (hO : Own encC 3 60 W2.heap.size w' (.slice A' zs.length c') zs) (hF : Far wr w' (.slice A ys.length c) (.slice A' zs.length c')) :
    RowAt W2 (w'.setCell ⟨H, 0, none⟩ (.slice A' zs.length c')) H A' c' sz zs := by
  have hne : (Value.slice A ys.length c).ownBlock ≠ some H := by
    intro e
    obtain ⟨g, rfl⟩ : ∃ g, A = some ⟨g, 0, none⟩ := by
      rcases h.own.2 with ⟨h1, _⟩ | ⟨g, cap, cur, hv, _⟩
      · rw [h1] at e; cases e
      · injection hv with e1 _ _
        exact ⟨g, e1⟩
    have e2 : some g = some H := e
    injection e2 with e2
    exact h.ne g rfl e2
  have hne2 := hF.block H h.lt hne
  have hc := hF.cell H h.lt hne
  have k0 := (hc 0).trans h.h0
  have k1 := (hc 1).trans h.h1
  refine ⟨hb.setCell (by simpa using h.ge) _, h.ge, by simpa using Nat.lt_of_lt_of_le h.lt hF.size, World.cell?_setCell_same _ _ _ k0, (World.cell?_setCell_other _ _ _ _ (by simp)).trans k1, ?_, ?_⟩
  · rintro b rfl e
    subst e
    exact hne2 rfl
  · refine ⟨hO.1, ?_⟩
    rcases hO.2 with hn | ⟨g, cap, cur, hv, hBg, hg, rest⟩
    · exact .inl hn
    · refine .inr ⟨g, cap, cur, hv, hBg, ?_, rest⟩
      rw [Below.heap_setCell _ _ _ _ (fun e => ?_)]
      · exact hg
      · simp at e
        subst e
        rw [hv] at hne2
        exact hne2 rfl
set_option maxRecDepth 100000 in
set_option maxHeartbeats 8000000 in
theorem new_r (cols : Int) (w : World) : Calls Tryz.prog 129 #[.int .i64 cols] w (NewL w (List.replicate (newN cols) erC) 0) := by
  have e : clampR cols 0 500 = ((newN cols : Nat) : Int) := by unfold newN clampR; split <;> (try split) <;> omega
  have hn : newN cols ≤ 500 := by unfold newN; omega
  have CA := Lib.hid (fun w' => clamp_l cols 0 500 w')
  rw [e] at CA
  generalize newN cols = n at CA hn ⊢
  clear e
  go_enter Tryz.func129, Tryz.ntmps129
  go_wp2
  have hW2 : ∃ W2, W2 = w.alloc (.cells #[.slice none 0 0, .int .i64 0] 67) := ⟨_, rfl⟩
  obtain ⟨W2, hW⟩ := hW2
  have hWz : W2.heap.size = w.heap.size + 1 := by rw [hW]; simp [go_sem]
  have hWb : Below w.heap.size w W2 := by rw [hW]; (repeat' (first | (with_reducible exact Below.refl _ _) | (with_reducible refine Below.alloc ?_ ?_ _) | (with_reducible refine below_ext ?_ ?_ _) | (with_reducible refine Below.drew ?_) | (with_reducible refine below_drewN ?_ _) | (with_reducible refine Below.setCell ?_ ?_ _) | go_size | (simp only [go_sem]; omega) | (simp [go_sem]; done) | (simp [go_sem]; omega)))
  have r0 : W2.cell? ⟨w.heap.size, 0, none⟩ = some (.slice none 0 0) := by rw [hW]; simp [go_sem]
  have r1 : W2.cell? ⟨w.heap.size, 1, none⟩ = some (.int .i64 0) := by rw [hW]; simp [go_sem]
  have rz : ∀ i, W2.frozen? ⟨w.heap.size, i, none⟩ = false := by intro i; rw [hW]; simp [go_sem]
  rw [← hW, ← hWz]
  have hWs : w.heap.size < W2.heap.size := by omega
  have F0 := Lib.hid (⟨r0, r1, rz⟩ : _ ∧ _ ∧ _)
  have hR : Hid (RowAt W2 (W2.alloc (.cells #[.slice none 0 0, .int .i64 0] 67)) W2.heap.size none 0 0 ([] : List Cl)) := Lib.hid ⟨(Below.refl _ _).alloc (Nat.le_refl _) _, Nat.le_refl _, by simp, by simp [go_sem], by simp [go_sem], fun b e => (by cases e), Own.nil _ _ _ _ _⟩
  have hzi : Hid ((W2.alloc (.cells #[.slice none 0 0, .int .i64 0] 67)).frozen? ⟨W2.heap.size, 0, none⟩ = false) := Lib.hid (by simp [go_sem])
  generalize W2.alloc (.cells #[.slice none 0 0, .int .i64 0] 67) = wi at hR hzi ⊢
  generalize W2.heap.size = H at hR hzi ⊢
  clear hW r0 r1 rz hWz
  go_loopw [4] (fun iv wr => ∃ (j : Nat) (A : Option Addr) (c : Nat), j ≤ n ∧ iv = .int .i64 j ∧ Hid (RowAt W2 wr H A c 0 (List.replicate j erC)) ∧ Hid (wr.frozen? ⟨H, 0, none⟩ = false)) (fun iv _ => n - (intOf iv).toNat)
  case atStart => exact ⟨0, none, 0, by omega, rfl, hR, hzi⟩
  case round =>
    obtain ⟨j, A, c, hj, rfl, hR, hzr⟩ := hrel
    by_cases hlt : j < n
    · have q0 := hR.out.h0
      have hHs := hR.out.lt
      rw [List.length_replicate] at q0
      have hzH := hzr.out
      go_wp2_with (go_at_call 34; ((with_reducible refine (CA.out _).mono ?_); rintro _ _ hgets; obtain ⟨rfl, x2, rfl⟩ := hgets.get; clear hgets))
      replace hR := Lib.hid (hR.out.more x2)
      have hHv : H < (ext wr x2).heap.size := by simp; omega
      replace q0 := (cell_ext wr x2 _ _ hHs).trans q0
      have q1 := hR.out.h1
      replace hzH := (frozen_ext wr x2 _ _ hHs).trans hzH
      clear hHs
      generalize ext wr x2 = V at hR hHv q0 q1 hzH ⊢
      go_region_law ((first
        | (go_simp; (go_at_call 139; ((with_reducible refine (erased_r _).mono ?_); rintro _ _ hgets; obtain ⟨rfl, x5, rfl⟩ := hgets.get; clear hgets)))
        | (refine step_append_far (U := W2) (.tmp 12) (.tmp 14) 65 60 _ 8 rfl rfl Tryz.underlying65 cell_info rfl (by omega) encC_len encC_one (List.replicate j erC) [erC] (.slice A (List.replicate j erC).length c) _ 1 ?_ rfl ?_ ?_ ?_ ?_ ?_ ?_
           · rw [List.length_replicate]; rfl
           · refine Below.trans hR.out.below (Below.mono (B := V.heap.size) ?_ hR.out.below.size)
             (repeat' (first | (with_reducible exact Below.refl _ _) | (with_reducible refine Below.alloc ?_ ?_ _) | (with_reducible refine below_ext ?_ ?_ _) | (with_reducible refine Below.drew ?_) | (with_reducible refine below_drewN ?_ _) | (with_reducible refine Below.setCell ?_ ?_ _) | go_size | (simp only [go_sem]; omega) | (simp [go_sem]; done) | (simp [go_sem]; omega)))
           · exact (hR.out.own.ext _).alloc _
           · exact cell_new _ erC (by simp [go_sem])
           · rw [List.length_replicate]; simp [maxLen]; omega
           · rw [List.length_replicate]; simp; omega
           intro A' c' x' zs hz hO hF hG
           have hO2 := Lib.hid hO
           have hF2 := Lib.hid hF
           have g0 := hG H (by simp; omega) (by have := hR.out.own_ne; exact this)
           have g1 : (ext W2 x').cell? ⟨H, 0, none⟩ = some (.slice A j c) := by rw [cell_of_heap g0]; simp [go_sem, hHv, q0]
           have g2 : (ext W2 x').frozen? ⟨H, 0, none⟩ = false := by rw [frozen_of_heap g0]; simp [go_sem, hHv, hzH]
           clear hO hF hG g0)))
      all_goals go_wp2
      all_goals
        have hR3 := RowAt.appended ((hR.out.more x5).alloc _) (below_of_ext W2 x') hO2.out hF2.out
        have hz2 : zs = List.replicate (j + 1) erC := by rw [hz, List.replicate_succ']
        rw [hz2] at hR3
        simp only [List.length_replicate] at hR3
        exact ⟨⟨j + 1, A', c', by omega, by go_num, Lib.hid hR3, Lib.hid (by simp [go_sem, g2])⟩, by simp [intOf]; omega⟩
    · obtain rfl : j = n := by omega
      have q0 := hR.out.h0
      have q1 := hR.out.h1
      have hHs := hR.out.lt
      rw [List.length_replicate] at q0
      obtain ⟨s0, s1, rz⟩ := F0.out
      have sz0 := fun i => (hR.out.below.frozen (p := ⟨w.heap.size, i, none⟩) hWs).trans (rz i)
      have hws := Nat.lt_of_lt_of_le hWs hR.out.below.size
      have hR2 := hR.out
      replace s0 := hR2.old hWs s0
      replace s1 := hR2.old hWs s1
      clear rz
      obtain ⟨W3, e3, t0, t1, t4⟩ := hR2.fin hWb (Nat.le_refl _) hWs F0.out.1 F0.out.2.1
      rw [List.length_replicate] at e3 t0 t4
      have hW3 := World.block_lt_of_cell? W3 _ t0
      go_wp2_with (go_at_call 34; ((with_reducible refine (CA.out _).mono ?_); rintro _ _ hgets; obtain ⟨rfl, x2, rfl⟩ := hgets.get; clear hgets))
      replace t0 := (cell_ext W3 x2 _ _ hW3).trans t0
      replace t1 := (cell_ext W3 x2 _ _ hW3).trans t1
      simp [bodyPost, go_sem, t0, t1]
      exact ⟨_, by simp [results, Tryz.f129, go_sem, t0, t1] <;> rfl, t4.more x2⟩
end Go.Proofs.YtignkkejkknddaaGreat
/- Lines: made longer and shorter; their columns.  -/
namespace Go.Proofs.YtignkkejkknddaaGreat
open Go.RowKit
set_option linter.unusedVariables false
set_option linter.unusedSimpArgs false

/-- the first n cells, and new ones behind them -/
def resR (xs : List Cl) (n : Nat) : List Cl := layOn (List.replicate n erC) 0 (xs.take n)
theorem resR_len (xs : List Cl) (n : Nat) : (resR xs n).length = n := by
  unfold resR
  rw [layOn_len _ _ _ (by simp; omega), List.length_replicate]
theorem res_upd (xs : List Cl) (n j : Nat) (hj : j = n ∨ (xs.length ≤ j ∧ j ≤ n)) : updR (List.replicate n erC) (fun i => decide (i < xs.length)) (fun i _ => xs.getD i noC) j = resR xs n := by
  apply List.ext_getElem?
  intro i
  unfold resR
  rw [updR_opt, layOn_get _ _ _ _ (by simp; omega), List.length_take, List.getElem?_replicate]
  by_cases hi : i < n
  · rw [if_pos hi]
    simp only [Option.map_some, decide_eq_true_eq]
    by_cases h2 : i < xs.length
    · rw [if_pos (by omega), if_pos (by omega), List.getElem?_take, if_pos (by omega), List.getD_eq_getElem?_getD, Nat.sub_zero, List.getElem?_eq_getElem h2]
      rfl
    · rw [if_neg (by omega), if_neg (by omega)]
  · rw [if_neg hi, if_neg (by omega)]
    rfl
theorem RowAt.sized {W2 wr : World} {H c : Nat} {A : Option Addr} {sz : Int} {ys : List Cl} (h : RowAt W2 wr H A c sz ys) (s : Int) : RowAt W2 (wr.setCell ⟨H, 1, none⟩ (.int .i64 s)) H A c s ys := by
  refine ⟨h.below.setCell (by simpa using h.ge) _, h.ge, by simpa using h.lt, (World.cell?_setCell_other _ _ _ _ (by simp)).trans h.h0, World.cell?_setCell_same _ _ _ h.h1, h.ne, ?_⟩
  refine ⟨h.own.1, ?_⟩
  rcases h.own.2 with hn | ⟨g, cap, cur, hv, hBg, hg, rest⟩
  · exact .inl hn
  · refine .inr ⟨g, cap, cur, hv, hBg, ?_, rest⟩
    injection hv with e1 _ _
    have hne := h.ne g e1
    rw [Below.heap_setCell _ _ _ _ (fun e => hne (by simpa using e))]
    exact hg
set_option maxRecDepth 100000 in
set_option maxHeartbeats 8000000 in
theorem resize_l (A : Option Addr) (C : Nat) (sz cols : Int) (xs : List Cl) (w : World) (rd : Rd encC 3 w A xs) :
    Calls Tryz.prog 86 #[lineV A xs.length C sz, .int .i64 cols] w (NewL w (resR xs (newN cols)) sz) := by
  have NW := Lib.hid (fun w' => new_l cols w')
  have X := Lib.hid rd
  have hn : newN cols ≤ 500 := by unfold newN; omega
  generalize newN cols = n at NW hn ⊢
  clear rd
  go_enter Tryz.func86, Tryz.ntmps86
  go_upto_region 2 with (first
    | (go_at_call 110
       (with_reducible refine (NW.out _).mono ?_)
       rintro _ _ ⟨A1, c1, x1, rfl, rfl, hO1⟩
       have hO := Lib.hid hO1
       clear hO1))
  have hW2 : ∃ W2, W2 = (w.alloc (.cells #[.slice A xs.length C, .int .i64 sz] 67)).alloc (.cells #[.slice none 0 0, .int .i64 0] 67) := ⟨_, rfl⟩
  obtain ⟨W2, hW⟩ := hW2
  have hWz : W2.heap.size = w.heap.size + 1 + 1 := by rw [hW]; simp [go_sem]
  have hWb : Below w.heap.size w W2 := by rw [hW]; (repeat' (first | (with_reducible exact Below.refl _ _) | (with_reducible refine Below.alloc ?_ ?_ _) | (with_reducible refine below_ext ?_ ?_ _) | (with_reducible refine Below.drew ?_) | (with_reducible refine below_drewN ?_ _) | (with_reducible refine Below.setCell ?_ ?_ _) | go_size | (simp only [go_sem]; omega) | (simp [go_sem]; done) | (simp [go_sem]; omega)))
  have l0 : W2.cell? ⟨w.heap.size, 0, none⟩ = some (.slice A xs.length C) := by rw [hW]; simp [go_sem]
  have l1 : W2.cell? ⟨w.heap.size, 1, none⟩ = some (.int .i64 sz) := by rw [hW]; simp [go_sem]
  have r0 : W2.cell? ⟨w.heap.size + 1, 0, none⟩ = some (.slice none 0 0) := by rw [hW]; simp [go_sem]
  have r1 : W2.cell? ⟨w.heap.size + 1, 1, none⟩ = some (.int .i64 0) := by rw [hW]; simp [go_sem]
  have rz : ∀ i, W2.frozen? ⟨w.heap.size + 1, i, none⟩ = false := by intro i; rw [hW]; simp [go_sem]
  rw [← hW] at hO ⊢
  have hO3 := hO.out
  rw [List.length_replicate] at hO3
  have hR := Lib.hid (RowAt.mk' (n := n) (sz := 0) (by rw [List.length_replicate]) hO3 (Nat.le_refl _))
  clear hO3
  have hzi : ∀ i, ((ext W2 x1).alloc (.cells #[.slice A1 n c1, .int .i64 0] 67)).frozen? ⟨W2.heap.size + x1.sz, i, none⟩ = false := fun i => by simp [go_sem]
  have hat := Lib.hid (fun (h0 : 0 < n) => hO.out.at0 (by rw [List.length_replicate]; exact h0))
  have hrz : w.heap.size + 1 + 1 + x1.sz = W2.heap.size + x1.sz := by omega
  rw [hrz]
  have hWs : w.heap.size + 1 < W2.heap.size := by omega
  have F0 := Lib.hid (⟨r0, r1, rz⟩ : _ ∧ _ ∧ _)
  clear hW hO hrz r0 r1 rz hWz
  generalize W2.heap.size + x1.sz = H at hR hzi ⊢
  generalize (ext W2 x1).alloc (.cells #[.slice A1 n c1, .int .i64 0] 67) = wr at hR hzi ⊢
  have XR := Lib.hid (X.out.below (hWb.trans (hR.out.below.mono hWb.size)))
  have hS := hR.out.below.size
  replace l0 := hR.out.old (by omega) l0
  replace l1 := hR.out.old (by omega) l1
  have q0 := hR.out.h0
  have hHs := hR.out.lt
  have hH0 : w.heap.size ≠ H := by have := hR.out.ge; omega
  obtain ⟨w2, hrun, hO2, hB2, hs2, hf2⟩ := run_copy_lay (P := Tryz.prog) (size := 3) (enc := encC) (w := wr) 65 65 3 60 Tryz.underlying65 (by kernel_rfl) encC_len encC_one A1 A n c1 C xs 60 W2.heap.size A1 (List.replicate n erC).length c1 _ hR.out.own 0 (fun h0 => by obtain ⟨g, e, _⟩ := hat.out h0; exact ⟨g, e, by rw [e, Nat.zero_mul]⟩) (by rw [List.length_take, List.length_replicate]; omega) XR.out
  have hR2 := hR.out.copied (layOn_len _ _ _ (by rw [List.length_take, List.length_replicate]; omega)) hO2 hB2 hs2 hf2
  have hH1 := hf2 H (fun e => hR.out.ne H e rfl)
  have l1' : w2.cell? ⟨w.heap.size, 1, none⟩ = some (.int .i64 sz) := by
    refine (hB2.cell (p := ⟨w.heap.size, 1, none⟩) (by show w.heap.size < W2.heap.size; omega)).trans l1
  have k1 := hR2.h1
  have kz : ∀ i, w2.frozen? ⟨H, i, none⟩ = false := fun i => by rw [frozen_of_heap hH1]; exact hzi i
  have hH2 := hR2.lt
  rw [List.length_replicate] at q0
  try simp only [List.length_replicate]
  go_upto_region 3 with (fail)
  have hR3 := Lib.hid (hR2.sized sz)
  clear hR2 hR hO2 hB2 hrun hzi q0 hat XR l0 l1 hHs
  have hR3' : Hid (RowAt W2 (w2.setCell ⟨H, 1, none⟩ (.int .i64 sz)) H A1 c1 sz (resR xs n)) := hR3
  go_upto_region 4 with (fail)
  clear k1 kz hH1 hf2 hs2 hR3 l1' hH2
  generalize w2.setCell ⟨H, 1, none⟩ (.int .i64 sz) = wz at hR3' ⊢
  have q0 := hR3'.out.h0
  have q1 := hR3'.out.h1
  have hHs := hR3'.out.lt
  obtain ⟨s0, s1, rz⟩ := F0.out
  have sz0 := fun i => (hR3'.out.below.frozen (p := ⟨w.heap.size + 1, i, none⟩) hWs).trans (rz i)
  obtain ⟨W3, e3, t0, t1, t4⟩ := hR3'.out.fin hWb (by omega) hWs s0 s1
  replace s0 := hR3'.out.old (by omega) s0
  replace s1 := hR3'.out.old (by omega) s1
  clear rz
  go_wp2
  simp [bodyPost, go_sem, t0, t1]
  exact ⟨_, by simp [results, Tryz.f86, go_sem, t0, t1] <;> rfl, t4⟩
end Go.Proofs.YtignkkejkknddaaGreat
/- Lines: the reference makes them longer and shorter.  -/
namespace Go.Proofs.YtignkkejkknddaaGreat
open Go.RowKit
set_option linter.unusedVariables false
set_option linter.unusedSimpArgs false

set_option maxRecDepth 100000 in
set_option maxHeartbeats 8000000 in
theorem resize_r (A : Option Addr) (C : Nat) (sz cols : Int) (xs : List Cl) (w : World) (rd : Rd encC 3 w A xs) (hm : xs.length ≤ 1000000) :
    Calls Tryz.prog 112 #[lineV A xs.length C sz, .int .i64 cols] w (NewL w (resR xs (newN cols)) sz) := by
  have NW := Lib.hid (fun w' => new_r cols w')
  have X := Lib.hid rd
  have hn : newN cols ≤ 500 := by unfold newN; omega
  generalize newN cols = n at NW hn ⊢
  clear rd
  go_enter Tryz.func112, Tryz.ntmps112
  go_upto_region 2 with (first
    | (go_at_call 129
       (with_reducible refine (NW.out _).mono ?_)
       rintro _ _ ⟨A1, c1, x1, rfl, rfl, hO1⟩
       have hO := Lib.hid hO1
       clear hO1))
  have hW2 : ∃ W2, W2 = (w.alloc (.cells #[.slice A xs.length C, .int .i64 sz] 67)).alloc (.cells #[.slice none 0 0, .int .i64 0] 67) := ⟨_, rfl⟩
  obtain ⟨W2, hW⟩ := hW2
  have hWz : W2.heap.size = w.heap.size + 1 + 1 := by rw [hW]; simp [go_sem]
  have hWb : Below w.heap.size w W2 := by rw [hW]; (repeat' (first | (with_reducible exact Below.refl _ _) | (with_reducible refine Below.alloc ?_ ?_ _) | (with_reducible refine below_ext ?_ ?_ _) | (with_reducible refine Below.drew ?_) | (with_reducible refine below_drewN ?_ _) | (with_reducible refine Below.setCell ?_ ?_ _) | go_size | (simp only [go_sem]; omega) | (simp [go_sem]; done) | (simp [go_sem]; omega)))
  have l0 : W2.cell? ⟨w.heap.size, 0, none⟩ = some (.slice A xs.length C) := by rw [hW]; simp [go_sem]
  have l1 : W2.cell? ⟨w.heap.size, 1, none⟩ = some (.int .i64 sz) := by rw [hW]; simp [go_sem]
  have r0 : W2.cell? ⟨w.heap.size + 1, 0, none⟩ = some (.slice none 0 0) := by rw [hW]; simp [go_sem]
  have r1 : W2.cell? ⟨w.heap.size + 1, 1, none⟩ = some (.int .i64 0) := by rw [hW]; simp [go_sem]
  have rz : ∀ i, W2.frozen? ⟨w.heap.size + 1, i, none⟩ = false := by intro i; rw [hW]; simp [go_sem]
  rw [← hW] at hO ⊢
  have hO3 := hO.out
  rw [List.length_replicate] at hO3
  have hR := Lib.hid (RowAt.mk' (n := n) (sz := 0) (by rw [List.length_replicate]) hO3 (Nat.le_refl _))
  clear hO3
  have hzi : ∀ i, ((ext W2 x1).alloc (.cells #[.slice A1 n c1, .int .i64 0] 67)).frozen? ⟨W2.heap.size + x1.sz, i, none⟩ = false := fun i => by simp [go_sem]
  have hrz : w.heap.size + 1 + 1 + x1.sz = W2.heap.size + x1.sz := by omega
  rw [hrz]
  have hWs : w.heap.size + 1 < W2.heap.size := by omega
  have F0 := Lib.hid (⟨l0, l1, r0, r1, rz⟩ : _ ∧ _ ∧ _ ∧ _ ∧ _)
  clear hW hO hrz l0 l1 r0 r1 rz hWz
  generalize W2.heap.size + x1.sz = H at hR hzi ⊢
  generalize (ext W2 x1).alloc (.cells #[.slice A1 n c1, .int .i64 0] 67) = wr at hR hzi ⊢
  go_wp2
  go_loopw [6] (fun iv wr => ∃ (j : Nat), j ≤ n ∧ j ≤ xs.length ∧ iv = .int .i64 j ∧ Hid (RowAt W2 wr H A1 c1 0 (updR (List.replicate n erC) (fun i => decide (i < xs.length)) (fun i _ => xs.getD i noC) j)) ∧ Hid (∀ i, wr.frozen? ⟨H, i, none⟩ = false)) (fun iv _ => n - (intOf iv).toNat)
  case atStart => exact ⟨0, by omega, by omega, rfl, by rw [updR_zero]; exact hR, Lib.hid hzi⟩
  case round =>
    obtain ⟨j, hj, hj2, rfl, hR, hz⟩ := hrel
    obtain ⟨l0, l1, r0, r1, rz⟩ := F0.out
    have hS := hR.out.below.size
    replace l0 := hR.out.old (by omega) l0
    replace l1 := hR.out.old (by omega) l1
    have hs0 : w.heap.size < wr.heap.size := by omega
    have q0 := hR.out.h0
    have hHs := hR.out.lt
    rw [updR_len, List.length_replicate] at q0
    by_cases h1 : j < n
    · by_cases h2 : j < xs.length
      · clear r0 r1 rz
        obtain ⟨g, rfl, hg1, hg2, hgH, hc1, hc2, d0, d1, d2, z0, z1, z2⟩ := hR.out.at (j := j) (by rw [updR_len, List.length_replicate]; exact h1)
        rw [updR_len, List.length_replicate] at hc1
        obtain ⟨b1, o1, rfl, hb1, e0, e1, e2⟩ := (X.out.below (hWb.trans (hR.out.below.mono hWb.size))).cell3 h2
        have hFj := Lib.hid (updR_yes (List.replicate n erC) (fun i => decide (i < xs.length)) (fun i _ => xs.getD i noC) j (by simpa using h2) (by rw [List.length_replicate]; exact h1))
        rw [show xs.getD j noC = xs[j] by rw [List.getD_eq_getElem?_getD, List.getElem?_eq_getElem h2]; rfl] at hFj
        generalize xs[j] = y at e0 e1 e2 hFj
        obtain ⟨yg, yr, yk⟩ := y
        simp only at e0 e1 e2
        have i3 : (0 : Int) ≤ (j : Int) := by omega
        have i4 : (j : Int) < (xs.length : Int) := by omega
        have i5 : (j : Int) < (n : Int) := by omega
        go_wp2
        (refine wp_region_tail 9 (by kernel_rfl) (by kernel_rfl) ?_; simp only [List.take_succ_cons, List.take_zero, List.drop_succ_cons, List.drop_zero])
        repeat (go_big_quiet_step (fail))
        refine wpQuiet_nil ?_; rintro _ ⟨x3, rfl⟩
        go_wp2
        have hR2 := hR.out.set (j := j) (by rw [updR_len, List.length_replicate]; exact h1) ⟨yg, yr, yk⟩
        rw [← hFj.out] at hR2
        refine ⟨⟨j + 1, by omega, by omega, by go_num, Lib.hid ?_, Lib.hid ?_⟩, by simp [intOf]; omega⟩
        · exact hR2.more x3
        · intro i
          have h5 := hz.out i
          simp [go_sem, h5, hHs]
      · have hX : updR (List.replicate n erC) (fun i => decide (i < xs.length)) (fun i _ => xs.getD i noC) j = resR xs n := res_upd xs n j (.inr ⟨by omega, by omega⟩)
        go_upto_region 6 with (fail)
        rw [hX] at hR
        have hR3 := Lib.hid (hR.out.sized sz)
        have k1 := hR.out.h1
        have kz := hz.out
        go_upto_region 7 with (fail)
        clear k1 kz l0 l1 q0 hHs hR
        generalize wr.setCell ⟨H, 1, none⟩ (.int .i64 sz) = wz at hR3 ⊢
        have q0 := hR3.out.h0
        have q1 := hR3.out.h1
        have hHs := hR3.out.lt
        have sz0 := fun i => (hR3.out.below.frozen (p := ⟨w.heap.size + 1, i, none⟩) hWs).trans (rz i)
        obtain ⟨W3, e3, t0, t1, t4⟩ := hR3.out.fin hWb (by omega) hWs r0 r1
        have s0 := hR3.out.old (by omega) r0
        have s1 := hR3.out.old (by omega) r1
        clear rz r0 r1
        rw [resR_len] at q0 e3 t0 t4
        go_wp2
        simp [bodyPost, go_sem, t0, t1]
        exact ⟨_, by simp [results, Tryz.f112, go_sem, t0, t1] <;> rfl, t4⟩
    · have hX : updR (List.replicate n erC) (fun i => decide (i < xs.length)) (fun i _ => xs.getD i noC) j = resR xs n := res_upd xs n j (.inl (by omega))
      go_upto_region 6 with (fail)
      rw [hX] at hR
      have hR3 := Lib.hid (hR.out.sized sz)
      have k1 := hR.out.h1
      have kz := hz.out
      go_upto_region 7 with (fail)
      clear k1 kz l0 l1 q0 hHs hR
      generalize wr.setCell ⟨H, 1, none⟩ (.int .i64 sz) = wz at hR3 ⊢
      have q0 := hR3.out.h0
      have q1 := hR3.out.h1
      have hHs := hR3.out.lt
      have sz0 := fun i => (hR3.out.below.frozen (p := ⟨w.heap.size + 1, i, none⟩) hWs).trans (rz i)
      obtain ⟨W3, e3, t0, t1, t4⟩ := hR3.out.fin hWb (by omega) hWs r0 r1
      have s0 := hR3.out.old (by omega) r0
      have s1 := hR3.out.old (by omega) r1
      clear rz r0 r1
      rw [resR_len] at q0 e3 t0 t4
      go_wp2
      simp [bodyPost, go_sem, t0, t1]
      exact ⟨_, by simp [results, Tryz.f112, go_sem, t0, t1] <;> rfl, t4⟩
end Go.Proofs.YtignkkejkknddaaGreat
/- Lines: the plain laws of moving back and of moving twice.  -/
namespace Go.Proofs.YtignkkejkknddaaGreat
open Go.RowKit
set_option linter.unusedVariables false
set_option linter.unusedSimpArgs false

theorem inS_iff {n : Nat} {i f t : Int} : inS n i f t = true ↔ (0 ≤ i ∧ i < n ∧ f ≤ i ∧ i < t) := by unfold inS; simp
end Go.Proofs.YtignkkejkknddaaGreat
