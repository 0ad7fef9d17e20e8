/- Lines: the reference's new ones. -/
import Derived.Test.YtdlngbmgcedbpaaLine23
import Derived.Deep.RegionLaw
namespace Go.Proofs.Ytdlngbmgcedbpaa
open Go.RowKit
set_option linter.unusedVariables false
set_option linter.unusedSimpArgs false

section
variable {α : Type} {enc : α → List Value} {size : Nat} {P : Program}
theorem run_append_far2 (U w : World) (t ty e : TypeId) (z : Value) (bytes : Nat) (ht : P.underlying t = some (.slice e)) (hinfo : (P.info? e).map (fun i => (i.zero, i.size, i.bytes)) = some (some z, size, bytes))
    (hzs : z.cells.size = size) (hsz : 0 < size) (henc : ∀ y, (enc y).length = size) (hone : ∀ y, ∀ u ∈ enc y, u.oneCell' = true) (xs ys : List α) (v : Value) (A : Option Addr) (c : Nat)
    (hU : Below U.heap.size U w) (hown : Own enc size e U.heap.size w v xs) (hr : Rd enc size w A ys) (h63 : xs.length + ys.length ≤ maxLen) (hb : (xs.length + ys.length) * bytes ≤ 140737488355328) :
    ∃ A' c' x', (Builtin.append_ #[t, t] ty #[v, .slice A ys.length c]).run P w = .ok (.slice A' (xs ++ ys).length c') (ext U x') ∧ Own enc size e U.heap.size (ext U x') (.slice A' (xs ++ ys).length c') (xs ++ ys) ∧
      Far w (ext U x') v (.slice A' (xs ++ ys).length c') ∧ ∀ b, b < w.heap.size → v.ownBlock ≠ some b → (ext U x').heap[b]? = w.heap[b]? := by
  obtain ⟨i, hi, hz, hsize, hby⟩ := info_parts hinfo
  rcases Nat.eq_zero_or_pos ys.length with h0 | h0
  · have hys : ys = [] := List.eq_nil_of_length_eq_zero h0
    subst hys
    obtain ⟨A0, c0, rfl, hc0, hc1⟩ := hown.form
    obtain ⟨x', rfl⟩ := ext_of hU
    refine ⟨A0, c0, x', ?_, by simpa using hown, ⟨Nat.le_refl _, fun _ _ _ _ => rfl, fun b _ hne => by simpa using hne⟩, fun _ _ _ => rfl⟩
    rcases hown.2 with ⟨h1, hn⟩ | ⟨g, cap, cur, h1, hB, hg, h2, h3, h4, h5⟩
    · rw [h1]
      have hx : xs = [] := List.eq_nil_of_length_eq_zero hn
      subst hx
      injection h1 with e1 _ e3
      subst e1 e3
      cases A <;> simp [Builtin.append_, run_underlying ht, sizeOf, typeInfo, hi, Builtin.lenOf, Builtin.firstCells, loadCells, loadCellsFrom]
    · injection h1 with e1 e2 e3
      subst e1 e3
      cases A <;> simp [Builtin.append_, run_underlying ht, sizeOf, typeInfo, hi, Builtin.lenOf, Builtin.firstCells, hc0, storeCells, loadCells, loadCellsFrom]
  · obtain ⟨b, off, rfl, hlt, hc⟩ := hr h0
    have hl := flat_len henc ys
    have hnews : ∀ j u, (ys.flatMap enc)[j]? = some u → w.cell? ((⟨b, off, none⟩ : Addr).add j) = some u := by
      intro j u hu
      have hj : j < ys.length * size := by rw [← hl]; exact (List.getElem?_eq_some_iff.1 hu).1
      obtain ⟨i', j', hi', hj', rfl, he⟩ := flat_at henc ys j hj
      rw [addr_add]
      exact hc i' hi' j' u (he ▸ hu)
    have h1 : ∀ u ∈ ys.flatMap enc, u.oneCell' = true := by
      intro u hu
      obtain ⟨y, _, hy⟩ := List.mem_flatMap.1 hu
      exact hone y u hy
    obtain ⟨v', w', hrun, hown', hgr, _, hbl⟩ := run_append_own_at (P := P) w U.heap.size t ty e i z size bytes ht hi hz hsize hby hzs hsz v xs.length _ hown ⟨b, off, none⟩ ys.length c _ hl hnews h1 h63 hb hU.size
    have hB : Below U.heap.size U w' := hU.grown hgr hU.size (fun k hk => (hown.lt k hk).1)
    obtain ⟨x', rfl⟩ := ext_of hB
    have hO : Own enc size e U.heap.size (ext U x') v' (xs ++ ys) := by
      unfold Own
      rw [List.length_append, List.flatMap_append]
      exact hown'
    obtain ⟨A', c', rfl, _, _⟩ := hO.form
    refine ⟨A', c', x', hrun, hO, ⟨hgr.size, fun b hb hne i => hgr.cell_far ⟨b, i, none⟩ hb (fun e => hne e.symm), fun b hb hne he => ?_⟩, fun b hb hne => hgr.block b hb (fun e => hne e.symm)⟩
    rcases hbl with h | h
    · exact hne (h.symm.trans he)
    · rw [h] at he; simp at he; omega

theorem step_append_far {U w : World} {ops : Array Oper} {o : Oper} {a : Act} {K : Act → World → Prop} {Q : Exit → Act → World → Prop} {E : Prop} (s x : Operand) (t e : TypeId) (z : Value) (bytes : Nat)
    (hgd : o.guard = none) (ho : o.op = .call { callee := .builtin .append, args := #[s, x], argTypes := #[t, t] })
    (ht : P.underlying t = some (.slice e)) (hinfo : (P.info? e).map (fun i => (i.zero, i.size, i.bytes)) = some (some z, size, bytes)) (hzs : z.cells.size = size) (hsz : 0 < size)
    (henc : ∀ y, (enc y).length = size) (hone : ∀ y, ∀ u ∈ enc y, u.oneCell' = true) (xs ys : List α) (v : Value) (A : Option Addr) (c : Nat) (hs : a.eval s = v) (hx : a.eval x = .slice A ys.length c)
    (hU : Below U.heap.size U w) (hown : Own enc size e U.heap.size w v xs) (hr : Rd enc size w A ys) (h63 : xs.length + ys.length ≤ maxLen) (hb : (xs.length + ys.length) * bytes ≤ 140737488355328)
    (h : ∀ A' c' x' zs, zs = xs ++ ys → Own enc size e U.heap.size (ext U x') (.slice A' zs.length c') zs → Far w (ext U x') v (.slice A' zs.length c') → (∀ b, b < w.heap.size → v.ownBlock ≠ some b → (ext U x').heap[b]? = w.heap[b]?) → K (a.put o.dst (.slice A' zs.length c')) (ext U x')) :
    if Region.wanted o (yielded ops a.tmps) = true then Oper.wp P o a w K Q else E := by
  have hw : Region.wanted o (yielded ops a.tmps) = true := by simp [Region.wanted, hgd]
  rw [if_pos hw]
  obtain ⟨A', c', x', hrun, hO, hF, hG⟩ := run_append_far2 (P := P) U w t o.type e z bytes ht hinfo hzs hsz henc hone xs ys v A c hU hown hr h63 hb
  unfold Oper.wp execOp
  simp only [ho, resolve, invoke, builtin, Sem.run_bind, Sem.run_pure, Result.andThen_ok, List.map_toArray, List.map_cons, List.map_nil, hs, hx, hrun]
  exact h A' c' x' _ rfl hO hF hG
end
theorem RowAt.own_ne {W2 wr : World} {H c : Nat} {A : Option Addr} {sz : Int} {ys : List Cl} (h : RowAt W2 wr H A c sz ys) : (Value.slice A ys.length c).ownBlock ≠ some H := by
  intro e
  obtain ⟨g, rfl⟩ : ∃ g, A = some ⟨g, 0, none⟩ := by
    rcases h.own.2 with ⟨h1, _⟩ | ⟨g, cap, cur, hv, _⟩
    · rw [h1] at e; cases e
    · injection hv with e1 _ _
      exact ⟨g, e1⟩
  have e2 : some g = some H := e
  injection e2 with e2
  exact h.ne g rfl e2
theorem NewL.more {w w' : World} {xs : List Cl} {sz : Int} {e : Ending} (h : NewL w xs sz e w') (x : More) : NewL w xs sz e (ext w' x) := by
  obtain ⟨A', c', y, e1, rfl, hO⟩ := h
  refine ⟨A', c', ⟨y.objs ++ x.objs, x.drawn⟩, e1, ext_ext w y x, ?_⟩
  rw [← ext_ext]
  exact Own.ext hO x
theorem RowAt.appended {W2 wr w' : World} {H c c' : Nat} {A A' : Option Addr} {sz : Int} {ys zs : List Cl} (h : RowAt W2 wr H A c sz ys) (hb : Below W2.heap.size W2 w') (hO : Own encC 3 87 W2.heap.size w' (.slice A' zs.length c') zs) (hF : Far wr w' (.slice A ys.length c) (.slice A' zs.length c')) :
    RowAt W2 (w'.setCell ⟨H, 0, none⟩ (.slice A' zs.length c')) H A' c' sz zs := by
  have hne : (Value.slice A ys.length c).ownBlock ≠ some H := by
    intro e
    obtain ⟨g, rfl⟩ : ∃ g, A = some ⟨g, 0, none⟩ := by
      rcases h.own.2 with ⟨h1, _⟩ | ⟨g, cap, cur, hv, _⟩
      · rw [h1] at e; cases e
      · injection hv with e1 _ _
        exact ⟨g, e1⟩
    have e2 : some g = some H := e
    injection e2 with e2
    exact h.ne g rfl e2
  have hne2 := hF.block H h.lt hne
  have hc := hF.cell H h.lt hne
  have k0 := (hc 0).trans h.h0
  have k1 := (hc 1).trans h.h1
  refine ⟨hb.setCell (by simpa using h.ge) _, h.ge, by simpa using Nat.lt_of_lt_of_le h.lt hF.size, World.cell?_setCell_same _ _ _ k0, (World.cell?_setCell_other _ _ _ _ (by simp)).trans k1, ?_, ?_⟩
  · rintro b rfl e
    subst e
    exact hne2 rfl
  · refine ⟨hO.1, ?_⟩
    rcases hO.2 with hn | ⟨g, cap, cur, hv, hBg, hg, rest⟩
    · exact .inl hn
    · refine .inr ⟨g, cap, cur, hv, hBg, ?_, rest⟩
      rw [Below.heap_setCell _ _ _ _ (fun e => ?_)]
      · exact hg
      · simp at e
        subst e
        rw [hv] at hne2
        exact hne2 rfl
set_option maxRecDepth 100000 in
set_option maxHeartbeats 8000000 in
theorem new_r (cols : Int) (w : World) : Calls Try.prog 62 #[.int .i64 cols] w (NewL w (List.replicate (newN cols) erC) 0) := by
  have e : clampR cols 0 500 = ((newN cols : Nat) : Int) := by unfold newN clampR; split <;> (try split) <;> omega
  have hn : newN cols ≤ 500 := by unfold newN; omega
  have CA := Lib.hid (fun w' => clamp_l cols 0 500 w')
  rw [e] at CA
  generalize newN cols = n at CA hn ⊢
  clear e
  go_enter Try.func62, Try.ntmps62
  go_wp2
  have hW2 : ∃ W2, W2 = w.alloc (.cells #[.slice none 0 0, .int .i64 0] 70) := ⟨_, rfl⟩
  obtain ⟨W2, hW⟩ := hW2
  have hWz : W2.heap.size = w.heap.size + 1 := by rw [hW]; simp [go_sem]
  have hWb : Below w.heap.size w W2 := by rw [hW]; (repeat' (first | (with_reducible exact Below.refl _ _) | (with_reducible refine Below.alloc ?_ ?_ _) | (with_reducible refine below_ext ?_ ?_ _) | (with_reducible refine Below.drew ?_) | (with_reducible refine below_drewN ?_ _) | (with_reducible refine Below.setCell ?_ ?_ _) | go_size | (simp only [go_sem]; omega) | (simp [go_sem]; done) | (simp [go_sem]; omega)))
  have r0 : W2.cell? ⟨w.heap.size, 0, none⟩ = some (.slice none 0 0) := by rw [hW]; simp [go_sem]
  have r1 : W2.cell? ⟨w.heap.size, 1, none⟩ = some (.int .i64 0) := by rw [hW]; simp [go_sem]
  have rz : ∀ i, W2.frozen? ⟨w.heap.size, i, none⟩ = false := by intro i; rw [hW]; simp [go_sem]
  rw [← hW, ← hWz]
  have hWs : w.heap.size < W2.heap.size := by omega
  have F0 := Lib.hid (⟨r0, r1, rz⟩ : _ ∧ _ ∧ _)
  have hR : Hid (RowAt W2 (W2.alloc (.cells #[.slice none 0 0, .int .i64 0] 70)) W2.heap.size none 0 0 ([] : List Cl)) := Lib.hid ⟨(Below.refl _ _).alloc (Nat.le_refl _) _, Nat.le_refl _, by simp, by simp [go_sem], by simp [go_sem], fun b e => (by cases e), Own.nil _ _ _ _ _⟩
  have hzi : Hid ((W2.alloc (.cells #[.slice none 0 0, .int .i64 0] 70)).frozen? ⟨W2.heap.size, 0, none⟩ = false) := Lib.hid (by simp [go_sem])
  generalize W2.alloc (.cells #[.slice none 0 0, .int .i64 0] 70) = wi at hR hzi ⊢
  generalize W2.heap.size = H at hR hzi ⊢
  clear hW r0 r1 rz hWz
  go_loopw [4] (fun iv wr => ∃ (j : Nat) (A : Option Addr) (c : Nat), j ≤ n ∧ iv = .int .i64 j ∧ Hid (RowAt W2 wr H A c 0 (List.replicate j erC)) ∧ Hid (wr.frozen? ⟨H, 0, none⟩ = false)) (fun iv _ => n - (intOf iv).toNat)
  case atStart => exact ⟨0, none, 0, by omega, rfl, hR, hzi⟩
  case round =>
    obtain ⟨j, A, c, hj, rfl, hR, hzr⟩ := hrel
    by_cases hlt : j < n
    · have q0 := hR.out.h0
      have hHs := hR.out.lt
      rw [List.length_replicate] at q0
      have hzH := hzr.out
      go_wp2_with (go_at_call 57; ((with_reducible refine (CA.out _).mono ?_); rintro _ _ hgets; obtain ⟨rfl, x2, rfl⟩ := hgets.get; clear hgets))
      replace hR := Lib.hid (hR.out.more x2)
      have hHv : H < (ext wr x2).heap.size := by simp; omega
      replace q0 := (cell_ext wr x2 _ _ hHs).trans q0
      have q1 := hR.out.h1
      replace hzH := (frozen_ext wr x2 _ _ hHs).trans hzH
      clear hHs
      generalize ext wr x2 = V at hR hHv q0 q1 hzH ⊢
      go_region_law ((first
        | (go_simp; (go_at_call 104; ((with_reducible refine (erased_r _).mono ?_); rintro _ _ hgets; obtain ⟨rfl, x5, rfl⟩ := hgets.get; clear hgets)))
        | (refine step_append_far (U := W2) (.tmp 12) (.tmp 14) 68 87 _ 8 rfl rfl Try.underlying68 cell_info rfl (by omega) encC_len encC_one (List.replicate j erC) [erC] (.slice A (List.replicate j erC).length c) _ 1 ?_ rfl ?_ ?_ ?_ ?_ ?_ ?_
           · rw [List.length_replicate]; rfl
           · refine Below.trans hR.out.below (Below.mono (B := V.heap.size) ?_ hR.out.below.size)
             (repeat' (first | (with_reducible exact Below.refl _ _) | (with_reducible refine Below.alloc ?_ ?_ _) | (with_reducible refine below_ext ?_ ?_ _) | (with_reducible refine Below.drew ?_) | (with_reducible refine below_drewN ?_ _) | (with_reducible refine Below.setCell ?_ ?_ _) | go_size | (simp only [go_sem]; omega) | (simp [go_sem]; done) | (simp [go_sem]; omega)))
           · exact (hR.out.own.ext _).alloc _
           · exact cell_new _ erC (by simp [go_sem])
           · rw [List.length_replicate]; simp [maxLen]; omega
           · rw [List.length_replicate]; simp; omega
           intro A' c' x' zs hz hO hF hG
           have hO2 := Lib.hid hO
           have hF2 := Lib.hid hF
           have g0 := hG H (by simp; omega) (by have := hR.out.own_ne; exact this)
           have g1 : (ext W2 x').cell? ⟨H, 0, none⟩ = some (.slice A j c) := by rw [cell_of_heap g0]; simp [go_sem, hHv, q0]
           have g2 : (ext W2 x').frozen? ⟨H, 0, none⟩ = false := by rw [frozen_of_heap g0]; simp [go_sem, hHv, hzH]
           clear hO hF hG g0)))
      all_goals go_wp2
      all_goals
        have hR3 := RowAt.appended ((hR.out.more x5).alloc _) (below_of_ext W2 x') hO2.out hF2.out
        have hz2 : zs = List.replicate (j + 1) erC := by rw [hz, List.replicate_succ']
        rw [hz2] at hR3
        simp only [List.length_replicate] at hR3
        exact ⟨⟨j + 1, A', c', by omega, by go_num, Lib.hid hR3, Lib.hid (by simp [go_sem, g2])⟩, by simp [intOf]; omega⟩
    · obtain rfl : j = n := by omega
      have q0 := hR.out.h0
      have q1 := hR.out.h1
      have hHs := hR.out.lt
      rw [List.length_replicate] at q0
      obtain ⟨s0, s1, rz⟩ := F0.out
      have sz0 := fun i => (hR.out.below.frozen (p := ⟨w.heap.size, i, none⟩) hWs).trans (rz i)
      have hws := Nat.lt_of_lt_of_le hWs hR.out.below.size
      have hR2 := hR.out
      replace s0 := hR2.old hWs s0
      replace s1 := hR2.old hWs s1
      clear rz
      obtain ⟨W3, e3, t0, t1, t4⟩ := hR2.fin hWb (Nat.le_refl _) hWs F0.out.1 F0.out.2.1
      rw [List.length_replicate] at e3 t0 t4
      have hW3 := World.block_lt_of_cell? W3 _ t0
      go_wp2_with (go_at_call 57; ((with_reducible refine (CA.out _).mono ?_); rintro _ _ hgets; obtain ⟨rfl, x2, rfl⟩ := hgets.get; clear hgets))
      replace t0 := (cell_ext W3 x2 _ _ hW3).trans t0
      replace t1 := (cell_ext W3 x2 _ _ hW3).trans t1
      simp [bodyPost, go_sem, t0, t1]
      exact ⟨_, by simp [results, Try.f62, go_sem, t0, t1] <;> rfl, t4.more x2⟩
end Go.Proofs.Ytdlngbmgcedbpaa
