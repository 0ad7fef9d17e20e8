/- Pages: rows that move within a box: what lies in memory meanwhile.  -/
import Derived.Test.YtdfiknemfpkdmaaPgEach
import Derived.Test.YtdfiknemfpkdmaaLineE
import Derived.Test.YtdfiknemfpkdmaaRegionF
import Derived.Test.YtdfiknemfpkdmaaLineB
namespace Go.Proofs.Ytdfiknemfpkdmaa
open Go.RowKit
set_option linter.unusedVariables false
set_option linter.unusedSimpArgs false

/-- a list of lines that is read alone: at block Lw, its lines in blocks other than L -/
structure WasAt (w : World) (L Lw : Nat) (S : PgS) : Prop where
  ex : ∃ c rows, Own encM 2 54 0 w (.slice (some ⟨Lw, 0, none⟩) rows.length c) rows ∧ rows.map RowM.val = S.rows ∧ (∀ r ∈ rows, r.At w) ∧ ∀ r ∈ rows, r.g ≠ L
  ne : Lw ≠ L
  lt : Lw < w.heap.size
section
variable {w w' W wr : World} {F G : Nat → Prop} {p L Lw n c i g k : Nat} {S T : PgS} {rows : List RowM} {xs : List Cl} {z : Int} {A : Option Addr}
theorem WasAt.keep (h : WasAt w L Lw S) (hk : Keep (· = L) w w') : WasAt w' L Lw S := by
  obtain ⟨⟨c, rows, h1, h2, h3, h4⟩, h5, h6⟩ := h
  refine ⟨⟨c, rows, h1.keep fun k hv => ?_, h2, fun r hr => (h3 r hr).same (hk.block _ (h3 r hr).lt (h4 r hr)), h4⟩, h5, Nat.lt_of_lt_of_le h6 hk.size⟩
  injection hv with hv
  subst hv
  exact hk.block _ h6 h5
theorem WasAt.at (h : WasAt w L Lw S) (hi : i < S.rows.length) : ∃ g k xs z, S.rows[i] = (xs, z) ∧ RowM.At w ⟨g, k, xs, z⟩ ∧ xs.length ≤ k ∧ k ≤ maxLen ∧ w.cell? ⟨Lw, i * 2, none⟩ = some (.slice (some ⟨g, 0, none⟩) xs.length k) ∧ w.cell? ⟨Lw, i * 2 + 1, none⟩ = some (.int .i64 z) := by
  obtain ⟨⟨c, rows, h1, h2, h3, h4⟩, h5, h6⟩ := h
  have hi' : i < rows.length := by rw [← h2] at hi; simpa using hi
  have hr : rows[i]? = some rows[i] := List.getElem?_eq_getElem hi'
  have hv : rows[i].val = S.rows[i] := by simp only [← h2, List.getElem_map]
  have hA := h3 _ (List.getElem_mem hi')
  obtain ⟨b, off, e, _, hx⟩ := (Own.rd encM_len h1) (by omega)
  injection e with e
  injection e with e1 e2
  subst e1 e2
  have d0 := hx i hi' 0 rows[i].sl rfl
  have d1 := hx i hi' 1 (.int .i64 rows[i].z) rfl
  rw [Nat.zero_add] at d0 d1
  generalize rows[i] = r at hv hA d0 d1
  obtain ⟨g, k, xs, z⟩ := r
  exact ⟨g, k, xs, z, hv.symm, hA, hA.cap.1, hA.cap.2, d0, d1⟩
theorem PgO.mono (h : PgO w F p S A n c rows) (hF : ∀ b, F b → G b) (hG : ∀ b, G b → b < w.heap.size) : PgO w G p S A n c rows :=
  ⟨h.blk, h.l, h.len, h.nc, h.cm, h.val, fun b hb => hF b (h.ft b hb), hF p h.self, hG⟩
theorem PgO.grow (h : PgO w F p S A n c rows) (hb : Below w.heap.size w w') : PgO w' F p S A n c rows :=
  ⟨(hb.block p h.plt).trans h.blk, h.l.grow hb, h.len, h.nc, h.cm, h.val, h.ft, h.self, fun b hf => Nat.lt_of_lt_of_le (h.lt b hf) hb.size⟩
/-- a line that lies in a new block is stored into a slot -/
theorem PgO.setRow (h : PgO w F p S (Option.some ⟨L, 0, none⟩) n c rows) (hi : i < S.rows.length) (hb : Below w.heap.size w w') (hR : RowM.At w' ⟨g, k, xs, z⟩) (hg : w.heap.size ≤ g) :
    ∃ rows', PgO ((w'.setCell ⟨L, i * 2, none⟩ (.slice (Option.some ⟨g, 0, none⟩) xs.length k)).setCell ⟨L, i * 2 + 1, none⟩ (.int .i64 z)) (more F w w') p (setRowS S i (xs, z)) (Option.some ⟨L, 0, none⟩) n c rows' := by
  have hir : i < rows.length := by rw [← h.len, h.n]; exact hi
  have hfresh : ∀ s ∈ rows, s.g ≠ g := fun s hs e => by
    have := (h.l.row s hs).lt
    omega
  have hl := (h.l.grow hb).set hir hR hfresh
  have hpL : p ≠ L := fun e => h.off L (.inl rfl) e.symm
  refine ⟨_, ⟨?_, hl, by rw [List.length_set]; exact h.len, h.nc, h.cm, by rw [map_set_val, h.val]; rfl, fun b hb' => ?_, .inl h.self, fun b hb' => ?_⟩⟩
  · rw [Below.heap_setCell _ _ _ _ hpL, Below.heap_setCell _ _ _ _ hpL]
    exact (hb.block p h.plt).trans h.blk
  · rcases hb' with hb' | ⟨s, hs, rfl⟩
    · exact .inl (h.ft b (.inl hb'))
    · rcases List.mem_or_eq_of_mem_set hs with hs | rfl
      · exact .inl (h.ft _ (.inr ⟨s, hs, rfl⟩))
      · exact .inr ⟨hg, hR.lt⟩
  · rcases hb' with hb' | hb'
    · have := h.lt b hb'
      have := hb.size
      simp; omega
    · simpa using hb'.2
/-- a variable that holds a line -/
def VarL (w : World) (H : Nat) (xs : List Cl) (z : Int) : Prop := ∃ g k, w.heap[H]? = some (.cells #[.slice (some ⟨g, 0, none⟩) xs.length k, .int .i64 z] 54 (0, 0)) ∧ RowM.At w ⟨g, k, xs, z⟩
theorem VarL.at {H : Nat} (h : VarL w H xs z) : ∃ g k, w.cell? ⟨H, 0, none⟩ = some (.slice (some ⟨g, 0, none⟩) xs.length k) ∧ w.cell? ⟨H, 1, none⟩ = some (.int .i64 z) ∧ RowM.At w ⟨g, k, xs, z⟩ ∧ H < w.heap.size ∧ (∀ q, w.frozen? ⟨H, q, none⟩ = false) ∧ xs.length ≤ k ∧ k ≤ maxLen := by
  obtain ⟨g, k, h1, h2⟩ := h
  exact ⟨g, k, by rw [cell_in h1]; rfl, by rw [cell_in h1]; rfl, h2, heap_in h1, fun q => frozen_in h1, h2.cap.1, h2.cap.2⟩
theorem VarL.grow {H : Nat} (h : VarL w H xs z) (hb : Below w.heap.size w w') : VarL w' H xs z := by
  obtain ⟨g, k, h1, h2⟩ := h
  exact ⟨g, k, (hb.block H (heap_in h1)).trans h1, h2.grow hb⟩
/-- a line is stored into it -/
theorem VarL.put {H : Nat} {ys : List Cl} {y : Int} (h : VarL w H ys y) (hR : RowM.At w ⟨g, k, xs, z⟩) : VarL ((w.setCell ⟨H, 0, none⟩ (.slice (some ⟨g, 0, none⟩) xs.length k)).setCell ⟨H, 1, none⟩ (.int .i64 z)) H xs z := by
  obtain ⟨g', k', h1, h2⟩ := h
  have hne : g ≠ H := by
    rintro rfl
    obtain ⟨c2, e⟩ := hR.blk
    rw [h1] at e
    injection e with e
    injection e with _ e _
    exact absurd e (by decide)
  refine ⟨g, k, ?_, hR.same ?_⟩
  · simp only [World.setCell, Array.getElem?_modify, if_pos, h1]
    simp
  · rw [Below.heap_setCell _ _ _ _ hne, Below.heap_setCell _ _ _ _ hne]
theorem VarL.new (hb : Below w.heap.size w w') (hR : RowM.At w' ⟨g, k, xs, z⟩) : VarL (w'.alloc (.cells #[.slice (some ⟨g, 0, none⟩) xs.length k, .int .i64 z] 54)) w'.heap.size xs z :=
  ⟨g, k, heap_alloc_new _ _, hR.grow ((Below.refl _ _).alloc (Nat.le_refl _) _)⟩
/-- slices.Clone of a page's list -/
def NewLs (w : World) (rows : List RowM) (e : Ending) (w' : World) : Prop := ∃ Lw c' x, e = .returned (.slice (some ⟨Lw, 0, none⟩) rows.length c') ∧ w' = ext w x ∧ Own encM 2 54 w.heap.size (ext w x) (.slice (some ⟨Lw, 0, none⟩) rows.length c') rows
@[go_sem] theorem lines_nil (a : Option Addr) (n c : Nat) (w : World) : (binOp .eql 38 (.slice a n c) (.slice none 0 0)).run Try.prog w = .ok (.bool a.isNone) w := by
  have h := run_equal_slice_nil (P := Try.prog) (w := w) 38 54 a n c Try.underlying38
  simp [binOp, h]
set_option maxRecDepth 100000 in
theorem cloneL_c (L c : Nat) (rows : List RowM) (w : World) (rd : Rd encM 2 w (some ⟨L, 0, none⟩) rows) (h0 : 0 < rows.length) (hm : rows.length ≤ 1000) :
    Calls Try.prog 103 #[.slice (some ⟨L, 0, none⟩) rows.length c] w (NewLs w rows) := by
  have X := Lib.hid rd
  have h0' := Lib.hid h0
  clear rd h0
  go_enter Try.func103, Try.ntmps103
  go_wp2_with (first
    | (at_builtin
       refine append_rd (U := w) (.tmp 5) (.tmp 6) _ 54 _ 32 rfl rfl Try.underlying38 line_info rfl (by omega) encM_len encM_one [] rows _ (some ⟨L, 0, none⟩) c rfl rfl ?_ (Own.new encM_len (by simp) rfl #[] rfl (Nat.le_refl _) (by simp [maxLen])) (by repeat (first | exact X.out | exact X | refine Rd.ext ?_ _ | refine Rd.alloc ?_ _ | refine Rd.drew ?_)) (by first | (simp [maxLen]; done) | (simp [maxLen]; omega)) (by first | (simp; done) | (simp; omega)) ?_
       · (repeat' (first | (with_reducible exact Below.refl _ _) | (with_reducible refine Below.alloc ?_ ?_ _) | (with_reducible refine below_ext ?_ ?_ _) | (with_reducible refine Below.drew ?_) | (with_reducible refine below_drewN ?_ _) | (with_reducible refine Below.setCell ?_ ?_ _) | go_size | (simp only [go_sem]; omega) | (simp [go_sem]; done) | (simp [go_sem]; omega)))
       intro A' c' x3 zs hz hO))
  rw [List.nil_append] at hz
  subst hz
  go_wp2_with fail
  all_goals go_returns
  obtain ⟨Lw, cc, e, _, _⟩ := hO.some_of h0'.out
  injection e with e1 e2 e3
  subst e1 e3
  exact ⟨Lw, c', x3, rfl, rfl, hO⟩
end
/-- a row of a box, behind a move: from n rows further down -/
def moveSrc (S : PgS) (b : BxI) (n : Int) (i : Nat) : List Cl × Int := if b.t ≤ i + n ∧ i + n < b.b then S.rows.getD ((i : Int) + n).toNat ([], 0) else (List.replicate S.cols erC, 0)
def moveRow (S : PgS) (b : BxI) (n : Int) (i : Nat) (row : List Cl × Int) : List Cl × Int :=
  if b.r - b.l < S.cols then (layR row.1 b.l b.r (cutR (moveSrc S b n i).1 b.l b.r), row.2) else moveSrc S b n i
def moveS (S : PgS) (b : BxI) (n : Int) : PgS := rowsJ S b.t.toNat (moveRow S b n) (b.b - b.t).toNat
theorem moveSrc_len {S : PgS} (hS : S.Ok) {b : BxI} (ht : 0 ≤ b.t) (hb : b.b ≤ S.rows.length) (n : Int) (i : Nat) : (moveSrc S b n i).1.length = S.cols := by
  unfold moveSrc
  split
  · rename_i h
    have hi : ((i : Int) + n).toNat < S.rows.length := by omega
    simp only [List.getD_eq_getElem?_getD, List.getElem?_eq_getElem hi, Option.getD_some]
    exact hS.len hi
  · simp
theorem moveSrc_ok {S : PgS} (hS : S.Ok) {b : BxI} (ht : 0 ≤ b.t) (hb : b.b ≤ S.rows.length) (n : Int) (i : Nat) : ∀ y ∈ (moveSrc S b n i).1, y.ok := by
  unfold moveSrc
  split
  · rename_i h
    have hi : ((i : Int) + n).toNat < S.rows.length := by omega
    simp only [List.getD_eq_getElem?_getD, List.getElem?_eq_getElem hi, Option.getD_some]
    exact hS.ok _ (List.getElem_mem hi)
  · intro y hy
    rw [List.eq_of_mem_replicate hy]; exact erC_ok
theorem moveRow_len {S : PgS} (hS : S.Ok) {b : BxI} (ht : 0 ≤ b.t) (hb : b.b ≤ S.rows.length) (n : Int) {i : Nat} (hi : i < S.rows.length) : (moveRow S b n i S.rows[i]).1.length = S.cols := by
  unfold moveRow
  split
  · rw [layR_len]; exact hS.len hi
  · exact moveSrc_len hS ht hb n i
end Go.Proofs.Ytdfiknemfpkdmaa
/- Pages: rows that move within a box: the walk.  -/
namespace Go.Proofs.Ytdfiknemfpkdmaa
open Go.RowKit
set_option linter.unusedVariables false
set_option linter.unusedSimpArgs false

section
variable {F : Nat → Prop} {p : Nat} {S : PgS} {w : World}
/-- the state of the loop -/
def MvS (F : Nat → Prop) (p : Nat) (L n c : Nat) (T : PgS) (W wr : World) : Prop := Keep (· = L) W wr ∧ ∃ rows, PgO wr (more F W wr) p T (some ⟨L, 0, none⟩) n c rows
set_option maxRecDepth 100000 in
set_option maxHeartbeats 8000000 in
theorem move_p (h : PageAt w F p S) (hS : S.Ok) (b : BxI) (k : Int) (hk1 : -1000 ≤ k) (hk2 : k ≤ 1000) :
    Calls Try.prog 85 #[.pointer (some ⟨p, 0, none⟩), boxV b.t b.l b.b b.r, .int .i64 k] w (fun e w' => e = .returned (.tuple #[]) ∧ Did F p (moveS S (onB S.rows.length S.cols b) k) w w') := by
  have ON := Lib.hid (fun w' (hb : Below w.heap.size w w') => on_p (h.grow hb) b)
  have HB := onB_in S.rows.length S.cols b
  have hS2 := Lib.hid hS
  have hP := Lib.hid h
  have hFl := Lib.hid h.lt
  generalize onB S.rows.length S.cols b = y at ON HB ⊢
  obtain ⟨bt, bl, bb, br⟩ := y
  obtain ⟨xt, xl, xb, xr⟩ := b
  simp only at ON HB ⊢
  obtain ⟨t, ht⟩ : ∃ t : Nat, bt = t := Int.eq_ofNat_of_zero_le (by omega)
  obtain ⟨m, hm⟩ : ∃ m : Nat, (t : Int) + m = bb := ⟨(bb - bt).toNat, by omega⟩
  subst ht
  have e : moveS S ⟨(t : Int), bl, bb, br⟩ k = rowsJ S t (moveRow S ⟨(t : Int), bl, bb, br⟩ k) m := by
    unfold moveS
    simp only [show ((t : Int)).toNat = t by omega, show (bb - (t : Int)).toNat = m by omega]
  rw [e]
  clear e
  subst hm
  have htm : t + m ≤ S.rows.length := by omega
  have hlr : 0 ≤ bl ∧ bl ≤ 500 ∧ br ≤ 500 ∧ 0 ≤ br ∧ 0 ≤ br - bl ∧ br ≤ S.cols := by have := hS.c2; omega
  have hm5 : t + m ≤ 500 := by have := hS.r2; omega
  have SZ := Lib.hid (fun w' => size_c t bl (t + m) br w' ⟨by omega, by omega⟩ ⟨by omega, by omega⟩ ⟨by omega, by omega⟩ ⟨by omega, by omega⟩)
  have e1 : (if (t : Int) + m ≤ t ∨ br ≤ bl then (0 : Int) else t + m - t) = m := by split <;> omega
  have e2 : (if (t : Int) + m ≤ t ∨ br ≤ bl then (0 : Int) else br - bl) = br - bl := by split <;> omega
  rw [e1, e2] at SZ
  clear e1 e2
  obtain ⟨A, n, c, rows, H⟩ := h.op
  obtain ⟨L, rfl⟩ := H.some (by have := hS.r1; omega)
  obtain rfl := H.n
  have c0 := H.c0
  have plt := H.plt
  have hrl : rows.length = S.rows.length := by rw [← H.len]
  have CL := Lib.hid (fun w' (hb : Below w.heap.size w w') => cloneL_c L c rows w' ((H.l.grow hb).rd) (by have := hS.r1; omega) (by have := hS.r2; omega))
  have NW := Lib.hid (fun w' => new_l S.cols w')
  rw [hrl] at CL
  replace H := Lib.hid H
  replace hrl := Lib.hid hrl
  replace HB := Lib.hid HB
  replace hlr := Lib.hid hlr
  clear h hS
  go_enter Try.func85, Try.ntmps85
  go_upto_region 4 with (first
    | (go_at_call 102; ((with_reducible refine (ON.out _ (by (repeat' (first | (with_reducible exact Below.refl _ _) | (with_reducible refine Below.alloc ?_ ?_ _) | (with_reducible refine below_ext ?_ ?_ _) | (with_reducible refine Below.drew ?_) | (with_reducible refine below_drewN ?_ _) | (with_reducible refine Below.setCell ?_ ?_ _) | go_size | (simp only [go_sem]; omega) | (simp [go_sem]; done) | (simp [go_sem]; omega))))).mono ?_); rintro _ _ hgets; obtain ⟨rfl, x1, rfl⟩ := hgets.get; clear hgets))
    | (go_at_call 37; ((with_reducible refine (SZ.out _).mono ?_); rintro _ _ hgets; obtain ⟨rfl, x2, rfl⟩ := hgets.get; clear hgets))
    | (go_at_call 103
       (with_reducible refine (CL.out _ (by (repeat' (first | (with_reducible exact Below.refl _ _) | (with_reducible refine Below.alloc ?_ ?_ _) | (with_reducible refine below_ext ?_ ?_ _) | (with_reducible refine Below.drew ?_) | (with_reducible refine below_drewN ?_ _) | (with_reducible refine Below.setCell ?_ ?_ _) | go_size | (simp only [go_sem]; omega) | (simp [go_sem]; done) | (simp [go_sem]; omega))))).mono ?_)
       rintro _ _ ⟨Lw, c', x3, rfl, rfl, hO1⟩
       replace hO := Lib.hid hO1))
  rw [hrl.out]
  obtain ⟨W, hW⟩ : ∃ W, W = ext (ext (ext (w.alloc (.cells #[.int .i64 t, .int .i64 bl, .int .i64 (t + m), .int .i64 br] 31)) x1) x2) x3 := ⟨_, rfl⟩
  have hbW : Below w.heap.size w W := by rw [hW]; (repeat' (first | (with_reducible exact Below.refl _ _) | (with_reducible refine Below.alloc ?_ ?_ _) | (with_reducible refine below_ext ?_ ?_ _) | (with_reducible refine Below.drew ?_) | (with_reducible refine below_drewN ?_ _) | (with_reducible refine Below.setCell ?_ ?_ _) | go_size | (simp only [go_sem]; omega) | (simp [go_sem]; done) | (simp [go_sem]; omega)))
  have hsz : w.heap.size < W.heap.size := by rw [hW]; simp; omega
  have B0 : W.cell? ⟨w.heap.size, 0, none⟩ = some (.int .i64 t) := by rw [hW]; simp [go_sem]
  have B1 : W.cell? ⟨w.heap.size, 1, none⟩ = some (.int .i64 bl) := by rw [hW]; simp [go_sem]
  have B3 : W.cell? ⟨w.heap.size, 3, none⟩ = some (.int .i64 br) := by rw [hW]; simp [go_sem]
  have hWas : WasAt W L Lw S := by
    have hO2 := hO.out
    rw [← hW] at hO2
    have hL : L < w.heap.size := H.out.lt L (H.out.ft L (.inl rfl))
    have hlt := hO2.lt Lw rfl
    refine ⟨⟨c', rows, hO2.mono (Nat.zero_le _), H.out.val, fun r hr => (H.out.l.row r hr).grow hbW, fun r hr => H.out.l.ne rfl (H.out.l.row r hr)⟩, ?_, hlt.2⟩
    have := hlt.1
    simp at this
    omega
  have hPW := H.out.grow hbW
  rw [← hW]
  have h0 : MvS F p L S.rows.length c (rowsJ S t (moveRow S ⟨(t : Int), bl, t + m, br⟩ k) 0) W W := by
    rw [rowsJ_zero]
    exact ⟨Keep.refl _ _, rows, hPW.mono (fun b hb => .inl hb) (fun b hb => hb.elim (hPW.lt b) (fun e => by omega))⟩
  have hend := Lib.hid (fun wz (hD : MvS F p L S.rows.length c (rowsJ S t (moveRow S ⟨(t : Int), bl, t + m, br⟩ k) m) W wz) => (by
    obtain ⟨hk, rows', hO⟩ := hD
    have hFL : F L := H.out.ft L (.inl rfl)
    exact Did.back ⟨hk.mono (fun x e => by rw [e]; exact hFL), hO.at⟩ hbW hFl.out : Did F p (rowsJ S t (moveRow S ⟨(t : Int), bl, t + m, br⟩ k) m) w wz))
  replace h0 := Lib.hid h0
  replace hbW := Lib.hid hbW
  replace hWas := Lib.hid hWas
  have hB := Lib.hid (⟨B0, B1, B3⟩ : _ ∧ _ ∧ _)
  have hLw : L < w.heap.size := H.out.lt L (H.out.ft L (.inl rfl))
  clear hW ON hPW B0 B1 B3 CL SZ hO
  go_wp2
  go_loopw [28] (fun iv wr => ∃ (j : Nat), j ≤ m ∧ iv = .int .i64 j ∧ Hid (MvS F p L S.rows.length c (rowsJ S t (moveRow S ⟨(t : Int), bl, t + m, br⟩ k) j) W wr)) (fun iv _ => m - (intOf iv).toNat)
  case atStart => exact ⟨0, by omega, rfl, h0⟩
  case round =>
    obtain ⟨j, hj, rfl, hM⟩ := hrel
    by_cases hlt : j < m
    · obtain ⟨i0, hi0⟩ : ∃ i0, i0 = t + j := ⟨_, rfl⟩
      have hi0' := Lib.hid hi0
      have hit2 : i0 < S.rows.length := by omega
      obtain ⟨hk, rows', hO⟩ := hM.out
      have hsr := Nat.lt_of_lt_of_le hsz hk.size
      have hB0 : wr.cell? ⟨w.heap.size, 0, none⟩ = some (.int .i64 t) := (cell_of_heap (hk.block _ hsz (by omega))).trans hB.out.1
      have hB1 : wr.cell? ⟨w.heap.size, 1, none⟩ = some (.int .i64 bl) := (cell_of_heap (hk.block _ hsz (by omega))).trans hB.out.2.1
      have hB3 : wr.cell? ⟨w.heap.size, 3, none⟩ = some (.int .i64 br) := (cell_of_heap (hk.block _ hsz (by omega))).trans hB.out.2.2
      have p0 := hO.c0
      have p1 := hO.c1
      have plr := hO.plt
      rw [rowsJ_cols] at p1
      have hcol : newN (S.cols : Int) = S.cols := by have := hS2.out.c2; unfold newN; omega
      have NW2 := Lib.hid (fun w' => NW.out w')
      rw [hcol] at NW2
      have hpos := Lib.hid (show 0 < (List.replicate S.cols erC).length by have := hS2.out.c1; simp; omega)
      have w1 : IntKind.i64.wrap ((t : Int) + j) = t + j := wrap_i64 (by omega) (by omega)
      have w2 : IntKind.i64.wrap ((j : Int) + k) = j + k := wrap_i64 (by omega) (by omega)
      replace hO := Lib.hid hO
      replace hk := Lib.hid hk
      obtain ⟨blank, hbl⟩ : ∃ blank, blank = List.replicate S.cols erC := ⟨_, rfl⟩
      rw [← hbl] at NW2 hpos
      replace hbl := Lib.hid hbl
      have hg9 : (0 : Int) ≤ m := by omega
      go_upto_region 8 with fail
      go_cut [12] (fun s wx => s = .bool (!(decide (0 ≤ (j : Int) + k) && decide ((j : Int) + k < m))) ∧ wx = wr)
      case first =>
        by_cases q1 : (j : Int) + k < 0
        · have d1 : decide ((j : Int) + k < 0) = true := decide_eq_true q1
          have d2 : decide (0 ≤ (j : Int) + k) = false := decide_eq_false (by omega)
          go_wp2
          go_meet
          exact ⟨by simp [d2], rfl⟩
        · have d1 : decide ((j : Int) + k < 0) = false := decide_eq_false q1
          have d2 : decide (0 ≤ (j : Int) + k) = true := decide_eq_true (by omega)
          go_wp2
          go_meet
          exact ⟨by simp [d2]; by_cases q2 : (m : Int) ≤ j + k <;> simp [q2] <;> omega, rfl⟩
      obtain ⟨rfl, hwc⟩ := hcut
      rw [hwc]
      clear hwc
      generalize hin : (decide (0 ≤ (j : Int) + k) && decide ((j : Int) + k < m)) = inb
      go_upto_if 51 with (first
        | (go_at_call 79
           (with_reducible refine (NW2.out _).mono ?_)
           intro _ _ hp
           obtain ⟨g', k', x4, rfl, rfl, hR, hg⟩ := newL_row hp hpos.out
           replace hR := Lib.hid hR
           clear hp))
      obtain ⟨V, hV⟩ : ∃ V, V = (ext wr x4).alloc (.cells #[.slice (some ⟨g', 0, none⟩) blank.length k', .int .i64 0] 54) := ⟨_, rfl⟩
      have hbV : Below wr.heap.size wr V := by rw [hV]; (repeat' (first | (with_reducible exact Below.refl _ _) | (with_reducible refine Below.alloc ?_ ?_ _) | (with_reducible refine below_ext ?_ ?_ _) | (with_reducible refine Below.drew ?_) | (with_reducible refine below_drewN ?_ _) | (with_reducible refine Below.setCell ?_ ?_ _) | go_size | (simp only [go_sem]; omega) | (simp [go_sem]; done) | (simp [go_sem]; omega)))
      have hvl : VarL V (wr.heap.size + x4.sz) blank 0 := by
        have h9 := VarL.new (below_of_ext wr x4) hR.out
        rw [hV]
        simpa using h9
      have hHw : wr.heap.size ≤ wr.heap.size + x4.sz := by omega
      rw [← hV]
      clear hV hR
      generalize wr.heap.size + x4.sz = H1 at hvl hHw ⊢
      have hsrc := Lib.hid (show moveSrc S ⟨(t : Int), bl, t + m, br⟩ k i0 = if inb then S.rows.getD ((t : Int) + (j + k)).toNat ([], 0) else (blank, 0) by
        rw [hbl.out, ← hin]
        unfold moveSrc
        simp only [Bool.and_eq_true, decide_eq_true_eq]
        rw [show ((i0 : Nat) : Int) + k = (t : Int) + (j + k) by omega]
        by_cases q : 0 ≤ (j : Int) + k ∧ (j : Int) + k < m
        · rw [if_pos (by omega), if_pos q]
        · rw [if_neg (by omega), if_neg q])
      obtain ⟨src, hse⟩ : ∃ src, src = moveSrc S ⟨(t : Int), bl, t + m, br⟩ k i0 := ⟨_, rfl⟩
      rw [← hse] at hsrc
      have hsl := moveSrc_len hS2.out (b := ⟨(t : Int), bl, t + m, br⟩) (by simp) (by simp; omega) k i0
      rw [← hse] at hsl
      replace hse := Lib.hid hse
      replace hbV := Lib.hid hbV
      have hwas := hWas.out.keep hk.out
      go_cut [] (fun wx => Below wr.heap.size wr wx ∧ VarL wx H1 src.1 src.2)
      case first =>
        cases inb
        · have hs1 := hsrc.out
          rw [if_neg (by simp)] at hs1
          go_wp2
          go_meet
          exact ⟨hbV.out, by rw [hs1]; exact hvl⟩
        · have hs1 := hsrc.out
          rw [if_pos rfl] at hs1
          simp only [Bool.and_eq_true, decide_eq_true_eq] at hin
          obtain ⟨f0, hf0⟩ : ∃ f0 : Nat, (t : Int) + (j + k) = f0 := Int.eq_ofNat_of_zero_le (by omega)
          have hi1 : f0 < S.rows.length := by omega
          obtain ⟨g0, k0, xs0, z0, e1, hA0, h1, h2, d0, d1⟩ := hwas.at hi1
          rw [hf0, Int.toNat_natCast, List.getD_eq_getElem?_getD, List.getElem?_eq_getElem hi1, Option.getD_some, e1] at hs1
          have w3 : IntKind.i64.wrap ((t : Int) + (j + k)) = f0 := by rw [hf0]; exact wrap_i64 (by omega) (by omega)
          have dv0 := (hbV.out.cell (p := ⟨Lw, _, none⟩) hwas.lt).trans d0
          have dv1 := (hbV.out.cell (p := ⟨Lw, _, none⟩) hwas.lt).trans d1
          have hLwv := Nat.lt_of_lt_of_le hwas.lt hbV.out.size
          obtain ⟨g2, k2, v0, v1, hA2, hHv, vz, h3, h4⟩ := hvl.at
          have vz0 := vz 0
          have vz1 := vz 1
          have hB0v := (hbV.out.cell (p := ⟨w.heap.size, _, none⟩) hsr).trans hB0
          have hi5 : f0 < 500 := by omega
          replace hvl := Lib.hid hvl
          replace hA0 := Lib.hid hA0
          clear d0 d1 e1 hA2 vz
          go_wp2
          go_meet
          refine ⟨below_set (below_set hbV.out _ _ hHw) _ _ hHw, by rw [hs1]; exact hvl.out.put (hA0.out.grow hbV.out)⟩
      obtain ⟨hbX, hvx⟩ := hcut
      obtain ⟨res, hre⟩ : ∃ res, res = moveRow S ⟨(t : Int), bl, t + m, br⟩ k i0 S.rows[i0] := ⟨_, rfl⟩
      have hres := (show res = if br - bl < S.cols then (layR S.rows[i0].1 bl br (cutR src.1 bl br), S.rows[i0].2) else src by rw [hre, hse.out]; rfl)
      have hrl2 := moveRow_len hS2.out (b := ⟨(t : Int), bl, t + m, br⟩) (by simp) (by simp; omega) k hit2
      rw [← hre] at hrl2
      rw [show (t : Int) + j = ((i0 : Nat) : Int) by omega]
      have hi5 : i0 < 500 := by omega
      replace hres := Lib.hid hres
      clear w1 hi0
      have p1v := (hbX.cell (p := ⟨p, _, none⟩) plr).trans p1
      have plv := Nat.lt_of_lt_of_le plr hbX.size
      go_upto_if 64 with fail
      go_cut [] (fun wx => Below wr.heap.size wr wx ∧ VarL wx H1 res.1 res.2)
      case first =>
        by_cases q : br - bl < S.cols
        · have hs1 := hres.out
          rw [if_pos q] at hs1
          obtain ⟨g0, k0, xs0, z0, e1, hA0, h1, h2, d0, d1⟩ := hwas.at hit2
          rw [e1] at hs1
          simp only at hs1
          have hxl := hS2.out.len hit2
          rw [e1] at hxl
          simp only at hxl
          have hc2 := hS2.out.c2
          have hc1 := hS2.out.c1
          have dw0 := (hbX.cell (p := ⟨Lw, _, none⟩) hwas.lt).trans d0
          have dw1 := (hbX.cell (p := ⟨Lw, _, none⟩) hwas.lt).trans d1
          have hLwv := Nat.lt_of_lt_of_le hwas.lt hbX.size
          obtain ⟨g2, k2, v0, v1, hA2, hHv, vz, h3, h4⟩ := hvx.at
          have vz0 := vz 0
          have vz1 := vz 1
          have hB1v := (hbX.cell (p := ⟨w.heap.size, _, none⟩) hsr).trans hB1
          have hB3v := (hbX.cell (p := ⟨w.heap.size, _, none⟩) hsr).trans hB3
          have hsv := Nat.lt_of_lt_of_le hsr hbX.size
          have hx6 : src.1.length ≤ 1000000 := by omega
          have X1 := Lib.hid ((hA0.grow hbX).rd)
          have X2 := Lib.hid hA2.rd
          have hl5 := hlr.out
          have CU := Lib.hid (fun w' (h : Rd encC 3 w' (some ⟨g2, 0, none⟩) src.1) => cut_l (some ⟨g2, 0, none⟩) k2 src.2 src.1 bl br w' h (fun e => by cases e) hx6 (by omega))
          have LA := Lib.hid (fun a2 n2 k2 w' (e : n2 = (cutR src.1 bl br).length) (h : Rd encC 3 w' (some ⟨g0, 0, none⟩) xs0) (h2 : Rd encC 3 w' a2 (cutR src.1 bl br)) => (by
            subst e
            exact lay_l (some ⟨g0, 0, none⟩) k0 z0 xs0 bl br a2 k2 (cutR src.1 bl br) w' h (fun e => by cases e) (by omega) (by omega) h2 : Calls Try.prog 104 #[lineV (some ⟨g0, 0, none⟩) xs0.length k0 z0, .int .i64 bl, .int .i64 br, .slice a2 n2 k2] w' (NewL w' (layR xs0 bl br (cutR src.1 bl br)) z0)))
          have hpos2 := Lib.hid (show 0 < (layR xs0 bl br (cutR src.1 bl br)).length by rw [layR_len]; omega)
          have hfin := Lib.hid (fun wz (hb : Below wr.heap.size wr wz) (hv : VarL wz H1 (layR xs0 bl br (cutR src.1 bl br)) z0) => (⟨hb, by rw [hs1]; exact hv⟩ : Below wr.heap.size wr wz ∧ VarL wz H1 res.1 res.2))
          generalize layR xs0 bl br (cutR src.1 bl br) = ys at LA hpos2 hfin
          replace hvx := Lib.hid hvx
          replace hs1 := Lib.hid hs1
          replace hbX := Lib.hid hbX
          replace hxl := Lib.hid hxl
          replace hsl := Lib.hid hsl
          replace hrl2 := Lib.hid hrl2
          clear d0 d1 e1 hA2 hA0 vz hl5
          go_upto_region 13 with fail
          (refine wp_region_F (S := (fun w' => w'.cell? ⟨w.heap.size, 1, none⟩ = some (.int .i64 bl) ∧ w'.cell? ⟨w.heap.size, 3, none⟩ = some (.int .i64 br) ∧ w'.cell? ⟨Lw, i0 * 2, none⟩ = some (.slice (some ⟨g0, 0, none⟩) xs0.length k0) ∧ w'.cell? ⟨Lw, i0 * 2 + 1, none⟩ = some (.int .i64 z0) ∧ w'.cell? ⟨H1, 0, none⟩ = some (.slice (some ⟨g2, 0, none⟩) src.1.length k2) ∧ w'.cell? ⟨H1, 1, none⟩ = some (.int .i64 src.2))) 15 [false, false, false, false, false, false, false, false, false, false, false, false, false, false, false, false] rfl rfl (by kernel_rfl) ?_ (fun hHeld => ?_); (focus ((try dsimp only); (refine ⟨?_, ?_, ?_, ?_, ?_, ?_⟩ <;> simp [go_sem, hB1v, hB3v, hsv, dw0, dw1, hLwv, v0, v1, hHv]); done)))
          ((refine AtF.take (oi := ?_) (v := ?_) 0 ?_ ?_ ?_ ?_ (Or.inl ⟨?_, ?_⟩) (by assumption) ?_; rotate_left 2; rfl; kernel_rfl; kernel_rfl; exact (fun _ _ _ h => h); rfl; (focus (intro w hSw; (try dsimp only at hSw); go_simp; (try with_reducible rfl); done)); (try simp only [Act.put, List.setIfInBounds_toArray, List.set_cons_zero, List.set_cons_succ])); (refine AtF.take (oi := ?_) (v := ?_) 1 ?_ ?_ ?_ ?_ (Or.inl ⟨?_, ?_⟩) (by assumption) ?_; rotate_left 2; rfl; kernel_rfl; kernel_rfl; exact (fun _ _ _ h => h); rfl; (focus (intro w hSw; (try dsimp only at hSw); go_simp; (try with_reducible rfl); done)); (try simp only [Act.put, List.setIfInBounds_toArray, List.set_cons_zero, List.set_cons_succ])); (refine AtF.take (oi := ?_) (v := ?_) 2 ?_ ?_ ?_ ?_ (Or.inl ⟨?_, ?_⟩) (by assumption) ?_; rotate_left 2; rfl; kernel_rfl; kernel_rfl; exact (fun _ _ _ h => h); rfl; (focus (intro w hSw; (try dsimp only at hSw); go_simp; (try with_reducible rfl); done)); (try simp only [Act.put, List.setIfInBounds_toArray, List.set_cons_zero, List.set_cons_succ])); (refine AtF.take (oi := ?_) (v := ?_) 3 ?_ ?_ ?_ ?_ (Or.inl ⟨?_, ?_⟩) (by assumption) ?_; rotate_left 2; rfl; kernel_rfl; kernel_rfl; exact (fun _ _ _ h => h); rfl; (focus (intro w hSw; (try dsimp only at hSw); go_simp; (try with_reducible rfl); done)); (try simp only [Act.put, List.setIfInBounds_toArray, List.set_cons_zero, List.set_cons_succ])); (refine AtF.take (oi := ?_) (v := ?_) 4 ?_ ?_ ?_ ?_ (Or.inl ⟨?_, ?_⟩) (by assumption) ?_; rotate_left 2; rfl; kernel_rfl; kernel_rfl; exact (fun _ _ _ h => h); rfl; (focus (intro w hSw; (try dsimp only at hSw); go_simp; (try with_reducible rfl); done)); (try simp only [Act.put, List.setIfInBounds_toArray, List.set_cons_zero, List.set_cons_succ])); (refine AtF.take (oi := ?_) (v := ?_) 5 ?_ ?_ ?_ ?_ (Or.inl ⟨?_, ?_⟩) (by assumption) ?_; rotate_left 2; rfl; kernel_rfl; kernel_rfl; exact (fun _ _ _ h => h); rfl; (focus (intro w hSw; (try dsimp only at hSw); go_simp; (try with_reducible rfl); done)); (try simp only [Act.put, List.setIfInBounds_toArray, List.set_cons_zero, List.set_cons_succ])); (refine AtF.take (oi := ?_) (v := ?_) 6 ?_ ?_ ?_ ?_ (Or.inl ⟨?_, ?_⟩) (by assumption) ?_; rotate_left 2; rfl; kernel_rfl; kernel_rfl; exact (fun _ _ _ h => h); rfl; (focus (intro w hSw; (try dsimp only at hSw); go_simp; (try with_reducible rfl); done)); (try simp only [Act.put, List.setIfInBounds_toArray, List.set_cons_zero, List.set_cons_succ])); (refine AtF.take (oi := ?_) (v := ?_) 7 ?_ ?_ ?_ ?_ (Or.inl ⟨?_, ?_⟩) (by assumption) ?_; rotate_left 2; rfl; kernel_rfl; kernel_rfl; exact (fun _ _ _ h => h); rfl; (focus (intro w hSw; (try dsimp only at hSw); go_simp; (try with_reducible rfl); done)); (try simp only [Act.put, List.setIfInBounds_toArray, List.set_cons_zero, List.set_cons_succ])); (refine AtF.take (oi := ?_) (v := ?_) 8 ?_ ?_ ?_ ?_ (Or.inl ⟨?_, ?_⟩) (by assumption) ?_; rotate_left 2; rfl; kernel_rfl; kernel_rfl; exact (fun _ _ _ h => h); rfl; (focus (intro w hSw; (try dsimp only at hSw); go_simp; (try with_reducible rfl); done)); (try simp only [Act.put, List.setIfInBounds_toArray, List.set_cons_zero, List.set_cons_succ])); (refine AtF.take (oi := ?_) (v := ?_) 9 ?_ ?_ ?_ ?_ (Or.inl ⟨?_, ?_⟩) (by assumption) ?_; rotate_left 2; rfl; kernel_rfl; kernel_rfl; exact (fun _ _ _ h => h); rfl; (focus (intro w hSw; (try dsimp only at hSw); go_simp; (try with_reducible rfl); done)); (try simp only [Act.put, List.setIfInBounds_toArray, List.set_cons_zero, List.set_cons_succ])); (refine AtF.take (oi := ?_) (v := ?_) 10 ?_ ?_ ?_ ?_ (Or.inl ⟨?_, ?_⟩) (by assumption) ?_; rotate_left 2; rfl; kernel_rfl; kernel_rfl; exact (fun _ _ _ h => h); rfl; (focus (intro w hSw; (try dsimp only at hSw); go_simp; (try with_reducible rfl); done)); (try simp only [Act.put, List.setIfInBounds_toArray, List.set_cons_zero, List.set_cons_succ])); (refine AtF.take (oi := ?_) (v := ?_) 11 ?_ ?_ ?_ ?_ (Or.inl ⟨?_, ?_⟩) (by assumption) ?_; rotate_left 2; rfl; kernel_rfl; kernel_rfl; exact (fun _ _ _ h => h); rfl; (focus (intro w hSw; (try dsimp only at hSw); go_simp; (try with_reducible rfl); done)); (try simp only [Act.put, List.setIfInBounds_toArray, List.set_cons_zero, List.set_cons_succ])); (refine AtF.take (oi := ?_) (v := ?_) 12 ?_ ?_ ?_ ?_ (Or.inl ⟨?_, ?_⟩) (by assumption) ?_; rotate_left 2; rfl; kernel_rfl; kernel_rfl; exact (fun _ _ _ h => h); rfl; (focus (intro w hSw; (try dsimp only at hSw); go_simp; (try with_reducible rfl); done)); (try simp only [Act.put, List.setIfInBounds_toArray, List.set_cons_zero, List.set_cons_succ])))
          (refine AtF.only (oi := ?_) 13 ?_ ?_ (fun K hK => ?_); rotate_left 1; rfl; kernel_rfl; (try go_simp); (go_at_call 105); (with_reducible refine (CU.out _ (by repeat (first | exact X2.out | exact X2 | refine Rd.ext ?_ _ | refine Rd.alloc ?_ _ | refine Rd.drew ?_))).mono ?_); intro _ _ hp; obtain ⟨rw1, x5, rfl, rfl, hR5, hn5, hrd5⟩ := cutL_row hp hx6; (try simp only [ext_drew] at hrd5); replace hrd5 := Lib.hid hrd5; replace hn5 := Lib.hid hn5; clear hp hR5; (refine hK.out _ _ ?_ (fun hHeld => ?_)); (focus ((try dsimp only); (refine ⟨?_, ?_, ?_, ?_, ?_, ?_⟩ <;> simp [go_sem, hB1v, hB3v, hsv, dw0, dw1, hLwv, v0, v1, hHv]); done)); clear hK K; (try simp only [Act.put, List.setIfInBounds_toArray, List.set_cons_zero, List.set_cons_succ]))
          (refine AtF.only (oi := ?_) 14 ?_ ?_ (fun K hK => ?_); rotate_left 1; rfl; kernel_rfl; (try go_simp); (go_at_call 104); (with_reducible refine (LA.out _ _ _ _ hn5.out (by repeat (first | exact X1.out | exact X1 | refine Rd.ext ?_ _ | refine Rd.alloc ?_ _ | refine Rd.drew ?_)) (by repeat (first | exact hrd5.out | exact hrd5 | refine Rd.ext ?_ _ | refine Rd.alloc ?_ _ | refine Rd.drew ?_))).mono ?_); intro _ _ hp; obtain ⟨g6, k6, x6, rfl, rfl, hR6, hg6⟩ := newL_row hp hpos2.out; (try simp only [ext_drew] at hR6); replace hR6 := Lib.hid hR6; clear hp; (refine hK.out _ _ ?_ (fun hHeld => ?_)); (focus ((try dsimp only); (refine ⟨?_, ?_, ?_, ?_, ?_, ?_⟩ <;> simp [go_sem, hB1v, hB3v, hsv, dw0, dw1, hLwv, v0, v1, hHv]); done)); clear hK K; (try simp only [Act.put, List.setIfInBounds_toArray, List.set_cons_zero, List.set_cons_succ]))
          (refine AtF.last (oi := ?_) ?_ ?_ (fun K hK => ?_); rotate_left 1; rfl; kernel_rfl; go_simp; skip; refine hK.out _ _ ?_; clear hK K; (try simp only [Act.put, List.setIfInBounds_toArray, List.set_cons_zero, List.set_cons_succ]))
          have h7 := (hvx.out.grow (show Below wc.heap.size wc (ext (ext wc x5) x6) by (repeat' (first | (with_reducible exact Below.refl _ _) | (with_reducible refine Below.alloc ?_ ?_ _) | (with_reducible refine below_ext ?_ ?_ _) | (with_reducible refine Below.drew ?_) | (with_reducible refine below_drewN ?_ _) | (with_reducible refine Below.setCell ?_ ?_ _) | go_size | (simp only [go_sem]; omega) | (simp [go_sem]; done) | (simp [go_sem]; omega))))).put hR6.out
          simp [go_sem, hHv] at h7
          have h8 : Below wr.heap.size wr (ext (ext ((wc.setCell ⟨H1, 0, none⟩ (.slice (some ⟨g6, 0, none⟩) ys.length k6)).setCell ⟨H1, 1, none⟩ (.int .i64 z0)) x5) x6) := by
            have h9 := below_set (below_set hbX.out ⟨H1, 0, none⟩ (.slice (some ⟨g6, 0, none⟩) ys.length k6) hHw) ⟨H1, 1, none⟩ (.int .i64 z0) hHw
            have h10 := h9.size
            exact below_ext (below_ext h9 h10 x5) (by simp; omega) x6
          have h11 := Lib.hid (hfin.out _ h8 h7)
          clear h7 h8 hR6 hn5 hrd5
          go_wp2
          go_meet
          exact h11.out
        · have hs1 := hres.out
          rw [if_neg q] at hs1
          have hfin := Lib.hid (⟨hbX, by rw [hs1]; exact hvx⟩ : Below wr.heap.size wr wc ∧ VarL wc H1 res.1 res.2)
          clear hs1 hvx hbX
          go_wp2
          go_meet
          exact hfin.out
      clear hbX hvx p1v plv
      obtain ⟨hbY, hvy⟩ := hcut
      have p0v := (hbY.cell (p := ⟨p, _, none⟩) plr).trans p0
      have plv := Nat.lt_of_lt_of_le plr hbY.size
      obtain ⟨g2, k2, v0, v1, hA2, hHv, vz, h3, h4⟩ := hvy.at
      obtain ⟨g0, k0, xs0, z0, _, _, _, _, _, d0, d1, dz, d3⟩ := hO.out.at2 (i := i0) (by rw [rowsJ_len]; exact hit2)
      have D0 := (hbY.cell (p := ⟨L, _, none⟩) d3).trans d0
      have D1 := (hbY.cell (p := ⟨L, _, none⟩) d3).trans d1
      have Z0 := (hbY.frozen (p := ⟨L, _, none⟩) d3).trans (dz (i0 * 2))
      have Z1 := (hbY.frozen (p := ⟨L, _, none⟩) d3).trans (dz (i0 * 2 + 1))
      have D3 := Nat.lt_of_lt_of_le d3 hbY.size
      have X3 := Lib.hid hA2.rd
      have hc2 := hS2.out.c2
      have hc1 := hS2.out.c1
      have CP := Lib.hid (fun w' (h : Rd encC 3 w' (some ⟨g2, 0, none⟩) res.1) => copy_l (some ⟨g2, 0, none⟩) k2 res.2 res.1 w' h (fun e => by cases e) (by omega) (by simp [maxLen]; omega))
      have hpos3 := Lib.hid (show 0 < res.1.length by omega)
      have hpL : ¬ p = L := fun e => hO.out.off L (.inl rfl) e.symm
      have hpL2 : ¬ L = p := fun e => hpL e.symm
      have hHL : ¬ H1 = L := fun e => by rw [e] at hHw; omega
      have hHL2 : ¬ L = H1 := fun e => hHL e.symm
      have hnext := Lib.hid (fun x g7 k7 (hR : RowM.At (ext wc x) ⟨g7, k7, res.1, res.2⟩) (hg : wc.heap.size ≤ g7) => (by
        have hb5 : Below wr.heap.size wr (ext wc x) := below_ext hbY hbY.size x
        obtain ⟨rows8, h8⟩ := hO.out.setRow (i := i0) (by rw [rowsJ_len]; exact hit2) hb5 hR (Nat.le_trans hbY.size hg)
        have hst := rowsJ_step (S := S) (t := t) (j := j) (f := moveRow S ⟨(t : Int), bl, t + m, br⟩ k) hi0'.out.symm hit2
        have hk8 : Keep (· = L) W (((ext wc x).setCell ⟨L, i0 * 2, none⟩ (.slice (some ⟨g7, 0, none⟩) res.1.length k7)).setCell ⟨L, i0 * 2 + 1, none⟩ (.int .i64 res.2)) := ((hk.out.trans (Keep.of_below (F := fun _ => False) hb5) (fun _ h => h.elim)).set (.inl rfl) _).set (.inl rfl) _
        refine ⟨hk8, rows8, ?_⟩
        rw [hst, ← hre]
        refine h8.mono (fun b hb => ?_) (fun b hb => ?_)
        · rcases hb with (hb | hb) | hb
          · exact .inl hb
          · refine .inr ⟨hb.1, ?_⟩
            have := hb5.size
            simp; simp at this; omega
          · refine .inr ⟨Nat.le_trans hk.out.size hb.1, ?_⟩
            simpa using hb.2
        · rcases hb with hb | hb
          · have := hFl.out b hb
            have := hk8.size
            omega
          · exact hb.2 : MvS F p L S.rows.length c (rowsJ S t (moveRow S ⟨(t : Int), bl, t + m, br⟩ k) (j + 1)) W (((ext wc x).setCell ⟨L, i0 * 2, none⟩ (.slice (some ⟨g7, 0, none⟩) res.1.length k7)).setCell ⟨L, i0 * 2 + 1, none⟩ (.int .i64 res.2))))
      generalize res.1 = ys at hrl2 CP X3 hpos3 hnext v0 v1
      generalize res.2 = yz at CP hnext v0 v1
      replace hrl2 := Lib.hid hrl2
      replace hsl := Lib.hid hsl
      clear hA2 vz d0 d1 dz hbY hvy p0 p1 hre hres hwas hsrc
      go_upto_region 14 with fail
      (refine wp_region_F (S := (fun w' => w'.cell? ⟨p, 0, none⟩ = some (.slice (some ⟨L, 0, none⟩) S.rows.length c) ∧ w'.cell? ⟨H1, 0, none⟩ = some (.slice (some ⟨g2, 0, none⟩) ys.length k2) ∧ w'.cell? ⟨H1, 1, none⟩ = some (.int .i64 yz))) 8 [false, false, false, false, false, false, false, false, false] rfl rfl (by kernel_rfl) ?_ (fun hHeld => ?_); (focus ((try dsimp only); (refine ⟨?_, ?_, ?_⟩ <;> simp [go_sem, p0v, plv, v0, v1, hHv]); done)))
      ((refine AtF.take (oi := ?_) (v := ?_) 0 ?_ ?_ ?_ ?_ (Or.inl ⟨?_, ?_⟩) (by assumption) ?_; rotate_left 2; rfl; kernel_rfl; kernel_rfl; exact (fun _ _ _ h => h); rfl; (focus (intro w hSw; (try dsimp only at hSw); go_simp; (try with_reducible rfl); done)); (try simp only [Act.put, List.setIfInBounds_toArray, List.set_cons_zero, List.set_cons_succ])); (refine AtF.take (oi := ?_) (v := ?_) 1 ?_ ?_ ?_ ?_ (Or.inl ⟨?_, ?_⟩) (by assumption) ?_; rotate_left 2; rfl; kernel_rfl; kernel_rfl; exact (fun _ _ _ h => h); rfl; (focus (intro w hSw; (try dsimp only at hSw); go_simp; (try with_reducible rfl); done)); (try simp only [Act.put, List.setIfInBounds_toArray, List.set_cons_zero, List.set_cons_succ])); (refine AtF.take (oi := ?_) (v := ?_) 2 ?_ ?_ ?_ ?_ (Or.inl ⟨?_, ?_⟩) (by assumption) ?_; rotate_left 2; rfl; kernel_rfl; kernel_rfl; exact (fun _ _ _ h => h); rfl; (focus (intro w hSw; (try dsimp only at hSw); go_simp; (try with_reducible rfl); done)); (try simp only [Act.put, List.setIfInBounds_toArray, List.set_cons_zero, List.set_cons_succ])); (refine AtF.take (oi := ?_) (v := ?_) 3 ?_ ?_ ?_ ?_ (Or.inl ⟨?_, ?_⟩) (by assumption) ?_; rotate_left 2; rfl; kernel_rfl; kernel_rfl; exact (fun _ _ _ h => h); rfl; (focus (intro w hSw; (try dsimp only at hSw); go_simp; (try with_reducible rfl); done)); (try simp only [Act.put, List.setIfInBounds_toArray, List.set_cons_zero, List.set_cons_succ])); (refine AtF.take (oi := ?_) (v := ?_) 4 ?_ ?_ ?_ ?_ (Or.inl ⟨?_, ?_⟩) (by assumption) ?_; rotate_left 2; rfl; kernel_rfl; kernel_rfl; exact (fun _ _ _ h => h); rfl; (focus (intro w hSw; (try dsimp only at hSw); go_simp; (try with_reducible rfl); done)); (try simp only [Act.put, List.setIfInBounds_toArray, List.set_cons_zero, List.set_cons_succ])); (refine AtF.take (oi := ?_) (v := ?_) 5 ?_ ?_ ?_ ?_ (Or.inl ⟨?_, ?_⟩) (by assumption) ?_; rotate_left 2; rfl; kernel_rfl; kernel_rfl; exact (fun _ _ _ h => h); rfl; (focus (intro w hSw; (try dsimp only at hSw); go_simp; (try with_reducible rfl); done)); (try simp only [Act.put, List.setIfInBounds_toArray, List.set_cons_zero, List.set_cons_succ])))
      (refine AtF.only (oi := ?_) 6 ?_ ?_ (fun K hK => ?_); rotate_left 1; rfl; kernel_rfl; (try go_simp); (go_at_call 44); (with_reducible refine (CP.out _ (by repeat (first | exact X3.out | exact X3 | refine Rd.ext ?_ _ | refine Rd.alloc ?_ _ | refine Rd.drew ?_))).mono ?_); intro _ _ hp; obtain ⟨g7, k7, x7, rfl, rfl, hR7, hg7⟩ := newL_row hp hpos3.out; (try simp only [ext_drew] at hR7); replace hR7 := Lib.hid hR7; replace hg7 := Lib.hid hg7; clear hp; (refine hK.out _ _ ?_ (fun hHeld => ?_)); (focus ((try dsimp only); (refine ⟨?_, ?_, ?_⟩ <;> simp [go_sem, p0v, plv, v0, v1, hHv]); done)); clear hK K; (try simp only [Act.put, List.setIfInBounds_toArray, List.set_cons_zero, List.set_cons_succ]))
      ((refine AtF.take (oi := ?_) (v := ?_) 7 ?_ ?_ ?_ ?_ (Or.inl ⟨?_, ?_⟩) (by assumption) ?_; rotate_left 2; rfl; kernel_rfl; kernel_rfl; exact (fun _ _ _ h => h); rfl; (focus (intro w hSw; (try dsimp only at hSw); go_simp; (try with_reducible rfl); done)); (try simp only [Act.put, List.setIfInBounds_toArray, List.set_cons_zero, List.set_cons_succ])))
      (refine AtF.last (oi := ?_) ?_ ?_ (fun K hK => ?_); rotate_left 1; rfl; kernel_rfl; go_simp; skip; refine hK.out _ _ ?_; clear hK K; (try simp only [Act.put, List.setIfInBounds_toArray, List.set_cons_zero, List.set_cons_succ]))
      have h7 := hnext.out _ _ _ hR7.out hg7.out
      simp [go_sem, D3] at h7
      replace h7 := Lib.hid h7
      clear hR7 hg7
      go_wp2
      exact ⟨⟨j + 1, by omega, by go_num, h7⟩, by simp [intOf]; omega⟩
    · obtain rfl : j = m := by omega
      go_wp2
      go_returns
      exact ⟨rfl, hend.out _ hM.out⟩
end
end Go.Proofs.Ytdfiknemfpkdmaa
/- Pages: Up, Down.  -/
namespace Go.Proofs.Ytdfiknemfpkdmaa
open Go.RowKit
set_option linter.unusedVariables false
set_option linter.unusedSimpArgs false

theorem clip_p (n : Int) (w : World) : Calls Try.prog 86 #[.int .i64 n] w (Gives w (.int .i64 (clampR n 0 1000))) := by
  have e : max 0 (min n 1000) = clampR n 0 1000 := by unfold clampR; split <;> (try split) <;> omega
  go_enter Try.func86, Try.ntmps86
  go_wp2
  go_returns
  exact ⟨by rw [← e]; rfl, by (repeat' (first | (with_reducible exact Below.refl _ _) | (with_reducible refine Below.alloc ?_ ?_ _) | (with_reducible refine below_ext ?_ ?_ _) | (with_reducible refine Below.drew ?_) | (with_reducible refine below_drewN ?_ _) | (with_reducible refine Below.setCell ?_ ?_ _) | go_size | (simp only [go_sem]; omega) | (simp [go_sem]; done) | (simp [go_sem]; omega)))⟩
section
variable {F : Nat → Prop} {p : Nat} {S : PgS} {w : World}
theorem clampR_in (n : Int) {a b : Int} (h : a ≤ b) : a ≤ clampR n a b ∧ clampR n a b ≤ b := by unfold clampR; split <;> (try split) <;> omega
set_option maxRecDepth 100000 in
set_option maxHeartbeats 4000000 in
theorem up_p (h : PageAt w F p S) (hS : S.Ok) (b : BxI) (n : Int) :
    Calls Try.prog 54 #[.pointer (some ⟨p, 0, none⟩), boxV b.t b.l b.b b.r, .int .i64 n] w (fun e w' => e = .returned (.tuple #[]) ∧ Did F p (moveS S (onB S.rows.length S.cols b) (clampR n 0 1000)) w w') := by
  have hc := clampR_in n (show (0 : Int) ≤ 1000 by omega)
  have CC := Lib.hid (fun w' => clip_p n w')
  generalize clampR n 0 1000 = k at hc CC ⊢
  have E := Lib.hid (fun w' (hb : Below w.heap.size w w') => move_p (h.grow hb) hS b k (by omega) (by omega))
  have BK := Lib.hid (fun w' (hb : Below w.heap.size w w') wz T (hD : Did F p T w' wz) => Did.back hD hb h.lt)
  clear h hc
  obtain ⟨t, l, b', r⟩ := b
  simp only at E ⊢
  generalize moveS S _ _ = T at E ⊢
  go_enter Try.func54, Try.ntmps54
  go_upto_region 1 with fail
  (refine wp_region_F (S := (fun w' => w'.cell? ⟨w.heap.size, 0, none⟩ = some (.int .i64 t) ∧ w'.cell? ⟨w.heap.size, 1, none⟩ = some (.int .i64 l) ∧ w'.cell? ⟨w.heap.size, 2, none⟩ = some (.int .i64 b') ∧ w'.cell? ⟨w.heap.size, 3, none⟩ = some (.int .i64 r))) 4 [false, false, false, false, false] rfl rfl (by kernel_rfl) ?_ (fun hHeld => ?_); (focus ((try dsimp only); (refine ⟨?_, ?_, ?_, ?_⟩ <;> simp [go_sem]); done)))
  ((refine AtF.take (oi := ?_) (v := ?_) 0 ?_ ?_ ?_ ?_ (Or.inl ⟨?_, ?_⟩) (by assumption) ?_; rotate_left 2; rfl; kernel_rfl; kernel_rfl; exact (fun _ _ _ h => h); rfl; (focus (intro w hSw; (try dsimp only at hSw); go_simp; (try with_reducible rfl); done)); (try simp only [Act.put, List.setIfInBounds_toArray, List.set_cons_zero, List.set_cons_succ])); (refine AtF.take (oi := ?_) (v := ?_) 1 ?_ ?_ ?_ ?_ (Or.inl ⟨?_, ?_⟩) (by assumption) ?_; rotate_left 2; rfl; kernel_rfl; kernel_rfl; exact (fun _ _ _ h => h); rfl; (focus (intro w hSw; (try dsimp only at hSw); go_simp; (try with_reducible rfl); done)); (try simp only [Act.put, List.setIfInBounds_toArray, List.set_cons_zero, List.set_cons_succ])); (refine AtF.take (oi := ?_) (v := ?_) 2 ?_ ?_ ?_ ?_ (Or.inl ⟨?_, ?_⟩) (by assumption) ?_; rotate_left 2; rfl; kernel_rfl; kernel_rfl; exact (fun _ _ _ h => h); rfl; (focus (intro w hSw; (try dsimp only at hSw); go_simp; (try with_reducible rfl); done)); (try simp only [Act.put, List.setIfInBounds_toArray, List.set_cons_zero, List.set_cons_succ])))
  (refine AtF.only (oi := ?_) 3 ?_ ?_ (fun K hK => ?_); rotate_left 1; rfl; kernel_rfl; (try go_simp); (go_at_call 86; ((with_reducible refine (CC.out _).mono ?_); rintro _ _ hgets; obtain ⟨rfl, x1, rfl⟩ := hgets.get; clear hgets)); (refine hK.out _ _ ?_ (fun hHeld => ?_)); (focus ((try dsimp only); (refine ⟨?_, ?_, ?_, ?_⟩ <;> simp [go_sem]); done)); clear hK K; (try simp only [Act.put, List.setIfInBounds_toArray, List.set_cons_zero, List.set_cons_succ]))
  (refine AtF.last (oi := ?_) ?_ ?_ (fun K hK => ?_); rotate_left 1; rfl; kernel_rfl; go_simp; (go_at_call 85); (with_reducible refine (E.out _ (by (repeat' (first | (with_reducible exact Below.refl _ _) | (with_reducible refine Below.alloc ?_ ?_ _) | (with_reducible refine below_ext ?_ ?_ _) | (with_reducible refine Below.drew ?_) | (with_reducible refine below_drewN ?_ _) | (with_reducible refine Below.setCell ?_ ?_ _) | go_size | (simp only [go_sem]; omega) | (simp [go_sem]; done) | (simp [go_sem]; omega))))).mono ?_); (rintro _ _ ⟨rfl, hD⟩); replace hD := Lib.hid hD; refine hK.out _ _ ?_; clear hK K; (try simp only [Act.put, List.setIfInBounds_toArray, List.set_cons_zero, List.set_cons_succ]))
  go_wp2
  go_returns
  refine ⟨rfl, BK.out _ ?_ _ _ hD.out⟩
  (repeat' (first | (with_reducible exact Below.refl _ _) | (with_reducible refine Below.alloc ?_ ?_ _) | (with_reducible refine below_ext ?_ ?_ _) | (with_reducible refine Below.drew ?_) | (with_reducible refine below_drewN ?_ _) | (with_reducible refine Below.setCell ?_ ?_ _) | go_size | (simp only [go_sem]; omega) | (simp [go_sem]; done) | (simp [go_sem]; omega)))
set_option maxRecDepth 100000 in
set_option maxHeartbeats 4000000 in
theorem down_p (h : PageAt w F p S) (hS : S.Ok) (b : BxI) (n : Int) :
    Calls Try.prog 60 #[.pointer (some ⟨p, 0, none⟩), boxV b.t b.l b.b b.r, .int .i64 n] w (fun e w' => e = .returned (.tuple #[]) ∧ Did F p (moveS S (onB S.rows.length S.cols b) (-clampR n 0 1000)) w w') := by
  have hc := clampR_in n (show (0 : Int) ≤ 1000 by omega)
  have CC := Lib.hid (fun w' => clip_p n w')
  generalize clampR n 0 1000 = k at hc CC ⊢
  have E := Lib.hid (fun w' (hb : Below w.heap.size w w') => move_p (h.grow hb) hS b (-k) (by omega) (by omega))
  have BK := Lib.hid (fun w' (hb : Below w.heap.size w w') wz T (hD : Did F p T w' wz) => Did.back hD hb h.lt)
  have wn : IntKind.i64.wrap (-k) = -k := wrap_i64 (by omega) (by omega)
  clear h hc
  obtain ⟨t, l, b', r⟩ := b
  simp only at E ⊢
  generalize moveS S _ _ = T at E ⊢
  go_enter Try.func60, Try.ntmps60
  go_upto_region 1 with fail
  (refine wp_region_F (S := (fun w' => w'.cell? ⟨w.heap.size, 0, none⟩ = some (.int .i64 t) ∧ w'.cell? ⟨w.heap.size, 1, none⟩ = some (.int .i64 l) ∧ w'.cell? ⟨w.heap.size, 2, none⟩ = some (.int .i64 b') ∧ w'.cell? ⟨w.heap.size, 3, none⟩ = some (.int .i64 r))) 5 [false, false, false, false, false, false] rfl rfl (by kernel_rfl) ?_ (fun hHeld => ?_); (focus ((try dsimp only); (refine ⟨?_, ?_, ?_, ?_⟩ <;> simp [go_sem]); done)))
  ((refine AtF.take (oi := ?_) (v := ?_) 0 ?_ ?_ ?_ ?_ (Or.inl ⟨?_, ?_⟩) (by assumption) ?_; rotate_left 2; rfl; kernel_rfl; kernel_rfl; exact (fun _ _ _ h => h); rfl; (focus (intro w hSw; (try dsimp only at hSw); go_simp; (try with_reducible rfl); done)); (try simp only [Act.put, List.setIfInBounds_toArray, List.set_cons_zero, List.set_cons_succ])); (refine AtF.take (oi := ?_) (v := ?_) 1 ?_ ?_ ?_ ?_ (Or.inl ⟨?_, ?_⟩) (by assumption) ?_; rotate_left 2; rfl; kernel_rfl; kernel_rfl; exact (fun _ _ _ h => h); rfl; (focus (intro w hSw; (try dsimp only at hSw); go_simp; (try with_reducible rfl); done)); (try simp only [Act.put, List.setIfInBounds_toArray, List.set_cons_zero, List.set_cons_succ])); (refine AtF.take (oi := ?_) (v := ?_) 2 ?_ ?_ ?_ ?_ (Or.inl ⟨?_, ?_⟩) (by assumption) ?_; rotate_left 2; rfl; kernel_rfl; kernel_rfl; exact (fun _ _ _ h => h); rfl; (focus (intro w hSw; (try dsimp only at hSw); go_simp; (try with_reducible rfl); done)); (try simp only [Act.put, List.setIfInBounds_toArray, List.set_cons_zero, List.set_cons_succ])))
  (refine AtF.only (oi := ?_) 3 ?_ ?_ (fun K hK => ?_); rotate_left 1; rfl; kernel_rfl; (try go_simp); (go_at_call 86; ((with_reducible refine (CC.out _).mono ?_); rintro _ _ hgets; obtain ⟨rfl, x1, rfl⟩ := hgets.get; clear hgets)); (refine hK.out _ _ ?_ (fun hHeld => ?_)); (focus ((try dsimp only); (refine ⟨?_, ?_, ?_, ?_⟩ <;> simp [go_sem]); done)); clear hK K; (try simp only [Act.put, List.setIfInBounds_toArray, List.set_cons_zero, List.set_cons_succ]))
  ((refine AtF.take (oi := ?_) (v := ?_) 4 ?_ ?_ ?_ ?_ (Or.inl ⟨?_, ?_⟩) (by assumption) ?_; rotate_left 2; rfl; kernel_rfl; kernel_rfl; exact (fun _ _ _ h => h); rfl; (focus (intro w hSw; (try dsimp only at hSw); go_simp; (try with_reducible rfl); done)); (try simp only [Act.put, List.setIfInBounds_toArray, List.set_cons_zero, List.set_cons_succ])))
  (refine AtF.last (oi := ?_) ?_ ?_ (fun K hK => ?_); rotate_left 1; rfl; kernel_rfl; go_simp; (go_at_call 85); (with_reducible refine (E.out _ (by (repeat' (first | (with_reducible exact Below.refl _ _) | (with_reducible refine Below.alloc ?_ ?_ _) | (with_reducible refine below_ext ?_ ?_ _) | (with_reducible refine Below.drew ?_) | (with_reducible refine below_drewN ?_ _) | (with_reducible refine Below.setCell ?_ ?_ _) | go_size | (simp only [go_sem]; omega) | (simp [go_sem]; done) | (simp [go_sem]; omega))))).mono ?_); (rintro _ _ ⟨rfl, hD⟩); replace hD := Lib.hid hD; refine hK.out _ _ ?_; clear hK K; (try simp only [Act.put, List.setIfInBounds_toArray, List.set_cons_zero, List.set_cons_succ]))
  go_wp2
  go_returns
  refine ⟨rfl, BK.out _ ?_ _ _ hD.out⟩
  (repeat' (first | (with_reducible exact Below.refl _ _) | (with_reducible refine Below.alloc ?_ ?_ _) | (with_reducible refine below_ext ?_ ?_ _) | (with_reducible refine Below.drew ?_) | (with_reducible refine below_drewN ?_ _) | (with_reducible refine Below.setCell ?_ ?_ _) | go_size | (simp only [go_sem]; omega) | (simp [go_sem]; done) | (simp [go_sem]; omega)))
end
end Go.Proofs.Ytdfiknemfpkdmaa
