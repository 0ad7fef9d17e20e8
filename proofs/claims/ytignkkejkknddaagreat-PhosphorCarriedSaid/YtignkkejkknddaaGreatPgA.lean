/- Pages: what is looked at of one.  -/
import Derived.Test.YtignkkejkknddaaGreatPgNew
import Derived.Test.YtignkkejkknddaaGreatBox
namespace Go.Proofs.YtignkkejkknddaaGreat
open Go.RowKit
set_option linter.unusedVariables false
set_option linter.unusedSimpArgs false

variable {F : Nat → Prop} {p : Nat} {S : PgS} {w : World}
theorem PageAt.cells (h : PageAt w F p S) : ∃ A c, w.cell? ⟨p, 0, none⟩ = some (.slice A S.rows.length c) ∧ w.cell? ⟨p, 1, none⟩ = some (.int .i64 S.cols) ∧ p < w.heap.size := by
  obtain ⟨A, n, c, rows, H⟩ := h.op
  obtain rfl := H.n
  exact ⟨A, c, H.c0, H.c1, H.plt⟩
theorem rows_p (h : PageAt w F p S) : Calls Tryz.prog 28 #[.pointer (some ⟨p, 0, none⟩)] w (Gives w (.int .i64 S.rows.length)) := by
  obtain ⟨A, c, c0, c1, hp⟩ := h.cells
  clear h
  go_enter Tryz.func28, Tryz.ntmps28
  go_wp2
  go_returns
  exact ⟨rfl, by (repeat' (first | (with_reducible exact Below.refl _ _) | (with_reducible refine Below.alloc ?_ ?_ _) | (with_reducible refine below_ext ?_ ?_ _) | (with_reducible refine Below.drew ?_) | (with_reducible refine below_drewN ?_ _) | (with_reducible refine Below.setCell ?_ ?_ _) | go_size | (simp only [go_sem]; omega) | (simp [go_sem]; done) | (simp [go_sem]; omega)))⟩
theorem cols_p (h : PageAt w F p S) : Calls Tryz.prog 29 #[.pointer (some ⟨p, 0, none⟩)] w (Gives w (.int .i64 S.cols)) := by
  obtain ⟨A, c, c0, c1, hp⟩ := h.cells
  clear h
  go_enter Tryz.func29, Tryz.ntmps29
  go_wp2
  go_returns
  exact ⟨rfl, by (repeat' (first | (with_reducible exact Below.refl _ _) | (with_reducible refine Below.alloc ?_ ?_ _) | (with_reducible refine below_ext ?_ ?_ _) | (with_reducible refine Below.drew ?_) | (with_reducible refine below_drewN ?_ _) | (with_reducible refine Below.setCell ?_ ?_ _) | go_size | (simp only [go_sem]; omega) | (simp [go_sem]; done) | (simp [go_sem]; omega)))⟩
def thereI (n : Nat) (i : Int) : Bool := decide (0 ≤ i) && decide (i < n)
theorem there_p (h : PageAt w F p S) (i : Int) : Calls Tryz.prog 61 #[.pointer (some ⟨p, 0, none⟩), .int .i64 i] w (Gives w (.bool (thereI S.rows.length i))) := by
  obtain ⟨A, c, c0, c1, hp⟩ := h.cells
  clear h
  unfold thereI
  by_cases h0 : 0 ≤ i
  · go_enter Tryz.func61, Tryz.ntmps61
    go_wp2
    go_returns
    exact ⟨by simp [h0], by (repeat' (first | (with_reducible exact Below.refl _ _) | (with_reducible refine Below.alloc ?_ ?_ _) | (with_reducible refine below_ext ?_ ?_ _) | (with_reducible refine Below.drew ?_) | (with_reducible refine below_drewN ?_ _) | (with_reducible refine Below.setCell ?_ ?_ _) | go_size | (simp only [go_sem]; omega) | (simp [go_sem]; done) | (simp [go_sem]; omega)))⟩
  · go_enter Tryz.func61, Tryz.ntmps61
    go_wp2
    go_returns
    exact ⟨by rw [decide_eq_false (show ¬ 0 ≤ i by omega)]; simp, by (repeat' (first | (with_reducible exact Below.refl _ _) | (with_reducible refine Below.alloc ?_ ?_ _) | (with_reducible refine below_ext ?_ ?_ _) | (with_reducible refine Below.drew ?_) | (with_reducible refine below_drewN ?_ _) | (with_reducible refine Below.setCell ?_ ?_ _) | go_size | (simp only [go_sem]; omega) | (simp [go_sem]; done) | (simp [go_sem]; omega)))⟩
abbrev boxV (t l b r : Int) : Value := .agg #[.int .i64 t, .int .i64 l, .int .i64 b, .int .i64 r]
set_option maxRecDepth 100000 in
theorem box_p (h : PageAt w F p S) : Calls Tryz.prog 24 #[.pointer (some ⟨p, 0, none⟩)] w (Gives w (boxV 0 0 S.rows.length S.cols)) := by
  obtain ⟨A, c, c0, c1, hp⟩ := h.cells
  clear h
  have W := Lib.hid (fun w' => whole_c S.rows.length S.cols w')
  have e1 : max 0 (S.rows.length : Int) = S.rows.length := by omega
  have e2 : max 0 (S.cols : Int) = S.cols := by omega
  rw [e1, e2] at W
  clear e1 e2
  go_enter Tryz.func24, Tryz.ntmps24
  go_wp2
  (refine wp_region_tail 10 (by kernel_rfl) (by kernel_rfl) ?_; simp only [List.take_succ_cons, List.take_zero, List.drop_succ_cons, List.drop_zero])
  repeat (go_big_quiet_step ((go_at_call 71; with_reducible exact Calls.free (W.out _))))
  refine wpQuiet_nil ?_; rintro _ ⟨x1, rfl⟩
  go_wp2
  go_returns
  exact ⟨rfl, by (repeat' (first | (with_reducible exact Below.refl _ _) | (with_reducible refine Below.alloc ?_ ?_ _) | (with_reducible refine below_ext ?_ ?_ _) | (with_reducible refine Below.drew ?_) | (with_reducible refine below_drewN ?_ _) | (with_reducible refine Below.setCell ?_ ?_ _) | go_size | (simp only [go_sem]; omega) | (simp [go_sem]; done) | (simp [go_sem]; omega)))⟩
/-- a box, as far as it lies on a page -/
structure BxI where
  t : Int
  l : Int
  b : Int
  r : Int
def BxI.v (x : BxI) : Value := boxV x.t x.l x.b x.r
def onB (m n : Nat) (x : BxI) : BxI := ⟨meetI x.t x.l x.b x.r 0 0 m n (·.1), meetI x.t x.l x.b x.r 0 0 m n (·.2.1), meetI x.t x.l x.b x.r 0 0 m n (·.2.2.1), meetI x.t x.l x.b x.r 0 0 m n (·.2.2.2)⟩
theorem onB_v (m n : Nat) (x : BxI) : meetV x.t x.l x.b x.r 0 0 m n = boxV (onB m n x).t (onB m n x).l (onB m n x).b (onB m n x).r := rfl
/-- it is empty (all noughts), or lies on the page -/
theorem onB_in (m n : Nat) (x : BxI) : ((onB m n x).t = 0 ∧ (onB m n x).l = 0 ∧ (onB m n x).b = 0 ∧ (onB m n x).r = 0) ∨ (0 ≤ (onB m n x).t ∧ (onB m n x).t < (onB m n x).b ∧ (onB m n x).b ≤ m ∧ 0 ≤ (onB m n x).l ∧ (onB m n x).l < (onB m n x).r ∧ (onB m n x).r ≤ n) := by
  unfold onB meetI
  simp only
  split
  · left; exact ⟨rfl, rfl, rfl, rfl⟩
  · right; omega
set_option maxRecDepth 100000 in
theorem on_p (h : PageAt w F p S) (x : BxI) : Calls Tryz.prog 92 #[.pointer (some ⟨p, 0, none⟩), boxV x.t x.l x.b x.r] w (Gives w (boxV (onB S.rows.length S.cols x).t (onB S.rows.length S.cols x).l (onB S.rows.length S.cols x).b (onB S.rows.length S.cols x).r)) := by
  have BX := Lib.hid (fun w' (hb : Below w.heap.size w w') => box_p (h.grow hb))
  have M := Lib.hid (fun w' => meet_c x.t x.l x.b x.r 0 0 S.rows.length S.cols w')
  rw [onB_v] at M
  clear h
  generalize onB S.rows.length S.cols x = y at M ⊢
  obtain ⟨t, l, b, r⟩ := x
  obtain ⟨t', l', b', r'⟩ := y
  simp only at M ⊢
  go_enter Tryz.func92, Tryz.ntmps92
  go_wp2
  (refine wp_region_tail 4 (by kernel_rfl) (by kernel_rfl) ?_; simp only [List.take_succ_cons, List.take_zero, List.drop_succ_cons, List.drop_zero])
  repeat (go_big_quiet_step (first | ((go_at_call 24; with_reducible exact Calls.free (BX.out _ (by (repeat' (first | (with_reducible exact Below.refl _ _) | (with_reducible refine Below.alloc ?_ ?_ _) | (with_reducible refine below_ext ?_ ?_ _) | (with_reducible refine Below.drew ?_) | (with_reducible refine below_drewN ?_ _) | (with_reducible refine Below.setCell ?_ ?_ _) | go_size | (simp only [go_sem]; omega) | (simp [go_sem]; done) | (simp [go_sem]; omega))))))) | ((go_at_call 40; with_reducible exact Calls.free (M.out _)))))
  refine wpQuiet_nil ?_; rintro _ ⟨x1, rfl⟩
  go_wp2
  go_returns
  exact ⟨rfl, by (repeat' (first | (with_reducible exact Below.refl _ _) | (with_reducible refine Below.alloc ?_ ?_ _) | (with_reducible refine below_ext ?_ ?_ _) | (with_reducible refine Below.drew ?_) | (with_reducible refine below_drewN ?_ _) | (with_reducible refine Below.setCell ?_ ?_ _) | go_size | (simp only [go_sem]; omega) | (simp [go_sem]; done) | (simp [go_sem]; omega)))⟩
end Go.Proofs.YtignkkejkknddaaGreat
/- Pages: a line of one, a cell of one, and what stores into it make of it.  -/
namespace Go.Proofs.YtignkkejkknddaaGreat
open Go.RowKit
set_option linter.unusedVariables false
set_option linter.unusedSimpArgs false

theorem below_set {B : Nat} {a w : World} (h : Below B a w) (p : Addr) (v : Value) (hp : B ≤ p.block) : Below B a (w.setCell p v) := ⟨h.os, h.tape, h.output, by simpa [World.setCell] using h.size, fun k hk => (Below.heap_setCell _ _ _ _ (by omega)).trans (h.block k hk)⟩
section
variable {F : Nat → Prop} {p : Nat} {S T : PgS} {w w' a b : World}
/-- a line of a page is another one -/
def setRowS (S : PgS) (i : Nat) (v : List Cl × Int) : PgS := ⟨S.rows.set i v, S.cols⟩
theorem more_trans {x : Nat} (h : more (more F w a) a b x) (h1 : w.heap.size ≤ a.heap.size) (h2 : a.heap.size ≤ b.heap.size) : more F w b x := by
  rcases h with (h | h) | h
  · exact .inl h
  · exact .inr ⟨h.1, by omega⟩
  · exact .inr ⟨by omega, h.2⟩
theorem Did.refl (h : PageAt w F p S) : Did F p S w w := ⟨Keep.refl _ _, h.mono (fun b hb => .inl hb) (fun b hb => hb.elim (h.lt b) (fun e => by omega))⟩
theorem Did.trans (h : Did F p S w a) (k : Did (more F w a) p T a b) (hF : ∀ b, F b → b < w.heap.size) : Did F p T w b := by
  have h1 := h.1.size
  have h2 := k.1.size
  refine ⟨h.1.trans k.1 (fun x hx => hx.elim .inl (fun e => .inr e.1)), k.2.mono (fun x hx => more_trans hx h1 h2) (fun x hx => ?_)⟩
  rcases hx with hx | hx
  · have := hF x hx
    omega
  · exact hx.2
theorem Did.grow (h : Did F p S w a) (hb : Below a.heap.size a b) : Did F p S w b := by
  have h1 := h.1.size
  have h2 := hb.size
  refine ⟨h.1.trans (Keep.of_below (F := fun _ => False) hb) (fun x hx => hx.elim), (h.2.grow hb).mono (fun x hx => hx.elim .inl (fun e => .inr ⟨e.1, by omega⟩)) (fun x hx => ?_)⟩
  rcases hx with hx | hx
  · have := h.2.lt x (.inl hx)
    omega
  · exact hx.2
theorem map_set_val (rows : List RowM) (i : Nat) (r : RowM) : (rows.set i r).map RowM.val = (rows.map RowM.val).set i r.val := by
  rw [List.map_set]
/-- a new line is stored into a slot -/
theorem Did.row {L n c i g k : Nat} {xs : List Cl} {z : Int} {rows : List RowM} {x : More} (h : PgO w F p S (some ⟨L, 0, none⟩) n c rows) (hi : i < S.rows.length) (hR : RowM.At (ext w x) ⟨g, k, xs, z⟩) (hg : w.heap.size ≤ g) :
    Did F p (setRowS S i (xs, z)) w (((ext w x).setCell ⟨L, i * 2, none⟩ (.slice (some ⟨g, 0, none⟩) xs.length k)).setCell ⟨L, i * 2 + 1, none⟩ (.int .i64 z)) := by
  have hL : F L := h.ft L (.inl rfl)
  have hir : i < rows.length := by rw [← h.len, h.n]; exact hi
  have hlL := h.lt L hL
  have hfresh : ∀ s ∈ rows, s.g ≠ g := fun s hs e => by
    have := (h.l.row s hs).lt
    omega
  have hk : Keep F w (((ext w x).setCell ⟨L, i * 2, none⟩ (.slice (some ⟨g, 0, none⟩) xs.length k)).setCell ⟨L, i * 2 + 1, none⟩ (.int .i64 z)) := ((Keep.of_below (below_of_ext w x)).set (.inl hL) _).set (.inl hL) _
  have hl := (h.l.grow (below_of_ext w x)).set hir hR hfresh
  refine ⟨hk, ⟨⟨_, _, ?_, hl, ?_, fun b hb => ?_⟩, .inl h.self, fun b hb => ?_⟩⟩
  · have hpL : p ≠ L := fun e => h.off L (.inl rfl) e.symm
    rw [Below.heap_setCell _ _ _ _ hpL, Below.heap_setCell _ _ _ _ hpL, block_ext w x h.plt]
    exact h.blk
  · rw [map_set_val, h.val]; rfl
  · rcases hb with hb | ⟨s, hs, rfl⟩
    · exact .inl (h.ft b (.inl hb))
    · rcases List.mem_or_eq_of_mem_set hs with hs | rfl
      · exact .inl (h.ft _ (.inr ⟨s, hs, rfl⟩))
      · refine .inr ⟨hg, ?_⟩
        have := hR.lt
        simpa using this
  · rcases hb with hb | hb
    · have := h.lt b hb
      have := hk.size
      omega
    · exact hb.2
/-- a cell is stored -/
theorem Did.put {L n c i k : Nat} {r : RowM} {rows : List RowM} {x : More} (h : PgO w F p S (some ⟨L, 0, none⟩) n c rows) (hi : rows[i]? = some r) (hk : k < r.xs.length) (y : Cl) :
    Did F p (setRowS S i (r.xs.set k y, r.z)) w ((((ext w x).setCell ⟨r.g, k * 3, none⟩ (.int .i32 y.g)).setCell ⟨r.g, k * 3 + 1, none⟩ (.int .u8 y.r)).setCell ⟨r.g, k * 3 + 2, none⟩ (.bool y.k)) := by
  have hrm := List.mem_of_getElem? hi
  have hG : F r.g := h.ft r.g (.inr ⟨r, hrm, rfl⟩)
  have hkp : Keep F w ((((ext w x).setCell ⟨r.g, k * 3, none⟩ (.int .i32 y.g)).setCell ⟨r.g, k * 3 + 1, none⟩ (.int .u8 y.r)).setCell ⟨r.g, k * 3 + 2, none⟩ (.bool y.k)) := (((Keep.of_below (below_of_ext w x)).set (.inl hG) _).set (.inl hG) _).set (.inl hG) _
  have hl := (h.l.grow (below_of_ext w x)).put hi hk y
  refine ⟨hkp, ⟨⟨_, _, ?_, hl, ?_, fun b hb => ?_⟩, .inl h.self, fun b hb => ?_⟩⟩
  · have hpL : p ≠ r.g := fun e => h.off r.g (.inr ⟨r, hrm, rfl⟩) e.symm
    rw [Below.heap_setCell _ _ _ _ hpL, Below.heap_setCell _ _ _ _ hpL, Below.heap_setCell _ _ _ _ hpL, block_ext w x h.plt]
    exact h.blk
  · rw [map_set_val, h.val]; rfl
  · rcases hb with hb | ⟨s, hs, rfl⟩
    · exact .inl (h.ft b (.inl hb))
    · rcases List.mem_or_eq_of_mem_set hs with hs | rfl
      · exact .inl (h.ft _ (.inr ⟨s, hs, rfl⟩))
      · exact .inl hG
  · rcases hb with hb | hb
    · have := h.lt b hb
      have := hkp.size
      omega
    · exact hb.2
end
theorem NewL.none (w : World) (x : More) : NewL w [] 0 (.returned (lineV none 0 0 0)) (ext w x) := ⟨_, 0, x, rfl, rfl, Own.nil _ _ _ _ _⟩
section
variable {F : Nat → Prop} {p : Nat} {S : PgS} {w : World}
/-- a cell of a page, as it is looked at -/
def atS (S : PgS) (i j : Int) : Cl := if inB 0 0 S.rows.length S.cols i j then (S.rows.getD i.toNat ([], 0)).1.getD j.toNat noC else erC
theorem atS_in {S : PgS} {i j : Nat} (hi : i < S.rows.length) (hj : j < S.cols) (hj' : j < S.rows[i].1.length) : atS S i j = S.rows[i].1[j] := by
  unfold atS inB
  rw [if_pos (by simp; omega)]
  simp [hi, hj']
theorem atS_out {S : PgS} {i j : Int} (h : inB 0 0 S.rows.length S.cols i j = false) : atS S i j = erC := by unfold atS; rw [h]; rfl
/-- another cell -/
def putS (S : PgS) (i j : Int) (y : Cl) : PgS := if inB 0 0 S.rows.length S.cols i j then setRowS S i.toNat ((S.rows.getD i.toNat ([], 0)).1.set j.toNat y, (S.rows.getD i.toNat ([], 0)).2) else S
theorem putS_in {S : PgS} {i j : Nat} (hi : i < S.rows.length) (hj : j < S.cols) (y : Cl) : putS S i j y = setRowS S i (S.rows[i].1.set j y, S.rows[i].2) := by
  unfold putS inB
  rw [if_pos (by simp; omega)]
  simp [hi]
theorem putS_out {S : PgS} {i j : Int} (h : inB 0 0 S.rows.length S.cols i j = false) (y : Cl) : putS S i j y = S := by unfold putS; rw [h]; rfl
theorem inB_nat {m n : Nat} {i j : Int} (h : inB 0 0 m n i j = true) : ∃ a b : Nat, i = a ∧ j = b ∧ a < m ∧ b < n := by
  unfold inB at h
  simp at h
  exact ⟨i.toNat, j.toNat, by omega, by omega, by omega, by omega⟩
set_option maxRecDepth 100000 in
set_option maxHeartbeats 2000000 in
theorem at_p (h : PageAt w F p S) (hS : S.Ok) (i j : Int) : Calls Tryz.prog 21 #[.pointer (some ⟨p, 0, none⟩), .agg #[.int .i64 i, .int .i64 j]] w (Gives w (cellV (atS S i j))) := by
  have BX := Lib.hid (fun w' (hb : Below w.heap.size w w') => box_p (h.grow hb))
  have IN := Lib.hid (fun w' => in_c 0 0 S.rows.length S.cols i j w')
  cases ht : inB 0 0 S.rows.length S.cols i j
  · rw [ht] at IN
    rw [atS_out ht]
    clear h hS ht
    have e : cellV erC = .agg #[.int .i32 32, .int .u8 0, .bool false] := rfl
    rw [e]
    clear e
    go_enter Tryz.func21, Tryz.ntmps21
    go_wp2
    (refine wp_region_free (by kernel_rfl) (by kernel_rfl) ?_)
    repeat (go_big_quiet_step (first | ((go_at_call 24; with_reducible exact Calls.free (BX.out _ (by (repeat' (first | (with_reducible exact Below.refl _ _) | (with_reducible refine Below.alloc ?_ ?_ _) | (with_reducible refine below_ext ?_ ?_ _) | (with_reducible refine Below.drew ?_) | (with_reducible refine below_drewN ?_ _) | (with_reducible refine Below.setCell ?_ ?_ _) | go_size | (simp only [go_sem]; omega) | (simp [go_sem]; done) | (simp [go_sem]; omega))))))) | ((go_at_call 63; with_reducible exact Calls.free (IN.out _)))))
    refine wpQuiet_nil ?_; rintro _ ⟨x1, rfl⟩
    go_wp2_with (go_at_call 64; ((with_reducible refine (erased_c _).mono ?_); rintro _ _ hgets; obtain ⟨rfl, x2, rfl⟩ := hgets.get; clear hgets))
    go_returns
    exact ⟨rfl, by (repeat' (first | (with_reducible exact Below.refl _ _) | (with_reducible refine Below.alloc ?_ ?_ _) | (with_reducible refine below_ext ?_ ?_ _) | (with_reducible refine Below.drew ?_) | (with_reducible refine below_drewN ?_ _) | (with_reducible refine Below.setCell ?_ ?_ _) | go_size | (simp only [go_sem]; omega) | (simp [go_sem]; done) | (simp [go_sem]; omega)))⟩
  · rw [ht] at IN
    obtain ⟨a, b, rfl, rfl, ha, hb⟩ := inB_nat ht
    obtain ⟨A, n, c, rows, H⟩ := h.op
    obtain ⟨L, rfl⟩ := H.some (by omega)
    obtain ⟨g, k, xs, z, e1, e2, hA, h1, h2, d0, d1, _, d3⟩ := H.at2 ha
    have hw := hS.wid _ (List.getElem_mem ha)
    rw [atS_in ha hb (by omega)]
    rw [e1] at hw
    simp only [e1] at hw ⊢
    have hc2 := hS.c2
    obtain ⟨g', eg, _, hlt, f0, f1, f2, _⟩ := own_at hA b (by simp only; omega)
    injection eg with eg
    injection eg with eg
    subst eg
    simp only at f0 f1 f2
    have c0 := H.c0
    have pl := H.plt
    obtain rfl := H.n
    have hbx : b < xs.length := by omega
    generalize xs[b] = y at f0 f1 f2 ⊢
    obtain ⟨yg, yr, yk⟩ := y
    simp only at f0 f1 f2 ⊢
    clear h H hA ht hS
    rw [hw] at h1 d0
    clear hw
    clear e1 e2 hbx
    go_enter Tryz.func21, Tryz.ntmps21
    go_wp2
    (refine wp_region_free (by kernel_rfl) (by kernel_rfl) ?_)
    repeat (go_big_quiet_step (first | ((go_at_call 24; with_reducible exact Calls.free (BX.out _ (by (repeat' (first | (with_reducible exact Below.refl _ _) | (with_reducible refine Below.alloc ?_ ?_ _) | (with_reducible refine below_ext ?_ ?_ _) | (with_reducible refine Below.drew ?_) | (with_reducible refine below_drewN ?_ _) | (with_reducible refine Below.setCell ?_ ?_ _) | go_size | (simp only [go_sem]; omega) | (simp [go_sem]; done) | (simp [go_sem]; omega))))))) | ((go_at_call 63; with_reducible exact Calls.free (IN.out _)))))
    refine wpQuiet_nil ?_; rintro _ ⟨x1, rfl⟩
    go_wp2
    (refine wp_region_tail 13 (by kernel_rfl) (by kernel_rfl) ?_; simp only [List.take_succ_cons, List.take_zero, List.drop_succ_cons, List.drop_zero])
    repeat (go_big_quiet_step (fail))
    refine wpQuiet_nil ?_; rintro _ ⟨x2, rfl⟩
    go_wp2
    go_returns
    exact ⟨rfl, by (repeat' (first | (with_reducible exact Below.refl _ _) | (with_reducible refine Below.alloc ?_ ?_ _) | (with_reducible refine below_ext ?_ ?_ _) | (with_reducible refine Below.drew ?_) | (with_reducible refine below_drewN ?_ _) | (with_reducible refine Below.setCell ?_ ?_ _) | go_size | (simp only [go_sem]; omega) | (simp [go_sem]; done) | (simp [go_sem]; omega)))⟩
theorem Did.same {a : World} (h : PageAt w F p S) (hb : Below w.heap.size w a) : Did F p S w a := (Did.refl h).grow hb
end
end Go.Proofs.YtignkkejkknddaaGreat
/- Pages: SetLine.  -/
namespace Go.Proofs.YtignkkejkknddaaGreat
open Go.RowKit
set_option linter.unusedVariables false
set_option linter.unusedSimpArgs false

def setLineS (S : PgS) (i : Int) (xs : List Cl) (s : Int) : PgS := if thereI S.rows.length i then setRowS S i.toNat (resR xs S.cols, sizeI s) else S
section
variable {F : Nat → Prop} {p : Nat} {S : PgS} {w : World}
set_option maxRecDepth 100000 in
set_option maxHeartbeats 2000000 in
theorem setline_p (h : PageAt w F p S) (hS : S.Ok) (i : Int) (A1 : Option Addr) (C1 : Nat) (sz : Int) (xs : List Cl) (rd : Rd encC 3 w A1 xs) : Calls Tryz.prog 38 #[.pointer (some ⟨p, 0, none⟩), .int .i64 i, lineV A1 xs.length C1 sz] w (fun e w' => e = .returned (.tuple #[]) ∧ Did F p (setLineS S i xs sz) w w') := by
  have TH := Lib.hid (fun w' (hb : Below w.heap.size w w') => there_p (h.grow hb) i)
  by_cases hi : 0 ≤ i ∧ i < S.rows.length
  · obtain ⟨j, rfl⟩ := Int.eq_ofNat_of_zero_le hi.1
    have hj : j < S.rows.length := by omega
    have ht : thereI S.rows.length j = true := by unfold thereI; simp; omega
    rw [ht] at TH
    obtain ⟨A, n, c, rows, H⟩ := h.op
    obtain ⟨L, rfl⟩ := H.some (by omega)
    obtain ⟨g, k, xs0, z, e1, e2, hA, h1, h2, d0, d1, hfz, d3⟩ := H.at2 hj
    have e : setLineS S j xs sz = setRowS S j (resR xs (newN (S.cols : Int)), sizeI sz) := by
      unfold setLineS
      rw [ht, if_pos rfl, show newN (S.cols : Int) = S.cols by have := hS.c2; unfold newN; omega]
      rfl
    rw [e]
    have z0 := hfz (j * 2)
    have z1 := hfz (j * 2 + 1)
    have c0 := H.c0
    have c1 := H.c1
    have pl := H.plt
    have hlL : L < w.heap.size := d3
    have hpL : ¬ p = L := fun e => H.off L (.inl rfl) e.symm
    have hpL2 : ¬ L = p := fun e => hpL e.symm
    have hwL : ¬ w.heap.size = L := by omega
    have hwL2 : ¬ L = w.heap.size := by omega
    have hc1 := hS.c1
    have hc2 := hS.c2
    have hnn : newN (S.cols : Int) = S.cols := by unfold newN; omega
    have hlen := (resR_len xs (newN (S.cols : Int))).trans hnn
    have hD : ∀ x g' k', RowM.At (ext w x) ⟨g', k', resR xs (newN (S.cols : Int)), sizeI sz⟩ → w.heap.size ≤ g' → Did F p (setRowS S j (resR xs (newN (S.cols : Int)), sizeI sz)) w (((ext w x).setCell ⟨L, j * 2, none⟩ (.slice (some ⟨g', 0, none⟩) (resR xs (newN (S.cols : Int))).length k')).setCell ⟨L, j * 2 + 1, none⟩ (.int .i64 (sizeI sz))) := fun x g' k' hR hg => Did.row (x := x) H hj hR hg
    replace hD := Lib.hid hD
    obtain rfl := H.n
    have X := Lib.hid rd
    have RS := Lib.hid (fun w' (h : Rd encC 3 w' A1 xs) => resize_l A1 C1 sz S.cols xs w' h)
    generalize resR xs (newN (S.cols : Int)) = ys at hD RS hlen ⊢
    replace hlen := Lib.hid hlen
    have SZ := Lib.hid (fun (g : Nat) (k : Nat) w' (h : Rd encC 3 w' (some ⟨g, 0, none⟩) ys) => sized_l (some ⟨g, 0, none⟩) k sz sz ys w' h (fun e => by cases e) (by have := hlen.out; omega) (by have := hlen.out; simp [maxLen]; omega))
    have hpos := Lib.hid (show 0 < ys.length by have := hlen.out; omega)
    clear h H hA ht hS hfz e rd hnn e1 e2 hi
    generalize sizeI sz = sz' at hD SZ ⊢
    go_enter Tryz.func38, Tryz.ntmps38
    go_upto_region 2 with (go_at_call 61; ((with_reducible refine (TH.out _ (by (repeat' (first | (with_reducible exact Below.refl _ _) | (with_reducible refine Below.alloc ?_ ?_ _) | (with_reducible refine below_ext ?_ ?_ _) | (with_reducible refine Below.drew ?_) | (with_reducible refine below_drewN ?_ _) | (with_reducible refine Below.setCell ?_ ?_ _) | go_size | (simp only [go_sem]; omega) | (simp [go_sem]; done) | (simp [go_sem]; omega))))).mono ?_); rintro _ _ hgets; obtain ⟨rfl, x1, rfl⟩ := hgets.get; clear hgets))
    go_region_held3 (fun w' => w'.cell? ⟨p, 0, none⟩ = some (.slice (some ⟨L, 0, none⟩) S.rows.length c) ∧ w'.cell? ⟨p, 1, none⟩ = some (.int .i64 S.cols) ∧ w'.cell? ⟨w.heap.size, 0, none⟩ = some (.slice A1 xs.length C1) ∧ w'.cell? ⟨w.heap.size, 1, none⟩ = some (.int .i64 sz)) ((refine ⟨?_, ?_, ?_, ?_⟩ <;> simp [go_sem, c0, c1, pl, hpL, hpL2, hwL, hwL2])) ((first
      | (go_at_call 86
         (with_reducible refine (RS.out _ (by repeat (first | exact X.out | exact X | refine Rd.ext ?_ _ | refine Rd.alloc ?_ _ | refine Rd.drew ?_))).mono ?_)
         intro _ _ hp
         obtain ⟨g1, k1, x2, rfl, rfl, hR1, hg1⟩ := newL_row hp hpos.out
         try simp only [ext_drew] at hR1
         have hR1 := Lib.hid hR1.rd
         clear hp)
      | (go_at_call 85
         (with_reducible refine (SZ.out _ _ _ (by repeat (first | exact hR1.out | exact hR1 | refine Rd.ext ?_ _ | refine Rd.alloc ?_ _ | refine Rd.drew ?_))).mono ?_)
         intro _ _ hp
         obtain ⟨g2, k2, x3, rfl, rfl, hR2, hg2⟩ := newL_row hp hpos.out
         try simp only [ext_drew] at hR2
         have hR2 := Lib.hid hR2
         have hg2 := Lib.hid hg2
         clear hp)))
    obtain ⟨x4, e4⟩ := ext_of (show Below w.heap.size w (ext (ext (ext (w.alloc (.cells #[.slice A1 xs.length C1, .int .i64 sz] 67)) x1) x2) x3) by (repeat' (first | (with_reducible exact Below.refl _ _) | (with_reducible refine Below.alloc ?_ ?_ _) | (with_reducible refine below_ext ?_ ?_ _) | (with_reducible refine Below.drew ?_) | (with_reducible refine below_drewN ?_ _) | (with_reducible refine Below.setCell ?_ ?_ _) | go_size | (simp only [go_sem]; omega) | (simp [go_sem]; done) | (simp [go_sem]; omega))))
    have h7 := hD.out x4 g2 k2 (by rw [← e4]; exact hR2.out) (Nat.le_trans (by simp [go_sem]) hg2.out)
    rw [← e4] at h7
    simp [go_sem, hlL] at h7
    replace h7 := Lib.hid h7
    clear hR1 hR2 hg2
    go_wp2
    go_returns
    exact ⟨rfl, h7.out⟩
  · have ht : thereI S.rows.length i = false := by unfold thereI; simp; omega
    have e : setLineS S i xs sz = S := by unfold setLineS; rw [ht]; rfl
    rw [e]
    rw [ht] at TH
    have SM := Lib.hid (fun a (hb : Below w.heap.size w a) => Did.same h hb)
    clear h hS ht rd
    go_enter Tryz.func38, Tryz.ntmps38
    go_wp2_with (go_at_call 61; ((with_reducible refine (TH.out _ (by (repeat' (first | (with_reducible exact Below.refl _ _) | (with_reducible refine Below.alloc ?_ ?_ _) | (with_reducible refine below_ext ?_ ?_ _) | (with_reducible refine Below.drew ?_) | (with_reducible refine below_drewN ?_ _) | (with_reducible refine Below.setCell ?_ ?_ _) | go_size | (simp only [go_sem]; omega) | (simp [go_sem]; done) | (simp [go_sem]; omega))))).mono ?_); rintro _ _ hgets; obtain ⟨rfl, x1, rfl⟩ := hgets.get; clear hgets))
    go_returns
    refine ⟨rfl, SM.out _ ?_⟩
    (repeat' (first | (with_reducible exact Below.refl _ _) | (with_reducible refine Below.alloc ?_ ?_ _) | (with_reducible refine below_ext ?_ ?_ _) | (with_reducible refine Below.drew ?_) | (with_reducible refine below_drewN ?_ _) | (with_reducible refine Below.setCell ?_ ?_ _) | go_size | (simp only [go_sem]; omega) | (simp [go_sem]; done) | (simp [go_sem]; omega)))
end
end Go.Proofs.YtignkkejkknddaaGreat
