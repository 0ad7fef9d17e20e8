/- The document's glyph: special, technical.  -/
import Derived.Test.YtigmdokegiomaaaAhE
namespace Go.Proofs.Ytigmdokegiomaaa
open Go.RowKit
set_option linter.unusedVariables false
set_option linter.unusedSimpArgs false

theorem wpList_store_row {P : Program} {ops : Array Oper} {rest : List Oper} {d : Option Nat} {ty : TypeId} {pos : String} {after : Array Edge} {t : TypeId} {x y : Operand} {a : Act} {w : World} {Q : Exit → Act → World → Prop} (b : Nat) (cs : List Value)
    (hx : a.eval x = .pointer (some ⟨b, 0, none⟩)) (hy : a.eval y = .agg cs.toArray) (ht : w.there b 0 cs.toArray.size) (hi : (P.info? t).map (·.size) = some cs.toArray.size) (h1 : cs.toArray.all (·.oneCell') = true)
    (k : ∀ W : World, W.rangeAt b 0 cs → (∀ B a', B ≤ b → Below B a' w → Below B a' W) → wpList P ops Q rest (a.put d undef) W) : wpList P ops Q ({ dst := d, op := .store t x y, type := ty, pos := pos, after := after, guard := none } :: rest) a w := by
  refine wpList_store_agg b cs hx hy ht hi h1 (k _ ?_ ?_)
  · exact World.rangeAt_setCells_same _ _ _ cs (by simpa using ht)
  · exact fun B a' hb h => below_setCells hb cs 0 w h
theorem wpList_load_cell {P : Program} {ops : Array Oper} {rest : List Oper} {d : Option Nat} {ty : TypeId} {pos : String} {after : Array Edge} {t : TypeId} {x : Operand} {a : Act} {w : World} {Q : Exit → Act → World → Prop} (v : Value)
    (h : (Instr.loadAt t (a.eval x)).run P w = .ok v w) (k : wpList P ops Q rest (a.put d v) w) : wpList P ops Q ({ dst := d, op := .load t x, type := ty, pos := pos, after := after, guard := none } :: rest) a w := by
  refine wpList_plain rfl fun K hK => ?_
  unfold Oper.wp execOp
  simp only [Sem.run_bind, h, Result.andThen_ok, Sem.run_pure]
  exact hK _ _ k
def intsV (l : List Int) : List Value := l.map fun x => .int .i64 x
theorem ints_at (l : List Int) (n : Nat) (h : n < l.length) : (intsV l)[n]? = some (.int .i64 (l.getD n 0)) := by
  simp [intsV, h]
theorem load_int (l : List Int) (n : Nat) (v : Int) (h : n < l.length) (hv : l.getD n 0 = v) (W : World) (b : Nat) (R : W.rangeAt b 0 (intsV l)) : W.cell? ⟨b, n, none⟩ = some (.int .i64 v) := by
  have := R n _ (ints_at l n h)
  rw [Nat.zero_add, hv] at this
  exact this
set_option maxHeartbeats 1000000 in
set_option maxRecDepth 10000 in
theorem special_c (c : Int) (h1 : 32 ≤ c) (h2 : c < 127) (w : World) : Calls Try.prog 21 #[.int .i64 c] w (Gives w (.int .i64 (if c < 95 then c else drawL.getD (c - 95).toNat 0))) := by
  by_cases hc : c < 95
  · rw [if_pos hc]
    have d0 : decide (c < 95) = true := decide_eq_true hc
    go_enter Try.func21, Try.ntmps21
    go_wp2
    go_returns
    exact ⟨rfl, by (repeat' (first | (with_reducible exact Below.refl _ _) | (with_reducible refine Below.alloc ?_ ?_ _) | (with_reducible refine below_ext ?_ ?_ _) | (with_reducible refine Below.drew ?_) | (with_reducible refine below_drewN ?_ _) | (with_reducible refine Below.setCell ?_ ?_ _) | go_size | (simp only [go_sem]; omega) | (simp [go_sem]; done) | (simp [go_sem]; omega)))⟩
  rw [if_neg hc]
  have d0 : decide (c < 95) = false := decide_eq_false hc
  have hw : IntKind.i64.wrap (c - 95) = ((c - 95).toNat : Int) := by rw [wrap_a (by omega) (by omega)]; omega
  have hn : (c - 95).toNat < drawL.length := by show _ < 32; omega
  generalize (c - 95).toNat = n at hw hn ⊢
  generalize hv : drawL.getD n 0 = v
  have L := load_int drawL n v hn hv
  have hn' : n < 32 := hn
  have hn := Lib.hid hn
  replace hv := Lib.hid hv
  clear hc h1 h2
  go_enter Try.func21, Try.ntmps21
  go_wp2_with (first
    | (guard_target =~ wpList _ _ _ _ _ _
       (with_reducible refine wpList_build (t := 59) (.agg (intsV drawL).toArray) ?_ ?_)
       focus kernel_rfl)
    | (guard_target =~ wpList _ _ _ _ _ _
       (with_reducible refine wpList_store_row (t := 59) w.heap.size (intsV drawL) ?_ ?_ ?_ ?_ ?_ ?_)
       focus rfl
       focus rfl
       focus exact there_fresh w _ _
       focus kernel_rfl
       focus kernel_rfl
       intro W R B
       replace B := B w.heap.size w (Nat.le_refl _) (by (repeat' (first | (with_reducible exact Below.refl _ _) | (with_reducible refine Below.alloc ?_ ?_ _) | (with_reducible refine below_ext ?_ ?_ _) | (with_reducible refine Below.drew ?_) | (with_reducible refine below_drewN ?_ _) | (with_reducible refine Below.setCell ?_ ?_ _) | go_size | (simp only [go_sem]; omega) | (simp [go_sem]; done) | (simp [go_sem]; omega))))
       replace L := L W w.heap.size R
       clear R))
  go_returns
  exact ⟨rfl, B⟩
def zeros94 : List Value := List.replicate 94 (.int .i64 0)
@[go_sem] theorem zero94 (w : World) : (zeroValue 60).run Try.prog w = .ok (.agg zeros94.toArray) w := by kernel_rfl
set_option maxHeartbeats 4000000 in
set_option maxRecDepth 10000 in
theorem technical_c (c : Int) (h1 : 33 ≤ c) (h2 : c < 127) (w : World) : Calls Try.prog 22 #[.int .i64 c] w (Gives w (.int .i64 (techL.getD (c - 33).toNat 0))) := by
  have hw : IntKind.i64.wrap (c - 33) = ((c - 33).toNat : Int) := by rw [wrap_a (by omega) (by omega)]; omega
  have hn : (c - 33).toNat < techL.length := by show _ < 94; omega
  generalize (c - 33).toNat = n at hw hn ⊢
  generalize hv : techL.getD n 0 = v
  have L := load_int techL n v hn hv
  have hn' : n < 94 := hn
  have hn := Lib.hid hn
  replace hv := Lib.hid hv
  clear h1 h2
  go_enter Try.func22, Try.ntmps22
  go_wp2_with (first
    | (guard_target =~ wpList _ _ _ _ _ _
       (with_reducible refine wpList_build (t := 60) (.agg (intsV techL).toArray) ?_ ?_)
       focus kernel_rfl)
    | (guard_target =~ wpList _ _ _ _ _ _
       (with_reducible refine wpList_store_row (t := 60) w.heap.size (intsV techL) ?_ ?_ ?_ ?_ ?_ ?_)
       focus rfl
       focus rfl
       focus exact there_fresh w _ _
       focus kernel_rfl
       focus kernel_rfl
       intro W R B
       replace B := B w.heap.size w (Nat.le_refl _) (by (repeat' (first | (with_reducible exact Below.refl _ _) | (with_reducible refine Below.alloc ?_ ?_ _) | (with_reducible refine below_ext ?_ ?_ _) | (with_reducible refine Below.drew ?_) | (with_reducible refine below_drewN ?_ _) | (with_reducible refine Below.setCell ?_ ?_ _) | go_size | (simp only [go_sem]; omega) | (simp [go_sem]; done) | (simp [go_sem]; omega))))
       replace L := L W w.heap.size R
       clear R))
  go_returns
  exact ⟨rfl, B⟩
set_option maxHeartbeats 4000000 in
theorem islatin_c (s : Int) (w : World) : Calls Try.prog 20 #[.int .i64 s] w (Gives w (.bool (s == 5))) := by
  go_enter Try.func20, Try.ntmps20
  go_wp2
  go_returns
  exact ⟨rfl, by (repeat' (first | (with_reducible exact Below.refl _ _) | (with_reducible refine Below.alloc ?_ ?_ _) | (with_reducible refine below_ext ?_ ?_ _) | (with_reducible refine Below.drew ?_) | (with_reducible refine below_drewN ?_ _) | (with_reducible refine Below.setCell ?_ ?_ _) | go_size | (simp only [go_sem]; omega) | (simp [go_sem]; done) | (simp [go_sem]; omega)))⟩
end Go.Proofs.Ytigmdokegiomaaa
