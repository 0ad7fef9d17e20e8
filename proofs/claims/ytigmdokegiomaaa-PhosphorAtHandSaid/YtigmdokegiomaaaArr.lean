/- Long rows of cells: built, stored, returned as they stand. -/
import Derived.Test.YtigmdokegiomaaaLib
import Derived.Deep.MidRow
namespace Go.Proofs.Ytigmdokegiomaaa
open Go.RowKit
theorem below_setCells {B : Nat} {a : World} {b : Nat} (hb : B ≤ b) : ∀ (vs : List Value) (o : Nat) (w : World), Below B a w → Below B a (w.setCells b o vs)
  | [], _, _, h => h
  | v :: r, o, w, h => by
    rw [World.setCells]
    exact below_setCells hb r (o + 1) _ (h.setCell hb _)
theorem wpList_build {P : Program} {ops : Array Oper} {rest : List Oper} {d : Option Nat} {ty : TypeId} {pos : String} {after : Array Edge} {t : TypeId} {parts : Array (Nat × Operand)} {a : Act} {w : World} {Q : Exit → Act → World → Prop} (v : Value)
    (h : (Instr.build t (parts.map fun (i, x) => (i, a.eval x))).run P w = .ok v w) (k : wpList P ops Q rest (a.put d v) w) : wpList P ops Q ({ dst := d, op := .build t parts, type := ty, pos := pos, after := after, guard := none } :: rest) a w := by
  refine wpList_plain rfl fun K hK => ?_
  unfold Oper.wp execOp
  simp only [Sem.run_bind, h, Result.andThen_ok, Sem.run_pure]
  exact hK _ _ k
theorem wpList_store_agg {P : Program} {ops : Array Oper} {rest : List Oper} {d : Option Nat} {ty : TypeId} {pos : String} {after : Array Edge} {t : TypeId} {x y : Operand} {a : Act} {w : World} {Q : Exit → Act → World → Prop} (b : Nat) (cs : List Value)
    (hx : a.eval x = .pointer (some ⟨b, 0, none⟩)) (hy : a.eval y = .agg cs.toArray) (ht : w.there b 0 cs.toArray.size) (hi : (P.info? t).map (·.size) = some cs.toArray.size) (h1 : cs.toArray.all (·.oneCell') = true)
    (k : wpList P ops Q rest (a.put d undef) (w.setCells b 0 cs)) : wpList P ops Q ({ dst := d, op := .store t x y, type := ty, pos := pos, after := after, guard := none } :: rest) a w := by
  refine wpList_store_mid rfl t x y rfl b 0 cs.toArray hx hy ht hi h1 ?_
  rwa [List.toList_toArray]
theorem results_cell {P : Program} {fn : Func} {t : Tmp} {ty : TypeId} (h : fn.results = #[.cell t ty]) (tmps : Array Value) (w : World) (b : Nat) (cs : List Value) (d : TypeDesc) (hx : tmps.getD t undef = .pointer (some ⟨b, 0, none⟩)) (hc : w.rangeAt b 0 cs)
    (hu : P.underlying ty = some d) (hd : d.isRow = true) (hi : (P.info? ty).map (·.size) = some cs.length) : (results fn tmps).run P w = .ok (.agg cs.toArray) w := by
  have := run_loadVar_mid w b 0 ty cs d hc hu hd hi
  have hx' : tmps[t]?.getD undef = .pointer (some ⟨b, 0, none⟩) := by simpa using hx
  simp [results, h, hx', asAddr, this]
theorem there_fresh (w : World) (cs : Array Value) (e : TypeId) : (w.alloc (.cells cs e)).there w.heap.size 0 cs.size := by
  intro j hj
  simp [go_sem, hj]
end Go.Proofs.Ytigmdokegiomaaa
