/- Acts: three numbers each; a list of them among a law's arguments. -/
import Derived.Test.YtdlngbmgcedbpaaFrame
import Derived.Deep.Strs
namespace Go.Proofs.Ytdlngbmgcedbpaa
open Go.ChangeShapes Go.WideShapes Go.ChangeAt Go.RowKit
set_option linter.unusedVariables false
set_option linter.unusedSimpArgs false

structure Ac where
  k : Int
  n : Int
  m : Int
instance : Inhabited Ac := ⟨⟨0, 0, 0⟩⟩
def encA (x : Ac) : List Value := [.int .i64 x.k, .int .i64 x.n, .int .i64 x.m]
def Ac.ok (x : Ac) : Prop := x.n ≤ 9223372036854775807
theorem encA_len (x : Ac) : (encA x).length = 3 := rfl
theorem Rd.act {w : World} {A : Option Addr} {xs : List Ac} (h : Rd encA 3 w A xs) {i : Nat} (hi : i < xs.length) :
    ∃ b o, A = some ⟨b, o, none⟩ ∧ b < w.heap.size ∧ w.cell? ⟨b, o + i * 3, none⟩ = some (.int .i64 xs[i].k) ∧ w.cell? ⟨b, o + i * 3 + 1, none⟩ = some (.int .i64 xs[i].n) ∧ w.cell? ⟨b, o + i * 3 + 2, none⟩ = some (.int .i64 xs[i].m) := by
  obtain ⟨b, o, e, hlt, hc⟩ := h (by omega)
  refine ⟨b, o, e, hlt, ?_, ?_, ?_⟩
  · have := hc i hi 0 _ rfl
    simpa using this
  · have := hc i hi 1 _ rfl
    rw [← this]; congr 2
  · have := hc i hi 2 _ rfl
    rw [← this]; congr 2
set_option maxRecDepth 100000 in
theorem act_read {H : Type} {enc : TypeId × Value → H} {W : World} (n : Nat) (cs : List Value) (x : DataW H × List MemPlace) (hl : cs.length = 3) (h : DataW.trod enc Try.prog W 0 (fun _ => true) true n 62 cs = some x) :
    ∃ y, cs = encA y ∧ Ac.ok y := by
  obtain ⟨y0, y1, y2, m, _, _, h0, h1, h2⟩ := Go.Deep.trod_struct3 Try.underlying62 h
  match cs, hl with
  | [c0, c1, c2], _ =>
    obtain ⟨g, e0, _, w0⟩ := DataW.trod_int Try.underlying3 h0
    obtain ⟨r, e1, _, w1⟩ := DataW.trod_int Try.underlying3 h1
    obtain ⟨k, e2, _, w2⟩ := DataW.trod_int Try.underlying3 h2
    have k0 : Try.prog.cellsOf 3 = 1 := by kernel_rfl
    simp [k0] at e0
    simp [k0] at e1
    simp [k0] at e2
    subst e0 e1 e2
    exact ⟨⟨g, r, k⟩, rfl, (bounds_i64 w1).2⟩
set_option maxRecDepth 100000 in
theorem open_acts {H : Type} {enc : TypeId × Value → H} {W : World} {v : Value} {d : DataW H} {ps : List MemPlace} (hv : ∃ a n c, v = .slice a n c) (h : DataW.Trod enc Try.prog W 0 (fun _ => true) true 55 v d ps) :
    ∃ (a : Option Addr) (c : Nat) (xs : List Ac), v = .slice a xs.length c ∧ Rd encA 3 W a xs ∧ xs.length ≤ c ∧ c ≤ maxLen ∧ (∀ n ∈ xs, Ac.ok n) ∧ ((d = .nil ∧ c = 0) ∨ ∃ es sp, d = .slice es sp ∧ es.length + sp.length = c) :=
  open_slice_rd Try.underlying55 (by kernel_rfl) (by omega) encA_len (fun n cs x => act_read n cs x) hv h
end Go.Proofs.Ytdlngbmgcedbpaa
