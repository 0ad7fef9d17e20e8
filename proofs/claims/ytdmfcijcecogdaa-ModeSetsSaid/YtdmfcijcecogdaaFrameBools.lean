/- Rows of bools among a law's arguments. -/
import Derived.Test.YtdmfcijcecogdaaFrame
import Derived.Deep.Strs
namespace Go.Proofs.Ytdmfcijcecogdaa
open Go.ChangeShapes Go.WideShapes Go.ChangeAt Go.RowKit

def encB (b : Bool) : List Value := [.bool b]
theorem bool_read {H : Type} {enc : TypeId × Value → H} {W : World} (n : Nat) (cs : List Value) (x : DataW H × List MemPlace) (hl : cs.length = 1) (h : DataW.trod enc Try.prog W 0 (fun _ => true) true n 4 cs = some x) :
    ∃ y, cs = encB y ∧ True := by
  obtain ⟨k, e, _⟩ := DataW.trod_bool Try.underlying4 h
  exact ⟨k, e, trivial⟩
theorem open_bools {H : Type} {enc : TypeId × Value → H} {W : World} {v : Value} {d : DataW H} {ps : List MemPlace} (hv : ∃ a n c, v = .slice a n c) (h : DataW.Trod enc Try.prog W 0 (fun _ => true) true 25 v d ps) :
    ∃ (a : Option Addr) (c : Nat) (xs : List Bool), v = .slice a xs.length c ∧ Rd encB 1 W a xs ∧ xs.length ≤ c ∧ c ≤ maxLen ∧ (∀ n ∈ xs, True) ∧ ((d = .nil ∧ c = 0) ∨ ∃ es sp, d = .slice es sp ∧ es.length + sp.length = c) :=
  open_slice_rd Try.underlying25 (by kernel_rfl) (by omega) (fun _ => rfl) (fun n cs x => bool_read n cs x) hv h
end Go.Proofs.Ytdmfcijcecogdaa
