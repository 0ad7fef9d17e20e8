/- Rows of strings among a law's arguments. -/
import Derived.Test.YtdjkjbkmmdmipaaFrame
import Derived.Deep.Strs
namespace Go.Proofs.Ytdjkjbkmmdmipaa
open Go.ChangeShapes Go.WideShapes Go.ChangeAt Go.RowKit

def encS (s : ByteArray) : List Value := [.string s]
theorem str_read {H : Type} {enc : TypeId × Value → H} {W : World} (n : Nat) (cs : List Value) (x : DataW H × List MemPlace) (hl : cs.length = 1) (h : DataW.trod enc Try.prog W 0 (fun _ => true) true n 9 cs = some x) :
    ∃ y, cs = encS y ∧ y.size ≤ maxLen := by
  obtain ⟨s, hc, _, hw⟩ := DataW.trod_string Try.underlying9 h
  exact ⟨s, hc, hw⟩
theorem open_strs {H : Type} {enc : TypeId × Value → H} {W : World} {v : Value} {d : DataW H} {ps : List MemPlace} (hv : ∃ a n c, v = .slice a n c) (h : DataW.Trod enc Try.prog W 0 (fun _ => true) true 22 v d ps) :
    ∃ (a : Option Addr) (c : Nat) (xs : List ByteArray), v = .slice a xs.length c ∧ Rd encS 1 W a xs ∧ xs.length ≤ c ∧ c ≤ maxLen ∧ (∀ s ∈ xs, s.size ≤ maxLen) ∧ ((d = .nil ∧ c = 0) ∨ ∃ es sp, d = .slice es sp ∧ es.length + sp.length = c) :=
  open_slice_rd Try.underlying22 (by kernel_rfl) (by omega) (fun _ => rfl) (fun n cs x => str_read n cs x) hv h
end Go.Proofs.Ytdjkjbkmmdmipaa
