/- []byte to string, of a slice that reads as a list of bytes. -/
import Derived.Test.YtdjkjbkmmdmipaaOwn
import Derived.Laws.Cells
import Derived.Laws.BytesString
namespace Go.Proofs.Ytdjkjbkmmdmipaa
open Go.RowKit

/-- a list of bytes as a string -/
def strOf (bs : List Int) : ByteArray := bs.foldl (fun r n => r.push (UInt8.ofNat n.toNat)) ByteArray.empty
theorem conv_rd {w : World} {A : Option Addr} {c : Nat} {bs : List Int} (h : Rd (encI .u8) 1 w A bs) : (convert 34 9 (.slice A bs.length c)).run Try.prog w = .ok (.string (strOf bs)) w := by
  rw [run_convert_bytes_string w 34 9 5 A bs.length c Try.underlying34 Try.underlying5 Try.underlying9]
  cases bs with
  | nil => cases A with
    | none => simp [Conv.bytesToString, strOf, Sem.run_pure]
    | some a => exact run_bytesToString w a 0 c [] (by simp [loadCells, loadCellsFrom])
  | cons b bs =>
    obtain ⟨g, o, rfl, hlt, hc⟩ := h (by simp)
    have := run_loadCells_list (P := Try.prog) (w := w) ⟨g, o, none⟩ ((b :: bs).map (Value.int .u8)) (fun j v hv => by
      rw [addr_add]
      rw [List.getElem?_map, Option.map_eq_some_iff] at hv
      obtain ⟨n, hn, rfl⟩ := hv
      obtain ⟨hj, he⟩ := List.getElem?_eq_some_iff.1 hn
      have := hc j hj 0 (.int .u8 n) (by rw [he]; rfl)
      simpa using this)
    rw [List.length_map] at this
    exact run_bytesToString w ⟨g, o, none⟩ _ c (b :: bs) (by simpa using this)
end Go.Proofs.Ytdjkjbkmmdmipaa
