/- Restore.  -/
import Derived.Test.YtigmdokegiomaaaAhI
namespace Go.Proofs.Ytigmdokegiomaaa
open Go.RowKit
set_option linter.unusedVariables false
set_option linter.unusedSimpArgs false

theorem id_forms : ((List.range 17).all fun k => (match (rowK k).id.data.toList with | [x] => x != 37 | [x, _] => x == 37 | _ => false)) = true := by decide +kernel
theorem id_form {s : Int} (h1 : 1 ≤ s) (h2 : s ≤ 17) : (∃ x, (idB s).data.toList = [x] ∧ x ≠ 37) ∨ (∃ y, (idB s).data.toList = [37, y]) := by
  have := List.all_eq_true.1 id_forms (s - 1).toNat (List.mem_range.2 (by omega))
  show (∃ x, (rowK (s - 1).toNat).id.data.toList = [x] ∧ x ≠ 37) ∨ (∃ y, (rowK (s - 1).toNat).id.data.toList = [37, y])
  revert this
  split
  · rename_i x hx
    intro h
    exact .inl ⟨x, hx, by simpa using h⟩
  · rename_i x y hx
    intro h
    have : x = 37 := by simpa using h
    subst this
    exact .inr ⟨y, hx⟩
  · intro h; cases h
theorem ext_take (l r : List UInt8) : (⟨(l ++ r).toArray⟩ : ByteArray).extract 0 l.length = ⟨l.toArray⟩ := by
  apply ByteArray.ext
  simp [ByteArray.data_extract]
theorem ext_drop (l r : List UInt8) : (⟨(l ++ r).toArray⟩ : ByteArray).extract l.length (l ++ r).length = ⟨r.toArray⟩ := by
  apply ByteArray.ext
  simp [ByteArray.data_extract]
theorem isoid_s (s : Int) (h1 : 1 ≤ s) (h2 : s ≤ 17) (r : List UInt8) (hr : r.length ≤ 900) (w : World) :
    Calls Try.prog 25 #[.string ⟨((idB s).data.toList ++ r).toArray⟩] w (Gives w (.tuple #[.string (idB s), .string ⟨r.toArray⟩])) := by
  have hb : (⟨(idB s).data.toList.toArray⟩ : ByteArray) = idB s := by simp
  rcases id_form h1 h2 with ⟨x, hx, hn⟩ | ⟨y, hy⟩
  · rw [hx] at hb ⊢
    have := isoid_c ⟨([x] ++ r).toArray⟩ 1 (by omega) false (by simp [Lib.hasPrefix, List.isPrefixOf, Ne.symm hn]) rfl (by show 1 ≤ ([x] ++ r).toArray.size; simp) (by show ([x] ++ r).toArray.size ≤ 1000; simp; omega) w
    rw [show (⟨([x] ++ r).toArray⟩ : ByteArray).size = ([x] ++ r).length by show ([x] ++ r).toArray.size = _; simp] at this
    rw [show (1 : Nat) = [x].length from rfl, ext_take, ext_drop, hb] at this
    exact this
  · rw [hy] at hb ⊢
    have := isoid_c ⟨([37, y] ++ r).toArray⟩ 2 (by omega) true (by simp [Lib.hasPrefix]) rfl (by show 2 ≤ ([37, y] ++ r).toArray.size; simp) (by show ([37, y] ++ r).toArray.size ≤ 1000; simp; omega) w
    rw [show (⟨([37, y] ++ r).toArray⟩ : ByteArray).size = ([37, y] ++ r).length by show ([37, y] ++ r).toArray.size = _; simp] at this
    rw [show (2 : Nat) = [37, y].length from rfl, ext_take, ext_drop, hb] at this
    exact this
end Go.Proofs.Ytigmdokegiomaaa
