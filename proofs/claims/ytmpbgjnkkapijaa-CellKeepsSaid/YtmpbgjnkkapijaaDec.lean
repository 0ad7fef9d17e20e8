/- Bytes as rows: what the program's function returns. -/
import Derived.Test.YtmpbgjnkkapijaaEnc2
import Derived.Test.YtmpbgjnkkapijaaCells
import Derived.Laws.BitsAllLaws
namespace Go.Proofs.Ytmpbgjnkkapijaa
open Go.RowKit
set_option linter.unusedVariables false
set_option linter.unusedSimpArgs false

theorem own_other {α : Type} {enc : α → List Value} {size : Nat} {e : TypeId} {B : Nat} {w : World} {v : Value} {xs : List α} (h : Own enc size e B w v xs) (b i : Nat) (hb : b < B) (u : Value) : Own enc size e B (w.setCell ⟨b, i, none⟩ u) v xs := by
  refine ⟨h.1, ?_⟩
  rcases h.2 with hn | ⟨g, cap, cur, rfl, hB, hg, rest⟩
  · exact .inl hn
  · refine .inr ⟨g, cap, cur, rfl, hB, ?_, rest⟩
    rw [Below.heap_setCell _ _ _ _ (fun e => by simp at e; omega)]
    exact hg
theorem Rd.cell7 {w : World} {A : Option Addr} {n a b c d r k : Int} {t : List Int} (h : Rd (encI .u8) 1 w A (n :: a :: b :: c :: d :: r :: k :: t)) :
    ∃ g o, A = some ⟨g, o, none⟩ ∧ g < w.heap.size ∧ w.cell? ⟨g, o, none⟩ = some (.int .u8 n) ∧ w.cell? ⟨g, o + 1, none⟩ = some (.int .u8 a) ∧ w.cell? ⟨g, o + 2, none⟩ = some (.int .u8 b) ∧ w.cell? ⟨g, o + 3, none⟩ = some (.int .u8 c) ∧
      w.cell? ⟨g, o + 4, none⟩ = some (.int .u8 d) ∧ w.cell? ⟨g, o + 5, none⟩ = some (.int .u8 r) ∧ w.cell? ⟨g, o + 6, none⟩ = some (.int .u8 k) ∧ (t ≠ [] → Rd (encI .u8) 1 w (some ⟨g, o + 7, none⟩) t) := by
  obtain ⟨g, o, e, hlt, hc⟩ := h (by simp)
  have key : ∀ i v, (n :: a :: b :: c :: d :: r :: k :: t)[i]? = some v → w.cell? ⟨g, o + i, none⟩ = some (.int .u8 v) := by
    intro i v hv
    obtain ⟨hi, he⟩ := List.getElem?_eq_some_iff.1 hv
    have := hc i hi 0 (.int .u8 v) (by rw [he]; rfl)
    simpa using this
  refine ⟨g, o, e, hlt, by simpa using key 0 n rfl, key 1 a rfl, key 2 b rfl, key 3 c rfl, key 4 d rfl, key 5 r rfl, key 6 k rfl, fun _ h0 => ⟨g, o + 7, rfl, hlt, fun i hi j v hv => ?_⟩⟩
  have := hc (i + 7) (by simp; omega) j v (by simpa using hv)
  rw [← this]
  congr 2
  omega

theorem or_disj (x y q : Int) (i : Nat) (hx : 0 ≤ x ∧ x < 4294967296) (hq : x = 2 ^ i * q) (hq0 : 0 ≤ q) (hy : 0 ≤ y ∧ y < 2 ^ i) (hy2 : y < 4294967296) : bits .or .u32 x y = x + y := by
  rw [u32_or x y hx.1 hx.2 hy.1 hy2]
  obtain ⟨m, rfl⟩ := Int.eq_ofNat_of_zero_le hq0
  obtain ⟨n, rfl⟩ := Int.eq_ofNat_of_zero_le hy.1
  have hx2 : x = ((2 ^ i * m : Nat) : Int) := by rw [hq]; simp
  have hn : n < 2 ^ i := by have := hy.2; exact_mod_cast this
  rw [hx2, Int.toNat_natCast, Int.toNat_natCast, ← Nat.two_pow_add_eq_or_of_lt hn]
  simp
theorem or4 (a b c d : Int) (ha : 0 ≤ a ∧ a ≤ 255) (hb : 0 ≤ b ∧ b ≤ 255) (hc : 0 ≤ c ∧ c ≤ 255) (hd : 0 ≤ d ∧ d ≤ 255) :
    bits .or .u32 (bits .or .u32 (bits .or .u32 (a * 16777216) (b * 65536)) (c * 256)) d = a * 16777216 + b * 65536 + c * 256 + d := by
  rw [or_disj (a * 16777216) (b * 65536) a 24 (by omega) (by omega) (by omega) (by omega) (by omega),
    or_disj (a * 16777216 + b * 65536) (c * 256) (a * 256 + b) 16 (by omega) (by omega) (by omega) (by omega) (by omega),
    or_disj (a * 16777216 + b * 65536 + c * 256) d (a * 65536 + b * 256 + c) 8 (by omega) (by omega) (by omega) (by omega) (by omega)]
end Go.Proofs.Ytmpbgjnkkapijaa
