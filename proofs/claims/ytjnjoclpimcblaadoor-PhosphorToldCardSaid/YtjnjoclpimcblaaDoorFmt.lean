/- A number between two others, a number of a list, decimal digits.  -/
import Derived.Test.YtjnjoclpimcblaaDoorJoin
import Derived.Test.YtjnjoclpimcblaaDoorItoa
import Derived.Test.YtjnjoclpimcblaaDoorBytesStr
namespace Go.Proofs.YtjnjoclpimcblaaDoor
open Go.RowKit
set_option linter.unusedVariables false
set_option linter.unusedSimpArgs false

set_option maxRecDepth 100000 in
theorem clip_p (n a b : Int) (w : World) : Calls Tryd.prog 15 #[.int .i64 n, .int .i64 a, .int .i64 b] w (Same w (.int .i64 (max a (min n b)))) := by
  go_enter Tryd.func15, Tryd.ntmps15
  go_wp2
  go_returns
  exact ⟨rfl, rfl⟩
def rawI (xs : List Int) (i : Int) : Int := if i < 0 then 0 else xs.getD i.toNat 0
theorem rawI_in {xs : List Int} {i : Nat} (h : i < xs.length) : rawI xs i = xs[i] := by
  unfold rawI
  rw [if_neg (by omega), Int.toNat_natCast]
  simp [h]
theorem rawI_out {xs : List Int} {i : Int} (h : i < 0 ∨ (xs.length : Int) ≤ i) : rawI xs i = 0 := by
  unfold rawI
  split
  · rfl
  · rw [List.getD_eq_getElem?_getD, List.getElem?_eq_none (by omega)]
    rfl
def getI (xs : List Int) (i d : Int) : Int := if rawI xs i = 0 then d else rawI xs i
section
variable {A : Option Addr} {c : Nat} {xs : List Int}
end
theorem strOf_one (n : Nat) : strOf [(n : Int)] = ⟨#[UInt8.ofNat n]⟩ := rfl
theorem byte_new {w : World} {g : Nat} (e : TypeId) (n : Int) (hg : g = w.heap.size) : Rd (encI .u8) 1 (w.alloc (.cells #[.int .u8 n] e)) (some ⟨g, 0, none⟩) [n] :=
  (Own.new (B := 0) (e := e) (encI_len _) hg (xs := [n]) (rfl : (1 : Nat) = [n].length) _ rfl (Nat.zero_le _) (by simp [maxLen])).rd (encI_len _)
theorem dec_len : ∀ (k u : Nat), u < 10 ^ (k + 1) → (Lib.decDigits u).length ≤ k + 1
  | 0, u, h => by rw [Lib.decDigits_one (by omega)]; simp
  | k + 1, u, h => by
    rw [Lib.decDigits]
    split
    · simp
    · have := dec_len k (u / 10) (by rw [Nat.pow_succ] at h; omega)
      rw [List.length_append, List.length_singleton]
      omega
end Go.Proofs.YtjnjoclpimcblaaDoor
