/- Lines: cells go on within their span. -/
import Derived.Test.YtdlngbmgcedbpaaRow
import Derived.Test.YtdlngbmgcedbpaaLineLaw
namespace Go.Proofs.Ytdlngbmgcedbpaa
open Go.RowKit
set_option linter.unusedVariables false
set_option linter.unusedSimpArgs false

/-- where a slice goes on from place m -/
def cutA (a : Option Addr) (k m : Nat) : Option Addr := if k = m then a else a.map (·.add (m * 3))
theorem slice_from (a : Option Addr) (n k m : Nat) (w : World) (hm : m ≤ n) : (Instr.sliceAt 68 (.slice a n k) (some (.int .i64 m)) none none).run Try.prog w = .ok (.slice (cutA a k m) (n - m) (k - m)) w := by
  have h0 : (0 : Int) ≤ (m : Int) := by omega
  have h1 : (m : Int) ≤ (n : Int) := by omega
  unfold cutA
  simp [go_sem, h0, h1]
theorem RowAt.copied {W2 wr wr' : World} {H c : Nat} {A : Option Addr} {sz : Int} {ys zs : List Cl} (h : RowAt W2 wr H A c sz ys) (hl : zs.length = ys.length) (hO : Own encC 3 87 W2.heap.size wr' (.slice A ys.length c) zs) (hb : Below W2.heap.size wr wr') (hs : wr'.heap.size = wr.heap.size)
    (hf : ∀ b : Nat, A ≠ some ⟨b, 0, none⟩ → wr'.heap[b]? = wr.heap[b]?) : RowAt W2 wr' H A c sz zs := by
  have hH := hf H (fun e => h.ne H e rfl)
  refine ⟨h.below.trans hb, h.ge, by rw [hs]; exact h.lt, ?_, ?_, h.ne, by rw [hl]; exact hO⟩
  · rw [cell_of_heap hH, h.h0, hl]
  · rw [cell_of_heap hH, h.h1]
theorem PartL.all {w w' : World} {xs : List Cl} {sz f t : Int} {e : Ending} (hm : xs.length ≤ 1000000) (h : PartL w xs sz f t e w') : ∃ A' c' x a k, w' = ext w x ∧ Own encC 3 87 w.heap.size (ext w x) (.slice A' xs.length c') xs ∧
    e = .returned (.tuple #[lineV A' xs.length c' sz, .slice a (cutR xs f t).length k]) ∧ (0 < (cutR xs f t).length → ∃ g, A' = some ⟨g, 0, none⟩ ∧ a = some ⟨g, offN xs.length f t * 3, none⟩) ∧ (cutR xs f t).length ≤ k ∧ k ≤ 9223372036854775807 ∧ (a = none → k = 0) ∧ Rd encC 3 (ext w x) a (cutR xs f t) := by
  obtain ⟨A', c', x, e1, hO, h⟩ := h
  have hh := offN_le xs.length f t (by omega)
  have hl := cutR_len xs f t
  rcases h with ⟨hn, e2⟩ | ⟨g, hg, e2⟩
  · have e0 : (cutR xs f t).length = 0 := by omega
    exact ⟨A', c', x, none, 0, e1, hO, by rw [e0]; exact e2, fun h => by omega, by omega, by omega, fun _ => rfl, fun q => by omega⟩
  · by_cases q : spanN xs.length f t = 0
    · have e0 : (cutR xs f t).length = 0 := by rw [hl, q]; rfl
      refine ⟨A', c', x, none, 0, e1, hO, ?_, fun h => by omega, by omega, by omega, fun _ => rfl, fun q => by omega⟩
      rw [e2, e0]; unfold cutV; rw [if_pos q]
    · have q0 : 0 < xs.length := by unfold spanN at q; omega
      obtain ⟨g', eg, h1, h2⟩ := hO.at0 q0
      simp only [maxLen] at h2
      have e3 : offN xs.length f t = (spanA f).toNat := by unfold offN; rw [if_neg q]
      refine ⟨A', c', x, some ⟨g, (spanA f).toNat * 3, none⟩, c' - (spanA f).toNat, e1, hO, by rw [e2, hl]; unfold cutV; rw [if_neg q], fun _ => ⟨g, hg, by rw [e3]⟩, by omega, by omega, fun e => (by cases e), ?_⟩
      subst hg
      have hr := hO.rd encC_len
      obtain ⟨b, off, e2, hd⟩ := hr.drop (k := (spanA f).toNat) (by omega)
      injection e2 with e2
      injection e2 with e2 e3
      subst e2 e3
      have h4 := hd.take (spanN xs.length f t).toNat
      rw [Nat.zero_add] at h4
      unfold cutR
      rw [e3]
      exact h4
/-- new cells at a span's beginning -/
def insR (xs : List Cl) (f t : Int) (m : Nat) : List Cl := layOn (layOn xs (offN xs.length f t + m) ((cutR xs f t).take ((cutR xs f t).length - m))) (offN xs.length f t) (List.replicate m erC)
/-- the first cells of a span go -/
def delR (xs : List Cl) (f t : Int) (m : Nat) : List Cl := layOn (layOn xs (offN xs.length f t) ((cutR xs f t).drop m)) (offN xs.length f t + ((cutR xs f t).length - m)) (List.replicate m erC)
def clampN (n : Int) (k : Nat) : Nat := (max 0 (min n k)).toNat
theorem lens (xs : List Cl) (f t : Int) : offN xs.length f t + (cutR xs f t).length ≤ xs.length := by
  have hh := offN_le xs.length f t (by omega)
  have hl := cutR_len xs f t
  omega
end Go.Proofs.Ytdlngbmgcedbpaa
