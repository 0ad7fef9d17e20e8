/- Lines: the cells of a span. -/
import Derived.Test.YtdlngbmgcedbpaaLine4
namespace Go.Proofs.Ytdlngbmgcedbpaa
open Go.RowKit
set_option linter.unusedVariables false
set_option linter.unusedSimpArgs false

/-- the span of a row that lies in block g, clipped -/
def cutW (g : Nat) (n f t : Int) : Value := if spanN n f t = 0 then .slice none 0 0 else .slice (some ⟨g, (spanA f).toNat * 3, none⟩) (spanN n f t).toNat (spanN n f t).toNat
def CutL (w : World) (xs : List Cl) (f t : Int) (e : Ending) (w' : World) : Prop := ∃ A' c' x, w' = ext w x ∧ Own encC 3 87 w.heap.size (ext w x) (.slice A' xs.length c') xs ∧
  ((xs.length = 0 ∧ e = .returned (.slice none 0 0)) ∨ ∃ g, A' = some ⟨g, 0, none⟩ ∧ e = .returned (cutW g xs.length f t))
theorem PartL.sl {w w' : World} {xs : List Cl} {sz f t : Int} {e : Ending} (h : PartL w xs sz f t e w') : ∃ A' c' x a n k, w' = ext w x ∧ Own encC 3 87 w.heap.size (ext w x) (.slice A' xs.length c') xs ∧ n ≤ k ∧ k ≤ 9223372036854775807 ∧
    e = .returned (.tuple #[lineV A' xs.length c' sz, .slice a n k]) ∧ ((xs.length = 0 ∧ (Value.slice a n n) = .slice none 0 0) ∨ ∃ g, A' = some ⟨g, 0, none⟩ ∧ (Value.slice a n n) = cutW g xs.length f t) := by
  obtain ⟨A', c', x, e1, hO, h⟩ := h
  rcases h with ⟨hn, e2⟩ | ⟨g, hg, e2⟩
  · exact ⟨A', c', x, none, 0, 0, e1, hO, by omega, by omega, e2, .inl ⟨hn, rfl⟩⟩
  · by_cases q : spanN xs.length f t = 0
    · refine ⟨A', c', x, none, 0, 0, e1, hO, by omega, by omega, ?_, .inr ⟨g, hg, by unfold cutW; rw [if_pos q]⟩⟩
      rw [e2]; unfold cutV; rw [if_pos q]
    · have q0 : 0 < xs.length := by unfold spanN at q; omega
      obtain ⟨g', eg, h1, h2⟩ := hO.at0 q0
      simp only [maxLen] at h2
      exact ⟨A', c', x, some ⟨g, (spanA f).toNat * 3, none⟩, (spanN xs.length f t).toNat, c' - (spanA f).toNat, e1, hO, by unfold spanN spanA; omega, by omega, by rw [e2]; unfold cutV; rw [if_neg q], .inr ⟨g, hg, by unfold cutW; rw [if_neg q]⟩⟩
theorem CutL.of {w w' : World} {A : Option Addr} {c B : Nat} {xs : List Cl} {f t : Int} {S : Value} (hb : Below w.heap.size w w') (hB : w.heap.size ≤ B) (h : Own encC 3 87 B w' (.slice A xs.length c) xs)
    (hr : (xs.length = 0 ∧ S = .slice none 0 0) ∨ ∃ g, A = some ⟨g, 0, none⟩ ∧ S = cutW g xs.length f t) : CutL w xs f t (.returned S) w' := by
  obtain ⟨x, rfl⟩ := ext_of hb
  refine ⟨A, c, x, rfl, h.mono hB, ?_⟩
  rcases hr with ⟨hn, rfl⟩ | ⟨g, hg, rfl⟩
  · exact .inl ⟨hn, rfl⟩
  · exact .inr ⟨g, hg, rfl⟩
set_option maxRecDepth 100000 in
set_option maxHeartbeats 4000000 in
theorem cut_l (A : Option Addr) (C : Nat) (sz : Int) (xs : List Cl) (f t : Int) (w : World) (rd : Rd encC 3 w A xs) (hC : A = none → C = 0) (hm : xs.length ≤ 1000000) (hf : f ≤ 9223372036854775807) :
    Calls Try.prog 47 #[lineV A xs.length C sz, .int .i64 f, .int .i64 t] w (CutL w xs f t) := by
  have PA := Lib.hid (fun w' (h : Rd encC 3 w' A xs) => part_l A C sz xs f t w' h hC hm hf)
  have X := Lib.hid rd
  clear rd hC
  go_enter Try.func47, Try.ntmps47
  go_wp2_with (first
    | (go_at_call 97
       (with_reducible refine (PA.out _ (by repeat (first | exact X.out | exact X | refine Rd.ext ?_ _ | refine Rd.alloc ?_ _ | refine Rd.drew ?_))).mono ?_)
       intro _ _ hp
       obtain ⟨A1, c1, x1, a, n, k, rfl, hO1, hk1, hk2, rfl, hr⟩ := PartL.sl hp
       clear hp
       have hO := Lib.hid hO1
       clear hO1
       replace hr := Lib.hid hr)
    | (go_at_call 98; ((with_reducible refine (clip_c a n k _ hk1 hk2).mono ?_); rintro _ _ ⟨rfl, rfl⟩)))
  go_returns
  exact CutL.of (by (repeat' (first | (with_reducible exact Below.refl _ _) | (with_reducible refine Below.alloc ?_ ?_ _) | (with_reducible refine below_ext ?_ ?_ _) | (with_reducible refine Below.drew ?_) | (with_reducible refine below_drewN ?_ _) | (with_reducible refine Below.setCell ?_ ?_ _) | go_size | (simp only [go_sem]; omega) | (simp [go_sem]; done) | (simp [go_sem]; omega)))) (by first | (simp [go_sem]; done) | (simp [go_sem]; omega)) (hO.out.alloc _) hr.out
end Go.Proofs.Ytdlngbmgcedbpaa
