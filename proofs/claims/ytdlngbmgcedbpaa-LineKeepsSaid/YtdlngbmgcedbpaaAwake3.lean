/- Lines: the fixed fact. -/
import Derived.Test.YtdlngbmgcedbpaaLine15
namespace Go.Proofs.Ytdlngbmgcedbpaa
open Go.RowKit
set_option linter.unusedVariables false
set_option linter.unusedSimpArgs false

@[go_sem] theorem line_f0 (a b : Value) (w : World) : (Instr.field 70 (.agg #[a, b]) 0).run Try.prog w = .ok a w := by kernel_rfl
@[go_sem] theorem line_f1 (a b : Value) (w : World) : (Instr.field 70 (.agg #[a, b]) 1).run Try.prog w = .ok b w := by kernel_rfl
theorem new3 : List.replicate (newN 3) erC = [erC, erC, erC] := by
  rw [show newN 3 = 3 by decide]; rfl
theorem NewL.three {w w' : World} {xs : List Cl} {sz : Int} {e : Ending} (a b c : Cl) (hx : xs = [a, b, c]) (h : NewL w xs sz e w') : ∃ g cp x, e = .returned (lineV (some ⟨g, 0, none⟩) 3 cp sz) ∧ w' = ext w x ∧ Hid (Own encC 3 87 w.heap.size (ext w x) (.slice (some ⟨g, 0, none⟩) 3 cp) [a, b, c]) ∧ g < w.heap.size + x.sz ∧ 3 ≤ cp ∧ cp ≤ 9223372036854775807 ∧
    (ext w x).cell? ⟨g, 3, none⟩ = some (.int .i32 b.g) ∧ (ext w x).cell? ⟨g, 6, none⟩ = some (.int .i32 c.g) := by
  subst hx
  obtain ⟨A, cp, x, rfl, rfl, hO⟩ := h
  obtain ⟨g, rfl, h1, h2⟩ := hO.at0 (by simp)
  obtain ⟨g1, e1, _, hg, d0, _, _, _⟩ := own_at hO 1 (by simp)
  obtain ⟨g2, e2, _, _, f0, _, _, _⟩ := own_at hO 2 (by simp)
  injection e1 with e1
  injection e1 with e1
  injection e2 with e2
  injection e2 with e2
  subst e1 e2
  simp only [maxLen] at h2
  exact ⟨g, cp, x, rfl, rfl, Lib.hid hO, by simpa using hg, h1, h2, d0, f0⟩
theorem sized3 (A : Option Addr) (C : Nat) (w : World) (rd : Rd encC 3 w A [erC, erC, erC]) (hC : A = none → C = 0) : Calls Try.prog 61 #[.agg #[.slice A 3 C, .int .i64 0], .int .i64 1] w (NewL w [erC, erC, erC] 1) :=
  sized_l A C 0 1 [erC, erC, erC] w rd hC (by simp) (by simp [maxLen])
theorem width3 (A : Option Addr) (C : Nat) (w : World) : Calls Try.prog 64 #[lineV A 3 C 1] w (Gives w (.int .i64 1)) := by
  have h := width_l A 3 C 1 w (by omega)
  rw [show widthI 3 1 = 1 by decide] at h
  exact h
def xC : Cl := ⟨120, 0, false⟩
theorem fill3 (A : Option Addr) (C : Nat) (w : World) (rd : Rd encC 3 w A [erC, erC, erC]) (hC : A = none → C = 0) : Calls Try.prog 68 #[.agg #[.slice A 3 C, .int .i64 0], .int .i64 1, .int .i64 2, .agg #[.int .i32 120, .int .u8 0, .bool false]] w (NewL w [erC, xC, erC] 0) := by
  have h := fill_l A C 0 [erC, erC, erC] 1 2 xC w rd hC (by simp) (by omega)
  rw [show eachR [erC, erC, erC] 1 2 (fun _ => xC) = [erC, xC, erC] by decide] at h
  exact h
set_option maxRecDepth 100000 in
set_option maxHeartbeats 4000000 in
theorem awake_3 (w : World) : Calls Try.prog 43 #[] w (Gives w (.bool true)) := by
  go_enter Try.func43, Try.ntmps43
  go_wp2_with (first
    | (go_at_call 59
       (with_reducible refine (new_l 3 _).mono ?_)
       intro _ _ hp
       obtain ⟨g, c, x1, rfl, rfl, hO, hg, hc1, hc2, d1, d2⟩ := NewL.three erC erC erC new3 hp
       clear hp
       simp only [erC] at d1 d2)
    | (go_at_call 61
       (with_reducible refine (sized3 (some ⟨g, 0, none⟩) c _ ?_ (by simp)).mono ?_)
       · exact (hO.out.rd encC_len).alloc _
       intro _ _ hp
       obtain ⟨g3, c3, x3, rfl, rfl, hO3, hg3, hc3, hc4, _, _⟩ := NewL.three erC erC erC rfl hp
       clear hp hO3)
    | (go_at_call 64; ((with_reducible refine (width3 _ _ _).mono ?_); rintro _ _ hgets; obtain ⟨rfl, x5, rfl⟩ := hgets.get; clear hgets))
    | (go_at_call 68
       (with_reducible refine (fill3 (some ⟨g, 0, none⟩) c _ ?_ (by simp)).mono ?_)
       · exact (((hO.out.rd encC_len).alloc _).ext _).ext _
       intro _ _ hp
       obtain ⟨g4, c4, x4, rfl, rfl, hO4, hg4, hc5, hc6, e1, e2⟩ := NewL.three erC xC erC rfl hp
       clear hp hO4
       simp only [xC, erC] at e1 e2))
  go_returns
  exact ⟨rfl, by (repeat' (first | (with_reducible exact Below.refl _ _) | (with_reducible refine Below.alloc ?_ ?_ _) | (with_reducible refine below_ext ?_ ?_ _) | (with_reducible refine Below.drew ?_) | (with_reducible refine below_drewN ?_ _) | (with_reducible refine Below.setCell ?_ ?_ _) | go_size | (simp only [go_sem]; omega) | (simp [go_sem]; done) | (simp [go_sem]; omega)))⟩
end Go.Proofs.Ytdlngbmgcedbpaa
