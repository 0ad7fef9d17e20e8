/- CellWeighs returns true for every input: a cell weighs what its glyph, its rendition and its keeping add up to. No condition. -/
import Derived.Test.YtmpbgjnkkapijaaAwake2
import Derived.Deep.RegionHeld3
namespace Go.Proofs.Ytmpbgjnkkapijaa
open Go.ChangeShapes Go.WideShapes Go.ChangeAt Go.RowKit
set_option linter.unusedVariables false
set_option linter.unusedSimpArgs false

set_option maxHeartbeats 1000000 in
theorem CellWeighs_walk (w : World) (g r : Int) (k : Bool) (ok : Cl.ok ⟨g, r, k⟩) :
    Calls Try.prog 3 #[.agg #[.int .i32 g, .int .u8 r, .bool k]] w (Gives w (.bool true)) := by
  obtain ⟨ok1, ok2⟩ := ok
  have c1 := fun w' => cweight_c g r k ok1 ok2 w'
  have c2 := fun w' => cweight_r g r k ok1 ok2 w'
  obtain ⟨b0, b1⟩ := wsum_cl ⟨g, r, k⟩
  have s1 : ∀ (w' : World) (a A : Option Addr), Rd encR 1 w' A [⟨a, 1, [⟨g, r, k⟩]⟩] → Rd encC 3 w' a [⟨g, r, k⟩] → Calls Try.prog 18 #[.slice A 1 1] w' (Gives w' (.int .i64 (Cl.weight ⟨g, r, k⟩ % 65536))) := by
    intro w' a A h1 h2
    have := sum_1 w' h1 h2 (by simp) (by intro x hx; simp at hx; subst hx; exact ⟨ok1, ok2⟩)
    rwa [show sumW [(⟨g, r, k⟩ : Cl)] = Cl.weight ⟨g, r, k⟩ by simp [sumW]] at this
  generalize Cl.weight ⟨g, r, k⟩ = W' at c1 c2 s1 b0 b1
  have C1 := Lib.hid c1
  have C2 := Lib.hid c2
  have S1 := Lib.hid s1
  clear c1 c2 s1 ok1 ok2
  go_enter Try.func3, Try.ntmps3
  go_wp2_with (go_at_call 15; ((with_reducible refine (awake2 _).mono ?_); rintro _ _ hgets; obtain ⟨rfl, x1, rfl⟩ := hgets.get; clear hgets))
  generalize hW : w.alloc (.cells #[.int .i32 g, .int .u8 r, .bool k] 24) = W
  have hsz : W.heap.size = w.heap.size + 1 := by subst hW; simp [go_sem]
  have hB : Below w.heap.size w W := by subst hW; (repeat' (first | (with_reducible exact Below.refl _ _) | (with_reducible refine Below.alloc ?_ ?_ _) | (with_reducible refine below_ext ?_ ?_ _) | (with_reducible refine Below.drew ?_) | (with_reducible refine below_drewN ?_ _) | (with_reducible refine Below.setCell ?_ ?_ _) | go_size | (simp only [go_sem]; omega) | (simp [go_sem]; done) | (simp [go_sem]; omega)))
  have k0 : W.cell? ⟨w.heap.size, 0, none⟩ = some (.int .i32 g) := by subst hW; simp [go_sem]
  have k1 : W.cell? ⟨w.heap.size, 1, none⟩ = some (.int .u8 r) := by subst hW; simp [go_sem]
  have k2 : W.cell? ⟨w.heap.size, 2, none⟩ = some (.bool k) := by subst hW; simp [go_sem]
  have KS : ∀ w', Below W.heap.size W w' → w'.cell? ⟨w.heap.size, 0, none⟩ = some (.int .i32 g) ∧ w'.cell? ⟨w.heap.size, 1, none⟩ = some (.int .u8 r) ∧ w'.cell? ⟨w.heap.size, 2, none⟩ = some (.bool k) := fun w' h =>
    ⟨(h.cell (p := ⟨w.heap.size, 0, none⟩) (by simp; omega)).trans k0, (h.cell (p := ⟨w.heap.size, 1, none⟩) (by simp; omega)).trans k1, (h.cell (p := ⟨w.heap.size, 2, none⟩) (by simp; omega)).trans k2⟩
  go_region_held3 (fun w' => w'.cell? ⟨w.heap.size, 0, none⟩ = some (.int .i32 g) ∧ w'.cell? ⟨w.heap.size, 1, none⟩ = some (.int .u8 r) ∧ w'.cell? ⟨w.heap.size, 2, none⟩ = some (.bool k)) (exact KS _ (by (repeat' (first | (with_reducible exact Below.refl _ _) | (with_reducible refine Below.alloc ?_ ?_ _) | (with_reducible refine below_ext ?_ ?_ _) | (with_reducible refine Below.drew ?_) | (with_reducible refine below_drewN ?_ _) | (with_reducible refine Below.setCell ?_ ?_ _) | go_size | (simp only [go_sem]; omega) | (simp [go_sem]; done) | (simp [go_sem]; omega))))) ((first
    | (go_at_call 16; ((with_reducible refine (C1.out _).mono ?_); rintro _ _ hgets; obtain ⟨rfl, _, rfl⟩ := hgets.get; clear hgets))
    | (go_at_call 17; ((with_reducible refine (C2.out _).mono ?_); rintro _ _ hgets; obtain ⟨rfl, _, rfl⟩ := hgets.get; clear hgets))
    | (go_at_call 18; ((with_reducible refine (S1.out _ _ _ (by repeat (first | exact (row_new _ ⟨_, 1, [⟨g, r, k⟩]⟩ (by simp [go_sem, hsz]) _ rfl).out | exact (row_new _ ⟨_, 1, [⟨g, r, k⟩]⟩ (by simp [go_sem, hsz]) _ rfl) | refine Rd.ext ?_ _ | refine Rd.alloc ?_ _ | refine Rd.drew ?_)) (by repeat (first | exact (cell_new _ ⟨g, r, k⟩ (by simp [go_sem, hsz])).out | exact (cell_new _ ⟨g, r, k⟩ (by simp [go_sem, hsz])) | refine Rd.ext ?_ _ | refine Rd.alloc ?_ _ | refine Rd.drew ?_))).mono ?_); rintro _ _ hgets; obtain ⟨rfl, _, rfl⟩ := hgets.get; clear hgets))))
  all_goals (try go_wp2_with fail)
  all_goals go_returns
  have E : W'.tmod 65536 = W' % 65536 := Int.tmod_eq_emod_of_nonneg b0
  refine ⟨?_, hB.trans (by (repeat' (first | (with_reducible exact Below.refl _ _) | (with_reducible refine Below.alloc ?_ ?_ _) | (with_reducible refine below_ext ?_ ?_ _) | (with_reducible refine Below.drew ?_) | (with_reducible refine below_drewN ?_ _) | (with_reducible refine Below.setCell ?_ ?_ _) | go_size | (simp only [go_sem]; omega) | (simp [go_sem]; done) | (simp [go_sem]; omega))))⟩
  refine ret_bool ?_
  simp [E]

set_option maxRecDepth 100000 in
theorem CellWeighs_lifted (os : Os) (started : os.Started) (H : Type) (enc : TypeId × Value → H) :
    ReturnsInHanded {} Try.checked os 3 .any (Rows.cellWeighsSpec.pre6 enc Try.prog Try.f3 Rows.cellWeighsRow.domain false) (Rows.cellWeighsSpec.post enc Try.prog Try.f3 false true false false) := by
  refine returnsInHanded_of_change_sized (C := Try.checked) own started (by kernel_rfl) Try.func3
    (ChangeSpec.witness6 (enc := enc) (C := Try.checked) false ⟨#[], #[.agg #[.int .i32 0, .int .u8 0, .bool false]], []⟩ 8 (by kernel_rfl) (by kernel_rfl) (by kernel_rfl) (by kernel_rfl)) ?_
  intro W base args ds gs before hval0 hW hcnd hsz0 _
  have hval : ∀ (j : Nat) t v, Try.f3.params[j]? = some t → args[j]? = some v → Value.okWide Try.prog W .any base t v := hval0
  have hsz : (DataW.weightsEach Try.prog (Try.f3.params.toList ++ Rows.cellWeighsSpec.plain.varTypes Try.prog) (ds ++ gs)).all (· ≤ reachBytes) = true := hsz0
  have hW' := hW
  obtain ⟨p, q, hA0, hV, rfl, hfz, hnd⟩ := hW
  have hA : DataW.TrodAll enc Try.prog W 0 (fun _ => true) true Try.f3.params.toList args.toList ds p := hA0
  rw [Try.params3] at hA hval hsz
  obtain ⟨v0, vs0, d0, ds0, p0, q0, hargs, rfl, rfl, h0, r0⟩ := trodAll_cons hA
  obtain ⟨rfl, rfl, rfl⟩ := trodAll_nil r0
  obtain rfl : args = #[v0] := by cases args; simp_all
  obtain ⟨rfl, rfl⟩ := trodVars_none hV
  clear hA0 hval0 hsz0
  obtain ⟨cg0, cr0, ck0, rfl, ok0⟩ := open_cell (hval 0 24 v0 rfl rfl) h0
  refine (CellWeighs_walk W cg0 cr0 ck0 ok0).mono fun e W' ⟨he, hb⟩ => ⟨_, he, ?_⟩
  exact law_post laidOut rfl (by kernel_rfl) (by kernel_rfl) Try.underlying4 hW' rfl hb

theorem CellWeighs_holds : Rows.CellWeighsSaid :=
  OpenClaim.holds_of_wide 3 Try.f3 rfl rfl rfl rfl rfl rfl rfl ⟨rfl, rfl, rfl, rfl, rfl⟩ rfl rfl rfl rfl rfl (by kernel_rfl) Try.func3 (by kernel_rfl)
    (of_decide_eq_true (by kernel_rfl)) (by unfold Func.isWrapper; first | (rw [if_pos (by decide +kernel)]; kernel_rfl) | (rw [if_neg (by decide +kernel)]; exact ⟨rfl, rfl⟩))
    (fun os started H enc _ => CellWeighs_lifted os started H enc)
#print axioms CellWeighs_holds

end Go.Proofs.Ytmpbgjnkkapijaa
