/- PhosphorWeighed returns true for every input: what a cell weighs tells its rendition and its keeping, whatever stands there. No condition. -/
import Derived.Test.YtmpbgjnkkapijaaWeighed
import Derived.Test.YtmpbgjnkkapijaaTurns
import Derived.Test.YtmpbgjnkkapijaaAwake1
import Derived.Deep.RegionHeld3
import Derived.Test.YtmpbgjnkkapijaaFlagsEq
import Derived.Test.YtmpbgjnkkapijaaFrameCell
namespace Go.Proofs.Ytmpbgjnkkapijaa
open Go.ChangeShapes Go.WideShapes Go.ChangeAt Go.RowKit
set_option linter.unusedVariables false
set_option linter.unusedSimpArgs false

attribute [local go_sem ↓] flags_eq
@[go_sem] theorem flags_guard : Try.prog.eqGuardType Try.prog.depth 55 = false := by kernel_rfl
theorem weighs_same (g : Int) (f f' : Fl) (k k' : Bool) : (g + f.weight + bi k 4 == g + f'.weight + bi k' 4) = (decide (f = f') && k == k') := by
  rw [Bool.eq_iff_iff]
  simp only [beq_iff_eq, Bool.and_eq_true, decide_eq_true_eq]
  exact ⟨weigh_tells g f f' k k', fun ⟨h1, h2⟩ => by rw [h1, h2]⟩

set_option maxRecDepth 100000 in
set_option maxHeartbeats 4000000 in
theorem PhosphorWeighed_walk (w : World) (g : Int) (wg : (Lit.int .i32 g).wf = true) (ag ar : Int) (ak : Bool) (oka : Cl.ok ⟨ag, ar, ak⟩) (bg br : Int) (bk : Bool) (okb : Cl.ok ⟨bg, br, bk⟩) :
    Calls Try.prog 12 #[.int .i32 g, .agg #[.int .i32 ag, .int .u8 ar, .bool ak], .agg #[.int .i32 bg, .int .u8 br, .bool bk]] w (Gives w (.bool true)) := by
  obtain ⟨-, a1⟩ := oka
  obtain ⟨-, b1⟩ := okb
  simp only at a1 b1
  have bgd := bounds_i32 wg
  clear wg
  have o1 := fun w' => of_r ar a1.1 a1.2 w'
  have o2 := fun w' => of_r br b1.1 b1.2 w'
  have w1 := fun w' => cweight_c g ar ak bgd a1 w'
  have w2 := fun w' => cweight_c g br bk bgd b1 w'
  have f1 : ∀ w' A, Ints w' A [1, 8] → Calls Try.prog 23 #[.int .u8 ar, .slice A 2 2] w' (Same w' (.int .u8 (foldR turnF (Fl.of ar) [1, 8]).num)) := fun w' A h => flip_c ar a1.1 a1.2 A 2 [1, 8] w' h (by simp)
  have hN1 : 0 ≤ (foldR turnF (Fl.of ar) [1, 8]).num ∧ (foldR turnF (Fl.of ar) [1, 8]).num ≤ 255 := by have := Fl.num_bd (foldR turnF (Fl.of ar) [1, 8]); omega
  have f2 : ∀ w' A, Ints w' A [1, 8] → Calls Try.prog 23 #[.int .u8 (foldR turnF (Fl.of ar) [1, 8]).num, .slice A 2 2] w' (Same w' (.int .u8 (Fl.of ar).num)) := fun w' A h => by
    have := flip_c _ hN1.1 hN1.2 A 2 [1, 8] w' h (by simp)
    rwa [Fl.num_of, foldR_twice] at this
  have w3 := fun w' => cweight_c g (foldR turnF (Fl.of ar) [1, 8]).num ak bgd hN1 w'
  have w4 := fun w' => cweight_c g (Fl.of ar).num ak bgd (by have := Fl.num_bd (Fl.of ar); omega) w'
  have w5 := fun w' => weight_c _ hN1.1 hN1.2 w'
  simp only [Cl.weight, Fl.num_of] at w1 w2 w3 w4 w5
  have hS := weighs_same (g % 65536) (Fl.of ar) (Fl.of br) ak bk
  have hD : (g % 65536 + (foldR turnF (Fl.of ar) [1, 8]).weight + bi ak 4 != g % 65536 + (Fl.of ar).weight + bi ak 4) = true := by
    have := weighs_same (g % 65536) (foldR turnF (Fl.of ar) [1, 8]) (Fl.of ar) ak ak
    rw [bne, this]
    generalize Fl.of ar = f
    obtain ⟨x, y, z, u, v⟩ := f
    cases x <;> simp [foldR, turnF]
  have hG : 0 ≤ (foldR turnF (Fl.of ar) [1, 8]).weight := (wsum_bd _ 5).1
  generalize (foldR turnF (Fl.of ar) [1, 8]).num = N1 at f1 f2 w3 w5 hN1
  generalize (foldR turnF (Fl.of ar) [1, 8]).weight = V1 at w3 w5 hD hG
  generalize (Fl.of ar).num = N2 at f2 w4
  generalize g % 65536 + V1 + bi ak 4 = P3 at w3 hD
  have hE : (decide (Fl.of ar = Fl.of br)) = ((Fl.of ar).b == (Fl.of br).b && ((Fl.of ar).u == (Fl.of br).u && ((Fl.of ar).k == (Fl.of br).k && ((Fl.of ar).r == (Fl.of br).r && (Fl.of ar).h == (Fl.of br).h)))) := by
    generalize Fl.of ar = f
    generalize Fl.of br = f'
    obtain ⟨b, u, k, r, h⟩ := f
    obtain ⟨b', u', k', r', h'⟩ := f'
    cases b <;> cases u <;> cases k <;> cases r <;> cases h <;> cases b' <;> cases u' <;> cases k' <;> cases r' <;> cases h' <;> rfl
  rw [hE] at hS
  clear hE
  generalize Fl.of ar = F1 at o1 w1 w4 hS hD
  generalize Fl.of br = F2 at o2 w2 hS
  obtain ⟨fb, fu, fk, fr, fh⟩ := F1
  obtain ⟨gb, gu, gk, gr, gh⟩ := F2
  generalize g % 65536 + (Fl.mk fb fu fk fr fh).weight + bi ak 4 = P1 at w1 w4 hS hD
  generalize g % 65536 + (Fl.mk gb gu gk gr gh).weight + bi bk 4 = P2 at w2 hS
  simp only at o1 o2 hS
  have O1 := Lib.hid o1
  have O2 := Lib.hid o2
  have W1 := Lib.hid w1
  have W2 := Lib.hid w2
  have W3 := Lib.hid w3
  have W4 := Lib.hid w4
  have W5 := Lib.hid w5
  have F1 := Lib.hid f1
  have F2 := Lib.hid f2
  clear o1 o2 w1 w2 w3 w4 w5 f1 f2 hN1 a1 b1 bgd
  generalize hQ : (fb == gb && (fu == gu && (fk == gk && (fr == gr && fh == gh)))) = E at hS
  generalize hK : (ak == bk) = K at hS
  have hS2 : (P1 == P2) = (E && K) := hS
  clear hS
  go_enter Try.func12, Try.ntmps12
  cases E <;> cases K
  all_goals
    simp only [Bool.and_true, Bool.and_false, Bool.true_and, Bool.false_and] at hS2
    go_wp2
    (refine wp_region_free (by kernel_rfl) (by kernel_rfl) ?_)
    repeat (go_big_quiet_step (first | ((go_at_call 38; with_reducible exact Calls.free (O1.out _))) | ((go_at_call 38; with_reducible exact Calls.free (O2.out _)))))
    refine wpQuiet_nil ?_; rintro _ ⟨x1, rfl⟩
    go_wp2
    (refine wp_region_free (by kernel_rfl) (by kernel_rfl) ?_)
    repeat (go_big_quiet_step (first | ((go_at_call 16; with_reducible exact Calls.free (W1.out _))) | ((go_at_call 16; with_reducible exact Calls.free (W2.out _)))))
    refine wpQuiet_nil ?_; rintro _ ⟨x2, rfl⟩
    go_upto_region 5 with fail
    go_cut [] (fun wx => Below w.heap.size w wx ∧ w.heap.size < wx.heap.size ∧ wx.cell? ⟨w.heap.size, 0, none⟩ = some (.int .i32 g) ∧ wx.cell? ⟨w.heap.size, 1, none⟩ = some (.int .u8 N1) ∧ wx.cell? ⟨w.heap.size, 2, none⟩ = some (.bool ak))
    case first =>
      go_wp2_with (go_at_call 23; (with_reducible refine (F1.out _ _ ?_).mono ?_); (focus ((repeat (first | ((with_reducible refine int2_new _ 1 8 ?_) <;> (first | (simp [go_sem]; done) | (simp [go_sem, *]; done))) | (with_reducible refine Rd.ext ?_ _) | (with_reducible refine Rd.alloc ?_ _) | (with_reducible refine Rd.drew ?_))); done)); rintro _ _ ⟨rfl, rfl⟩)
      go_meet
      refine ⟨by (repeat' (first | (with_reducible exact Below.refl _ _) | (with_reducible refine Below.alloc ?_ ?_ _) | (with_reducible refine below_ext ?_ ?_ _) | (with_reducible refine Below.drew ?_) | (with_reducible refine below_drewN ?_ _) | (with_reducible refine Below.setCell ?_ ?_ _) | go_size | (simp only [go_sem]; omega) | (simp [go_sem]; done) | (simp [go_sem]; omega))), by simp [go_sem], by simp [go_sem], by simp [go_sem], by simp [go_sem]⟩
    obtain ⟨hB, hsz, k0, k1, k2⟩ := hcut
    have KS : ∀ w', Below wc.heap.size wc w' → w'.cell? ⟨w.heap.size, 0, none⟩ = some (.int .i32 g) ∧ w'.cell? ⟨w.heap.size, 1, none⟩ = some (.int .u8 N1) ∧ w'.cell? ⟨w.heap.size, 2, none⟩ = some (.bool ak) := fun w' h =>
      ⟨(h.cell (p := ⟨w.heap.size, 0, none⟩) hsz).trans k0, (h.cell (p := ⟨w.heap.size, 1, none⟩) hsz).trans k1, (h.cell (p := ⟨w.heap.size, 2, none⟩) hsz).trans k2⟩
    go_wp2_with fail
    go_region_held3 (fun w' => w'.cell? ⟨w.heap.size, 0, none⟩ = some (.int .i32 g) ∧ w'.cell? ⟨w.heap.size, 1, none⟩ = some (.int .u8 N1) ∧ w'.cell? ⟨w.heap.size, 2, none⟩ = some (.bool ak)) (exact KS _ (by (repeat' (first | (with_reducible exact Below.refl _ _) | (with_reducible refine Below.alloc ?_ ?_ _) | (with_reducible refine below_ext ?_ ?_ _) | (with_reducible refine Below.drew ?_) | (with_reducible refine below_drewN ?_ _) | (with_reducible refine Below.setCell ?_ ?_ _) | go_size | (simp only [go_sem]; omega) | (simp [go_sem]; done) | (simp [go_sem]; omega))))) ((first
      | (go_at_call 16; ((with_reducible refine (W3.out _).mono ?_); rintro _ _ hgets; obtain ⟨rfl, _, rfl⟩ := hgets.get; clear hgets))
      | (go_at_call 16; ((with_reducible refine (W4.out _).mono ?_); rintro _ _ hgets; obtain ⟨rfl, _, rfl⟩ := hgets.get; clear hgets))
      | (go_at_call 41; ((with_reducible refine (W5.out _).mono ?_); rintro _ _ ⟨rfl, rfl⟩))
      | (go_at_call 23; (with_reducible refine (F2.out _ _ ?_).mono ?_); (focus ((repeat (first | ((with_reducible refine int2_new _ 1 8 ?_) <;> (first | (simp [go_sem]; done) | (simp [go_sem, *]; done))) | (with_reducible refine Rd.ext ?_ _) | (with_reducible refine Rd.alloc ?_ _) | (with_reducible refine Rd.drew ?_))); done)); rintro _ _ ⟨rfl, rfl⟩)))
    all_goals (try go_wp2_with fail)
    all_goals go_returns
    all_goals refine ⟨?_, hB.trans (by (repeat' (first | (with_reducible exact Below.refl _ _) | (with_reducible refine Below.alloc ?_ ?_ _) | (with_reducible refine below_ext ?_ ?_ _) | (with_reducible refine Below.drew ?_) | (with_reducible refine below_drewN ?_ _) | (with_reducible refine Below.setCell ?_ ?_ _) | go_size | (simp only [go_sem]; omega) | (simp [go_sem]; done) | (simp [go_sem]; omega))))⟩
    all_goals first | rfl | (refine ret_bool ?_; simp [*])
set_option maxRecDepth 100000 in
theorem PhosphorWeighed_lifted (os : Os) (started : os.Started) (H : Type) (enc : TypeId × Value → H) :
    ReturnsInHanded {} Try.checked os 12 .any (Rows.phosphorWeighedSpec.pre6 enc Try.prog Try.f12 Rows.phosphorWeighedRow.domain false) (Rows.phosphorWeighedSpec.post enc Try.prog Try.f12 false true false false) := by
  refine returnsInHanded_of_change_sized (C := Try.checked) own started (by kernel_rfl) Try.func12
    (ChangeSpec.witness6 (enc := enc) (C := Try.checked) false ⟨#[], #[.int .i32 0, .agg #[.int .i32 0, .int .u8 0, .bool false], .agg #[.int .i32 0, .int .u8 0, .bool false]], []⟩ 8 (by kernel_rfl) (by kernel_rfl) (by kernel_rfl) (by kernel_rfl)) ?_
  intro W base args ds gs before hval0 hW hcnd hsz0 _
  have hval : ∀ (j : Nat) t v, Try.f12.params[j]? = some t → args[j]? = some v → Value.okWide Try.prog W .any base t v := hval0
  have hsz : (DataW.weightsEach Try.prog (Try.f12.params.toList ++ Rows.phosphorWeighedSpec.plain.varTypes Try.prog) (ds ++ gs)).all (· ≤ reachBytes) = true := hsz0
  have hW' := hW
  obtain ⟨p, q, hA0, hV, rfl, hfz, hnd⟩ := hW
  have hA : DataW.TrodAll enc Try.prog W 0 (fun _ => true) true Try.f12.params.toList args.toList ds p := hA0
  rw [Try.params12] at hA hval hsz
  obtain ⟨v0, vs0, d0, ds0, p0, q0, hargs, rfl, rfl, h0, r0⟩ := trodAll_cons hA
  obtain ⟨v1, vs1, d1, ds1, p1, q1, rfl, rfl, rfl, h1, r1⟩ := trodAll_cons r0
  obtain ⟨v2, vs2, d2, ds2, p2, q2, rfl, rfl, rfl, h2, r2⟩ := trodAll_cons r1
  obtain ⟨rfl, rfl, rfl⟩ := trodAll_nil r2
  obtain rfl : args = #[v0, v1, v2] := by cases args; simp_all
  obtain ⟨rfl, rfl⟩ := trodVars_none hV
  clear hA0 hval0 hsz0
  obtain ⟨a0, rfl, -, -, w0⟩ := open_int Try.underlying21 (hval 0 21 v0 rfl rfl) h0
  obtain ⟨cg1, cr1, ck1, rfl, ok1⟩ := open_cell (hval 1 24 v1 rfl rfl) h1
  obtain ⟨cg2, cr2, ck2, rfl, ok2⟩ := open_cell (hval 2 24 v2 rfl rfl) h2
  refine (PhosphorWeighed_walk W a0 w0 cg1 cr1 ck1 ok1 cg2 cr2 ck2 ok2).mono fun e W' ⟨he, hb⟩ => ⟨_, he, ?_⟩
  exact law_post laidOut rfl (by kernel_rfl) (by kernel_rfl) Try.underlying4 hW' rfl hb

theorem PhosphorWeighed_holds : Rows.PhosphorWeighedSaid :=
  OpenClaim.holds_of_wide 12 Try.f12 rfl rfl rfl rfl rfl rfl rfl ⟨rfl, rfl, rfl, rfl, rfl⟩ rfl rfl rfl rfl rfl (by kernel_rfl) Try.func12 (by kernel_rfl)
    (of_decide_eq_true (by kernel_rfl)) (by unfold Func.isWrapper; first | (rw [if_pos (by decide +kernel)]; kernel_rfl) | (rw [if_neg (by decide +kernel)]; exact ⟨rfl, rfl⟩))
    (fun os started H enc _ => PhosphorWeighed_lifted os started H enc)
#print axioms PhosphorWeighed_holds

end Go.Proofs.Ytmpbgjnkkapijaa
