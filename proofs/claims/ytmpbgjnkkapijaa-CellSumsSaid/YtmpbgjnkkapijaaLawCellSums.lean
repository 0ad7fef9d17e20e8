/- CellSums returns true for every two rows. No condition. -/
import Derived.Test.YtmpbgjnkkapijaaCells
import Derived.Deep.RegionHeld3
namespace Go.Proofs.Ytmpbgjnkkapijaa
open Go.ChangeShapes Go.WideShapes Go.ChangeAt Go.RowKit
set_option linter.unusedVariables false
set_option linter.unusedSimpArgs false

theorem sumW_append (xs ys : List Cl) : sumW (xs ++ ys) = sumW xs + sumW ys := by simp [sumW]
theorem sum_2 {a A b : Option Addr} {c c' : Nat} {cs ds : List Cl} (w : World) (h0 : Rd encR 1 w A [⟨a, c, cs⟩, ⟨b, c', ds⟩]) (h1 : Rd encC 3 w a cs) (h2 : Rd encC 3 w b ds) (hm : cs.length ≤ 9223372036854775807) (hn : ds.length ≤ 9223372036854775807) (hok : ∀ x ∈ cs, x.ok) (hok' : ∀ x ∈ ds, x.ok) :
    Calls Try.prog 18 #[.slice A 2 2] w (Gives w (.int .i64 ((sumW cs + sumW ds) % 65536))) := by
  have : Calls Try.prog 18 #[.slice A 2 2] w (Gives w (.int .i64 (sumR [⟨a, c, cs⟩, ⟨b, c', ds⟩] % 65536))) := sum_c A 2 [⟨a, c, cs⟩, ⟨b, c', ds⟩] w h0 (by simp) (by intro r hr; simp at hr; rcases hr with rfl | rfl <;> first | exact ⟨h1, hm, hok⟩ | exact ⟨h2, hn, hok'⟩)
  rwa [show sumR [⟨a, c, cs⟩, ⟨b, c', ds⟩] = sumW cs + sumW ds by simp [sumR]] at this
theorem neg_2 {a A b : Option Addr} {c c' : Nat} {cs ds : List Cl} (w : World) (h0 : Rd encR 1 w A [⟨a, c, cs⟩, ⟨b, c', ds⟩]) (h1 : Rd encC 3 w a cs) (h2 : Rd encC 3 w b ds) (hm : cs.length ≤ 9223372036854775807) (hn : ds.length ≤ 9223372036854775807) (hok : ∀ x ∈ cs, x.ok) (hok' : ∀ x ∈ ds, x.ok) :
    Calls Try.prog 22 #[.slice A 2 2] w (Gives w (.int .i64 ((65536 - (sumW cs + sumW ds) % 65536) % 65536))) := by
  have : Calls Try.prog 22 #[.slice A 2 2] w (Gives w (.int .i64 ((65536 - sumR [⟨a, c, cs⟩, ⟨b, c', ds⟩] % 65536) % 65536))) := negated_c A 2 [⟨a, c, cs⟩, ⟨b, c', ds⟩] w h0 (by simp) (by intro r hr; simp at hr; rcases hr with rfl | rfl <;> first | exact ⟨h1, hm, hok⟩ | exact ⟨h2, hn, hok'⟩)
  rwa [show sumR [⟨a, c, cs⟩, ⟨b, c', ds⟩] = sumW cs + sumW ds by simp [sumR]] at this
theorem sum_0 (w : World) : Calls Try.prog 18 #[.slice none 0 0] w (Gives w (.int .i64 0)) := by
  have := sum_c none 0 [] w (fun h => by simp at h) (by simp) (by intro r hr; simp at hr)
  simpa [sumR] using this
theorem row2_new {w : World} {g : Nat} (e : TypeId) (r s : Rw) (hg : g = w.heap.size) (v u : Value) (hv : v = .slice r.a r.cs.length r.c) (hu : u = .slice s.a s.cs.length s.c) : Rd encR 1 (w.alloc (.cells #[v, u] e)) (some ⟨g, 0, none⟩) [r, s] := by
  subst hv hu
  exact (Own.new (enc := encR) (size := 1) (B := 0) (e := e) (fun _ => rfl) hg (xs := [r, s]) (rfl : (2 : Nat) = [r, s].length) _ rfl (Nat.zero_le _) (by simp [maxLen])).rd (fun _ => rfl)

set_option maxHeartbeats 1000000 in
theorem CellSums_walk (w : World) (a : Option Addr) (c : Nat) (xs : List Cl) (rd : Rd encC 3 w a xs) (lc : xs.length ≤ c) (cm : c ≤ maxLen) (wf : ∀ n ∈ xs, Cl.ok n) (re : c * 8 ≤ 140737488351232)
    (b : Option Addr) (d : Nat) (ys : List Cl) (rd' : Rd encC 3 w b ys) (lc' : ys.length ≤ d) (cm' : d ≤ maxLen) (wf' : ∀ n ∈ ys, Cl.ok n) (re' : d * 8 ≤ 140737488351232) :
    Calls Try.prog 4 #[.slice a xs.length c, .slice b ys.length d] w (Gives w (.bool true)) := by
  have U := Lib.hid (fun w' => cut_c a c xs 2000 2000 rfl lc cm w')
  have V := Lib.hid (fun w' => cut_c b d ys 2000 2000 rfl lc' cm' w')
  have m1 : (xs.take 2000).length ≤ 2000 := by simp; omega
  have m2 : (ys.take 2000).length ≤ 2000 := by simp; omega
  have X := Lib.hid (rd.take 2000)
  have Y := Lib.hid (rd'.take 2000)
  have WX := Lib.hid (fun n (h : n ∈ xs.take 2000) => wf n (List.mem_of_mem_take h))
  have WY := Lib.hid (fun n (h : n ∈ ys.take 2000) => wf' n (List.mem_of_mem_take h))
  generalize xs.take 2000 = p at U m1 X WX
  generalize ys.take 2000 = q at V m2 Y WY
  clear rd lc wf rd' lc' wf'
  go_enter Try.func4, Try.ntmps4
  go_wp2_with (first
    | (go_at_call 15; ((with_reducible refine (awake2 _).mono ?_); rintro _ _ hgets; obtain ⟨rfl, x1, rfl⟩ := hgets.get; clear hgets))
    | (go_at_call 19; ((with_reducible refine (U.out _).mono ?_); rintro _ _ ⟨rfl, rfl⟩))
    | (go_at_call 19; ((with_reducible refine (V.out _).mono ?_); rintro _ _ ⟨rfl, rfl⟩))
    | (go_at_call 20
       (with_reducible refine (cells_c a c p _ (by repeat (first | exact X.out | exact X | refine Rd.ext ?_ _ | refine Rd.alloc ?_ _ | refine Rd.drew ?_)) (by omega) (by simp [maxLen]; omega)).mono ?_)
       rintro _ _ ⟨A1, c1, x2, rfl, rfl, hO⟩)
    | (at_builtin
       refine append_rd (U := ext w x1) (.tmp 17) (.tmp 18) _ 24 _ 8 rfl rfl Try.underlying28 cell_info rfl (by omega) encC_len encC_one p q _ b d rfl rfl ?_ hO (by repeat (first | exact Y.out | exact Y | refine Rd.ext ?_ _ | refine Rd.alloc ?_ _ | refine Rd.drew ?_)) (by simp [maxLen]; omega) (by omega) ?_
       · (repeat' (first | (with_reducible exact Below.refl _ _) | (with_reducible refine Below.alloc ?_ ?_ _) | (with_reducible refine below_ext ?_ ?_ _) | (with_reducible refine Below.drew ?_) | (with_reducible refine below_drewN ?_ _) | (with_reducible refine Below.setCell ?_ ?_ _) | go_size | (simp only [go_sem]; omega) | (simp [go_sem]; done) | (simp [go_sem]; omega)))
       intro A2 c2 x3 zs hz hO2))
  subst hz
  have R := Lib.hid (hO2.rd encC_len)
  have hlen : (p ++ q).length = p.length + q.length := by simp
  have nn : ∀ l : List Cl, 0 ≤ sumW l := fun l => by unfold sumW; (induction l with
    | nil => simp
    | cons y l ih => simp only [List.map_cons, List.sum_cons]; have := (wsum_cl y).1; omega)
  have S1 := Lib.hid (fun w' A (h1 : Rd encR 1 w' A [⟨a, c, p⟩]) (h2 : Rd encC 3 w' a p) => sum_1 w' h1 h2 (by omega) WX.out)
  have S2 := Lib.hid (fun w' A (h1 : Rd encR 1 w' A [⟨b, d, q⟩]) (h2 : Rd encC 3 w' b q) => sum_1 w' h1 h2 (by omega) WY.out)
  have S3 := Lib.hid (fun w' A (h1 : Rd encR 1 w' A [⟨A2, c2, p ++ q⟩]) (h2 : Rd encC 3 w' A2 (p ++ q)) => sum_1 w' h1 h2 (by simp; omega) (by intro x hx; exact (List.mem_append.1 hx).elim (WX.out x) (WY.out x)))
  have S4 := Lib.hid (fun w' (h2 : Rd encC 3 w' a p) => sum_r a c p w' h2 (by omega) WX.out)
  have S5 := Lib.hid (fun w' A (h0 : Rd encR 1 w' A [⟨a, c, p⟩, ⟨b, d, q⟩]) (h1 : Rd encC 3 w' a p) (h2 : Rd encC 3 w' b q) => sum_2 w' h0 h1 h2 (by omega) (by omega) WX.out WY.out)
  have S6 := Lib.hid (fun w' A (h0 : Rd encR 1 w' A [⟨a, c, p⟩, ⟨b, d, q⟩]) (h1 : Rd encC 3 w' a p) (h2 : Rd encC 3 w' b q) => neg_2 w' h0 h1 h2 (by omega) (by omega) WX.out WY.out)
  have hs : sumW (p ++ q) = sumW p + sumW q := sumW_append p q
  have n1 := nn p
  have n2 := nn q
  rw [hs] at S3
  clear hO hO2 hs nn hlen
  generalize sumW p = P at S1 S3 S4 S5 S6 n1
  generalize sumW q = Q at S2 S3 S5 S6 n2
  have E0 : (P % 65536 + Q % 65536).tmod 65536 = (P + Q) % 65536 := by rw [Int.tmod_eq_emod_of_nonneg (by omega)]; omega
  have E1 : ((65536 - (P + Q) % 65536) % 65536 + (P + Q) % 65536).tmod 65536 = 0 := by rw [Int.tmod_eq_emod_of_nonneg (by omega)]; omega
  go_wp2_with (first
    | (go_at_call 18; (with_reducible refine (S1.out _ _ ?_ ?_).mono ?_); (focus ((repeat (first | ((with_reducible refine row_new _ ⟨a, c, p⟩ ?_ _ ?_) <;> (simp [go_sem]; done)) | (with_reducible refine Rd.ext ?_ _) | (with_reducible refine Rd.alloc ?_ _) | (with_reducible refine Rd.drew ?_))); done)); (focus ((repeat (first | (with_reducible exact X.out) | (with_reducible exact X) | (with_reducible refine Rd.ext ?_ _) | (with_reducible refine Rd.alloc ?_ _) | (with_reducible refine Rd.drew ?_))); done)); rintro _ _ hgets; obtain ⟨rfl, _, rfl⟩ := hgets.get; clear hgets)
    | (go_at_call 18; (with_reducible refine (S2.out _ _ ?_ ?_).mono ?_); (focus ((repeat (first | ((with_reducible refine row_new _ ⟨b, d, q⟩ ?_ _ ?_) <;> (simp [go_sem]; done)) | (with_reducible refine Rd.ext ?_ _) | (with_reducible refine Rd.alloc ?_ _) | (with_reducible refine Rd.drew ?_))); done)); (focus ((repeat (first | (with_reducible exact Y.out) | (with_reducible exact Y) | (with_reducible refine Rd.ext ?_ _) | (with_reducible refine Rd.alloc ?_ _) | (with_reducible refine Rd.drew ?_))); done)); rintro _ _ hgets; obtain ⟨rfl, _, rfl⟩ := hgets.get; clear hgets)
    | (go_at_call 18; (with_reducible refine (S3.out _ _ ?_ ?_).mono ?_); (focus ((repeat (first | ((with_reducible refine row_new _ ⟨A2, c2, p ++ q⟩ ?_ _ ?_) <;> (simp [go_sem]; done)) | (with_reducible refine Rd.ext ?_ _) | (with_reducible refine Rd.alloc ?_ _) | (with_reducible refine Rd.drew ?_))); done)); (focus ((repeat (first | (with_reducible exact R.out) | (with_reducible exact R) | (with_reducible refine Rd.ext ?_ _) | (with_reducible refine Rd.alloc ?_ _) | (with_reducible refine Rd.drew ?_))); done)); rintro _ _ hgets; obtain ⟨rfl, _, rfl⟩ := hgets.get; clear hgets)
    | (go_at_call 21; (with_reducible refine (S4.out _ ?_).mono ?_); (focus ((repeat (first | (with_reducible exact X.out) | (with_reducible exact X) | (with_reducible refine Rd.ext ?_ _) | (with_reducible refine Rd.alloc ?_ _) | (with_reducible refine Rd.drew ?_))); done)); rintro _ _ hgets; obtain ⟨rfl, _, rfl⟩ := hgets.get; clear hgets)
    | (go_at_call 18; (with_reducible refine (S5.out _ _ ?_ ?_ ?_).mono ?_); (focus ((repeat (first | ((with_reducible refine row2_new _ ⟨a, c, p⟩ ⟨b, d, q⟩ ?_ _ _ ?_ ?_) <;> (simp [go_sem]; done)) | (with_reducible refine Rd.ext ?_ _) | (with_reducible refine Rd.alloc ?_ _) | (with_reducible refine Rd.drew ?_))); done)); (focus ((repeat (first | (with_reducible exact X.out) | (with_reducible exact X) | (with_reducible refine Rd.ext ?_ _) | (with_reducible refine Rd.alloc ?_ _) | (with_reducible refine Rd.drew ?_))); done)); (focus ((repeat (first | (with_reducible exact Y.out) | (with_reducible exact Y) | (with_reducible refine Rd.ext ?_ _) | (with_reducible refine Rd.alloc ?_ _) | (with_reducible refine Rd.drew ?_))); done)); rintro _ _ hgets; obtain ⟨rfl, _, rfl⟩ := hgets.get; clear hgets)
    | (go_at_call 18; ((with_reducible refine (sum_0 _).mono ?_); rintro _ _ hgets; obtain ⟨rfl, _, rfl⟩ := hgets.get; clear hgets))
    | (go_at_call 22; (with_reducible refine (S6.out _ _ ?_ ?_ ?_).mono ?_); (focus ((repeat (first | ((with_reducible refine row2_new _ ⟨a, c, p⟩ ⟨b, d, q⟩ ?_ _ _ ?_ ?_) <;> (simp [go_sem]; done)) | (with_reducible refine Rd.ext ?_ _) | (with_reducible refine Rd.alloc ?_ _) | (with_reducible refine Rd.drew ?_))); done)); (focus ((repeat (first | (with_reducible exact X.out) | (with_reducible exact X) | (with_reducible refine Rd.ext ?_ _) | (with_reducible refine Rd.alloc ?_ _) | (with_reducible refine Rd.drew ?_))); done)); (focus ((repeat (first | (with_reducible exact Y.out) | (with_reducible exact Y) | (with_reducible refine Rd.ext ?_ _) | (with_reducible refine Rd.alloc ?_ _) | (with_reducible refine Rd.drew ?_))); done)); rintro _ _ hgets; obtain ⟨rfl, _, rfl⟩ := hgets.get; clear hgets))
  all_goals go_returns
  all_goals refine ⟨?_, by (repeat' (first | (with_reducible exact Below.refl _ _) | (with_reducible refine Below.alloc ?_ ?_ _) | (with_reducible refine below_ext ?_ ?_ _) | (with_reducible refine Below.drew ?_) | (with_reducible refine below_drewN ?_ _) | (with_reducible refine Below.setCell ?_ ?_ _) | go_size | (simp only [go_sem]; omega) | (simp [go_sem]; done) | (simp [go_sem]; omega)))⟩
  all_goals (refine ret_bool ?_; rw [beq_iff_eq]; omega)

set_option maxRecDepth 100000 in
theorem CellSums_lifted (os : Os) (started : os.Started) (H : Type) (enc : TypeId × Value → H) :
    ReturnsInHanded {} Try.checked os 4 .any (Rows.cellSumsSpec.pre6 enc Try.prog Try.f4 Rows.cellSumsRow.domain false) (Rows.cellSumsSpec.post enc Try.prog Try.f4 false true false false) := by
  refine returnsInHanded_of_change_sized (C := Try.checked) own started (by kernel_rfl) Try.func4
    (ChangeSpec.witness6 (enc := enc) (C := Try.checked) false ⟨#[], #[.slice none 0 0, .slice none 0 0], []⟩ 8 (by kernel_rfl) (by kernel_rfl) (by kernel_rfl) (by kernel_rfl)) ?_
  intro W base args ds gs before hval0 hW hcnd hsz0 _
  have hval : ∀ (j : Nat) t v, Try.f4.params[j]? = some t → args[j]? = some v → Value.okWide Try.prog W .any base t v := hval0
  have hsz : (DataW.weightsEach Try.prog (Try.f4.params.toList ++ Rows.cellSumsSpec.plain.varTypes Try.prog) (ds ++ gs)).all (· ≤ reachBytes) = true := hsz0
  have hW' := hW
  obtain ⟨p, q, hA0, hV, rfl, hfz, hnd⟩ := hW
  have hA : DataW.TrodAll enc Try.prog W 0 (fun _ => true) true Try.f4.params.toList args.toList ds p := hA0
  rw [Try.params4] at hA hval hsz
  obtain ⟨v0, vs0, d0, ds0, p0, q0, hargs, rfl, rfl, h0, r0⟩ := trodAll_cons hA
  obtain ⟨v1, vs1, d1, ds1, p1, q1, rfl, rfl, rfl, h1, r1⟩ := trodAll_cons r0
  obtain ⟨rfl, rfl, rfl⟩ := trodAll_nil r1
  obtain rfl : args = #[v0, v1] := by cases args; simp_all
  obtain ⟨rfl, rfl⟩ := trodVars_none hV
  clear hA0 hval0 hsz0
  obtain ⟨a0, c0, xs0, rfl, rd0, lc0, cm0, wf0, dd0⟩ := open_cells (okWide_slice Try.underlying28 (hval 0 28 v0 rfl rfl)) h0
  have re0 : c0 * 8 ≤ 140737488351232 := by
    rcases dd0 with ⟨-, e⟩ | ⟨es, sp, rfl, e⟩
    · omega
    · have := sized_slice hsz (j := 0) (t := 28) (e := 24) rfl rfl Try.underlying28
      rw [show Try.prog.bytesOf 24 = 8 by kernel_rfl] at this
      simp only [reachBytes] at this
      omega
  obtain ⟨a1, c1, xs1, rfl, rd1, lc1, cm1, wf1, dd1⟩ := open_cells (okWide_slice Try.underlying28 (hval 1 28 v1 rfl rfl)) h1
  have re1 : c1 * 8 ≤ 140737488351232 := by
    rcases dd1 with ⟨-, e⟩ | ⟨es, sp, rfl, e⟩
    · omega
    · have := sized_slice hsz (j := 1) (t := 28) (e := 24) rfl rfl Try.underlying28
      rw [show Try.prog.bytesOf 24 = 8 by kernel_rfl] at this
      simp only [reachBytes] at this
      omega
  refine (CellSums_walk W a0 c0 xs0 rd0 lc0 cm0 wf0 re0 a1 c1 xs1 rd1 lc1 cm1 wf1 re1).mono fun e W' ⟨he, hb⟩ => ⟨_, he, ?_⟩
  exact law_post laidOut rfl (by kernel_rfl) (by kernel_rfl) Try.underlying4 hW' rfl hb

theorem CellSums_holds : Rows.CellSumsSaid :=
  OpenClaim.holds_of_wide 4 Try.f4 rfl rfl rfl rfl rfl rfl rfl ⟨rfl, rfl, rfl, rfl, rfl⟩ rfl rfl rfl rfl rfl (by kernel_rfl) Try.func4 (by kernel_rfl)
    (of_decide_eq_true (by kernel_rfl)) (by unfold Func.isWrapper; first | (rw [if_pos (by decide +kernel)]; kernel_rfl) | (rw [if_neg (by decide +kernel)]; exact ⟨rfl, rfl⟩))
    (fun os started H enc _ => CellSums_lifted os started H enc)
#print axioms CellSums_holds

end Go.Proofs.Ytmpbgjnkkapijaa
