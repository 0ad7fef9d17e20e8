/- CellTurns returns true for every input: turning a rendition over twice, or keeping and letting go, leaves a checksum as it was. No condition. -/
import Derived.Test.YtmpbgjnkkapijaaTurns2
import Derived.Test.YtmpbgjnkkapijaaRend3
namespace Go.Proofs.Ytmpbgjnkkapijaa
open Go.ChangeShapes Go.WideShapes Go.ChangeAt Go.RowKit
set_option linter.unusedVariables false
set_option linter.unusedSimpArgs false

set_option maxRecDepth 100000 in
set_option maxHeartbeats 4000000 in
theorem CellTurns_walk (w : World) (a : Option Addr) (c : Nat) (xs : List Cl) (rd : Rd encC 3 w a xs) (lc : xs.length ≤ c) (cm : c ≤ maxLen) (wf : ∀ n ∈ xs, Cl.ok n) (re : c * 8 ≤ 140737488351232)
    (b : Option Addr) (d : Nat) (ps : List Int) (rd' : Ints w b ps) (lc' : ps.length ≤ d) (cm' : d ≤ maxLen) (wf' : ∀ n ∈ ps, (Lit.int .i64 n).wf = true) (re' : d * 8 ≤ 140737488351232) :
    Calls Try.prog 5 #[.slice a xs.length c, .slice b ps.length d] w (Gives w (.bool true)) := by
  have U := Lib.hid (fun w' => cut_c a c xs 300 300 rfl lc cm w')
  have m1 : (xs.take 300).length ≤ 300 := by simp; omega
  have X := Lib.hid (rd.take 300)
  have WX := Lib.hid (fun n (h : n ∈ xs.take 300) => wf n (List.mem_of_mem_take h))
  generalize xs.take 300 = p at U m1 X WX
  simp only [maxLen] at cm'
  clear rd lc wf wf' re'
  have Q := Lib.hid (rd'.take 20)
  have hq : (20 < ps.length → (ps.take 20).length = 20) ∧ (¬ 20 < ps.length → (ps.take 20).length = ps.length) ∧ (ps.take 20).length ≤ 20 := by simp; omega
  generalize ps.take 20 = q at Q hq
  obtain ⟨q1, q2, q3⟩ := hq
  have q1 := Lib.hid q1
  have q2 := Lib.hid q2
  clear rd'
  have S1 := Lib.hid (fun w' A (h1 : Rd encR 1 w' A [⟨a, c, p⟩]) (h2 : Rd encC 3 w' a p) => sum_1 w' h1 h2 (by omega) WX.out)
  go_enter Try.func5, Try.ntmps5
  go_upto_if 17 with (first
    | (go_at_call 15; ((with_reducible refine (awake2 _).mono ?_); rintro _ _ hgets; obtain ⟨rfl, x1, rfl⟩ := hgets.get; clear hgets))
    | (go_at_call 19; ((with_reducible refine (U.out _).mono ?_); rintro _ _ ⟨rfl, rfl⟩)))
  go_cut [1] (fun v wx => v = .slice b q.length d ∧ wx = ext w x1)
  case first =>
    by_cases h20 : 20 < ps.length
    · have e := Lib.hid (q1.out h20)
      go_wp2
      go_meet
      exact ⟨by rw [e.out], rfl⟩
    · have e := Lib.hid (q2.out h20)
      go_wp2
      go_meet
      exact ⟨by rw [e.out], rfl⟩
  obtain ⟨rfl, rfl⟩ := hcut
  go_wp2_with (first
    | (go_at_call 18; (with_reducible refine (S1.out _ _ ?_ ?_).mono ?_); (focus ((repeat (first | ((with_reducible refine row_new _ ⟨a, c, p⟩ ?_ _ ?_) <;> (first | (simp [go_sem]; done) | (simp [go_sem, *]; done))) | (with_reducible refine Rd.ext ?_ _) | (with_reducible refine Rd.alloc ?_ _) | (with_reducible refine Rd.drew ?_))); done)); (focus ((repeat (first | (with_reducible exact X.out) | (with_reducible exact X) | (with_reducible refine Rd.ext ?_ _) | (with_reducible refine Rd.alloc ?_ _) | (with_reducible refine Rd.drew ?_))); done)); rintro _ _ hgets; obtain ⟨rfl, x3, rfl⟩ := hgets.get; clear hgets)
    | (go_at_call 20
       (with_reducible refine (cells_c a c p _ (by repeat (first | exact X.out | exact X | refine Rd.ext ?_ _ | refine Rd.alloc ?_ _ | refine Rd.drew ?_)) (by omega) (by simp [maxLen]; omega)).mono ?_)
       rintro _ _ ⟨A1, c1, x2, rfl, rfl, hO⟩))
  have hO := hO.mono (B' := w.heap.size) (by simp [go_sem])
  have hO := Lib.hid hO
  go_loopw [27] (fun i wr => ∃ j : Nat, j ≤ p.length ∧ i = .int .i64 j ∧ Below w.heap.size w wr ∧ Own encC 3 24 w.heap.size wr (.slice A1 p.length c1) (mid p j)) (fun i _ => p.length - (intOf i).toNat)
  case atStart => exact ⟨0, by omega, rfl, by (repeat' (first | (with_reducible exact Below.refl _ _) | (with_reducible refine Below.alloc ?_ ?_ _) | (with_reducible refine below_ext ?_ ?_ _) | (with_reducible refine Below.drew ?_) | (with_reducible refine below_drewN ?_ _) | (with_reducible refine Below.setCell ?_ ?_ _) | go_size | (simp only [go_sem]; omega) | (simp [go_sem]; done) | (simp [go_sem]; omega))), by rw [mid_zero]; exact hO.out⟩
  case round =>
    obtain ⟨j, hj, rfl, hB, hW⟩ := hrel
    obtain ⟨x', rfl⟩ := ext_of hB
    clear hB
    by_cases hlt : j < p.length
    · obtain ⟨g, rfl, hg1, hg2, d0, d1, d2, hfz⟩ := own_at hW j (by rw [mid_len p j hj]; exact hlt)
      rw [mid_get p j hlt] at d0 d1 d2
      obtain ⟨g1, g2⟩ := WX.out p[j] (List.getElem_mem hlt)
      have HS := Lib.hid (mid_set p j hlt)
      have hl := Lib.hid (show j < (mid p j).length by rw [mid_len p j hj]; exact hlt)
      have F1 := Lib.hid (fun w' (h : Ints w' b q) => flip_c p[j].r g2.1 g2.2 b d q w' h (by omega))
      have F2 := fun w' (h : Ints w' b q) => flip_c (foldR turnF (Fl.of p[j].r) q).num (by have := Fl.num_bd (foldR turnF (Fl.of p[j].r) q); omega) (by have := Fl.num_bd (foldR turnF (Fl.of p[j].r) q); omega) b d q w' h (by omega)
      rw [Fl.num_of, foldR_twice] at F2
      have F2 := Lib.hid F2
      have HW := Lib.hid hW
      generalize (foldR turnF (Fl.of p[j].r) q).num = N1 at F1 F2
      have ht := Lib.hid (show turned p[j] = ⟨p[j].g, (Fl.of p[j].r).num, !p[j].k⟩ from rfl)
      generalize turned p[j] = tc at HS ht
      generalize (Fl.of p[j].r).num = N2 at F2 ht
      generalize p[j] = cc at d0 d1 d2 F1 ht g1 g2
      obtain ⟨cg, cr, ck⟩ := cc
      simp only at d0 d1 d2 F1 ht
      have f0 := hfz (j * 3)
      have f1 := hfz (j * 3 + 1)
      have f2 := hfz (j * 3 + 2)
      clear hW hfz
      rw [size_ext] at hg2
      go_wp2_with (first
        | (go_at_call 23; ((with_reducible refine (F1.out _ (by repeat (first | exact Q.out | exact Q | refine Rd.ext ?_ _ | refine Rd.alloc ?_ _ | refine Rd.drew ?_))).mono ?_); rintro _ _ ⟨rfl, rfl⟩))
        | (go_at_call 23; ((with_reducible refine (F2.out _ (by repeat (first | exact Q.out | exact Q | refine Rd.ext ?_ _ | refine Rd.alloc ?_ _ | refine Rd.drew ?_))).mono ?_); rintro _ _ ⟨rfl, rfl⟩)))
      go_roundw
      case rel =>
        refine ⟨j + 1, by omega, by go_num, ?_, ?_⟩
        · (repeat' (first | (with_reducible exact Below.refl _ _) | (with_reducible refine Below.alloc ?_ ?_ _) | (with_reducible refine below_ext ?_ ?_ _) | (with_reducible refine Below.drew ?_) | (with_reducible refine below_drewN ?_ _) | (with_reducible refine Below.setCell ?_ ?_ _) | go_size | (simp only [go_sem]; omega) | (simp [go_sem]; done) | (simp [go_sem]; omega)))
        · have h := (own_set3 HW.out j hl.out tc).alloc (.cells #[.int .i32 cg, .int .u8 N2, .bool !ck] 24)
          rw [HS.out, ht.out] at h
          exact h
      case measure => simp [intOf]; omega
    · rw [mid_end p j (by omega)] at hW
      have HT := turned_sum p
      have hkl := kept_le p
      have okT : ∀ x ∈ p.map turned, x.ok := by
        intro x hx
        obtain ⟨y, hy, rfl⟩ := List.mem_map.1 hx
        obtain ⟨g1, g2⟩ := WX.out y hy
        have := Fl.num_bd (Fl.of y.r)
        exact ⟨g1, by unfold turned; simp only; omega⟩
      have T := Lib.hid (hW.rd encC_len)
      have hlen : (p.map turned).length = p.length := by simp
      have S2 : ∀ w' A, Rd encR 1 w' A [⟨A1, c1, p.map turned⟩] → Rd encC 3 w' A1 (p.map turned) → Calls Try.prog 18 #[.slice A 1 1] w' (Gives w' (.int .i64 (sumW (p.map turned) % 65536))) :=
        fun w' A h1 h2 => sum_1 w' h1 h2 (by omega) okT
      generalize p.map turned = tw at HT T S2 hlen
      have S2 := Lib.hid S2
      clear okT hW
      generalize sumW tw = tT at HT S2
      generalize sumW p = pS at HT
      go_wp2
      go_loopw [9, 50] (fun v i wr => ∃ k : Nat, k ≤ p.length ∧ i = .int .i64 k ∧ v = .int .i64 (kept (p.take k)) ∧ wr = ext w x') (fun _ i _ => p.length - (intOf i).toNat)
      case atStart => exact ⟨0, by omega, rfl, by simp [kept], rfl⟩
      case round =>
        obtain ⟨k, hk, rfl, rfl, rfl⟩ := hrel
        by_cases hlt2 : k < p.length
        · obtain ⟨b2, o2, rfl, hb2, d0, d1, d2⟩ := X.out.cell3 hlt2
          have HG := Lib.hid (kept_take p k hlt2)
          have hle := kept_le (p.take k)
          have hle2 : (p.take k).length ≤ 300 := by simp; omega
          generalize p[k] = cc at d0 d1 d2 HG
          obtain ⟨cg, cr, ck⟩ := cc
          simp only at d0 d1 d2 HG
          generalize kept (p.take k) = kt at HG hle
          cases ck
          all_goals go_wp2
          all_goals go_roundw
          all_goals first
            | (refine ⟨k + 1, by omega, by go_num, ?_, by first | rfl | trivial⟩
               rw [HG.out]
               simp)
            | (simp [intOf]; omega)
        · have e := Lib.hid (show kept (p.take k) = kept p by rw [List.take_of_length_le (by omega)])
          rw [e.out]
          generalize kept p = kp at HT hkl
          go_wp2_with (go_at_call 18; (with_reducible refine (S2.out _ _ ?_ ?_).mono ?_); (focus ((repeat (first | ((with_reducible refine row_new _ ⟨A1, c1, tw⟩ ?_ _ ?_) <;> (first | (simp [go_sem]; done) | (simp [go_sem, *]; done))) | (with_reducible refine Rd.ext ?_ _) | (with_reducible refine Rd.alloc ?_ _) | (with_reducible refine Rd.drew ?_))); done)); (focus ((repeat (first | (with_reducible exact T.out) | (with_reducible exact T) | (with_reducible refine Rd.ext ?_ _) | (with_reducible refine Rd.alloc ?_ _) | (with_reducible refine Rd.drew ?_))); done)); rintro _ _ hgets; obtain ⟨rfl, _, rfl⟩ := hgets.get; clear hgets)
          all_goals go_returns
          refine ⟨ret_bool ?_, by (repeat' (first | (with_reducible exact Below.refl _ _) | (with_reducible refine Below.alloc ?_ ?_ _) | (with_reducible refine below_ext ?_ ?_ _) | (with_reducible refine Below.drew ?_) | (with_reducible refine below_drewN ?_ _) | (with_reducible refine Below.setCell ?_ ?_ _) | go_size | (simp only [go_sem]; omega) | (simp [go_sem]; done) | (simp [go_sem]; omega)))⟩
          rw [beq_iff_eq]
          exact Int.tmod_eq_zero_of_dvd (by omega)
set_option maxRecDepth 100000 in
theorem CellTurns_lifted (os : Os) (started : os.Started) (H : Type) (enc : TypeId × Value → H) :
    ReturnsInHanded {} Try.checked os 5 .any (Rows.cellTurnsSpec.pre6 enc Try.prog Try.f5 Rows.cellTurnsRow.domain false) (Rows.cellTurnsSpec.post enc Try.prog Try.f5 false true false false) := by
  refine returnsInHanded_of_change_sized (C := Try.checked) own started (by kernel_rfl) Try.func5
    (ChangeSpec.witness6 (enc := enc) (C := Try.checked) false ⟨#[], #[.slice none 0 0, .slice none 0 0], []⟩ 8 (by kernel_rfl) (by kernel_rfl) (by kernel_rfl) (by kernel_rfl)) ?_
  intro W base args ds gs before hval0 hW hcnd hsz0 _
  have hval : ∀ (j : Nat) t v, Try.f5.params[j]? = some t → args[j]? = some v → Value.okWide Try.prog W .any base t v := hval0
  have hsz : (DataW.weightsEach Try.prog (Try.f5.params.toList ++ Rows.cellTurnsSpec.plain.varTypes Try.prog) (ds ++ gs)).all (· ≤ reachBytes) = true := hsz0
  have hW' := hW
  obtain ⟨p, q, hA0, hV, rfl, hfz, hnd⟩ := hW
  have hA : DataW.TrodAll enc Try.prog W 0 (fun _ => true) true Try.f5.params.toList args.toList ds p := hA0
  rw [Try.params5] at hA hval hsz
  obtain ⟨v0, vs0, d0, ds0, p0, q0, hargs, rfl, rfl, h0, r0⟩ := trodAll_cons hA
  obtain ⟨v1, vs1, d1, ds1, p1, q1, rfl, rfl, rfl, h1, r1⟩ := trodAll_cons r0
  obtain ⟨rfl, rfl, rfl⟩ := trodAll_nil r1
  obtain rfl : args = #[v0, v1] := by cases args; simp_all
  obtain ⟨rfl, rfl⟩ := trodVars_none hV
  clear hA0 hval0 hsz0
  obtain ⟨a0, c0, xs0, rfl, rd0, lc0, cm0, wf0, dd0⟩ := open_cells (okWide_slice Try.underlying28 (hval 0 28 v0 rfl rfl)) h0
  have re0 : c0 * 8 ≤ 140737488351232 := by
    rcases dd0 with ⟨-, e⟩ | ⟨es, sp, rfl, e⟩
    · omega
    · have := sized_slice hsz (j := 0) (t := 28) (e := 24) rfl rfl Try.underlying28
      rw [show Try.prog.bytesOf 24 = 8 by kernel_rfl] at this
      simp only [reachBytes] at this
      omega
  obtain ⟨a1, c1, xs1, rfl, rd1, lc1, cm1, wf1, dd1⟩ := open_ints_rd Try.underlying34 Try.underlying3 (by kernel_rfl) (okWide_slice Try.underlying34 (hval 1 34 v1 rfl rfl)) h1
  have re1 : c1 * 8 ≤ 140737488351232 := by
    rcases dd1 with ⟨-, e⟩ | ⟨es, sp, rfl, e⟩
    · omega
    · have := sized_slice hsz (j := 1) (t := 34) (e := 3) rfl rfl Try.underlying34
      rw [show Try.prog.bytesOf 3 = 8 by kernel_rfl] at this
      simp only [reachBytes] at this
      omega
  refine (CellTurns_walk W a0 c0 xs0 rd0 lc0 cm0 wf0 re0 a1 c1 xs1 rd1 lc1 cm1 wf1 re1).mono fun e W' ⟨he, hb⟩ => ⟨_, he, ?_⟩
  exact law_post laidOut rfl (by kernel_rfl) (by kernel_rfl) Try.underlying4 hW' rfl hb

theorem CellTurns_holds : Rows.CellTurnsSaid :=
  OpenClaim.holds_of_wide 5 Try.f5 rfl rfl rfl rfl rfl rfl rfl ⟨rfl, rfl, rfl, rfl, rfl⟩ rfl rfl rfl rfl rfl (by kernel_rfl) Try.func5 (by kernel_rfl)
    (of_decide_eq_true (by kernel_rfl)) (by unfold Func.isWrapper; first | (rw [if_pos (by decide +kernel)]; kernel_rfl) | (rw [if_neg (by decide +kernel)]; exact ⟨rfl, rfl⟩))
    (fun os started H enc _ => CellTurns_lifted os started H enc)
#print axioms CellTurns_holds

end Go.Proofs.Ytmpbgjnkkapijaa
