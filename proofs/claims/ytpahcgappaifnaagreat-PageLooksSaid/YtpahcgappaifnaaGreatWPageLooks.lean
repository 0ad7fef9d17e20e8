/- PageLooks: the walk.  -/
import Derived.Test.YtpahcgappaifnaaGreatPgTwin
import Derived.Test.YtpahcgappaifnaaGreatPgRefL
import Derived.Test.YtpahcgappaifnaaGreatPgClone
import Derived.Test.YtpahcgappaifnaaGreatPgSame
namespace Go.Proofs.YtpahcgappaifnaaGreat
open Go.RowKit
set_option linter.unusedVariables false
set_option linter.unusedSimpArgs false

set_option maxRecDepth 10000 in
theorem same_put {S : PgS} (hS : S.Ok) (x y : Int) (c : Cl) : sameS S (putS S x y c) = !(inB 0 0 S.rows.length S.cols x y && decide (atS S x y ≠ c)) := by
  cases ht : inB 0 0 S.rows.length S.cols x y
  · rw [putS_out ht, (sameS_iff S S).2 rfl]
    rfl
  · obtain ⟨a, b, rfl, rfl, ha, hb⟩ := inB_nat ht
    have hbl : b < S.rows[a].1.length := by rw [hS.wid _ (List.getElem_mem ha)]; exact hb
    rw [putS_in ha hb, atS_in ha hb hbl, Bool.eq_iff_iff, sameS_iff]
    simp only [Bool.true_and, Bool.not_eq_true', decide_eq_false_iff_not, ne_eq, Decidable.not_not]
    constructor
    · intro h
      have h0 : S.rows[a]? = (setRowS S a (S.rows[a].1.set b c, S.rows[a].2)).rows[a]? := congrArg (fun T : PgS => T.rows[a]?) h
      rw [List.getElem?_eq_getElem ha, List.getElem?_eq_getElem (by rw [setRowS_len]; exact ha), setRowS_get ha] at h0
      have h1 := Option.some.inj h0
      have h2 : S.rows[a].1 = S.rows[a].1.set b c := congrArg Prod.fst h1
      have h3 : S.rows[a].1[b]? = (S.rows[a].1.set b c)[b]? := congrArg (·[b]?) h2
      rw [List.getElem?_set_self hbl, List.getElem?_eq_getElem hbl] at h3
      exact Option.some.inj h3
    · intro h
      have h2 : S.rows[a].1.set b c = S.rows[a].1 := by rw [← h]; exact List.set_getElem_self hbl
      rw [h2]
      exact (setRowS_self ha).symm
theorem box2_at (w : World) (o1 o2 : Obj) (x : More) : (ext ((w.alloc o1).alloc o2) x).heap[w.heap.size]? = some o1 ∧ (ext ((w.alloc o1).alloc o2) x).heap[w.heap.size + 1]? = some o2 := by
  have h := heap_alloc_new (w.alloc o1) o2
  rw [show (w.alloc o1).heap.size = w.heap.size + 1 by simp] at h
  exact ⟨(block_ext _ _ (by simp; omega)).trans ((((Below.refl (w.alloc o1).heap.size (w.alloc o1)).alloc (Nat.le_refl _) o2).block _ (by simp)).trans (heap_alloc_new _ _)), (block_ext _ _ (by simp)).trans h⟩
theorem lineOf_short {S : PgS} (hS : S.Ok) (i : Int) : (lineOf S i).1.length ≤ 1000000 := by
  unfold lineOf
  split
  · rename_i h
    have hi : i.toNat < S.rows.length := by unfold thereI at h; simp at h; omega
    have := hS.wid S.rows[i.toNat] (List.getElem_mem hi)
    have := hS.c2
    rw [List.getD_eq_getElem?_getD, List.getElem?_eq_getElem hi]
    simp only [Option.getD_some]
    omega
  · simp
attribute [local go_sem ↓] cell_neq
set_option maxRecDepth 100000 in
set_option maxHeartbeats 8000000 in
theorem PageLooks_walk (w : World) (A : Option Addr) (C : Nat) (xs : List ActD) (rd : Rd ActD.cells 13 w A xs) (hl : xs.length ≤ C) (hm : C ≤ maxLen) (ha : ∀ a ∈ xs, a.Ok w)
    (bt bl bb br : Int) (_ : (Lit.int .i64 bt).wf = true) (_ : (Lit.int .i64 bl).wf = true) (_ : (Lit.int .i64 bb).wf = true) (_ : (Lit.int .i64 br).wf = true) (x y : Int) (_ : (Lit.int .i64 x).wf = true) (_ : (Lit.int .i64 y).wf = true) :
    Calls Tryz.prog 7 #[.slice A xs.length C, .agg #[.int .i64 bt, .int .i64 bl, .int .i64 bb, .int .i64 br], .agg #[.int .i64 x, .int .i64 y]] w (fun e w' => e = .returned (.bool true) ∧ Below w.heap.size w w') := by
  have P1 := Lib.hid (play_at 7 9 xs A C rd hl hm ha)
  have ok1 := playNew_ok 7 9 xs ha
  generalize playNew 7 9 xs = S at P1 ok1
  clear rd ha
  have AW := Lib.hid awake_7
  go_enter Tryz.func7, Tryz.ntmps7
  go_upto_region 3 with (first
    | (go_at_call 8; ((with_reducible refine (AW.out _).mono ?_); rintro _ _ hgets; obtain ⟨rfl, x1, rfl⟩ := hgets.get; clear hgets)))
  go_upto_region 4 with (first
    | ((go_at_call 9); (with_reducible refine (P1.out _ (by (repeat' (first | (with_reducible exact Below.refl _ _) | (with_reducible refine Below.alloc ?_ ?_ _) | (with_reducible refine below_ext ?_ ?_ _) | (with_reducible refine Below.drew ?_) | (with_reducible refine below_drewN ?_ _) | (with_reducible refine Below.setCell ?_ ?_ _) | go_size | (simp only [go_sem]; omega) | (simp [go_sem]; done) | (simp [go_sem]; omega))))).mono ?_); (rintro _ W ⟨p, _, F, rfl, hb, hp, hr, hf⟩); (obtain ⟨V, ru, rfl, e1, e2, e3⟩ := id hr); (obtain ⟨A1, c1, rfl, _, _⟩ := e1.form); clear e1 e2 e3; replace hb := Lib.hid hb; replace hp := Lib.hid hp; replace hr := Lib.hid hr; replace hf := Lib.hid hf))
  obtain ⟨W1, hW1⟩ : ∃ W1, W1 = W.alloc (.cells #[.slice A1 ru.length c1, .int .i64 S.cols] 27) := ⟨_, rfl⟩
  have T1 := Lib.hid (Twin.start hb.out hp.out hr.out hf.out rfl)
  rw [← hW1] at T1 ⊢
  have B1 := Lib.hid ((T1.out.old (by simp; omega)).trans (box2_at w _ _ x1).1)
  have B2 := Lib.hid ((T1.out.old (b := w.heap.size + 1) (by simp; omega)).trans (box2_at w _ _ x1).2)
  have hb1 : Below w.heap.size w W1 := (show Below w.heap.size w (ext ((w.alloc (.cells #[.int .i64 bt, .int .i64 bl, .int .i64 bb, .int .i64 br] 32)).alloc (.cells #[.int .i64 x, .int .i64 y] 34)) x1) by (repeat' (first | (with_reducible exact Below.refl _ _) | (with_reducible refine Below.alloc ?_ ?_ _) | (with_reducible refine below_ext ?_ ?_ _) | (with_reducible refine Below.drew ?_) | (with_reducible refine below_drewN ?_ _) | (with_reducible refine Below.setCell ?_ ?_ _) | go_size | (simp only [go_sem]; omega) | (simp [go_sem]; done) | (simp [go_sem]; omega)))).trans (T1.out.below.mono (by simp; omega))
  have hF1 : ∀ b, F b → w.heap.size + 1 < b := fun b f => by have := (T1.out.ge b f).1; simp at this; omega
  generalize W.heap.size = H1 at T1 ⊢
  generalize ru.length = n1 at T1 ⊢
  clear hW1 hb hp hr hf P1
  have R1 := Lib.hid (T1.out.ref.v)
  have c0 : W1.cell? ⟨w.heap.size, 0, none⟩ = some (.int .i64 bt) := by rw [cell_in B1.out]; rfl
  have c1' : W1.cell? ⟨w.heap.size, 1, none⟩ = some (.int .i64 bl) := by rw [cell_in B1.out]; rfl
  have c2 : W1.cell? ⟨w.heap.size, 2, none⟩ = some (.int .i64 bb) := by rw [cell_in B1.out]; rfl
  have c3 : W1.cell? ⟨w.heap.size, 3, none⟩ = some (.int .i64 br) := by rw [cell_in B1.out]; rfl
  have s0 : W1.cell? ⟨H1, 0, none⟩ = some (.slice A1 n1 c1) := by rw [cell_in T1.out.blk]; rfl
  have s1 : W1.cell? ⟨H1, 1, none⟩ = some (.int .i64 S.cols) := by rw [cell_in T1.out.blk]; rfl
  have d0 : W1.cell? ⟨w.heap.size + 1, 0, none⟩ = some (.int .i64 x) := by rw [cell_in B2.out]; rfl
  have d1 : W1.cell? ⟨w.heap.size + 1, 1, none⟩ = some (.int .i64 y) := by rw [cell_in B2.out]; rfl
  have g0 := heap_in B1.out
  have g1 := heap_in B2.out
  have gH := heap_in T1.out.blk
  have CP := Lib.hid (fun w' (hb : Below W1.heap.size W1 w') => cells_p (T1.out.page.grow hb) ok1 ⟨bt, bl, bb, br⟩)
  have CR := Lib.hid (fun w' (hb : Below W1.heap.size W1 w') => refcells_c (.agg #[.slice A1 n1 c1, .int .i64 S.cols]) ⟨bt, bl, bb, br⟩ (R1.out.grow hb) ok1)
  have vm : (cellsS S (onB S.rows.length S.cols ⟨bt, bl, bb, br⟩)).length ≤ 500 := by
    have h1 := onB_in S.rows.length S.cols ⟨bt, bl, bb, br⟩
    have h2 := ok1.r2
    simp only [cellsS, List.length_map, List.length_range]
    omega
  have vw : ∀ ys ∈ cellsS S (onB S.rows.length S.cols ⟨bt, bl, bb, br⟩), ys.length ≤ 1000 := by
    intro ys hys
    have h1 := onB_in S.rows.length S.cols ⟨bt, bl, bb, br⟩
    have h2 := ok1.c2
    obtain ⟨i, _, rfl⟩ := List.mem_map.1 hys
    rw [cutR_len]
    unfold spanN
    omega
  generalize cellsS S (onB S.rows.length S.cols ⟨bt, bl, bb, br⟩) = vals at CP CR vm vw
  go_upto_region 6 with fail
  (refine wp_region_F (S := (fun w' => w'.cell? ⟨w.heap.size, 0, none⟩ = some (.int .i64 bt) ∧ w'.cell? ⟨w.heap.size, 1, none⟩ = some (.int .i64 bl) ∧ w'.cell? ⟨w.heap.size, 2, none⟩ = some (.int .i64 bb) ∧ w'.cell? ⟨w.heap.size, 3, none⟩ = some (.int .i64 br) ∧ w'.cell? ⟨H1, 0, none⟩ = some (.slice A1 n1 c1) ∧ w'.cell? ⟨H1, 1, none⟩ = some (.int .i64 S.cols))) 7 [false, false, false, false, false, false, false, false] rfl rfl (by kernel_rfl) ?_ (fun hHeld => ?_); (focus ((try dsimp only); (refine ⟨?_, ?_, ?_, ?_, ?_, ?_⟩ <;> simp [go_sem, c0, c1', c2, c3, s0, s1, g0, gH]); done)))
  ((refine AtF.take (oi := ?_) (v := ?_) 0 ?_ ?_ ?_ ?_ (Or.inl ⟨?_, ?_⟩) (by assumption) ?_; rotate_left 2; rfl; kernel_rfl; kernel_rfl; exact (fun _ _ _ h => h); rfl; (focus (intro w hSw; (try dsimp only at hSw); go_simp; (try with_reducible rfl); done)); (try simp only [Act.put, List.setIfInBounds_toArray, List.set_cons_zero, List.set_cons_succ])); (refine AtF.take (oi := ?_) (v := ?_) 1 ?_ ?_ ?_ ?_ (Or.inl ⟨?_, ?_⟩) (by assumption) ?_; rotate_left 2; rfl; kernel_rfl; kernel_rfl; exact (fun _ _ _ h => h); rfl; (focus (intro w hSw; (try dsimp only at hSw); go_simp; (try with_reducible rfl); done)); (try simp only [Act.put, List.setIfInBounds_toArray, List.set_cons_zero, List.set_cons_succ])); (refine AtF.take (oi := ?_) (v := ?_) 3 ?_ ?_ ?_ ?_ (Or.inl ⟨?_, ?_⟩) (by assumption) ?_; rotate_left 2; rfl; kernel_rfl; kernel_rfl; exact (fun _ _ _ h => h); rfl; (focus (intro w hSw; (try dsimp only at hSw); go_simp; (try with_reducible rfl); done)); (try simp only [Act.put, List.setIfInBounds_toArray, List.set_cons_zero, List.set_cons_succ])); (refine AtF.take (oi := ?_) (v := ?_) 4 ?_ ?_ ?_ ?_ (Or.inl ⟨?_, ?_⟩) (by assumption) ?_; rotate_left 2; rfl; kernel_rfl; kernel_rfl; exact (fun _ _ _ h => h); rfl; (focus (intro w hSw; (try dsimp only at hSw); go_simp; (try with_reducible rfl); done)); (try simp only [Act.put, List.setIfInBounds_toArray, List.set_cons_zero, List.set_cons_succ])))
  (refine AtF.only (oi := ?_) 2 ?_ ?_ (fun K hK => ?_); rotate_left 1; rfl; kernel_rfl; (try go_simp); (go_at_call 21); (with_reducible refine (CP.out _ (by (repeat' (first | (with_reducible exact Below.refl _ _) | (with_reducible refine Below.alloc ?_ ?_ _) | (with_reducible refine below_ext ?_ ?_ _) | (with_reducible refine Below.drew ?_) | (with_reducible refine below_drewN ?_ _) | (with_reducible refine Below.setCell ?_ ?_ _) | go_size | (simp only [go_sem]; omega) | (simp [go_sem]; done) | (simp [go_sem]; omega))))).mono ?_); (rintro _ _ ⟨V1, r1, x2, rfl, rfl, hC1, hV1⟩); (obtain ⟨A5, c5, rfl, _, _⟩ := hC1.own.form); (replace hC1 := Lib.hid hC1); (replace hV1 := Lib.hid hV1); (refine hK.out _ _ ?_ (fun hHeld => ?_)); (focus ((try dsimp only); (refine ⟨?_, ?_, ?_, ?_, ?_, ?_⟩ <;> simp [go_sem, c0, c1', c2, c3, s0, s1, g0, gH]); done)); clear hK K; (try simp only [Act.put, List.setIfInBounds_toArray, List.set_cons_zero, List.set_cons_succ]))
  (refine AtF.only (oi := ?_) 5 ?_ ?_ (fun K hK => ?_); rotate_left 1; rfl; kernel_rfl; (try go_simp); (go_at_call 22); (with_reducible refine (CR.out _ (by (repeat' (first | (with_reducible exact Below.refl _ _) | (with_reducible refine Below.alloc ?_ ?_ _) | (with_reducible refine below_ext ?_ ?_ _) | (with_reducible refine Below.drew ?_) | (with_reducible refine below_drewN ?_ _) | (with_reducible refine Below.setCell ?_ ?_ _) | go_size | (simp only [go_sem]; omega) | (simp [go_sem]; done) | (simp [go_sem]; omega))))).mono ?_); (rintro _ _ ⟨V2, r2, x3, rfl, rfl, hC2, hV2⟩); (obtain ⟨A6, c6, rfl, _, _⟩ := hC2.own.form); (replace hC2 := Lib.hid hC2); (replace hV2 := Lib.hid hV2); (refine hK.out _ _ ?_ (fun hHeld => ?_)); (focus ((try dsimp only); (refine ⟨?_, ?_, ?_, ?_, ?_, ?_⟩ <;> simp [go_sem, c0, c1', c2, c3, s0, s1, g0, gH]); done)); clear hK K; (try simp only [Act.put, List.setIfInBounds_toArray, List.set_cons_zero, List.set_cons_succ]))
  ((refine AtF.take (oi := ?_) (v := ?_) 6 ?_ ?_ ?_ ?_ (Or.inl ⟨?_, ?_⟩) (by assumption) ?_; rotate_left 2; rfl; kernel_rfl; kernel_rfl; exact (fun _ _ _ h => h); rfl; (focus (intro w hSw; (try dsimp only at hSw); go_simp; (try with_reducible rfl); done)); (try simp only [Act.put, List.setIfInBounds_toArray, List.set_cons_zero, List.set_cons_succ])))
  (refine AtF.last (oi := ?_) ?_ ?_ (fun K hK => ?_); rotate_left 1; rfl; kernel_rfl; go_simp; skip; refine hK.out _ _ ?_; clear hK K; (try simp only [Act.put, List.setIfInBounds_toArray, List.set_cons_zero, List.set_cons_succ]))
  clear hHeld
  have AT1 := Lib.hid (fun w' (hb : Below W1.heap.size W1 w') => at_p (T1.out.page.grow hb) ok1 x y)
  have AT2 := Lib.hid (fun w' (hb : Below W1.heap.size W1 w') => refat_c (.agg #[.slice A1 n1 c1, .int .i64 S.cols]) S x y w' (R1.out.grow hb) ok1)
  have hl1 : r1.length = vals.length := by have := congrArg List.length hV1.out; simpa using this
  have hl2 : r2.length = vals.length := by have := congrArg List.length hV2.out; simpa using this
  have hc1 := hC1.out
  have hc2 := hC2.out
  rw [hl1] at hc1
  rw [hl2] at hc2
  rw [hl1, hl2]
  replace hC1 := Lib.hid (hc1.grow (below_of_ext _ x3))
  replace hC2 := Lib.hid hc2
  clear hc1 hc2
  have sp := same_put ok1 x y ⟨121, 3, false⟩
  generalize hy : atS S x y = cy at AT1 AT2 sp
  obtain ⟨yg, yr, yk⟩ := cy
  replace hy := Lib.hid hy
  have he0 := eqC_t (rfl : (⟨yg, yr, yk⟩ : Cl) = ⟨yg, yr, yk⟩)
  go_upto_region 7 with fail
  (refine wp_region_free (by kernel_rfl) (by kernel_rfl) ?_)
  repeat (go_big_quiet_step (first
    | ((go_at_call 13; with_reducible exact Calls.free (AT1.out _ (by (repeat' (first | (with_reducible exact Below.refl _ _) | (with_reducible refine Below.alloc ?_ ?_ _) | (with_reducible refine below_ext ?_ ?_ _) | (with_reducible refine Below.drew ?_) | (with_reducible refine below_drewN ?_ _) | (with_reducible refine Below.setCell ?_ ?_ _) | go_size | (simp only [go_sem]; omega) | (simp [go_sem]; done) | (simp [go_sem]; omega)))))))
    | ((go_at_call 23; with_reducible exact Calls.free (AT2.out _ (by (repeat' (first | (with_reducible exact Below.refl _ _) | (with_reducible refine Below.alloc ?_ ?_ _) | (with_reducible refine below_ext ?_ ?_ _) | (with_reducible refine Below.drew ?_) | (with_reducible refine below_drewN ?_ _) | (with_reducible refine Below.setCell ?_ ?_ _) | go_size | (simp only [go_sem]; omega) | (simp [go_sem]; done) | (simp [go_sem]; omega)))))))))
  refine wpQuiet_nil ?_; rintro _ ⟨x4, rfl⟩
  go_upto_region 9 with fail
  obtain ⟨W2, hW2⟩ : ∃ W2, W2 = ext (ext (ext W1 x2) x3) x4 := ⟨_, rfl⟩
  have hb12 : Below W1.heap.size W1 W2 := by rw [hW2]; (repeat' (first | (with_reducible exact Below.refl _ _) | (with_reducible refine Below.alloc ?_ ?_ _) | (with_reducible refine below_ext ?_ ?_ _) | (with_reducible refine Below.drew ?_) | (with_reducible refine below_drewN ?_ _) | (with_reducible refine Below.setCell ?_ ?_ _) | go_size | (simp only [go_sem]; omega) | (simp [go_sem]; done) | (simp [go_sem]; omega)))
  have hC3 := Lib.hid (show CellsAt W1.heap.size W2 (.slice A5 vals.length c5) r1 by rw [hW2]; exact hC1.out.grow (below_of_ext _ x4))
  have hC4 := Lib.hid (show CellsAt W1.heap.size W2 (.slice A6 vals.length c6) r2 by rw [hW2]; exact (hC2.out.grow (below_of_ext _ x4)).mono (by simp))
  rw [← hW2]
  clear hC1 hC2 hW2 AT1 CP CR
  have SC := Lib.hid (fun (a b : Option Addr) (c d : Nat) (ys : List Cl) w' (h1 : Rd encC 3 w' a ys) (h2 : Rd encC 3 w' b ys) (h3 : ys.length ≤ 9223372036854775807) => (by
    have := same_cells a b c d ys ys w' h1 h2 h3 h3
    simpa using this : Calls Tryz.prog 24 #[.slice a ys.length c, .slice b ys.length d] w' (Gives w' (.bool true))))
  go_wp2
  go_loopw [52] (fun iv wr => ∃ (i : Nat), i ≤ vals.length ∧ iv = .int .i64 i ∧ Hid (Below W2.heap.size W2 wr)) (fun iv _ => (vals.length - (intOf iv).toNat))
  case atStart => exact ⟨0, by omega, rfl, Lib.hid (Below.refl _ _)⟩
  case round =>
    obtain ⟨i, hi, rfl, hbr⟩ := hrel
    by_cases hlt : i < vals.length
    · have e1 : decide (i < vals.length) = true := decide_eq_true hlt
      have K1 := hC3.out.grow hbr.out
      have K2 := hC4.out.grow hbr.out
      have i1 : i < r1.length := by omega
      have i2 : i < r2.length := by omega
      obtain ⟨gb, off, rfl, hbl, hce⟩ := (K1.own.rd encQ_len).cell1 i1 rfl
      obtain ⟨hn1, hrd1⟩ := K1.rd _ (List.getElem_mem i1)
      obtain ⟨gb2, off2, rfl, hbl2, hce2⟩ := (K2.own.rd encQ_len).cell1 i2 rfl
      obtain ⟨hn2, hrd2⟩ := K2.rd _ (List.getElem_mem i2)
      have hxs1 : r1[i].2 = vals[i] := by
        have h5 : (r1.map Prod.snd)[i]'(by simpa using i1) = vals[i] := by simp only [hV1.out]
        simpa using h5
      have hxs2 : r2[i].2 = vals[i] := by
        have h5 : (r2.map Prod.snd)[i]'(by simpa using i2) = vals[i] := by simp only [hV2.out]
        simpa using h5
      rw [hxs1] at hn1 hrd1
      rw [hxs2] at hn2 hrd2
      have vl : vals[i].length ≤ 9223372036854775807 := by have := vw vals[i] (List.getElem_mem hlt); omega
      generalize vals[i] = ys at hn1 hn2 hrd1 hrd2 vl
      generalize r1[i] = ra at hce hn1 hrd1
      generalize r2[i] = rb at hce2 hn2 hrd2
      obtain ⟨ra, cs1⟩ := ra
      obtain ⟨rb, cs2⟩ := rb
      replace hce : wr.cell? ⟨gb, off + i, none⟩ = some (.slice ra.adr ys.length ra.c) := by rw [hce, ← hn1]; rfl
      replace hce2 : wr.cell? ⟨gb2, off2 + i, none⟩ = some (.slice rb.adr ys.length rb.c) := by rw [hce2, ← hn2]; rfl
      replace hrd1 := Lib.hid hrd1
      replace hrd2 := Lib.hid hrd2
      clear K1 K2 hxs1 hxs2 hn1 hn2
      go_upto_region 12 with fail
      (refine wp_region_free (by kernel_rfl) (by kernel_rfl) ?_)
      repeat (go_big_quiet_step (first
        | ((go_at_call 24; with_reducible exact Calls.free (SC.out _ _ _ _ _ _ (by repeat (first | exact hrd1.out | exact hrd1 | refine Rd.ext ?_ _ | refine Rd.alloc ?_ _ | refine Rd.drew ?_)) (by repeat (first | exact hrd2.out | exact hrd2 | refine Rd.ext ?_ _ | refine Rd.alloc ?_ _ | refine Rd.drew ?_)) vl)))))
      refine wpQuiet_nil ?_; rintro _ ⟨x9, rfl⟩
      go_wp2
      exact ⟨⟨i + 1, by omega, by go_num, Lib.hid (hbr.out.trans (Below.mono (B := wr.heap.size) (by (repeat' (first | (with_reducible exact Below.refl _ _) | (with_reducible refine Below.alloc ?_ ?_ _) | (with_reducible refine below_ext ?_ ?_ _) | (with_reducible refine Below.drew ?_) | (with_reducible refine below_drewN ?_ _) | (with_reducible refine Below.setCell ?_ ?_ _) | go_size | (simp only [go_sem]; omega) | (simp [go_sem]; done) | (simp [go_sem]; omega)))) hbr.out.size))⟩, by simp [intOf]; omega⟩
    · obtain rfl : i = vals.length := by omega
      have e1 : decide (vals.length < vals.length) = false := by simp
      obtain ⟨Wa, hWa⟩ : ∃ Wa, Wa = wr := ⟨_, rfl⟩
      subst hWa
      have hb2 := hb12.trans (hbr.out.mono hb12.size)
      have P3 := Lib.hid (T1.out.page.grow hb2)
      have R3 := Lib.hid (R1.out.grow hb2)
      have t0 : Wa.cell? ⟨H1, 0, none⟩ = some (.slice A1 n1 c1) := (hb2.cell (p := ⟨_, _, none⟩) gH).trans s0
      have t1 : Wa.cell? ⟨H1, 1, none⟩ = some (.int .i64 S.cols) := (hb2.cell (p := ⟨_, _, none⟩) gH).trans s1
      have u0 : Wa.cell? ⟨w.heap.size + 1, 0, none⟩ = some (.int .i64 x) := (hb2.cell (p := ⟨_, _, none⟩) g1).trans d0
      have u1 : Wa.cell? ⟨w.heap.size + 1, 1, none⟩ = some (.int .i64 y) := (hb2.cell (p := ⟨_, _, none⟩) g1).trans d1
      have gH2 := Nat.lt_of_lt_of_le gH hb2.size
      have g12 := Nat.lt_of_lt_of_le g1 hb2.size
      have hbw : Below w.heap.size w Wa := hb1.trans (hb2.mono hb1.size)
      clear hbr hb12 hC3 hC4 SC T1 R1 c0 c1' c2 c3 s0 s1 d0 d1 B1 B2 g0 g1 gH hV1 hV2 hb1 hb2 vm vw AT2 hl1 hl2
      have CL := Lib.hid (fun w' (hb : Below Wa.heap.size Wa w') => clone_p (P3.out.grow hb) ok1)
      have SM := Lib.hid (fun q G w' (hq : PageAt w' G q S) (hp : PageAt w' F p S) => (by have := same_p hq ok1 hp ok1; rw [(sameS_iff S S).2 rfl] at this; exact this : Calls Tryz.prog 26 #[.pointer (some ⟨q, 0, none⟩), .pointer (some ⟨p, 0, none⟩)] w' (Gives w' (.bool true))))
      have LN := Lib.hid (fun w' (hb : Below Wa.heap.size Wa w') => line_p (P3.out.grow hb) ok1 x)
      have lm := lineOf_short ok1 x
      generalize lineOf S x = lt at LN lm
      obtain ⟨lx, ls⟩ := lt
      simp only at lm
      go_upto_region 19 with (first
        | ((go_at_call 25); (with_reducible refine (CL.out _ (by (repeat' (first | (with_reducible exact Below.refl _ _) | (with_reducible refine Below.alloc ?_ ?_ _) | (with_reducible refine below_ext ?_ ?_ _) | (with_reducible refine Below.drew ?_) | (with_reducible refine below_drewN ?_ _) | (with_reducible refine Below.setCell ?_ ?_ _) | go_size | (simp only [go_sem]; omega) | (simp [go_sem]; done) | (simp [go_sem]; omega))))).mono ?_); (rintro _ _ ⟨q, G, x5, rfl, rfl, hG, hQ⟩); (replace hG := Lib.hid hG); (replace hQ := Lib.hid hQ))
        | (go_at_call 26; ((with_reducible refine (SM.out _ _ _ (hQ.out.grow (by (repeat' (first | (with_reducible exact Below.refl _ _) | (with_reducible refine Below.alloc ?_ ?_ _) | (with_reducible refine below_ext ?_ ?_ _) | (with_reducible refine Below.drew ?_) | (with_reducible refine below_drewN ?_ _) | (with_reducible refine Below.setCell ?_ ?_ _) | go_size | (simp only [go_sem]; omega) | (simp [go_sem]; done) | (simp [go_sem]; omega))))) (P3.out.grow (by (repeat' (first | (with_reducible exact Below.refl _ _) | (with_reducible refine Below.alloc ?_ ?_ _) | (with_reducible refine below_ext ?_ ?_ _) | (with_reducible refine Below.drew ?_) | (with_reducible refine below_drewN ?_ _) | (with_reducible refine Below.setCell ?_ ?_ _) | go_size | (simp only [go_sem]; omega) | (simp [go_sem]; done) | (simp [go_sem]; omega)))))).mono ?_); rintro _ _ hgets; obtain ⟨rfl, x6, rfl⟩ := hgets.get; clear hgets))
        | ((go_at_call 14); (with_reducible refine (LN.out _ (by (repeat' (first | (with_reducible exact Below.refl _ _) | (with_reducible refine Below.alloc ?_ ?_ _) | (with_reducible refine below_ext ?_ ?_ _) | (with_reducible refine Below.drew ?_) | (with_reducible refine below_drewN ?_ _) | (with_reducible refine Below.setCell ?_ ?_ _) | go_size | (simp only [go_sem]; omega) | (simp [go_sem]; done) | (simp [go_sem]; omega))))).mono ?_); (rintro _ _ ⟨A8, c8, x8, rfl, rfl, hO8⟩); (replace hO8 := Lib.hid hO8)))
      obtain ⟨W4, hW4⟩ : ∃ W4, W4 = (ext (ext (ext Wa x5) x6) x8).alloc (.cells #[.slice A8 lx.length c8, .int .i64 ls] 47) := ⟨_, rfl⟩
      have hb4 : Below Wa.heap.size Wa W4 := by rw [hW4]; (repeat' (first | (with_reducible exact Below.refl _ _) | (with_reducible refine Below.alloc ?_ ?_ _) | (with_reducible refine below_ext ?_ ?_ _) | (with_reducible refine Below.drew ?_) | (with_reducible refine below_drewN ?_ _) | (with_reducible refine Below.setCell ?_ ?_ _) | go_size | (simp only [go_sem]; omega) | (simp [go_sem]; done) | (simp [go_sem]; omega)))
      have L4 : W4.heap[Wa.heap.size + x5.sz + x6.sz + x8.sz]? = some (.cells #[.slice A8 lx.length c8, .int .i64 ls] 47 (0, 0)) := by
        have := heap_alloc_new (ext (ext (ext Wa x5) x6) x8) (.cells #[.slice A8 lx.length c8, .int .i64 ls] 47)
        rw [hW4]
        simpa using this
      have O4 := Lib.hid (show Own encC 3 37 Wa.heap.size W4 (.slice A8 lx.length c8) lx by rw [hW4]; exact (hO8.out.mono (by simp; omega)).alloc _)
      have Q4 := Lib.hid (show PageAt W4 G q S from hQ.out.grow (by rw [hW4]; (repeat' (first | (with_reducible exact Below.refl _ _) | (with_reducible refine Below.alloc ?_ ?_ _) | (with_reducible refine below_ext ?_ ?_ _) | (with_reducible refine Below.drew ?_) | (with_reducible refine below_drewN ?_ _) | (with_reducible refine Below.setCell ?_ ?_ _) | go_size | (simp only [go_sem]; omega) | (simp [go_sem]; done) | (simp [go_sem]; omega)))))
      have hGb : ∀ b, G b → Wa.heap.size ≤ b ∧ b < Wa.heap.size + x5.sz := fun b g => ⟨hG.out b g, by have := hQ.out.lt b g; simpa using this⟩
      have hO9 : ∀ b, (Value.slice A8 lx.length c8).ownBlock = some b → Wa.heap.size + x5.sz ≤ b ∧ b < Wa.heap.size + x5.sz + x6.sz + x8.sz := fun b f => by have := hO8.out.lt b f; simp at this; omega
      rw [← hW4]
      clear hW4 hO8 hQ hG CL LN
      generalize Wa.heap.size + x5.sz + x6.sz + x8.sz = L at L4 hO9 ⊢
      have l0 : W4.cell? ⟨L, 0, none⟩ = some (.slice A8 lx.length c8) := by rw [cell_in L4]; rfl
      have gl := heap_in L4
      go_wp2
      go_loopw [79] (fun iv wz => ∃ (i : Nat) (ys : List Cl), i ≤ lx.length ∧ iv = .int .i64 i ∧ Hid (ys.length = lx.length) ∧ Hid (Own encC 3 37 Wa.heap.size wz (.slice A8 lx.length c8) ys) ∧ Hid (Keep (fun b => (Value.slice A8 lx.length c8).ownBlock = some b) W4 wz)) (fun iv _ => lx.length - (intOf iv).toNat)
      case atStart => exact ⟨0, lx, by omega, rfl, Lib.hid rfl, O4, Lib.hid (Keep.refl _ _)⟩
      case round =>
        obtain ⟨i, ys, hi, rfl, hys, hO, hK⟩ := hrel
        have hL := (hK.out.block L gl (fun f => by have := hO9 _ f; omega)).trans L4
        by_cases hlt : i < lx.length
        · have e3 : decide (i < lx.length) = true := decide_eq_true hlt
          have l1 : wr.cell? ⟨L, 0, none⟩ = some (.slice A8 lx.length c8) := by rw [cell_in hL]; rfl
          have gl2 := heap_in hL
          have hi2 : i < ys.length := by rw [hys.out]; exact hlt
          obtain ⟨g, eA, _, hgl, f0, f1, f2, ff⟩ := own_at hO.out i hi2
          subst eA
          have hOn := Lib.hid (own_set3 hO.out i hi2 ⟨122, 0, false⟩)
          have hg : (Value.slice (some ⟨g, 0, none⟩) lx.length c8).ownBlock = some g := rfl
          have hKn := Lib.hid (((hK.out.set (p := ⟨g, i * 3, none⟩) (.inl hg) (.int .i32 122)).set (p := ⟨g, i * 3 + 1, none⟩) (.inl hg) (.int .u8 0)).set (p := ⟨g, i * 3 + 2, none⟩) (.inl hg) (.bool false))
          have hyn := Lib.hid (show (ys.set i ⟨122, 0, false⟩).length = lx.length by rw [List.length_set]; exact hys.out)
          generalize ys[i] = yy at f0 f1 f2
          clear hL hO
          go_wp2
          refine ⟨⟨i + 1, ys.set i ⟨122, 0, false⟩, ?_, ?_, hyn, hOn, hKn⟩, ?_⟩
          · omega
          · go_num
          · simp only [intOf]
            omega
        · obtain rfl : i = lx.length := by omega
          have e3 : decide (lx.length < lx.length) = false := by simp
          have hb5 : Below Wa.heap.size Wa wr := hb4.trans (hK.out.below (B := Wa.heap.size) (fun b f => by have := hO9 _ f; omega) hb4.size)
          have Q5 := Lib.hid (Q4.out.keep hK.out (fun b g f => by have := hGb _ g; have := hO9 _ f; omega))
          have v0 := (hb5.cell (p := ⟨_, _, none⟩) g12).trans u0
          have v1 := (hb5.cell (p := ⟨_, _, none⟩) g12).trans u1
          have g13 := Nat.lt_of_lt_of_le g12 hb5.size
          have PT := Lib.hid (fun w' (hb : Below wr.heap.size wr w') => put_p (Q5.out.grow hb) ok1 x y ⟨121, 3, false⟩)
          have ok6 := putS_ok ok1 x y (y := ⟨121, 3, false⟩) (by first | (unfold Cl.ok; omega) | (simp [Cl.ok]; done) | (simp [Cl.ok]; omega) | (unfold Cl.ok; decide))
          generalize putS S x y ⟨121, 3, false⟩ = T at PT ok6 sp
          have l1 : wr.cell? ⟨L, 0, none⟩ = some (.slice A8 lx.length c8) := by rw [cell_in hL]; rfl
          have gl2 := heap_in hL
          clear hO hL
          go_upto_region 25 with (first
            | ((go_at_call 27); (with_reducible refine (PT.out _ (by (repeat' (first | (with_reducible exact Below.refl _ _) | (with_reducible refine Below.alloc ?_ ?_ _) | (with_reducible refine below_ext ?_ ?_ _) | (with_reducible refine Below.drew ?_) | (with_reducible refine below_drewN ?_ _) | (with_reducible refine Below.setCell ?_ ?_ _) | go_size | (simp only [go_sem]; omega) | (simp [go_sem]; done) | (simp [go_sem]; omega))))).mono ?_); (rintro _ W6 ⟨rfl, hD⟩); replace hD := Lib.hid hD))
          replace hD := Lib.hid (Did.back hD.out (show Below wr.heap.size wr _ by (repeat' (first | (with_reducible exact Below.refl _ _) | (with_reducible refine Below.alloc ?_ ?_ _) | (with_reducible refine below_ext ?_ ?_ _) | (with_reducible refine Below.drew ?_) | (with_reducible refine below_drewN ?_ _) | (with_reducible refine Below.setCell ?_ ?_ _) | go_size | (simp only [go_sem]; omega) | (simp [go_sem]; done) | (simp [go_sem]; omega)))) Q5.out.lt)
          have hb6 : Below Wa.heap.size Wa W6 := hb5.trans (hD.out.1.below (B := Wa.heap.size) (fun b g => (hGb b g).1) hb5.size)
          have Q6 := Lib.hid hD.out.2
          generalize more G wr W6 = G6 at Q6
          clear hD PT Q5 v0 v1 g13 hb5 hK Q4 O4 L4 l1 gl2
          have v0 := (hb6.cell (p := ⟨_, _, none⟩) g12).trans u0
          have v1 := (hb6.cell (p := ⟨_, _, none⟩) g12).trans u1
          have q0 := (hb6.cell (p := ⟨_, _, none⟩) gH2).trans t0
          have q1 := (hb6.cell (p := ⟨_, _, none⟩) gH2).trans t1
          have g13 := Nat.lt_of_lt_of_le g12 hb6.size
          have g14 := Nat.lt_of_lt_of_le gH2 hb6.size
          have hbz := hbw.trans (hb6.mono hbw.size)
          have P6 := Lib.hid (P3.out.grow hb6)
          have R6 := Lib.hid (R3.out.grow hb6)
          have BX := Lib.hid (fun w' (hb : Below W6.heap.size W6 w') => refbox_c _ S w' (R6.out.grow hb))
          have IN := Lib.hid (fun w' => in_r 0 0 S.rows.length S.cols x y w')
          have AT2 := Lib.hid (fun w' (hb : Below W6.heap.size W6 w') => refat_c (.agg #[.slice A1 n1 c1, .int .i64 S.cols]) S x y w' (R6.out.grow hb) ok1)
          rw [hy.out] at AT2
          have IS := Lib.hid (fun w' (hb : Below W6.heap.size W6 w') => is_c (.agg #[.slice A1 n1 c1, .int .i64 S.cols]) (P6.out.grow hb) ok1 (R6.out.grow hb))
          have SM2 := Lib.hid (fun w' (hb : Below W6.heap.size W6 w') => same_p (P6.out.grow hb) ok1 (Q6.out.grow hb) ok6)
          rw [sp] at SM2
          generalize inB 0 0 S.rows.length S.cols x y = ib at IN SM2
          clear sp t0 t1 u0 u1 P3 R3 gH2 g12 l0 gl
          replace hbz := Lib.hid hbz
          by_cases he : (⟨yg, yr, yk⟩ : Cl) = ⟨121, 3, false⟩
          · have he2 := eqC_t he
            have hd : decide ((⟨yg, yr, yk⟩ : Cl) ≠ ⟨121, 3, false⟩) = false := by simp [he]
            rw [hd] at SM2
            replace he := Lib.hid he
            clear hd
            cases ib <;> simp only [Bool.and_false, Bool.and_true, Bool.not_false, Bool.not_true] at SM2
            all_goals
              go_upto_region 25 with fail
              (refine wp_region_free (by kernel_rfl) (by kernel_rfl) ?_)
              repeat (go_big_quiet_step (first
                | ((go_at_call 28; with_reducible exact Calls.free (BX.out _ (by (repeat' (first | (with_reducible exact Below.refl _ _) | (with_reducible refine Below.alloc ?_ ?_ _) | (with_reducible refine below_ext ?_ ?_ _) | (with_reducible refine Below.drew ?_) | (with_reducible refine below_drewN ?_ _) | (with_reducible refine Below.setCell ?_ ?_ _) | go_size | (simp only [go_sem]; omega) | (simp [go_sem]; done) | (simp [go_sem]; omega)))))))
                | ((go_at_call 12; with_reducible exact Calls.free (IN.out _)))
                | ((go_at_call 23; with_reducible exact Calls.free (AT2.out _ (by (repeat' (first | (with_reducible exact Below.refl _ _) | (with_reducible refine Below.alloc ?_ ?_ _) | (with_reducible refine below_ext ?_ ?_ _) | (with_reducible refine Below.drew ?_) | (with_reducible refine below_drewN ?_ _) | (with_reducible refine Below.setCell ?_ ?_ _) | go_size | (simp only [go_sem]; omega) | (simp [go_sem]; done) | (simp [go_sem]; omega)))))))))
              refine wpQuiet_nil ?_; rintro _ ⟨x9, rfl⟩
              go_wp2_with (first
                | (go_at_call 16; ((with_reducible refine (IS.out _ (by (repeat' (first | (with_reducible exact Below.refl _ _) | (with_reducible refine Below.alloc ?_ ?_ _) | (with_reducible refine below_ext ?_ ?_ _) | (with_reducible refine Below.drew ?_) | (with_reducible refine below_drewN ?_ _) | (with_reducible refine Below.setCell ?_ ?_ _) | go_size | (simp only [go_sem]; omega) | (simp [go_sem]; done) | (simp [go_sem]; omega))))).mono ?_); rintro _ _ hgets; obtain ⟨rfl, x6, rfl⟩ := hgets.get; clear hgets))
                | (go_at_call 26; ((with_reducible refine (SM2.out _ (by (repeat' (first | (with_reducible exact Below.refl _ _) | (with_reducible refine Below.alloc ?_ ?_ _) | (with_reducible refine below_ext ?_ ?_ _) | (with_reducible refine Below.drew ?_) | (with_reducible refine below_drewN ?_ _) | (with_reducible refine Below.setCell ?_ ?_ _) | go_size | (simp only [go_sem]; omega) | (simp [go_sem]; done) | (simp [go_sem]; omega))))).mono ?_); rintro _ _ hgets; obtain ⟨rfl, x7, rfl⟩ := hgets.get; clear hgets)))
              go_returns
              exact ⟨rfl, hbz.out.trans (Below.mono (B := W6.heap.size) (by (repeat' (first | (with_reducible exact Below.refl _ _) | (with_reducible refine Below.alloc ?_ ?_ _) | (with_reducible refine below_ext ?_ ?_ _) | (with_reducible refine Below.drew ?_) | (with_reducible refine below_drewN ?_ _) | (with_reducible refine Below.setCell ?_ ?_ _) | go_size | (simp only [go_sem]; omega) | (simp [go_sem]; done) | (simp [go_sem]; omega)))) hbz.out.size)⟩
          · have he2 := eqC_f he
            have hd : decide ((⟨yg, yr, yk⟩ : Cl) ≠ ⟨121, 3, false⟩) = true := by simp [he]
            rw [hd] at SM2
            replace he := Lib.hid he
            clear hd
            cases ib <;> simp only [Bool.and_false, Bool.and_true, Bool.not_false, Bool.not_true] at SM2
            all_goals
              go_upto_region 25 with fail
              (refine wp_region_free (by kernel_rfl) (by kernel_rfl) ?_)
              repeat (go_big_quiet_step (first
                | ((go_at_call 28; with_reducible exact Calls.free (BX.out _ (by (repeat' (first | (with_reducible exact Below.refl _ _) | (with_reducible refine Below.alloc ?_ ?_ _) | (with_reducible refine below_ext ?_ ?_ _) | (with_reducible refine Below.drew ?_) | (with_reducible refine below_drewN ?_ _) | (with_reducible refine Below.setCell ?_ ?_ _) | go_size | (simp only [go_sem]; omega) | (simp [go_sem]; done) | (simp [go_sem]; omega)))))))
                | ((go_at_call 12; with_reducible exact Calls.free (IN.out _)))
                | ((go_at_call 23; with_reducible exact Calls.free (AT2.out _ (by (repeat' (first | (with_reducible exact Below.refl _ _) | (with_reducible refine Below.alloc ?_ ?_ _) | (with_reducible refine below_ext ?_ ?_ _) | (with_reducible refine Below.drew ?_) | (with_reducible refine below_drewN ?_ _) | (with_reducible refine Below.setCell ?_ ?_ _) | go_size | (simp only [go_sem]; omega) | (simp [go_sem]; done) | (simp [go_sem]; omega)))))))))
              refine wpQuiet_nil ?_; rintro _ ⟨x9, rfl⟩
              go_wp2_with (first
                | (go_at_call 16; ((with_reducible refine (IS.out _ (by (repeat' (first | (with_reducible exact Below.refl _ _) | (with_reducible refine Below.alloc ?_ ?_ _) | (with_reducible refine below_ext ?_ ?_ _) | (with_reducible refine Below.drew ?_) | (with_reducible refine below_drewN ?_ _) | (with_reducible refine Below.setCell ?_ ?_ _) | go_size | (simp only [go_sem]; omega) | (simp [go_sem]; done) | (simp [go_sem]; omega))))).mono ?_); rintro _ _ hgets; obtain ⟨rfl, x6, rfl⟩ := hgets.get; clear hgets))
                | (go_at_call 26; ((with_reducible refine (SM2.out _ (by (repeat' (first | (with_reducible exact Below.refl _ _) | (with_reducible refine Below.alloc ?_ ?_ _) | (with_reducible refine below_ext ?_ ?_ _) | (with_reducible refine Below.drew ?_) | (with_reducible refine below_drewN ?_ _) | (with_reducible refine Below.setCell ?_ ?_ _) | go_size | (simp only [go_sem]; omega) | (simp [go_sem]; done) | (simp [go_sem]; omega))))).mono ?_); rintro _ _ hgets; obtain ⟨rfl, x7, rfl⟩ := hgets.get; clear hgets)))
              go_returns
              exact ⟨rfl, hbz.out.trans (Below.mono (B := W6.heap.size) (by (repeat' (first | (with_reducible exact Below.refl _ _) | (with_reducible refine Below.alloc ?_ ?_ _) | (with_reducible refine below_ext ?_ ?_ _) | (with_reducible refine Below.drew ?_) | (with_reducible refine below_drewN ?_ _) | (with_reducible refine Below.setCell ?_ ?_ _) | go_size | (simp only [go_sem]; omega) | (simp [go_sem]; done) | (simp [go_sem]; omega)))) hbz.out.size)⟩
end Go.Proofs.YtpahcgappaifnaaGreat
