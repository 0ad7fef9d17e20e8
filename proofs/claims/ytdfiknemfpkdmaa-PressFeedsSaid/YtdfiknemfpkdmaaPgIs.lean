/- Pages: is a page the document's?  -/
import Derived.Test.YtdfiknemfpkdmaaPgD
import Derived.Test.YtdfiknemfpkdmaaPgB
import Derived.Test.YtdfiknemfpkdmaaRegionF
namespace Go.Proofs.Ytdfiknemfpkdmaa
open Go.RowKit
set_option linter.unusedVariables false
set_option linter.unusedSimpArgs false

theorem box_same_neq (x y z u : Int) (w : World) : (binOp .neq 31 (.agg #[.int .i64 x, .int .i64 y, .int .i64 z, .int .i64 u]) (.agg #[.int .i64 x, .int .i64 y, .int .i64 z, .int .i64 u])).run Try.prog w = .ok (.bool false) w := by
  simp [go_sem]
attribute [local go_sem ↓] box_same_neq
section
variable {F : Nat → Prop} {p : Nat} {S : PgS} {w : World}
set_option maxRecDepth 100000 in
set_option maxHeartbeats 4000000 in
theorem is_c (U : Value) (h : PageAt w F p S) (hS : S.Ok) (h' : RefV w U S) : Calls Try.prog 25 #[.pointer (some ⟨p, 0, none⟩), U] w (Gives w (.bool true)) := by
  have RW := Lib.hid (fun w' (hb : Below w.heap.size w w') => rows_p (h.grow hb))
  have CO := Lib.hid (fun w' (hb : Below w.heap.size w w') => cols_p (h.grow hb))
  have BX := Lib.hid (fun w' (hb : Below w.heap.size w w') => box_p (h.grow hb))
  have RB := Lib.hid (fun w' (hb : Below w.heap.size w w') => refbox_c U S w' (h'.grow hb))
  have LN := Lib.hid (fun (i : Nat) (hi : i < S.rows.length) w' (hb : Below w.heap.size w w') => (by
    have := line_p (h.grow hb) hS i
    rw [lineOf_in hi] at this
    exact this : Calls Try.prog 14 #[.pointer (some ⟨p, 0, none⟩), .int .i64 i] w' (NewL w' S.rows[i].1 S.rows[i].2)))
  obtain ⟨A, n, rows, rfl, hl, hv, hn⟩ := h'.op
  have hrow := Lib.hid (fun i (hi : i < S.rows.length) => hl.at hv hi)
  have hS2 := Lib.hid hS
  have hr2 := hS.r2
  clear h h' hl hv hn hS
  go_enter Try.func25, Try.ntmps25
  go_upto_region 1 with fail
  (refine wp_region_free (by kernel_rfl) (by kernel_rfl) ?_)
  repeat (go_big_quiet_step (first | ((go_at_call 16; with_reducible exact Calls.free (RW.out _ (by (repeat' (first | (with_reducible exact Below.refl _ _) | (with_reducible refine Below.alloc ?_ ?_ _) | (with_reducible refine below_ext ?_ ?_ _) | (with_reducible refine Below.drew ?_) | (with_reducible refine below_drewN ?_ _) | (with_reducible refine Below.setCell ?_ ?_ _) | go_size | (simp only [go_sem]; omega) | (simp [go_sem]; done) | (simp [go_sem]; omega))))))) | ((go_at_call 17; with_reducible exact Calls.free (CO.out _ (by (repeat' (first | (with_reducible exact Below.refl _ _) | (with_reducible refine Below.alloc ?_ ?_ _) | (with_reducible refine below_ext ?_ ?_ _) | (with_reducible refine Below.drew ?_) | (with_reducible refine below_drewN ?_ _) | (with_reducible refine Below.setCell ?_ ?_ _) | go_size | (simp only [go_sem]; omega) | (simp [go_sem]; done) | (simp [go_sem]; omega))))))) | ((go_at_call 29; with_reducible exact Calls.free (BX.out _ (by (repeat' (first | (with_reducible exact Below.refl _ _) | (with_reducible refine Below.alloc ?_ ?_ _) | (with_reducible refine below_ext ?_ ?_ _) | (with_reducible refine Below.drew ?_) | (with_reducible refine below_drewN ?_ _) | (with_reducible refine Below.setCell ?_ ?_ _) | go_size | (simp only [go_sem]; omega) | (simp [go_sem]; done) | (simp [go_sem]; omega))))))) | ((go_at_call 27; with_reducible exact Calls.free (RB.out _ (by (repeat' (first | (with_reducible exact Below.refl _ _) | (with_reducible refine Below.alloc ?_ ?_ _) | (with_reducible refine below_ext ?_ ?_ _) | (with_reducible refine Below.drew ?_) | (with_reducible refine below_drewN ?_ _) | (with_reducible refine Below.setCell ?_ ?_ _) | go_size | (simp only [go_sem]; omega) | (simp [go_sem]; done) | (simp [go_sem]; omega)))))))))
  refine wpQuiet_nil ?_; rintro _ ⟨x1, rfl⟩
  go_wp2
  obtain ⟨W, hW⟩ : ∃ W, W = ext (w.alloc (.cells #[.slice A S.rows.length n, .int .i64 S.cols] 40)) x1 := ⟨_, rfl⟩
  have hbW : Below w.heap.size w W := by rw [hW]; (repeat' (first | (with_reducible exact Below.refl _ _) | (with_reducible refine Below.alloc ?_ ?_ _) | (with_reducible refine below_ext ?_ ?_ _) | (with_reducible refine Below.drew ?_) | (with_reducible refine below_drewN ?_ _) | (with_reducible refine Below.setCell ?_ ?_ _) | go_size | (simp only [go_sem]; omega) | (simp [go_sem]; done) | (simp [go_sem]; omega)))
  rw [← hW]
  clear hW RW CO BX RB
  have hrW := Lib.hid (fun i (hi : i < S.rows.length) => (by
    obtain ⟨L, g, k, xs, z, h1, h2, h3, h4, h5, h6, h7, h8⟩ := hrow.out i hi
    exact ⟨L, g, k, xs, z, h1, h2, h3.grow hbW, Nat.lt_of_lt_of_le h8 hbW.size, (hbW.cell (p := ⟨L, _, none⟩) h8).trans h6, (hbW.cell (p := ⟨L, _, none⟩) h8).trans h7⟩ : ∃ L g k xs z, A = some ⟨L, 0, none⟩ ∧ S.rows[i] = (xs, z) ∧ RowM.At W ⟨g, k, xs, z⟩ ∧ L < W.heap.size ∧ W.cell? ⟨L, i * 2, none⟩ = some (.slice (some ⟨g, 0, none⟩) xs.length k) ∧ W.cell? ⟨L, i * 2 + 1, none⟩ = some (.int .i64 z)))
  clear hrow
  replace hbW := Lib.hid hbW
  go_loopw [34] (fun iv wr => ∃ (j : Nat) (x : More), j ≤ S.rows.length ∧ iv = .int .i64 j ∧ wr = ext W x) (fun iv _ => S.rows.length - (intOf iv).toNat)
  case atStart => exact ⟨0, ⟨#[], W.drawn⟩, by omega, rfl, by simp [ext]⟩
  case round =>
    obtain ⟨j, x, hj, rfl, rfl⟩ := hrel
    by_cases hlt : j < S.rows.length
    · obtain ⟨L, g, k, xs, z, rfl, e1, hA, d3, d0, d1⟩ := hrW.out j hlt
      have hw := hS2.out.len hlt
      have hc1 := hS2.out.c1
      have hc2 := hS2.out.c2
      have hbx : Below w.heap.size w (ext W x) := below_ext hbW.out hbW.out.size x
      have LJ := Lib.hid (fun w' (hb : Below (ext W x).heap.size (ext W x) w') => LN.out j hlt w' (hbx.trans (hb.mono hbx.size)))
      clear hbx
      rw [e1] at hw LJ
      simp only at hw LJ
      have X := Lib.hid hA.rd
      have hpos := Lib.hid (show 0 < xs.length by omega)
      have SM := Lib.hid (fun g1 k1 w' (h1 : Rd encC 3 w' (some ⟨g1, 0, none⟩) xs) (h2 : Rd encC 3 w' (some ⟨g, 0, none⟩) xs) => (by
        have := same_lr (some ⟨g1, 0, none⟩) (some ⟨g, 0, none⟩) k1 k xs xs z z w' h1 h2 (by omega) (by omega)
        have e : sameL xs z xs z = true := by simp [sameL]
        rw [e] at this
        exact this : Calls Try.prog 56 #[lineV (some ⟨g1, 0, none⟩) xs.length k1 z, lineV (some ⟨g, 0, none⟩) xs.length k z] w' (Gives w' (.bool true))))
      replace hw := Lib.hid hw
      clear hA e1
      go_upto_region 6 with fail
      (refine wp_region_F (S := (fun w' => w'.cell? ⟨W.heap.size + x.sz, 0, none⟩ = some (.slice (some ⟨g, 0, none⟩) xs.length k) ∧ w'.cell? ⟨W.heap.size + x.sz, 1, none⟩ = some (.int .i64 z))) 5 [false, false, false, false, false, false] rfl rfl (by kernel_rfl) ?_ (fun hHeld => ?_); (focus ((try dsimp only); (refine ⟨?_, ?_⟩ <;> simp [go_sem]); done)))
      ((refine AtF.take (oi := ?_) (v := ?_) 0 ?_ ?_ ?_ ?_ (Or.inl ⟨?_, ?_⟩) (by assumption) ?_; rotate_left 2; rfl; kernel_rfl; kernel_rfl; exact (fun _ _ _ h => h); rfl; (focus (intro w hSw; (try dsimp only at hSw); go_simp; (try with_reducible rfl); done)); (try simp only [Act.put, List.setIfInBounds_toArray, List.set_cons_zero, List.set_cons_succ])); (refine AtF.take (oi := ?_) (v := ?_) 1 ?_ ?_ ?_ ?_ (Or.inl ⟨?_, ?_⟩) (by assumption) ?_; rotate_left 2; rfl; kernel_rfl; kernel_rfl; exact (fun _ _ _ h => h); rfl; (focus (intro w hSw; (try dsimp only at hSw); go_simp; (try with_reducible rfl); done)); (try simp only [Act.put, List.setIfInBounds_toArray, List.set_cons_zero, List.set_cons_succ])); (refine AtF.take (oi := ?_) (v := ?_) 3 ?_ ?_ ?_ ?_ (Or.inl ⟨?_, ?_⟩) (by assumption) ?_; rotate_left 2; rfl; kernel_rfl; kernel_rfl; exact (fun _ _ _ h => h); rfl; (focus (intro w hSw; (try dsimp only at hSw); go_simp; (try with_reducible rfl); done)); (try simp only [Act.put, List.setIfInBounds_toArray, List.set_cons_zero, List.set_cons_succ])))
      (refine AtF.only (oi := ?_) 2 ?_ ?_ (fun K hK => ?_); rotate_left 1; rfl; kernel_rfl; (try go_simp); (go_at_call 14); (with_reducible refine (LJ.out _ (by (repeat' (first | (with_reducible exact Below.refl _ _) | (with_reducible refine Below.alloc ?_ ?_ _) | (with_reducible refine below_ext ?_ ?_ _) | (with_reducible refine Below.drew ?_) | (with_reducible refine below_drewN ?_ _) | (with_reducible refine Below.setCell ?_ ?_ _) | go_size | (simp only [go_sem]; omega) | (simp [go_sem]; done) | (simp [go_sem]; omega))))).mono ?_); intro _ _ hp; obtain ⟨g1, k1, x3, rfl, rfl, hR, hg⟩ := newL_row hp hpos.out; (try simp only [ext_drew] at hR); replace hR := Lib.hid hR.rd; clear hp; (refine hK.out _ _ ?_ (fun hHeld => ?_)); (focus ((try dsimp only); (refine ⟨?_, ?_⟩ <;> simp [go_sem]); done)); clear hK K; (try simp only [Act.put, List.setIfInBounds_toArray, List.set_cons_zero, List.set_cons_succ]))
      (refine AtF.only (oi := ?_) 4 ?_ ?_ (fun K hK => ?_); rotate_left 1; rfl; kernel_rfl; (try go_simp); (go_at_call 56); (with_reducible refine (SM.out _ _ _ (by repeat (first | exact hR.out | exact hR | refine Rd.ext ?_ _ | refine Rd.alloc ?_ _ | refine Rd.drew ?_)) (by repeat (first | exact X.out | exact X | refine Rd.ext ?_ _ | refine Rd.alloc ?_ _ | refine Rd.drew ?_))).mono ?_); (rintro _ _ hgets; obtain ⟨rfl, x4, rfl⟩ := hgets.get; clear hgets); (refine hK.out _ _ ?_ (fun hHeld => ?_)); (focus ((try dsimp only); (refine ⟨?_, ?_⟩ <;> simp [go_sem]); done)); clear hK K; (try simp only [Act.put, List.setIfInBounds_toArray, List.set_cons_zero, List.set_cons_succ]))
      (refine AtF.last (oi := ?_) ?_ ?_ (fun K hK => ?_); rotate_left 1; rfl; kernel_rfl; go_simp; skip; refine hK.out _ _ ?_; clear hK K; (try simp only [Act.put, List.setIfInBounds_toArray, List.set_cons_zero, List.set_cons_succ]))
      clear hR
      go_wp2
      obtain ⟨x9, e9⟩ := ext_of (show Below W.heap.size W (ext (ext ((ext W x).alloc (.cells #[.slice (some ⟨g, 0, none⟩) xs.length k, .int .i64 z] 54)) x3) x4) by (repeat' (first | (with_reducible exact Below.refl _ _) | (with_reducible refine Below.alloc ?_ ?_ _) | (with_reducible refine below_ext ?_ ?_ _) | (with_reducible refine Below.drew ?_) | (with_reducible refine below_drewN ?_ _) | (with_reducible refine Below.setCell ?_ ?_ _) | go_size | (simp only [go_sem]; omega) | (simp [go_sem]; done) | (simp [go_sem]; omega))))
      exact ⟨⟨j + 1, x9, by omega, by go_num, e9⟩, by simp [intOf]; omega⟩
    · obtain rfl : j = S.rows.length := by omega
      have hbx := below_ext hbW.out hbW.out.size x
      replace hbx := Lib.hid hbx
      go_wp2
      go_returns
      exact ⟨rfl, hbx.out⟩
end
end Go.Proofs.Ytdfiknemfpkdmaa
