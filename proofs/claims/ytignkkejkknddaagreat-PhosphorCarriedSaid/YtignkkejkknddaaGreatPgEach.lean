/- Pages: a deed on the span of every row of a box.  -/
import Derived.Test.YtignkkejkknddaaGreatPgB
import Derived.Test.YtignkkejkknddaaGreatRegionF
namespace Go.Proofs.YtignkkejkknddaaGreat
open Go.RowKit
set_option linter.unusedVariables false
set_option linter.unusedSimpArgs false

section
variable {F : Nat → Prop} {p : Nat} {S : PgS} {w : World}
set_option maxRecDepth 100000 in
set_option maxHeartbeats 8000000 in
theorem each_p (h : PageAt w F p S) (hS : S.Ok) (b : BxI) (k : Nat) (first cap : Array Value) (f : List Cl → Int → Int → List Cl)
    (hk : ∀ args w, (callFunc k args).run Tryz.prog w = .ok (.enter k args) w) (hfl : ∀ xs l r, (f xs l r).length = xs.length)
    (hF : ∀ A C sz xs l r w', Keep F w w' → Rd encC 3 w' A xs → (A = none → C = 0) → xs.length ≤ 1000000 → xs.length ≤ C → C ≤ maxLen → (∀ y ∈ xs, y.ok) → l ≤ 500 → r ≤ 500 → Calls Tryz.prog k (first ++ #[lineV A xs.length C sz, .int .i64 l, .int .i64 r] ++ cap) w' (NewL w' (f xs l r) sz)) :
    Calls Tryz.prog 104 #[.pointer (some ⟨p, 0, none⟩), boxV b.t b.l b.b b.r, .func (.func k) first cap] w (fun e w' => e = .returned (.tuple #[]) ∧ Did F p (eachS S (onB S.rows.length S.cols b) f) w w') := by
  have ON := Lib.hid (fun w' (hb : Below w.heap.size w w') => on_p (h.grow hb) b)
  have HB := onB_in S.rows.length S.cols b
  have hS2 := Lib.hid hS
  have hP := Lib.hid h
  have pl := h.lt p h.self
  have hFl := Lib.hid h.lt
  generalize onB S.rows.length S.cols b = y at ON HB ⊢
  obtain ⟨bt, bl, bb, br⟩ := y
  obtain ⟨xt, xl, xb, xr⟩ := b
  simp only at ON HB ⊢
  obtain ⟨t, ht⟩ : ∃ t : Nat, bt = t := Int.eq_ofNat_of_zero_le (by omega)
  obtain ⟨m, hm⟩ : ∃ m : Nat, (t : Int) + m = bb := ⟨(bb - bt).toNat, by omega⟩
  subst ht
  have e : eachS S ⟨(t : Int), bl, bb, br⟩ f = rowsJ S t (fun _ row => (f row.1 bl br, row.2)) m := by
    unfold eachS
    simp only [show ((t : Int)).toNat = t by omega, show (bb - (t : Int)).toNat = m by omega]
  rw [e]
  subst hm
  have htm : t + m ≤ S.rows.length := by omega
  have hlr : bl ≤ 500 ∧ br ≤ 500 := by have := hS.c2; omega
  have hm5 : t + m ≤ 500 := by have := hS.r2; omega
  replace hlr := Lib.hid hlr
  replace HB := Lib.hid HB
  clear e h hS
  have hF := Lib.hid hF
  have hfl := Lib.hid hfl
  go_enter Tryz.func104, Tryz.ntmps104
  go_wp2_with (go_at_call 92; ((with_reducible refine (ON.out _ (by (repeat' (first | (with_reducible exact Below.refl _ _) | (with_reducible refine Below.alloc ?_ ?_ _) | (with_reducible refine below_ext ?_ ?_ _) | (with_reducible refine Below.drew ?_) | (with_reducible refine below_drewN ?_ _) | (with_reducible refine Below.setCell ?_ ?_ _) | go_size | (simp only [go_sem]; omega) | (simp [go_sem]; done) | (simp [go_sem]; omega))))).mono ?_); rintro _ _ hgets; obtain ⟨rfl, x1, rfl⟩ := hgets.get; clear hgets))
  obtain ⟨W, hW⟩ : ∃ W, W = ext (w.alloc (.cells #[.int .i64 t, .int .i64 bl, .int .i64 (t + m), .int .i64 br] 31)) x1 := ⟨_, rfl⟩
  have hbW : Below w.heap.size w W := by rw [hW]; (repeat' (first | (with_reducible exact Below.refl _ _) | (with_reducible refine Below.alloc ?_ ?_ _) | (with_reducible refine below_ext ?_ ?_ _) | (with_reducible refine Below.drew ?_) | (with_reducible refine below_drewN ?_ _) | (with_reducible refine Below.setCell ?_ ?_ _) | go_size | (simp only [go_sem]; omega) | (simp [go_sem]; done) | (simp [go_sem]; omega)))
  have hsz : w.heap.size < W.heap.size := by rw [hW]; simp; omega
  have B1 : W.cell? ⟨w.heap.size, 1, none⟩ = some (.int .i64 bl) := by rw [hW]; simp [go_sem]
  have B2 : W.cell? ⟨w.heap.size, 2, none⟩ = some (.int .i64 (t + m)) := by rw [hW]; simp [go_sem]
  have B3 : W.cell? ⟨w.heap.size, 3, none⟩ = some (.int .i64 br) := by rw [hW]; simp [go_sem]
  have hPW := hP.out.grow hbW
  rw [← hW]
  have h0 : Did F p (rowsJ S t (fun _ row => (f row.1 bl br, row.2)) 0) W W := by rw [rowsJ_zero]; exact Did.refl hPW
  have hend := Lib.hid (fun wz (hD : Did F p (rowsJ S t (fun _ row => (f row.1 bl br, row.2)) m) W wz) => Did.back hD hbW hFl.out)
  replace h0 := Lib.hid h0
  replace hbW := Lib.hid hbW
  have hB := Lib.hid (⟨B1, B2, B3⟩ : _ ∧ _ ∧ _)
  clear hW ON hPW B1 B2 B3
  go_loopw [6] (fun iv wr => ∃ (j : Nat), j ≤ m ∧ iv = .int .i64 (t + j) ∧ Hid (Did F p (rowsJ S t (fun _ row => (f row.1 bl br, row.2)) j) W wr)) (fun iv _ => (t + m - intOf iv).toNat)
  case atStart => exact ⟨0, by omega, by simp, h0⟩
  case round =>
    obtain ⟨j, hj, rfl, hD⟩ := hrel
    have hk := hD.out.1
    have hB2 : wr.cell? ⟨w.heap.size, 2, none⟩ = some (.int .i64 (t + m)) := (cell_of_heap (hk.block _ hsz (fun q => by have := hFl.out _ q; omega))).trans hB.out.2.1
    have hsr := Nat.lt_of_lt_of_le hsz hk.size
    by_cases hlt : j < m
    · have hB1 : wr.cell? ⟨w.heap.size, 1, none⟩ = some (.int .i64 bl) := (cell_of_heap (hk.block _ hsz (fun q => by have := hFl.out _ q; omega))).trans hB.out.1
      have hB3 : wr.cell? ⟨w.heap.size, 3, none⟩ = some (.int .i64 br) := (cell_of_heap (hk.block _ hsz (fun q => by have := hFl.out _ q; omega))).trans hB.out.2.2
      obtain ⟨A, n, c, rows, H⟩ := hD.out.2.op
      have Hn := H.n
      rw [rowsJ_len] at Hn
      have p0 := H.c0
      have plr := H.plt
      have hi : t + j < S.rows.length := by omega
      obtain ⟨L, rfl⟩ := H.some (by rw [rowsJ_len]; omega)
      obtain ⟨g, kk, xs, z, e1, e2, hA, h1, h2, d0, d1, hfz, d3⟩ := H.at2 (i := t + j) (by rw [rowsJ_len]; exact hi)
      rw [rowsJ_at rfl hi] at e1
      have hxl := hS2.out.len hi
      have hxo := hS2.out.ok _ (List.getElem_mem hi)
      rw [e1] at hxl hxo
      simp only at hxl hxo
      have hc1 := hS2.out.c1
      have hc2 := hS2.out.c2
      have z0 := hfz ((t + j) * 2)
      have z1 := hfz ((t + j) * 2 + 1)
      have hpL : ¬ p = L := fun e => H.off L (.inl rfl) e.symm
      have hpL2 : ¬ L = p := fun e => hpL e.symm
      have hwL : ¬ w.heap.size = L := fun e => by
        have h := H.ft L (.inl rfl)
        rw [← e] at h
        rcases h with h | h
        · exact absurd (hFl.out _ h) (Nat.lt_irrefl _)
        · exact absurd (Nat.lt_of_lt_of_le hsz h.1) (Nat.lt_irrefl _)
      have hwL2 : ¬ L = w.heap.size := fun e => hwL e.symm
      have hFk : Keep F w wr := (Keep.of_below (F := F) (hbW.out)).trans hk (fun x hx => .inl hx)
      have X := Lib.hid hA.rd
      have DO := (fun w' (hb : Below wr.heap.size wr w') (h : Rd encC 3 w' (some ⟨g, 0, none⟩) xs) => hF.out (some ⟨g, 0, none⟩) kk z xs bl br w' (hFk.trans (Keep.of_below (F := fun _ => False) hb) (fun x hx => hx.elim)) h (fun e => by cases e) (by omega) h1 h2 hxo hlr.out.1 hlr.out.2)
      simp only [Array.append_assoc] at DO
      replace DO := Lib.hid DO
      have hyl := hfl.out xs bl br
      have hD2 : ∀ x g' k', RowM.At (ext wr x) ⟨g', k', f xs bl br, z⟩ → wr.heap.size ≤ g' → Did F p (rowsJ S t (fun _ row => (f row.1 bl br, row.2)) (j + 1)) W (((ext wr x).setCell ⟨L, (t + j) * 2, none⟩ (.slice (some ⟨g', 0, none⟩) (f xs bl br).length k')).setCell ⟨L, (t + j) * 2 + 1, none⟩ (.int .i64 z)) := fun x g' k' hR hg => by
        have hst := rowsJ_step (S := S) (t := t) (j := j) (f := fun _ row => (f row.1 bl br, row.2)) rfl hi
        rw [e1] at hst
        rw [hst]
        exact hD.out.trans (Did.row (x := x) H (by rw [rowsJ_len]; exact hi) hR hg) (fun b hb => by have := hFl.out b hb; have := hbW.out.size; omega)
      replace hD2 := Lib.hid hD2
      generalize f xs bl br = ys at DO hyl hD2
      have hpos := Lib.hid (show 0 < ys.length by omega)
      have hLr : L < wr.heap.size := d3
      have hcol : xs.length ≤ 500 := by omega
      replace hyl := Lib.hid hyl
      replace hxl := Lib.hid hxl
      clear hfz e1 e2 hA hxo hFk hk H hc1 hc2
      subst Hn
      have hi5 : t + j < 500 := by omega
      have ei : (t : Int) + j = ((t + j : Nat) : Int) := by omega
      rw [ei]
      generalize t + j = q at *
      go_upto_region 5 with fail
      (refine wp_region_F (S := (fun w' => w'.cell? ⟨p, 0, none⟩ = some (.slice (some ⟨L, 0, none⟩) S.rows.length c) ∧ w'.cell? ⟨w.heap.size, 1, none⟩ = some (.int .i64 bl) ∧ w'.cell? ⟨w.heap.size, 3, none⟩ = some (.int .i64 br) ∧ w'.cell? ⟨L, q * 2, none⟩ = some (.slice (some ⟨g, 0, none⟩) xs.length kk) ∧ w'.cell? ⟨L, q * 2 + 1, none⟩ = some (.int .i64 z))) 19 [false, false, false, false, false, false, false, false, false, false, false, false, false, false, false, false, false, false, false, false] rfl rfl (by kernel_rfl) ?_ (fun hHeld => ?_); (focus ((try dsimp only); (refine ⟨?_, ?_, ?_, ?_, ?_⟩ <;> simp [go_sem, p0, plr, hB1, hB3, d0, d1, hpL, hpL2, hLr, hsr, hwL, hwL2]); done)))
      ((refine AtF.take (oi := ?_) (v := ?_) 0 ?_ ?_ ?_ ?_ (Or.inl ⟨?_, ?_⟩) (by assumption) ?_; rotate_left 2; rfl; kernel_rfl; kernel_rfl; exact (fun _ _ _ h => h); rfl; (focus (intro w hSw; (try dsimp only at hSw); go_simp; (try with_reducible rfl); done)); (try simp only [Act.put, List.setIfInBounds_toArray, List.set_cons_zero, List.set_cons_succ])); (refine AtF.take (oi := ?_) (v := ?_) 1 ?_ ?_ ?_ ?_ (Or.inl ⟨?_, ?_⟩) (by assumption) ?_; rotate_left 2; rfl; kernel_rfl; kernel_rfl; exact (fun _ _ _ h => h); rfl; (focus (intro w hSw; (try dsimp only at hSw); go_simp; (try with_reducible rfl); done)); (try simp only [Act.put, List.setIfInBounds_toArray, List.set_cons_zero, List.set_cons_succ])); (refine AtF.take (oi := ?_) (v := ?_) 2 ?_ ?_ ?_ ?_ (Or.inl ⟨?_, ?_⟩) (by assumption) ?_; rotate_left 2; rfl; kernel_rfl; kernel_rfl; exact (fun _ _ _ h => h); rfl; (focus (intro w hSw; (try dsimp only at hSw); go_simp; (try with_reducible rfl); done)); (try simp only [Act.put, List.setIfInBounds_toArray, List.set_cons_zero, List.set_cons_succ])); (refine AtF.take (oi := ?_) (v := ?_) 3 ?_ ?_ ?_ ?_ (Or.inl ⟨?_, ?_⟩) (by assumption) ?_; rotate_left 2; rfl; kernel_rfl; kernel_rfl; exact (fun _ _ _ h => h); rfl; (focus (intro w hSw; (try dsimp only at hSw); go_simp; (try with_reducible rfl); done)); (try simp only [Act.put, List.setIfInBounds_toArray, List.set_cons_zero, List.set_cons_succ])); (refine AtF.take (oi := ?_) (v := ?_) 4 ?_ ?_ ?_ ?_ (Or.inl ⟨?_, ?_⟩) (by assumption) ?_; rotate_left 2; rfl; kernel_rfl; kernel_rfl; exact (fun _ _ _ h => h); rfl; (focus (intro w hSw; (try dsimp only at hSw); go_simp; (try with_reducible rfl); done)); (try simp only [Act.put, List.setIfInBounds_toArray, List.set_cons_zero, List.set_cons_succ])); (refine AtF.take (oi := ?_) (v := ?_) 5 ?_ ?_ ?_ ?_ (Or.inl ⟨?_, ?_⟩) (by assumption) ?_; rotate_left 2; rfl; kernel_rfl; kernel_rfl; exact (fun _ _ _ h => h); rfl; (focus (intro w hSw; (try dsimp only at hSw); go_simp; (try with_reducible rfl); done)); (try simp only [Act.put, List.setIfInBounds_toArray, List.set_cons_zero, List.set_cons_succ])); (refine AtF.take (oi := ?_) (v := ?_) 6 ?_ ?_ ?_ ?_ (Or.inl ⟨?_, ?_⟩) (by assumption) ?_; rotate_left 2; rfl; kernel_rfl; kernel_rfl; exact (fun _ _ _ h => h); rfl; (focus (intro w hSw; (try dsimp only at hSw); go_simp; (try with_reducible rfl); done)); (try simp only [Act.put, List.setIfInBounds_toArray, List.set_cons_zero, List.set_cons_succ])); (refine AtF.take (oi := ?_) (v := ?_) 7 ?_ ?_ ?_ ?_ (Or.inl ⟨?_, ?_⟩) (by assumption) ?_; rotate_left 2; rfl; kernel_rfl; kernel_rfl; exact (fun _ _ _ h => h); rfl; (focus (intro w hSw; (try dsimp only at hSw); go_simp; (try with_reducible rfl); done)); (try simp only [Act.put, List.setIfInBounds_toArray, List.set_cons_zero, List.set_cons_succ])); (refine AtF.take (oi := ?_) (v := ?_) 8 ?_ ?_ ?_ ?_ (Or.inl ⟨?_, ?_⟩) (by assumption) ?_; rotate_left 2; rfl; kernel_rfl; kernel_rfl; exact (fun _ _ _ h => h); rfl; (focus (intro w hSw; (try dsimp only at hSw); go_simp; (try with_reducible rfl); done)); (try simp only [Act.put, List.setIfInBounds_toArray, List.set_cons_zero, List.set_cons_succ])); (refine AtF.take (oi := ?_) (v := ?_) 9 ?_ ?_ ?_ ?_ (Or.inl ⟨?_, ?_⟩) (by assumption) ?_; rotate_left 2; rfl; kernel_rfl; kernel_rfl; exact (fun _ _ _ h => h); rfl; (focus (intro w hSw; (try dsimp only at hSw); go_simp; (try with_reducible rfl); done)); (try simp only [Act.put, List.setIfInBounds_toArray, List.set_cons_zero, List.set_cons_succ])); (refine AtF.take (oi := ?_) (v := ?_) 10 ?_ ?_ ?_ ?_ (Or.inl ⟨?_, ?_⟩) (by assumption) ?_; rotate_left 2; rfl; kernel_rfl; kernel_rfl; exact (fun _ _ _ h => h); rfl; (focus (intro w hSw; (try dsimp only at hSw); go_simp; (try with_reducible rfl); done)); (try simp only [Act.put, List.setIfInBounds_toArray, List.set_cons_zero, List.set_cons_succ])); (refine AtF.take (oi := ?_) (v := ?_) 11 ?_ ?_ ?_ ?_ (Or.inl ⟨?_, ?_⟩) (by assumption) ?_; rotate_left 2; rfl; kernel_rfl; kernel_rfl; exact (fun _ _ _ h => h); rfl; (focus (intro w hSw; (try dsimp only at hSw); go_simp; (try with_reducible rfl); done)); (try simp only [Act.put, List.setIfInBounds_toArray, List.set_cons_zero, List.set_cons_succ])); (refine AtF.take (oi := ?_) (v := ?_) 12 ?_ ?_ ?_ ?_ (Or.inl ⟨?_, ?_⟩) (by assumption) ?_; rotate_left 2; rfl; kernel_rfl; kernel_rfl; exact (fun _ _ _ h => h); rfl; (focus (intro w hSw; (try dsimp only at hSw); go_simp; (try with_reducible rfl); done)); (try simp only [Act.put, List.setIfInBounds_toArray, List.set_cons_zero, List.set_cons_succ])); (refine AtF.take (oi := ?_) (v := ?_) 13 ?_ ?_ ?_ ?_ (Or.inl ⟨?_, ?_⟩) (by assumption) ?_; rotate_left 2; rfl; kernel_rfl; kernel_rfl; exact (fun _ _ _ h => h); rfl; (focus (intro w hSw; (try dsimp only at hSw); go_simp; (try with_reducible rfl); done)); (try simp only [Act.put, List.setIfInBounds_toArray, List.set_cons_zero, List.set_cons_succ])); (refine AtF.take (oi := ?_) (v := ?_) 14 ?_ ?_ ?_ ?_ (Or.inl ⟨?_, ?_⟩) (by assumption) ?_; rotate_left 2; rfl; kernel_rfl; kernel_rfl; exact (fun _ _ _ h => h); rfl; (focus (intro w hSw; (try dsimp only at hSw); go_simp; (try with_reducible rfl); done)); (try simp only [Act.put, List.setIfInBounds_toArray, List.set_cons_zero, List.set_cons_succ])); (refine AtF.take (oi := ?_) (v := ?_) 15 ?_ ?_ ?_ ?_ (Or.inl ⟨?_, ?_⟩) (by assumption) ?_; rotate_left 2; rfl; kernel_rfl; kernel_rfl; exact (fun _ _ _ h => h); rfl; (focus (intro w hSw; (try dsimp only at hSw); go_simp; (try with_reducible rfl); done)); (try simp only [Act.put, List.setIfInBounds_toArray, List.set_cons_zero, List.set_cons_succ])); (refine AtF.take (oi := ?_) (v := ?_) 16 ?_ ?_ ?_ ?_ (Or.inl ⟨?_, ?_⟩) (by assumption) ?_; rotate_left 2; rfl; kernel_rfl; kernel_rfl; exact (fun _ _ _ h => h); rfl; (focus (intro w hSw; (try dsimp only at hSw); go_simp; (try with_reducible rfl); done)); (try simp only [Act.put, List.setIfInBounds_toArray, List.set_cons_zero, List.set_cons_succ])))
      (refine AtF.only (oi := ?_) 17 ?_ ?_ (fun K hK => ?_); rotate_left 1; rfl; kernel_rfl; (try go_simp); (with_reducible refine (DO.out _ (by (repeat' (first | (with_reducible exact Below.refl _ _) | (with_reducible refine Below.alloc ?_ ?_ _) | (with_reducible refine below_ext ?_ ?_ _) | (with_reducible refine Below.drew ?_) | (with_reducible refine below_drewN ?_ _) | (with_reducible refine Below.setCell ?_ ?_ _) | go_size | (simp only [go_sem]; omega) | (simp [go_sem]; done) | (simp [go_sem]; omega)))) (by repeat (first | exact X.out | exact X | refine Rd.ext ?_ _ | refine Rd.alloc ?_ _ | refine Rd.drew ?_))).mono ?_); intro _ _ hp; obtain ⟨g', k', x7, rfl, rfl, hR1, hg1⟩ := newL_row hp hpos.out; (try simp only [ext_drew] at hR1); replace hR1 := Lib.hid hR1; replace hg1 := Lib.hid hg1; clear hp; (refine hK.out _ _ ?_ (fun hHeld => ?_)); (focus ((try dsimp only); (refine ⟨?_, ?_, ?_, ?_, ?_⟩ <;> simp [go_sem, p0, plr, hB1, hB3, d0, d1, hpL, hpL2, hLr, hsr, hwL, hwL2]); done)); clear hK K; (try simp only [Act.put, List.setIfInBounds_toArray, List.set_cons_zero, List.set_cons_succ]))
      ((refine AtF.take (oi := ?_) (v := ?_) 18 ?_ ?_ ?_ ?_ (Or.inl ⟨?_, ?_⟩) (by assumption) ?_; rotate_left 2; rfl; kernel_rfl; kernel_rfl; exact (fun _ _ _ h => h); rfl; (focus (intro w hSw; (try dsimp only at hSw); go_simp; (try with_reducible rfl); done)); (try simp only [Act.put, List.setIfInBounds_toArray, List.set_cons_zero, List.set_cons_succ])))
      (refine AtF.last (oi := ?_) ?_ ?_ (fun K hK => ?_); rotate_left 1; rfl; kernel_rfl; go_simp; skip; refine hK.out _ _ ?_; clear hK K; (try simp only [Act.put, List.setIfInBounds_toArray, List.set_cons_zero, List.set_cons_succ]))
      all_goals
        have h7 := hD2.out x7 g' k' hR1.out (Nat.le_trans (by simp [go_sem]) hg1.out)
        simp [go_sem, hLr] at h7
        replace h7 := Lib.hid h7
        clear hR1 hg1
        go_wp2
        exact ⟨⟨j + 1, by omega, by go_num, h7⟩, by simp [intOf]; omega⟩
    · obtain rfl : j = m := by omega
      go_wp2
      go_returns
      exact ⟨rfl, hend.out _ hD.out⟩
end
end Go.Proofs.YtignkkejkknddaaGreat
