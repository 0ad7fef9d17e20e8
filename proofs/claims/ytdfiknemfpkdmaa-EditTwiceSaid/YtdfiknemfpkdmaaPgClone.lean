/- Pages: Clone.  -/
import Derived.Test.YtdfiknemfpkdmaaPgSame
namespace Go.Proofs.Ytdfiknemfpkdmaa
open Go.RowKit
set_option linter.unusedVariables false
set_option linter.unusedSimpArgs false

section
variable {F : Nat → Prop} {p : Nat} {S : PgS} {w : World}
theorem qt_page {H n c : Nat} {A : Option Addr} {rows : List RowM} {wr : World} (h : QT 100 w wr H S A n c rows) : NewPg S w (.returned (.pointer (some ⟨H, 0, none⟩))) wr := by
  obtain ⟨x, rfl⟩ := ext_of h.keep
  exact ⟨H, fun b => w.heap.size ≤ b ∧ b < (ext w x).heap.size, x, rfl, rfl, fun b hb => hb.1, ⟨⟨_, rows, h.blk, h.l, h.val, fun b hb => ⟨h.ft b hb, h.l.lt hb⟩⟩, ⟨h.ge, h.lt⟩, fun b hb => hb.2⟩⟩
set_option maxRecDepth 100000 in
set_option maxHeartbeats 4000000 in
theorem clone_p (h : PageAt w F p S) (hS : S.Ok) : Calls Try.prog 15 #[.pointer (some ⟨p, 0, none⟩)] w (NewPg S w) := by
  obtain ⟨A, n, c, rows, H⟩ := h.op
  obtain rfl := H.n
  have p0 := H.c0
  have p1 := H.c1
  have pl := H.plt
  have hm := hS.r2
  have e1 : rows.length = S.rows.length := H.len.symm
  have hrow := Lib.hid (fun i (hi : i < S.rows.length) => Lns.at H.l H.val hi)
  have h0 := Lib.hid (fun i (hi : i < S.rows.length) => hS.small _ (List.getElem_mem hi))
  clear h H hS e1
  go_enter Try.func15, Try.ntmps15
  go_wp2
  have hQ : QT 100 w (w.alloc (.cells #[.slice none 0 0, .int .i64 S.cols] 100)) w.heap.size ⟨S.rows.take 0, S.cols⟩ none 0 0 [] := ⟨(Below.refl _ _).alloc (Nat.le_refl _) _, Nat.le_refl _, heap_alloc_new _ _, Lns.nil _, rfl, fun b hb => (by rcases hb with h | ⟨r, h, _⟩ <;> cases h), by decide⟩
  generalize w.alloc (.cells #[.slice none 0 0, .int .i64 S.cols] 100) = W0 at hQ ⊢
  obtain ⟨H, hH⟩ : ∃ H, H = w.heap.size := ⟨_, rfl⟩
  rw [← hH] at hQ ⊢
  clear hH
  replace hQ := Lib.hid hQ
  go_loopw [17] (fun iv wr => ∃ (j : Nat) (A' : Option Addr) (n' c' : Nat) (rows' : List RowM), j ≤ S.rows.length ∧ iv = .int .i64 j ∧ Hid (QT 100 w wr H ⟨S.rows.take j, S.cols⟩ A' n' c' rows')) (fun iv _ => S.rows.length - (intOf iv).toNat)
  case atStart => exact ⟨0, none, 0, 0, [], by omega, rfl, hQ⟩
  case round =>
    obtain ⟨j, A', n', c', rows', hj, rfl, hQ⟩ := hrel
    by_cases hlt : j < S.rows.length
    · obtain ⟨L, g, k, xs, z, rfl, e1, e2, hc1, hc2, e4, e5, e3⟩ := hrow.out j hlt
      have d0 := hQ.out.old e3 e4
      have d1 := hQ.out.old e3 e5
      have hLr : L < wr.heap.size := Nat.lt_of_lt_of_le e3 hQ.out.keep.size
      have hHl := hQ.out.lt
      have q0 := hQ.out.c0
      have qf := hQ.out.fz 0
      have X := Lib.hid (e2.rd.below (hQ.out.keep))
      have hl0 := h0.out j hlt
      rw [e1] at hl0
      have CP := Lib.hid (fun w' (h : Rd encC 3 w' (some ⟨g, 0, none⟩) xs) => copy_l (some ⟨g, 0, none⟩) k z xs w' h (fun e => by cases e) (by have := hl0.2; simp only at this; omega) (by have := hl0.2; simp only at this; simp [maxLen]; omega))
      have hpos := Lib.hid hl0.1
      have hrl := Lib.hid (show rows'.length ≤ 1000 by have := congrArg List.length hQ.out.val; simp at this; omega)
      have hnx := Lib.hid (show S.rows.take j ++ [(xs, z)] = S.rows.take (j + 1) by rw [List.take_add_one, List.getElem?_eq_getElem hlt, e1]; rfl)
      have ne1 : ¬ H = wr.heap.size := by omega
      have ne2 : ¬ wr.heap.size = H := by omega
      have hob := Lib.hid (show (Value.slice A' n' c').ownBlock ≠ some wr.heap.size from fun e => absurd (hQ.out.l.lt (.inl e)) (Nat.lt_irrefl _))
      clear e1 e2 hl0 p0 p1 pl
      go_upto_region 5 with fail
      (refine wp_region_F (S := (fun w' => w'.cell? ⟨H, 0, none⟩ = some (.slice A' n' c') ∧ w'.cell? ⟨wr.heap.size, 0, none⟩ = some (.slice (some ⟨g, 0, none⟩) xs.length k) ∧ w'.cell? ⟨wr.heap.size, 1, none⟩ = some (.int .i64 z))) 11 [false, false, false, false, false, false, false, false, false, false, false, false] rfl rfl (by kernel_rfl) ?_ (fun hHeld => ?_); (focus ((try dsimp only); (refine ⟨?_, ?_, ?_⟩ <;> simp [go_sem, q0, hHl, ne1, ne2]); done)))
      ((refine AtF.take (oi := ?_) (v := ?_) 0 ?_ ?_ ?_ ?_ (Or.inl ⟨?_, ?_⟩) (by assumption) ?_; rotate_left 2; rfl; kernel_rfl; kernel_rfl; exact (fun _ _ _ h => h); rfl; (focus (intro w hSw; (try dsimp only at hSw); go_simp; (try with_reducible rfl); done)); (try simp only [Act.put, List.setIfInBounds_toArray, List.set_cons_zero, List.set_cons_succ])); (refine AtF.take (oi := ?_) (v := ?_) 1 ?_ ?_ ?_ ?_ (Or.inl ⟨?_, ?_⟩) (by assumption) ?_; rotate_left 2; rfl; kernel_rfl; kernel_rfl; exact (fun _ _ _ h => h); rfl; (focus (intro w hSw; (try dsimp only at hSw); go_simp; (try with_reducible rfl); done)); (try simp only [Act.put, List.setIfInBounds_toArray, List.set_cons_zero, List.set_cons_succ])); (refine AtF.take (oi := ?_) (v := ?_) 2 ?_ ?_ ?_ ?_ (Or.inl ⟨?_, ?_⟩) (by assumption) ?_; rotate_left 2; rfl; kernel_rfl; kernel_rfl; exact (fun _ _ _ h => h); rfl; (focus (intro w hSw; (try dsimp only at hSw); go_simp; (try with_reducible rfl); done)); (try simp only [Act.put, List.setIfInBounds_toArray, List.set_cons_zero, List.set_cons_succ])); (refine AtF.take (oi := ?_) (v := ?_) 3 ?_ ?_ ?_ ?_ (Or.inl ⟨?_, ?_⟩) (by assumption) ?_; rotate_left 2; rfl; kernel_rfl; kernel_rfl; exact (fun _ _ _ h => h); rfl; (focus (intro w hSw; (try dsimp only at hSw); go_simp; (try with_reducible rfl); done)); (try simp only [Act.put, List.setIfInBounds_toArray, List.set_cons_zero, List.set_cons_succ])); (refine AtF.take (oi := ?_) (v := ?_) 4 ?_ ?_ ?_ ?_ (Or.inl ⟨?_, ?_⟩) (by assumption) ?_; rotate_left 2; rfl; kernel_rfl; kernel_rfl; exact (fun _ _ _ h => h); rfl; (focus (intro w hSw; (try dsimp only at hSw); go_simp; (try with_reducible rfl); done)); (try simp only [Act.put, List.setIfInBounds_toArray, List.set_cons_zero, List.set_cons_succ])); (refine AtF.take (oi := ?_) (v := ?_) 5 ?_ ?_ ?_ ?_ (Or.inl ⟨?_, ?_⟩) (by assumption) ?_; rotate_left 2; rfl; kernel_rfl; kernel_rfl; exact (fun _ _ _ h => h); rfl; (focus (intro w hSw; (try dsimp only at hSw); go_simp; (try with_reducible rfl); done)); (try simp only [Act.put, List.setIfInBounds_toArray, List.set_cons_zero, List.set_cons_succ])))
      (refine AtF.only (oi := ?_) 6 ?_ ?_ (fun K hK => ?_); rotate_left 1; rfl; kernel_rfl; (try go_simp); (go_at_call 44); (with_reducible refine (CP.out _ (by repeat (first | exact X.out | exact X | refine Rd.ext ?_ _ | refine Rd.alloc ?_ _ | refine Rd.drew ?_))).mono ?_); intro _ _ hp; obtain ⟨g', k', x1, rfl, rfl, hR, hg⟩ := newL_row hp hpos.out; (try simp only [ext_drew] at hR); replace hR := Lib.hid hR; replace hg := Lib.hid hg; clear hp; (refine hK.out _ _ ?_ (fun hHeld => ?_)); (focus ((try dsimp only); (refine ⟨?_, ?_, ?_⟩ <;> simp [go_sem, q0, hHl, ne1, ne2]); done)); clear hK K; (try simp only [Act.put, List.setIfInBounds_toArray, List.set_cons_zero, List.set_cons_succ]))
      (refine AtF.only (oi := ?_) 7 ?_ ?_ (fun K hK => ?_); rotate_left 1; rfl; kernel_rfl; (try go_simp); skip; (refine hK.out _ _ ?_ (fun hHeld => ?_)); (focus ((try dsimp only); (refine ⟨?_, ?_, ?_⟩ <;> simp [go_sem, q0, hHl, ne1, ne2]); done)); clear hK K; (try simp only [Act.put, List.setIfInBounds_toArray, List.set_cons_zero, List.set_cons_succ]))
      (refine AtF.only (oi := ?_) 8 ?_ ?_ (fun K hK => ?_); rotate_left 1; rfl; kernel_rfl; refine step_do rfl (q_append (.tmp 25) (.tmp 28) rfl g' k' xs z _ rfl rfl hQ.out (by (repeat' (first | (with_reducible exact Below.refl _ _) | (with_reducible refine Below.alloc ?_ ?_ _) | (with_reducible refine below_ext ?_ ?_ _) | (with_reducible refine Below.drew ?_) | (with_reducible refine below_drewN ?_ _) | (with_reducible refine Below.setCell ?_ ?_ _) | go_size | (simp only [go_sem]; omega) | (simp [go_sem]; done) | (simp [go_sem]; omega)))) (hR.out.grow (by (repeat' (first | (with_reducible exact Below.refl _ _) | (with_reducible refine Below.alloc ?_ ?_ _) | (with_reducible refine below_ext ?_ ?_ _) | (with_reducible refine Below.drew ?_) | (with_reducible refine below_drewN ?_ _) | (with_reducible refine Below.setCell ?_ ?_ _) | go_size | (simp only [go_sem]; omega) | (simp [go_sem]; done) | (simp [go_sem]; omega))))) (Nat.le_trans (by simp [go_sem]) hg.out) (by simp [go_sem]) (by simp [go_sem]) hrl.out ⟨S.rows.take (j + 1), S.cols⟩ hnx.out rfl ?_); intro A2 n2 c2 x2 rows2 hQ2 y0 y1 yf yl yg; have yb := yg wr.heap.size (by simp [go_sem]) hob.out; have yv0 : (ext w x2).cell? ⟨wr.heap.size, 0, none⟩ = some (.slice (some ⟨g, 0, none⟩) xs.length k) := (cell_of_heap yb).trans (by simp [go_sem]); have yv1 : (ext w x2).cell? ⟨wr.heap.size, 1, none⟩ = some (.int .i64 z) := (cell_of_heap yb).trans (by simp [go_sem]); clear yg yb; (refine hK.out _ _ ?_ (fun hHeld => ?_)); (focus ((try dsimp only); (refine ⟨?_, ?_, ?_⟩ <;> simp [go_sem, y0, yv0, yv1]); done)); clear hK K; (try simp only [Act.put, List.setIfInBounds_toArray, List.set_cons_zero, List.set_cons_succ]))
      ((refine AtF.take (oi := ?_) (v := ?_) 9 ?_ ?_ ?_ ?_ (Or.inl ⟨?_, ?_⟩) (by assumption) ?_; rotate_left 2; rfl; kernel_rfl; kernel_rfl; exact (fun _ _ _ h => h); rfl; (focus (intro w hSw; (try dsimp only at hSw); go_simp; (try with_reducible rfl); done)); (try simp only [Act.put, List.setIfInBounds_toArray, List.set_cons_zero, List.set_cons_succ])); (refine AtF.take (oi := ?_) (v := ?_) 10 ?_ ?_ ?_ ?_ (Or.inl ⟨?_, ?_⟩) (by assumption) ?_; rotate_left 2; rfl; kernel_rfl; kernel_rfl; exact (fun _ _ _ h => h); rfl; (focus (intro w hSw; (try dsimp only at hSw); go_simp; (try with_reducible rfl); done)); (try simp only [Act.put, List.setIfInBounds_toArray, List.set_cons_zero, List.set_cons_succ])))
      (refine AtF.last (oi := ?_) ?_ ?_ (fun K hK => ?_); rotate_left 1; rfl; kernel_rfl; go_simp; skip; refine hK.out _ _ ?_; clear hK K; (try simp only [Act.put, List.setIfInBounds_toArray, List.set_cons_zero, List.set_cons_succ]))
      go_wp2
      exact ⟨⟨j + 1, A2, n2, c2, rows2, by omega, by go_num, hQ2⟩, by simp [intOf]; omega⟩
    · obtain rfl : j = S.rows.length := by omega
      have hD := qt_page hQ.out
      rw [List.take_of_length_le (Nat.le_refl _)] at hD
      replace hD := Lib.hid hD
      go_wp2
      go_returns
      exact hD.out
end
end Go.Proofs.Ytdfiknemfpkdmaa
