/- An accumulator takes a byte. -/
import Derived.Test.YtjnjoclpimcblaaDoorAcc
namespace Go.Proofs.YtjnjoclpimcblaaDoor
open Go.RowKit
set_option linter.unusedVariables false
set_option linter.unusedSimpArgs false

section
variable {w : World} {F : Nat → Prop} {b : Nat} {a : AccS}
set_option maxRecDepth 100000 in
set_option maxHeartbeats 4000000 in
theorem byte_c (h : AccAt w F b a) (ha : a.Ok) (c : UInt8) :
    Calls Tryd.prog 12 #[.pointer (some ⟨b, 0, none⟩), .int .u8 c.toNat] w fun e w' => e = .returned (.bool (okB c)) ∧ AccDid w F b (if okB c = true then a.byte c else a) w' := by
  obtain ⟨sl, h1, h2, h3⟩ := h.ex
  obtain ⟨A, cp, rfl, hc1, hc2⟩ := h2.form
  have k0 : w.cell? ⟨b, 0, none⟩ = some (.slice A a.done.length cp) := by rw [cell_in h1]; rfl
  have k1 : w.cell? ⟨b, 1, none⟩ = some (.int .i64 a.now) := by rw [cell_in h1]; rfl
  have k2 : w.cell? ⟨b, 2, none⟩ = some (.bool a.begun) := by rw [cell_in h1]; rfl
  have z : ∀ i, w.frozen? ⟨b, i, none⟩ = false := fun i => frozen_in h1
  have hbs := heap_in h1
  have hl := ha.len
  have hlo := ha.lo
  have hhi := ha.hi
  by_cases e1 : c = 59
  · subst e1
    by_cases e2 : a.done.length < 30
    · have e : a.byte 59 = ⟨a.done ++ [a.now], 0, true⟩ := by simp [AccS.byte, e2]
      simp only [show okB 59 = true by decide, if_true, e]
      clear e
      have HH := Lib.hid h
      have H1 := Lib.hid h1
      have H2 := Lib.hid h2
      have H3 := Lib.hid h3
      clear h h1 h2 h3
      go_enter Tryd.func12, Tryd.ntmps12
      go_wp2
      (refine wp_region_F (S := (fun w' => w'.cell? ⟨b, 0, none⟩ = some (.slice A a.done.length cp) ∧ w'.cell? ⟨b, 1, none⟩ = some (.int .i64 a.now))) 13 [false, false, false, false, false, false, false, false, false, false, false, false, false, false] rfl rfl (by kernel_rfl) ?_ (fun hHeld => ?_); (focus ((try dsimp only); (simp [go_sem, k0, k1]); done)))
      ((refine AtF.take (oi := ?_) (v := ?_) 0 ?_ ?_ ?_ ?_ (Or.inl ⟨?_, ?_⟩) (by assumption) ?_; rotate_left 2; rfl; kernel_rfl; kernel_rfl; exact (fun _ _ _ h => h); rfl; (focus (intro w hSw; (try dsimp only at hSw); go_simp; (try with_reducible rfl); done)); (try simp only [Act.put, List.setIfInBounds_toArray, List.set_cons_zero, List.set_cons_succ])); (refine AtF.take (oi := ?_) (v := ?_) 1 ?_ ?_ ?_ ?_ (Or.inl ⟨?_, ?_⟩) (by assumption) ?_; rotate_left 2; rfl; kernel_rfl; kernel_rfl; exact (fun _ _ _ h => h); rfl; (focus (intro w hSw; (try dsimp only at hSw); go_simp; (try with_reducible rfl); done)); (try simp only [Act.put, List.setIfInBounds_toArray, List.set_cons_zero, List.set_cons_succ])); (refine AtF.take (oi := ?_) (v := ?_) 2 ?_ ?_ ?_ ?_ (Or.inl ⟨?_, ?_⟩) (by assumption) ?_; rotate_left 2; rfl; kernel_rfl; kernel_rfl; exact (fun _ _ _ h => h); rfl; (focus (intro w hSw; (try dsimp only at hSw); go_simp; (try with_reducible rfl); done)); (try simp only [Act.put, List.setIfInBounds_toArray, List.set_cons_zero, List.set_cons_succ])); (refine AtF.take (oi := ?_) (v := ?_) 3 ?_ ?_ ?_ ?_ (Or.inl ⟨?_, ?_⟩) (by assumption) ?_; rotate_left 2; rfl; kernel_rfl; kernel_rfl; exact (fun _ _ _ h => h); rfl; (focus (intro w hSw; (try dsimp only at hSw); go_simp; (try with_reducible rfl); done)); (try simp only [Act.put, List.setIfInBounds_toArray, List.set_cons_zero, List.set_cons_succ])); (refine AtF.take (oi := ?_) (v := ?_) 4 ?_ ?_ ?_ ?_ (Or.inl ⟨?_, ?_⟩) (by assumption) ?_; rotate_left 2; rfl; kernel_rfl; kernel_rfl; exact (fun _ _ _ h => h); rfl; (focus (intro w hSw; (try dsimp only at hSw); go_simp; (try with_reducible rfl); done)); (try simp only [Act.put, List.setIfInBounds_toArray, List.set_cons_zero, List.set_cons_succ])); (refine AtF.take (oi := ?_) (v := ?_) 5 ?_ ?_ ?_ ?_ (Or.inl ⟨?_, ?_⟩) (by assumption) ?_; rotate_left 2; rfl; kernel_rfl; kernel_rfl; exact (fun _ _ _ h => h); rfl; (focus (intro w hSw; (try dsimp only at hSw); go_simp; (try with_reducible rfl); done)); (try simp only [Act.put, List.setIfInBounds_toArray, List.set_cons_zero, List.set_cons_succ])); (refine AtF.take (oi := ?_) (v := ?_) 6 ?_ ?_ ?_ ?_ (Or.inl ⟨?_, ?_⟩) (by assumption) ?_; rotate_left 2; rfl; kernel_rfl; kernel_rfl; exact (fun _ _ _ h => h); rfl; (focus (intro w hSw; (try dsimp only at hSw); go_simp; (try with_reducible rfl); done)); (try simp only [Act.put, List.setIfInBounds_toArray, List.set_cons_zero, List.set_cons_succ])); (refine AtF.take (oi := ?_) (v := ?_) 7 ?_ ?_ ?_ ?_ (Or.inl ⟨?_, ?_⟩) (by assumption) ?_; rotate_left 2; rfl; kernel_rfl; kernel_rfl; exact (fun _ _ _ h => h); rfl; (focus (intro w hSw; (try dsimp only at hSw); go_simp; (try with_reducible rfl); done)); (try simp only [Act.put, List.setIfInBounds_toArray, List.set_cons_zero, List.set_cons_succ])); (refine AtF.take (oi := ?_) (v := ?_) 8 ?_ ?_ ?_ ?_ (Or.inl ⟨?_, ?_⟩) (by assumption) ?_; rotate_left 2; rfl; kernel_rfl; kernel_rfl; exact (fun _ _ _ h => h); rfl; (focus (intro w hSw; (try dsimp only at hSw); go_simp; (try with_reducible rfl); done)); (try simp only [Act.put, List.setIfInBounds_toArray, List.set_cons_zero, List.set_cons_succ])))
      (refine AtF.only (oi := ?_) 9 ?_ ?_ (fun K hK => ?_); rotate_left 1; rfl; kernel_rfl; (try go_simp); skip; (refine hK.out _ _ ?_ (fun hHeld => ?_)); (focus ((try dsimp only); (simp [go_sem, k0, k1, hbs]); done)); clear hK K; (try simp only [Act.put, List.setIfInBounds_toArray, List.set_cons_zero, List.set_cons_succ]))
      (refine AtF.only (oi := ?_) 10 ?_ ?_ (fun K hK => ?_); rotate_left 1; rfl; kernel_rfl; refine step_append_keep (.tmp 18) (.tmp 23) 29 3 _ 8 rfl rfl Tryd.underlying29 int_info rfl (by omega) (encI_len _) (encI_one _) a.done [a.now] _ _ 1 rfl rfl (H2.out.below (by (repeat' (first | (with_reducible exact Below.refl _ _) | (with_reducible refine Below.alloc ?_ ?_ _) | (with_reducible refine below_ext ?_ ?_ _) | (with_reducible refine Below.drew ?_) | (with_reducible refine below_drewN ?_ _) | (with_reducible refine Below.setCell ?_ ?_ _) | go_size | (simp only [go_sem]; omega) | (simp [go_sem]; done) | (simp [go_sem]; omega))))) (int_newA _ a.now (by simp [go_sem])) (by simp [maxLen]; omega) (by simp; omega) ?_; intro A' c' w2 zs hz hO hK hF; have hb2 := (hK.block b (by simp [go_sem]; omega) (own_not_acc H1.out H2.out)).trans (((Below.refl w.heap.size w).drew.alloc (Nat.le_refl _) _).block b hbs |>.trans H1.out); have y0 : w2.cell? ⟨b, 0, none⟩ = some (.slice A a.done.length cp) := (by rw [cell_in hb2]; rfl); have y1 : w2.cell? ⟨b, 1, none⟩ = some (.int .i64 a.now) := (by rw [cell_in hb2]; rfl); have y2 : w2.cell? ⟨b, 2, none⟩ = some (.bool a.begun) := (by rw [cell_in hb2]; rfl); have yz : ∀ i, w2.frozen? ⟨b, i, none⟩ = false := (fun i => frozen_in hb2); have HD := Lib.hid (fun n' bg' => acc_pushed HH.out H1.out H2.out H3.out ((Below.refl w.heap.size w).drew.alloc (Nat.le_refl _) _) hK hO hF n' bg'); have HZ := Lib.hid hz; clear hz hO hK hF hb2; (refine hK.out _ _ ?_ (fun hHeld => ?_)); (focus ((try dsimp only); (simp [go_sem, y0, y1]); done)); clear hK K; (try simp only [Act.put, List.setIfInBounds_toArray, List.set_cons_zero, List.set_cons_succ]))
      (refine AtF.only (oi := ?_) 11 ?_ ?_ (fun K hK => ?_); rotate_left 1; rfl; kernel_rfl; (try go_simp); skip; (refine hK.out _ _ ?_ (fun hHeld => ?_)); (focus ((try dsimp only); (simp [go_sem, y0, y1]); done)); clear hK K; (try simp only [Act.put, List.setIfInBounds_toArray, List.set_cons_zero, List.set_cons_succ]))
      (refine AtF.only (oi := ?_) 12 ?_ ?_ (fun K hK => ?_); rotate_left 1; rfl; kernel_rfl; (try go_simp); skip; (refine hK.out _ _ ?_ (fun hHeld => ?_)); (focus ((try dsimp only); (simp [go_sem, y0, y1]); done)); clear hK K; (try simp only [Act.put, List.setIfInBounds_toArray, List.set_cons_zero, List.set_cons_succ]))
      (refine AtF.last (oi := ?_) ?_ ?_ (fun K hK => ?_); rotate_left 1; rfl; kernel_rfl; go_simp; skip; refine hK.out _ _ ?_; clear hK K; (try simp only [Act.put, List.setIfInBounds_toArray, List.set_cons_zero, List.set_cons_succ]))
      go_wp2
      go_returns
      refine ⟨rfl, ?_⟩
      have := HD.out 0 true
      rw [HZ.out] at this ⊢
      exact this
    · have e : a.byte 59 = ⟨a.done, 0, true⟩ := by simp [AccS.byte, e2]
      simp only [show okB 59 = true by decide, if_true, e]
      clear e
      have HH := Lib.hid h
      have H1 := Lib.hid h1
      have H2 := Lib.hid h2
      have H3 := Lib.hid h3
      clear h h1 h2 h3
      go_enter Tryd.func12, Tryd.ntmps12
      go_wp2
      go_returns
      exact ⟨rfl, acc_stored HH.out H1.out H2.out H3.out 0 true⟩
  · have hn : (((c.toNat : Nat) : Int) == 59) = false := by
      simp only [beq_eq_false_iff_ne, ne_eq]
      intro e
      exact e1 (UInt8.toNat_inj.1 (by simpa using Int.ofNat_inj.1 e))
    by_cases e2 : okB c = true
    · have e : a.byte c = ⟨a.done, digI a.now c, true⟩ := by simp [AccS.byte, e1]
      simp only [e2, if_true, e]
      clear e
      obtain ⟨hd0, hd1⟩ := okB_digit e2 e1
      have HE : digI a.now c = min (a.now * 10 + ((c.toNat : Int) - 48)) 65535 := rfl
      generalize digI a.now c = D at HE ⊢
      generalize c.toNat = q at hn hd0 hd1 HE ⊢
      have HH := Lib.hid h
      have H1 := Lib.hid h1
      have H2 := Lib.hid h2
      have H3 := Lib.hid h3
      clear h h1 h2 h3 e1 e2
      go_enter Tryd.func12, Tryd.ntmps12
      go_wp2
      go_returns
      refine ⟨rfl, ?_⟩
      rw [HE]
      exact acc_stored HH.out H1.out H2.out H3.out _ true
    · have hn2 : ¬ (48 ≤ c.toNat ∧ c.toNat ≤ 57) := fun hh => e2 (ok_digit hh)
      simp only [Bool.not_eq_true] at e2
      simp only [e2, Bool.false_eq_true, if_false]
      have HD := Lib.hid (AccDid.refl h)
      clear h h1 h2 h3 e1 e2
      generalize c.toNat = q at hn hn2 ⊢
      go_enter Tryd.func12, Tryd.ntmps12
      go_wp2
      all_goals first | (exfalso; omega) | skip
      all_goals go_returns
      all_goals exact ⟨rfl, HD.out⟩
end
end Go.Proofs.YtjnjoclpimcblaaDoor
