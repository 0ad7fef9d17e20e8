/- Lines: the reference makes them longer and shorter. -/
import Derived.Test.YtdlngbmgcedbpaaLine25
namespace Go.Proofs.Ytdlngbmgcedbpaa
open Go.RowKit
set_option linter.unusedVariables false
set_option linter.unusedSimpArgs false

set_option maxRecDepth 100000 in
set_option maxHeartbeats 8000000 in
theorem resize_r (A : Option Addr) (C : Nat) (sz cols : Int) (xs : List Cl) (w : World) (rd : Rd encC 3 w A xs) (hm : xs.length ≤ 1000000) :
    Calls Try.prog 63 #[lineV A xs.length C sz, .int .i64 cols] w (NewL w (resR xs (newN cols)) sz) := by
  have NW := Lib.hid (fun w' => new_r cols w')
  have X := Lib.hid rd
  have hn : newN cols ≤ 500 := by unfold newN; omega
  generalize newN cols = n at NW hn ⊢
  clear rd
  go_enter Try.func63, Try.ntmps63
  go_upto_region 2 with (first
    | (go_at_call 62
       (with_reducible refine (NW.out _).mono ?_)
       rintro _ _ ⟨A1, c1, x1, rfl, rfl, hO1⟩
       have hO := Lib.hid hO1
       clear hO1))
  have hW2 : ∃ W2, W2 = (w.alloc (.cells #[.slice A xs.length C, .int .i64 sz] 70)).alloc (.cells #[.slice none 0 0, .int .i64 0] 70) := ⟨_, rfl⟩
  obtain ⟨W2, hW⟩ := hW2
  have hWz : W2.heap.size = w.heap.size + 1 + 1 := by rw [hW]; simp [go_sem]
  have hWb : Below w.heap.size w W2 := by rw [hW]; (repeat' (first | (with_reducible exact Below.refl _ _) | (with_reducible refine Below.alloc ?_ ?_ _) | (with_reducible refine below_ext ?_ ?_ _) | (with_reducible refine Below.drew ?_) | (with_reducible refine below_drewN ?_ _) | (with_reducible refine Below.setCell ?_ ?_ _) | go_size | (simp only [go_sem]; omega) | (simp [go_sem]; done) | (simp [go_sem]; omega)))
  have l0 : W2.cell? ⟨w.heap.size, 0, none⟩ = some (.slice A xs.length C) := by rw [hW]; simp [go_sem]
  have l1 : W2.cell? ⟨w.heap.size, 1, none⟩ = some (.int .i64 sz) := by rw [hW]; simp [go_sem]
  have r0 : W2.cell? ⟨w.heap.size + 1, 0, none⟩ = some (.slice none 0 0) := by rw [hW]; simp [go_sem]
  have r1 : W2.cell? ⟨w.heap.size + 1, 1, none⟩ = some (.int .i64 0) := by rw [hW]; simp [go_sem]
  have rz : ∀ i, W2.frozen? ⟨w.heap.size + 1, i, none⟩ = false := by intro i; rw [hW]; simp [go_sem]
  rw [← hW] at hO ⊢
  have hO3 := hO.out
  rw [List.length_replicate] at hO3
  have hR := Lib.hid (RowAt.mk' (n := n) (sz := 0) (by rw [List.length_replicate]) hO3 (Nat.le_refl _))
  clear hO3
  have hzi : ∀ i, ((ext W2 x1).alloc (.cells #[.slice A1 n c1, .int .i64 0] 70)).frozen? ⟨W2.heap.size + x1.sz, i, none⟩ = false := fun i => by simp [go_sem]
  have hrz : w.heap.size + 1 + 1 + x1.sz = W2.heap.size + x1.sz := by omega
  rw [hrz]
  have hWs : w.heap.size + 1 < W2.heap.size := by omega
  have F0 := Lib.hid (⟨l0, l1, r0, r1, rz⟩ : _ ∧ _ ∧ _ ∧ _ ∧ _)
  clear hW hO hrz l0 l1 r0 r1 rz hWz
  generalize W2.heap.size + x1.sz = H at hR hzi ⊢
  generalize (ext W2 x1).alloc (.cells #[.slice A1 n c1, .int .i64 0] 70) = wr at hR hzi ⊢
  go_wp2
  go_loopw [6] (fun iv wr => ∃ (j : Nat), j ≤ n ∧ j ≤ xs.length ∧ iv = .int .i64 j ∧ Hid (RowAt W2 wr H A1 c1 0 (updR (List.replicate n erC) (fun i => decide (i < xs.length)) (fun i _ => xs.getD i noC) j)) ∧ Hid (∀ i, wr.frozen? ⟨H, i, none⟩ = false)) (fun iv _ => n - (intOf iv).toNat)
  case atStart => exact ⟨0, by omega, by omega, rfl, by rw [updR_zero]; exact hR, Lib.hid hzi⟩
  case round =>
    obtain ⟨j, hj, hj2, rfl, hR, hz⟩ := hrel
    obtain ⟨l0, l1, r0, r1, rz⟩ := F0.out
    have hS := hR.out.below.size
    replace l0 := hR.out.old (by omega) l0
    replace l1 := hR.out.old (by omega) l1
    have hs0 : w.heap.size < wr.heap.size := by omega
    have q0 := hR.out.h0
    have hHs := hR.out.lt
    rw [updR_len, List.length_replicate] at q0
    by_cases h1 : j < n
    · by_cases h2 : j < xs.length
      · clear r0 r1 rz
        obtain ⟨g, rfl, hg1, hg2, hgH, hc1, hc2, d0, d1, d2, z0, z1, z2⟩ := hR.out.at (j := j) (by rw [updR_len, List.length_replicate]; exact h1)
        rw [updR_len, List.length_replicate] at hc1
        obtain ⟨b1, o1, rfl, hb1, e0, e1, e2⟩ := (X.out.below (hWb.trans (hR.out.below.mono hWb.size))).cell3 h2
        have hFj := Lib.hid (updR_yes (List.replicate n erC) (fun i => decide (i < xs.length)) (fun i _ => xs.getD i noC) j (by simpa using h2) (by rw [List.length_replicate]; exact h1))
        rw [show xs.getD j noC = xs[j] by rw [List.getD_eq_getElem?_getD, List.getElem?_eq_getElem h2]; rfl] at hFj
        generalize xs[j] = y at e0 e1 e2 hFj
        obtain ⟨yg, yr, yk⟩ := y
        simp only at e0 e1 e2
        have i3 : (0 : Int) ≤ (j : Int) := by omega
        have i4 : (j : Int) < (xs.length : Int) := by omega
        have i5 : (j : Int) < (n : Int) := by omega
        go_wp2
        (refine wp_region_tail 9 (by kernel_rfl) (by kernel_rfl) ?_; simp only [List.take_succ_cons, List.take_zero, List.drop_succ_cons, List.drop_zero])
        repeat (go_big_quiet_step (fail))
        refine wpQuiet_nil ?_; rintro _ ⟨x3, rfl⟩
        go_wp2
        have hR2 := hR.out.set (j := j) (by rw [updR_len, List.length_replicate]; exact h1) ⟨yg, yr, yk⟩
        rw [← hFj.out] at hR2
        refine ⟨⟨j + 1, by omega, by omega, by go_num, Lib.hid ?_, Lib.hid ?_⟩, by simp [intOf]; omega⟩
        · exact hR2.more x3
        · intro i
          have h5 := hz.out i
          simp [go_sem, h5, hHs]
      · have hX : updR (List.replicate n erC) (fun i => decide (i < xs.length)) (fun i _ => xs.getD i noC) j = resR xs n := res_upd xs n j (.inr ⟨by omega, by omega⟩)
        go_upto_region 6 with (fail)
        rw [hX] at hR
        have hR3 := Lib.hid (hR.out.sized sz)
        have k1 := hR.out.h1
        have kz := hz.out
        go_upto_region 7 with (fail)
        clear k1 kz l0 l1 q0 hHs hR
        generalize wr.setCell ⟨H, 1, none⟩ (.int .i64 sz) = wz at hR3 ⊢
        have q0 := hR3.out.h0
        have q1 := hR3.out.h1
        have hHs := hR3.out.lt
        have sz0 := fun i => (hR3.out.below.frozen (p := ⟨w.heap.size + 1, i, none⟩) hWs).trans (rz i)
        obtain ⟨W3, e3, t0, t1, t4⟩ := hR3.out.fin hWb (by omega) hWs r0 r1
        have s0 := hR3.out.old (by omega) r0
        have s1 := hR3.out.old (by omega) r1
        clear rz r0 r1
        rw [resR_len] at q0 e3 t0 t4
        go_wp2
        simp [bodyPost, go_sem, t0, t1]
        exact ⟨_, by simp [results, Try.f63, go_sem, t0, t1] <;> rfl, t4⟩
    · have hX : updR (List.replicate n erC) (fun i => decide (i < xs.length)) (fun i _ => xs.getD i noC) j = resR xs n := res_upd xs n j (.inl (by omega))
      go_upto_region 6 with (fail)
      rw [hX] at hR
      have hR3 := Lib.hid (hR.out.sized sz)
      have k1 := hR.out.h1
      have kz := hz.out
      go_upto_region 7 with (fail)
      clear k1 kz l0 l1 q0 hHs hR
      generalize wr.setCell ⟨H, 1, none⟩ (.int .i64 sz) = wz at hR3 ⊢
      have q0 := hR3.out.h0
      have q1 := hR3.out.h1
      have hHs := hR3.out.lt
      have sz0 := fun i => (hR3.out.below.frozen (p := ⟨w.heap.size + 1, i, none⟩) hWs).trans (rz i)
      obtain ⟨W3, e3, t0, t1, t4⟩ := hR3.out.fin hWb (by omega) hWs r0 r1
      have s0 := hR3.out.old (by omega) r0
      have s1 := hR3.out.old (by omega) r1
      clear rz r0 r1
      rw [resR_len] at q0 e3 t0 t4
      go_wp2
      simp [bodyPost, go_sem, t0, t1]
      exact ⟨_, by simp [results, Try.f63, go_sem, t0, t1] <;> rfl, t4⟩
end Go.Proofs.Ytdlngbmgcedbpaa
