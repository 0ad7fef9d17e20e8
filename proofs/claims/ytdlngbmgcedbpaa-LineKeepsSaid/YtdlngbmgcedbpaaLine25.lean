/- Lines: made longer and shorter; their columns. -/
import Derived.Test.YtdlngbmgcedbpaaLine24
namespace Go.Proofs.Ytdlngbmgcedbpaa
open Go.RowKit
set_option linter.unusedVariables false
set_option linter.unusedSimpArgs false

/-- the first n cells, and new ones behind them -/
def resR (xs : List Cl) (n : Nat) : List Cl := layOn (List.replicate n erC) 0 (xs.take n)
theorem resR_len (xs : List Cl) (n : Nat) : (resR xs n).length = n := by
  unfold resR
  rw [layOn_len _ _ _ (by simp; omega), List.length_replicate]
theorem res_upd (xs : List Cl) (n j : Nat) (hj : j = n ∨ (xs.length ≤ j ∧ j ≤ n)) : updR (List.replicate n erC) (fun i => decide (i < xs.length)) (fun i _ => xs.getD i noC) j = resR xs n := by
  apply List.ext_getElem?
  intro i
  unfold resR
  rw [updR_opt, layOn_get _ _ _ _ (by simp; omega), List.length_take, List.getElem?_replicate]
  by_cases hi : i < n
  · rw [if_pos hi]
    simp only [Option.map_some, decide_eq_true_eq]
    by_cases h2 : i < xs.length
    · rw [if_pos (by omega), if_pos (by omega), List.getElem?_take, if_pos (by omega), List.getD_eq_getElem?_getD, Nat.sub_zero, List.getElem?_eq_getElem h2]
      rfl
    · rw [if_neg (by omega), if_neg (by omega)]
  · rw [if_neg hi, if_neg (by omega)]
    rfl
theorem RowAt.sized {W2 wr : World} {H c : Nat} {A : Option Addr} {sz : Int} {ys : List Cl} (h : RowAt W2 wr H A c sz ys) (s : Int) : RowAt W2 (wr.setCell ⟨H, 1, none⟩ (.int .i64 s)) H A c s ys := by
  refine ⟨h.below.setCell (by simpa using h.ge) _, h.ge, by simpa using h.lt, (World.cell?_setCell_other _ _ _ _ (by simp)).trans h.h0, World.cell?_setCell_same _ _ _ h.h1, h.ne, ?_⟩
  refine ⟨h.own.1, ?_⟩
  rcases h.own.2 with hn | ⟨g, cap, cur, hv, hBg, hg, rest⟩
  · exact .inl hn
  · refine .inr ⟨g, cap, cur, hv, hBg, ?_, rest⟩
    injection hv with e1 _ _
    have hne := h.ne g e1
    rw [Below.heap_setCell _ _ _ _ (fun e => hne (by simpa using e))]
    exact hg
set_option maxRecDepth 100000 in
theorem width_r (A : Option Addr) (n C : Nat) (sz : Int) (w : World) (hn : n ≤ 9223372036854775807) : Calls Try.prog 65 #[lineV A n C sz] w (Gives w (.int .i64 (widthI n sz))) := by
  unfold widthI
  by_cases h1 : sz = 0
  · rw [if_pos (.inl h1)]
    subst h1
    go_enter Try.func65, Try.ntmps65
    go_wp2
    go_returns
    exact ⟨rfl, by (repeat' (first | (with_reducible exact Below.refl _ _) | (with_reducible refine Below.alloc ?_ ?_ _) | (with_reducible refine below_ext ?_ ?_ _) | (with_reducible refine Below.drew ?_) | (with_reducible refine below_drewN ?_ _) | (with_reducible refine Below.setCell ?_ ?_ _) | go_size | (simp only [go_sem]; omega) | (simp [go_sem]; done) | (simp [go_sem]; omega)))⟩
  · have q1 : (sz == 0) = false := by simpa using h1
    by_cases h2 : n < 2
    · rw [show (if sz = 0 ∨ n = 0 then (n : Int) else max 1 ((n : Int) / 2)) = n by split <;> omega]
      have q2 : decide ((n : Int) < 2) = true := by simp; omega
      clear h1 h2
      go_enter Try.func65, Try.ntmps65
      go_wp2
      go_returns
      exact ⟨rfl, by (repeat' (first | (with_reducible exact Below.refl _ _) | (with_reducible refine Below.alloc ?_ ?_ _) | (with_reducible refine below_ext ?_ ?_ _) | (with_reducible refine Below.drew ?_) | (with_reducible refine below_drewN ?_ _) | (with_reducible refine Below.setCell ?_ ?_ _) | go_size | (simp only [go_sem]; omega) | (simp [go_sem]; done) | (simp [go_sem]; omega)))⟩
    · rw [if_neg (by omega), show max 1 ((n : Int) / 2) = (n : Int) / 2 by omega]
      have q2 : decide ((n : Int) < 2) = false := by simp; omega
      clear h1 h2
      go_enter Try.func65, Try.ntmps65
      go_wp2
      go_returns
      exact ⟨rfl, by (repeat' (first | (with_reducible exact Below.refl _ _) | (with_reducible refine Below.alloc ?_ ?_ _) | (with_reducible refine below_ext ?_ ?_ _) | (with_reducible refine Below.drew ?_) | (with_reducible refine below_drewN ?_ _) | (with_reducible refine Below.setCell ?_ ?_ _) | go_size | (simp only [go_sem]; omega) | (simp [go_sem]; done) | (simp [go_sem]; omega)))⟩
set_option maxRecDepth 100000 in
set_option maxHeartbeats 8000000 in
theorem resize_l (A : Option Addr) (C : Nat) (sz cols : Int) (xs : List Cl) (w : World) (rd : Rd encC 3 w A xs) :
    Calls Try.prog 60 #[lineV A xs.length C sz, .int .i64 cols] w (NewL w (resR xs (newN cols)) sz) := by
  have NW := Lib.hid (fun w' => new_l cols w')
  have X := Lib.hid rd
  have hn : newN cols ≤ 500 := by unfold newN; omega
  generalize newN cols = n at NW hn ⊢
  clear rd
  go_enter Try.func60, Try.ntmps60
  go_upto_region 2 with (first
    | (go_at_call 59
       (with_reducible refine (NW.out _).mono ?_)
       rintro _ _ ⟨A1, c1, x1, rfl, rfl, hO1⟩
       have hO := Lib.hid hO1
       clear hO1))
  have hW2 : ∃ W2, W2 = (w.alloc (.cells #[.slice A xs.length C, .int .i64 sz] 70)).alloc (.cells #[.slice none 0 0, .int .i64 0] 70) := ⟨_, rfl⟩
  obtain ⟨W2, hW⟩ := hW2
  have hWz : W2.heap.size = w.heap.size + 1 + 1 := by rw [hW]; simp [go_sem]
  have hWb : Below w.heap.size w W2 := by rw [hW]; (repeat' (first | (with_reducible exact Below.refl _ _) | (with_reducible refine Below.alloc ?_ ?_ _) | (with_reducible refine below_ext ?_ ?_ _) | (with_reducible refine Below.drew ?_) | (with_reducible refine below_drewN ?_ _) | (with_reducible refine Below.setCell ?_ ?_ _) | go_size | (simp only [go_sem]; omega) | (simp [go_sem]; done) | (simp [go_sem]; omega)))
  have l0 : W2.cell? ⟨w.heap.size, 0, none⟩ = some (.slice A xs.length C) := by rw [hW]; simp [go_sem]
  have l1 : W2.cell? ⟨w.heap.size, 1, none⟩ = some (.int .i64 sz) := by rw [hW]; simp [go_sem]
  have r0 : W2.cell? ⟨w.heap.size + 1, 0, none⟩ = some (.slice none 0 0) := by rw [hW]; simp [go_sem]
  have r1 : W2.cell? ⟨w.heap.size + 1, 1, none⟩ = some (.int .i64 0) := by rw [hW]; simp [go_sem]
  have rz : ∀ i, W2.frozen? ⟨w.heap.size + 1, i, none⟩ = false := by intro i; rw [hW]; simp [go_sem]
  rw [← hW] at hO ⊢
  have hO3 := hO.out
  rw [List.length_replicate] at hO3
  have hR := Lib.hid (RowAt.mk' (n := n) (sz := 0) (by rw [List.length_replicate]) hO3 (Nat.le_refl _))
  clear hO3
  have hzi : ∀ i, ((ext W2 x1).alloc (.cells #[.slice A1 n c1, .int .i64 0] 70)).frozen? ⟨W2.heap.size + x1.sz, i, none⟩ = false := fun i => by simp [go_sem]
  have hat := Lib.hid (fun (h0 : 0 < n) => hO.out.at0 (by rw [List.length_replicate]; exact h0))
  have hrz : w.heap.size + 1 + 1 + x1.sz = W2.heap.size + x1.sz := by omega
  rw [hrz]
  have hWs : w.heap.size + 1 < W2.heap.size := by omega
  have F0 := Lib.hid (⟨r0, r1, rz⟩ : _ ∧ _ ∧ _)
  clear hW hO hrz r0 r1 rz hWz
  generalize W2.heap.size + x1.sz = H at hR hzi ⊢
  generalize (ext W2 x1).alloc (.cells #[.slice A1 n c1, .int .i64 0] 70) = wr at hR hzi ⊢
  have XR := Lib.hid (X.out.below (hWb.trans (hR.out.below.mono hWb.size)))
  have hS := hR.out.below.size
  replace l0 := hR.out.old (by omega) l0
  replace l1 := hR.out.old (by omega) l1
  have q0 := hR.out.h0
  have hHs := hR.out.lt
  have hH0 : w.heap.size ≠ H := by have := hR.out.ge; omega
  obtain ⟨w2, hrun, hO2, hB2, hs2, hf2⟩ := run_copy_lay (P := Try.prog) (size := 3) (enc := encC) (w := wr) 68 68 3 87 Try.underlying68 (by kernel_rfl) encC_len encC_one A1 A n c1 C xs 87 W2.heap.size A1 (List.replicate n erC).length c1 _ hR.out.own 0 (fun h0 => by obtain ⟨g, e, _⟩ := hat.out h0; exact ⟨g, e, by rw [e, Nat.zero_mul]⟩) (by rw [List.length_take, List.length_replicate]; omega) XR.out
  have hR2 := hR.out.copied (layOn_len _ _ _ (by rw [List.length_take, List.length_replicate]; omega)) hO2 hB2 hs2 hf2
  have hH1 := hf2 H (fun e => hR.out.ne H e rfl)
  have l1' : w2.cell? ⟨w.heap.size, 1, none⟩ = some (.int .i64 sz) := by
    refine (hB2.cell (p := ⟨w.heap.size, 1, none⟩) (by show w.heap.size < W2.heap.size; omega)).trans l1
  have k1 := hR2.h1
  have kz : ∀ i, w2.frozen? ⟨H, i, none⟩ = false := fun i => by rw [frozen_of_heap hH1]; exact hzi i
  have hH2 := hR2.lt
  rw [List.length_replicate] at q0
  try simp only [List.length_replicate]
  go_upto_region 3 with (fail)
  have hR3 := Lib.hid (hR2.sized sz)
  clear hR2 hR hO2 hB2 hrun hzi q0 hat XR l0 l1 hHs
  have hR3' : Hid (RowAt W2 (w2.setCell ⟨H, 1, none⟩ (.int .i64 sz)) H A1 c1 sz (resR xs n)) := hR3
  go_upto_region 4 with (fail)
  clear k1 kz hH1 hf2 hs2 hR3 l1' hH2
  generalize w2.setCell ⟨H, 1, none⟩ (.int .i64 sz) = wz at hR3' ⊢
  have q0 := hR3'.out.h0
  have q1 := hR3'.out.h1
  have hHs := hR3'.out.lt
  obtain ⟨s0, s1, rz⟩ := F0.out
  have sz0 := fun i => (hR3'.out.below.frozen (p := ⟨w.heap.size + 1, i, none⟩) hWs).trans (rz i)
  obtain ⟨W3, e3, t0, t1, t4⟩ := hR3'.out.fin hWb (by omega) hWs s0 s1
  replace s0 := hR3'.out.old (by omega) s0
  replace s1 := hR3'.out.old (by omega) s1
  clear rz
  go_wp2
  simp [bodyPost, go_sem, t0, t1]
  exact ⟨_, by simp [results, Try.f60, go_sem, t0, t1] <;> rfl, t4⟩
end Go.Proofs.Ytdlngbmgcedbpaa
