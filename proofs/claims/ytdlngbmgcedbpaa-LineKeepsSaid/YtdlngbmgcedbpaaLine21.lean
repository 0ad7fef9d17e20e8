/- Lines: Delete. -/
import Derived.Test.YtdlngbmgcedbpaaLine19
namespace Go.Proofs.Ytdlngbmgcedbpaa
open Go.RowKit
set_option linter.unusedVariables false
set_option linter.unusedSimpArgs false

attribute [local go_sem ↓] slice_from
set_option maxRecDepth 100000 in
set_option maxHeartbeats 8000000 in
theorem delete_l (A : Option Addr) (C : Nat) (sz : Int) (xs : List Cl) (f t n : Int) (w : World) (rd : Rd encC 3 w A xs) (hC : A = none → C = 0) (hm : xs.length ≤ 1000000) (hf : f ≤ 9223372036854775807) :
    Calls Try.prog 53 #[lineV A xs.length C sz, .int .i64 f, .int .i64 t, .int .i64 n] w (NewL w (delR xs f t (clampN n (cutR xs f t).length)) sz) := by
  have PA := Lib.hid (fun w' (h : Rd encC 3 w' A xs) => part_l A C sz xs f t w' h hC hm hf)
  have X := Lib.hid rd
  have HL := lens xs f t
  have HI := Lib.hid (show delR xs f t (clampN n (cutR xs f t).length) = layOn (layOn xs (offN xs.length f t) ((cutR xs f t).drop (clampN n (cutR xs f t).length))) (offN xs.length f t + ((cutR xs f t).length - clampN n (cutR xs f t).length)) (List.replicate (clampN n (cutR xs f t).length) erC) from rfl)
  have hM : max 0 (min n ((cutR xs f t).length : Int)) = (clampN n (cutR xs f t).length : Nat) ∧ clampN n (cutR xs f t).length ≤ (cutR xs f t).length := by unfold clampN; omega
  clear rd hC
  have PAL := Lib.hid (fun w' e w'' (h : PartL w' xs sz f t e w'') => PartL.all hm h)
  generalize delR xs f t (clampN n (cutR xs f t).length) = R at HI ⊢
  generalize clampN n (cutR xs f t).length = M at HI hM
  generalize cutR xs f t = cs at HI hM HL PAL
  generalize offN xs.length f t = o at HI HL PAL
  obtain ⟨hM1, hM2⟩ := hM
  have BLK := Lib.hid (fun w' => blank_c M w' (by omega))
  go_enter Try.func53, Try.ntmps53
  go_upto_region 3 with (first
    | (go_at_call 97
       (with_reducible refine (PA.out _ (by repeat (first | exact X.out | exact X | refine Rd.ext ?_ _ | refine Rd.alloc ?_ _ | refine Rd.drew ?_))).mono ?_)
       intro _ _ hp
       obtain ⟨A1, c1, x1, a, k, rfl, hO1, rfl, hr1, hk1, hk2, hk3, hs1⟩ := PAL.out _ _ _ hp
       clear hp
       have hO := Lib.hid hO1
       have hr := Lib.hid hr1
       have hs := Lib.hid hs1
       clear hO1 hr1 hs1))
  have hW2 : ∃ W2, W2 = (w.alloc (.cells #[.slice A xs.length C, .int .i64 sz] 70)).alloc (.cells #[.slice none 0 0, .int .i64 0] 70) := ⟨_, rfl⟩
  obtain ⟨W2, hW⟩ := hW2
  have hWz : W2.heap.size = w.heap.size + 1 + 1 := by rw [hW]; simp [go_sem]
  have hWb : Below w.heap.size w W2 := by rw [hW]; (repeat' (first | (with_reducible exact Below.refl _ _) | (with_reducible refine Below.alloc ?_ ?_ _) | (with_reducible refine below_ext ?_ ?_ _) | (with_reducible refine Below.drew ?_) | (with_reducible refine below_drewN ?_ _) | (with_reducible refine Below.setCell ?_ ?_ _) | go_size | (simp only [go_sem]; omega) | (simp [go_sem]; done) | (simp [go_sem]; omega)))
  have r0 : W2.cell? ⟨w.heap.size + 1, 0, none⟩ = some (.slice none 0 0) := by rw [hW]; simp [go_sem]
  have r1 : W2.cell? ⟨w.heap.size + 1, 1, none⟩ = some (.int .i64 0) := by rw [hW]; simp [go_sem]
  have rz : ∀ i, W2.frozen? ⟨w.heap.size + 1, i, none⟩ = false := by intro i; rw [hW]; simp [go_sem]
  rw [← hW] at hO hs ⊢
  have hR := Lib.hid (RowAt.mk' (sz := sz) (n := xs.length) rfl hO.out (Nat.le_refl _))
  have SR := Lib.hid (show Rd encC 3 ((ext W2 x1).alloc (.cells #[.slice A1 xs.length c1, .int .i64 sz] 70)) a cs from hs.out.alloc _)
  have hrz : w.heap.size + 1 + 1 + x1.sz = W2.heap.size + x1.sz := by omega
  rw [hrz]
  have hWs : w.heap.size + 1 < W2.heap.size := by omega
  have F0 := Lib.hid (⟨r0, r1, rz⟩ : _ ∧ _ ∧ _)
  clear hW hO hs hrz r0 r1 rz hWz
  generalize W2.heap.size + x1.sz = H at hR ⊢
  generalize (ext W2 x1).alloc (.cells #[.slice A1 xs.length c1, .int .i64 sz] 70) = wr at hR SR ⊢
  have hsrc : ∀ w', Rd encC 3 w' a cs → Rd encC 3 w' (cutA a k M) (cs.drop M) := fun w' h h0 => by
    rw [List.length_drop] at h0
    obtain ⟨b, off, e1, h2⟩ := h.drop (k := M) (by omega)
    have e2 : cutA a k M = some ⟨b, off + M * 3, none⟩ := by
      rw [e1]; unfold cutA; rw [if_neg (by omega)]
      simp only [Option.map_some, addr_add]
    rw [e2]
    exact h2 (by rw [List.length_drop]; omega)
  have hct : 0 < cs.length - (cs.length - M) → ∃ g, A1 = some ⟨g, 0, none⟩ ∧ cutA a k (cs.length - M) = some ⟨g, (o + (cs.length - M)) * 3, none⟩ := fun h => by
    obtain ⟨g, e1, e2⟩ := hr.out (by omega)
    refine ⟨g, e1, ?_⟩
    rw [e2]; unfold cutA; rw [if_neg (by omega)]
    simp only [Option.map_some, addr_add, Nat.add_mul]
  have hct := Lib.hid hct
  obtain ⟨w2, hrun, hO2, hB2, hs2, hf2⟩ := run_copy_lay (P := Try.prog) (size := 3) (enc := encC) (w := wr) 68 68 3 87 Try.underlying68 (by kernel_rfl) encC_len encC_one a (cutA a k M) cs.length k (k - M) (cs.drop M) 87 W2.heap.size A1 xs.length c1 xs hR.out.own o hr.out (by rw [List.length_take, List.length_drop]; omega) (hsrc _ SR.out)
  have hR2 := Lib.hid (hR.out.copied (layOn_len _ _ _ (by rw [List.length_take, List.length_drop]; omega)) hO2 hB2 hs2 hf2)
  rw [show (cs.drop M).take cs.length = cs.drop M from List.take_of_length_le (by rw [List.length_drop]; omega)] at hR2
  simp only [List.length_drop] at hrun
  clear hsrc SR hO2 hB2 hs2 hf2 hR
  go_upto_region 4 with (fail)
  clear hrun
  have hlz : (layOn xs o (cs.drop M)).length = xs.length := layOn_len _ _ _ (by rw [List.length_drop]; omega)
  have w1 : IntKind.i64.wrap ((cs.length : Int) - (M : Int)) = ((cs.length - M : Nat) : Int) := by rw [wrap_i64 (by omega) (by omega)]; omega
  have i1 : cs.length - M ≤ cs.length := by omega
  go_cut [] (fun wx => RowAt W2 wx H A1 c1 sz R)
  case first =>
    have hH1 := hR2.out.h1
    have hH2 := hR2.out.lt
    go_region_held3 (fun w' => w'.cell? ⟨H, 1, none⟩ = some (.int .i64 sz)) ((simp [go_sem, *])) ((first
      | (go_at_call 101
         (with_reducible refine (BLK.out _).mono ?_)
         rintro _ _ ⟨A4, c4, x4, rfl, rfl, hO1⟩
         have h3 := hO1.rd encC_len
         try simp only [ext_drew] at h3
         obtain ⟨w3, hrun, hO2, hB2, hs2, hf2⟩ := run_copy_lay (P := Try.prog) (size := 3) (enc := encC) (w := ext w2 x4) 68 68 3 87 Try.underlying68 (by kernel_rfl) encC_len encC_one (cutA a k (cs.length - M)) A4 (cs.length - (cs.length - M)) (k - (cs.length - M)) c4 (List.replicate M erC) 87 W2.heap.size A1 (layOn xs o (cs.drop M)).length c1 _ (hR2.out.more x4).own (o + (cs.length - M)) hct.out (by rw [hlz, List.length_take, List.length_replicate]; omega) h3
         have hR3 := Lib.hid ((hR2.out.more x4).copied (layOn_len _ _ _ (by rw [hlz, List.length_take, List.length_replicate]; omega)) hO2 hB2 hs2 hf2)
         rw [show (List.replicate M erC).take (cs.length - (cs.length - M)) = List.replicate M erC from List.take_of_length_le (by rw [List.length_replicate]; omega), ← HI.out] at hR3
         have hH3 := hR3.out.h1
         simp only [List.length_replicate] at hrun
         clear hO1 h3 hO2 hB2 hs2 hf2)))
    all_goals go_wp2
    all_goals go_meet
    all_goals exact hR3.out
  have q0 := hcut.h0
  have q1 := hcut.h1
  have hHs := hcut.lt
  obtain ⟨s0, s1, rz⟩ := F0.out
  have sz0 := fun i => (hcut.below.frozen (p := ⟨w.heap.size + 1, i, none⟩) hWs).trans (rz i)
  obtain ⟨W3, e3, t0, t1, t4⟩ := hcut.fin hWb (by omega) hWs s0 s1
  replace s0 := hcut.old (by omega) s0
  replace s1 := hcut.old (by omega) s1
  clear rz hR2
  go_wp2
  simp [bodyPost, go_sem, t0, t1]
  exact ⟨_, by simp [results, Try.f53, go_sem, t0, t1] <;> rfl, t4⟩
end Go.Proofs.Ytdlngbmgcedbpaa
