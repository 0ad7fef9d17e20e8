/- Lines: the reference's deeds.  -/
import Derived.Test.YtignkkejkknddaaGreatRow
import Derived.Test.YtignkkejkknddaaGreatRend3
import Derived.Test.YtignkkejkknddaaGreatLineB
import Derived.Test.YtignkkejkknddaaGreatLineA
namespace Go.Proofs.YtignkkejkknddaaGreat
open Go.RowKit
set_option linter.unusedVariables false
set_option linter.unusedSimpArgs false

end Go.Proofs.YtignkkejkknddaaGreat
/- Lines: the reference does something with every cell of a span.  -/
namespace Go.Proofs.YtignkkejkknddaaGreat
open Go.RowKit
set_option linter.unusedVariables false
set_option linter.unusedSimpArgs false

/-- a variable, made behind W2, holds a line -/
def OutAt (W2 : World) (xs : List Cl) (sz : Int) (s : Value) (wx : World) : Prop := ∃ H A c, s = .pointer (some ⟨H, 0, none⟩) ∧ RowAt W2 wx H A c sz xs
theorem RowAt.mk2 {W2 : World} {x : More} {A : Option Addr} {n c : Nat} {sz : Int} {ys : List Cl} {o : Obj} (hn : n = ys.length) (hO : Own encC 3 60 (W2.alloc o).heap.size (ext (W2.alloc o) x) (.slice A n c) ys) :
    RowAt W2 (ext (W2.alloc (.cells #[.slice A n c, .int .i64 sz] 67)) x) W2.heap.size A c sz ys := by
  subst hn
  refine ⟨below_ext ((Below.refl _ _).alloc (Nat.le_refl _) _) (by simp) x, Nat.le_refl _, by simp; omega, by simp [go_sem], by simp [go_sem], ?_, (own_swap (o := o) (by simpa using hO)).mono (by omega)⟩
  intro b hb
  rcases hO.2 with ⟨h1, _⟩ | ⟨g', cap', cur, hv, hB, hgg, _⟩
  · rw [hb] at h1; cases h1
  · injection hv with e1 _ _
    rw [hb] at e1
    injection e1 with e1
    injection e1 with e1
    subst e1
    simp at hB
    omega
theorem OutAt.a {W2 : World} {x : More} {A : Option Addr} {n c g : Nat} {sz : Int} {ys : List Cl} (hn : n = ys.length) (hg : g = W2.heap.size + x.sz) (hO : Own encC 3 60 W2.heap.size (ext W2 x) (.slice A n c) ys) :
    OutAt W2 ys sz (.pointer (some ⟨g, 0, none⟩)) ((ext W2 x).alloc (.cells #[.slice A n c, .int .i64 sz] 67)) := by
  subst hg; exact ⟨_, A, c, rfl, RowAt.mk' hn hO (Nat.le_refl _)⟩
theorem OutAt.b {W2 : World} {x : More} {A : Option Addr} {n c g : Nat} {sz : Int} {ys : List Cl} {o : Obj} (hn : n = ys.length) (hg : g = W2.heap.size) (hO : Own encC 3 60 (W2.heap.size + 1) (ext (W2.alloc o) x) (.slice A n c) ys) :
    OutAt W2 ys sz (.pointer (some ⟨g, 0, none⟩)) (ext (W2.alloc (.cells #[.slice A n c, .int .i64 sz] 67)) x) := by
  subst hg; exact ⟨_, A, c, rfl, RowAt.mk2 (o := o) hn (by simpa using hO)⟩
set_option maxRecDepth 100000 in
set_option maxHeartbeats 4000000 in
theorem each_r (d : Int) (A : Option Addr) (C : Nat) (sz : Int) (xs : List Cl) (f t : Int) (c : Cl) (P : Value) (F : Cl → Cl) (w : World) (rd : Rd encC 3 w A xs) (hm : xs.length ≤ 1000000)
    (hF : ∀ y, y ∈ xs → ∀ w', Below w.heap.size w w' → Calls Tryz.prog 102 #[.int .i64 d, cellV y, cellV c, P] w' (Gives w' (cellV (F y)))) :
    Calls Tryz.prog 113 #[.int .i64 d, lineV A xs.length C sz, .int .i64 f, .int .i64 t, cellV c, P] w (NewL w (eachR xs f t F) sz) := by
  have CL := Lib.hid (fun w' (h : Rd encC 3 w' A xs) => cells_c A C xs w' h (by omega) (by simp [maxLen]; omega))
  have IN := Lib.hid (fun i w' => in_s A xs.length C sz i f t w' (by omega))
  have X := Lib.hid rd
  have HF := Lib.hid hF
  clear rd hF
  obtain ⟨cg, cr, ck⟩ := c
  go_enter Tryz.func113, Tryz.ntmps113
  go_wp2
  go_cut [13] (fun s wx => OutAt (((w.alloc (.cells #[.slice A xs.length C, .int .i64 sz] 67)).alloc (.cells #[.int .i32 cg, .int .u8 cr, .bool ck] 60)).alloc (.cells #[.slice none 0 0, .int .i64 0] 67)) xs sz s wx)
  case first =>
    go_region_held3 (fun w' => w'.cell? ⟨w.heap.size, 0, none⟩ = some (.slice A xs.length C) ∧ w'.cell? ⟨w.heap.size, 1, none⟩ = some (.int .i64 sz)) ((refine ⟨?_, ?_⟩ <;> simp [go_sem])) ((first
      | (go_at_call 130
         (with_reducible refine (CL.out _ (by repeat (first | exact X.out | exact X | refine Rd.ext ?_ _ | refine Rd.alloc ?_ _ | refine Rd.drew ?_))).mono ?_)
         rintro _ _ ⟨A1, c1, x1, rfl, rfl, hO1⟩
         have hO := Lib.hid hO1
         clear hO1)))
    all_goals go_wp2
    all_goals go_meet
    all_goals first
      | exact OutAt.a rfl (by simp [go_sem]) (by simpa [go_sem] using hO.out)
      | exact OutAt.b rfl (by simp [go_sem]) (by simpa [go_sem] using hO.out)
  obtain ⟨H, A1, c1, rfl, hR⟩ := hcut
  have hW2 : ∃ W2, W2 = ((w.alloc (.cells #[.slice A xs.length C, .int .i64 sz] 67)).alloc (.cells #[.int .i32 cg, .int .u8 cr, .bool ck] 60)).alloc (.cells #[.slice none 0 0, .int .i64 0] 67) := ⟨_, rfl⟩
  obtain ⟨W2, hW⟩ := hW2
  rw [← hW] at hR
  have hWs : w.heap.size + 1 + 1 < W2.heap.size := by rw [hW]; simp [go_sem]
  have hWb : Below w.heap.size w W2 := by rw [hW]; (repeat' (first | (with_reducible exact Below.refl _ _) | (with_reducible refine Below.alloc ?_ ?_ _) | (with_reducible refine below_ext ?_ ?_ _) | (with_reducible refine Below.drew ?_) | (with_reducible refine below_drewN ?_ _) | (with_reducible refine Below.setCell ?_ ?_ _) | go_size | (simp only [go_sem]; omega) | (simp [go_sem]; done) | (simp [go_sem]; omega)))
  have l0 : W2.cell? ⟨w.heap.size, 0, none⟩ = some (.slice A xs.length C) := by rw [hW]; simp [go_sem]
  have l1 : W2.cell? ⟨w.heap.size, 1, none⟩ = some (.int .i64 sz) := by rw [hW]; simp [go_sem]
  have k0 : W2.cell? ⟨w.heap.size + 1, 0, none⟩ = some (.int .i32 cg) := by rw [hW]; simp [go_sem]
  have k1 : W2.cell? ⟨w.heap.size + 1, 1, none⟩ = some (.int .u8 cr) := by rw [hW]; simp [go_sem]
  have k2 : W2.cell? ⟨w.heap.size + 1, 2, none⟩ = some (.bool ck) := by rw [hW]; simp [go_sem]
  have r0 : W2.cell? ⟨w.heap.size + 1 + 1, 0, none⟩ = some (.slice none 0 0) := by rw [hW]; simp [go_sem]
  have r1 : W2.cell? ⟨w.heap.size + 1 + 1, 1, none⟩ = some (.int .i64 0) := by rw [hW]; simp [go_sem]
  have rz : ∀ i, W2.frozen? ⟨w.heap.size + 1 + 1, i, none⟩ = false := by intro i; rw [hW]; simp [go_sem]
  have hR := Lib.hid hR
  have F0 := Lib.hid (⟨l0, l1, k0, k1, k2, r0, r1, rz⟩ : _ ∧ _ ∧ _ ∧ _ ∧ _ ∧ _ ∧ _ ∧ _)
  clear hW l0 l1 k0 k1 k2 r0 r1 rz
  go_wp2
  go_loopw [14] (fun iv wr => ∃ (j : Nat), j ≤ xs.length ∧ iv = .int .i64 j ∧ Hid (RowAt W2 wr H A1 c1 sz (updR xs (fun i => inS xs.length i f t) (fun _ => F) j))) (fun iv _ => xs.length - (intOf iv).toNat)
  case atStart => exact ⟨0, by omega, rfl, by rw [updR_zero]; exact hR⟩
  case round =>
    obtain ⟨j, hj, rfl, hR⟩ := hrel
    obtain ⟨l0, l1, k0, k1, k2, r0, r1, rz⟩ := F0.out
    have hS := hR.out.below.size
    replace l0 := hR.out.old (by omega) l0
    replace l1 := hR.out.old (by omega) l1
    have hs0 : w.heap.size < wr.heap.size := by omega
    by_cases hlt : j < xs.length
    · clear r0 r1 rz
      rcases Bool.eq_false_or_eq_true (inS xs.length j f t) with hin | hin
      · replace k0 := hR.out.old (by omega) k0
        replace k1 := hR.out.old (by omega) k1
        replace k2 := hR.out.old (by omega) k2
        have hs1 : w.heap.size + 1 < wr.heap.size := by omega
        obtain ⟨g, rfl, hg1, hg2, hgH, hc1, hc2, d0, d1, d2, z0, z1, z2⟩ := hR.out.at (j := j) (by rw [updR_len]; exact hlt)
        have hHs := hR.out.lt
        have q0 := hR.out.h0
        rw [updR_len] at q0 hc1
        obtain ⟨b1, o1, rfl, hb1, e0, e1, e2⟩ := (X.out.below (hWb.trans (hR.out.below.mono hWb.size))).cell3 hlt
        have hmem := Lib.hid (List.getElem_mem hlt)
        have hFj := Lib.hid (updR_yes xs (fun i => inS xs.length i f t) (fun _ => F) j hin hlt)
        generalize xs[j] = y at e0 e1 e2 hmem hFj
        obtain ⟨yg, yr, yk⟩ := y
        simp only at e0 e1 e2
        have HF1 := Lib.hid (HF.out _ hmem.out)
        generalize F ⟨yg, yr, yk⟩ = z at hFj HF1
        obtain ⟨zg, zr, zk⟩ := z
        have I1 := Lib.hid (fun w' => IN.out j w')
        rw [hin] at I1
        have hbw := Lib.hid (hWb.trans (hR.out.below.mono hWb.size))
        go_wp2_with (go_at_call 117; ((with_reducible refine (I1.out _).mono ?_); rintro _ _ hgets; obtain ⟨rfl, x2, rfl⟩ := hgets.get; clear hgets))
        (refine wp_region_tail 13 (by kernel_rfl) (by kernel_rfl) ?_; simp only [List.take_succ_cons, List.take_zero, List.drop_succ_cons, List.drop_zero])
        repeat (go_big_quiet_step (((go_at_call 102; with_reducible exact Calls.free (HF1.out _ (by have := hbw.out; (repeat' (first | (with_reducible exact Below.refl _ _) | (with_reducible refine Below.alloc ?_ ?_ _) | (with_reducible refine below_ext ?_ ?_ _) | (with_reducible refine Below.drew ?_) | (with_reducible refine below_drewN ?_ _) | (with_reducible refine Below.setCell ?_ ?_ _) | go_size | (simp only [go_sem]; omega) | (simp [go_sem]; done) | (simp [go_sem]; omega)))))))))
        refine wpQuiet_nil ?_; rintro _ ⟨x3, rfl⟩
        go_wp2
        have hR2 := hR.out.set (j := j) (by rw [updR_len]; exact hlt) ⟨zg, zr, zk⟩
        rw [← hFj.out] at hR2
        refine ⟨⟨j + 1, by omega, by go_num, Lib.hid ?_⟩, by simp [intOf]; omega⟩
        exact (hR2.more x2).more x3
      · have I1 := Lib.hid (fun w' => IN.out j w')
        rw [hin] at I1
        go_wp2_with (go_at_call 117; ((with_reducible refine (I1.out _).mono ?_); rintro _ _ hgets; obtain ⟨rfl, x2, rfl⟩ := hgets.get; clear hgets))
        go_roundw
        case rel => exact ⟨j + 1, by omega, by go_num, by rw [updR_no _ _ _ _ hin]; exact Lib.hid (hR.out.more x2)⟩
        case measure => simp [intOf]; omega
    · obtain rfl : j = xs.length := by omega
      have hq := hR.out.h0
      have hq1 := hR.out.h1
      have hHs := hR.out.lt
      rw [updR_len] at hq
      have s0 := hR.out.old (by omega) r0
      have s1 := hR.out.old (by omega) r1
      have sz0 := fun i => (hR.out.below.frozen (p := ⟨w.heap.size + 1 + 1, i, none⟩) hWs).trans (rz i)
      obtain ⟨W3, e3, t0, t1, t4⟩ := hR.out.fin hWb (by omega) hWs r0 r1
      rw [updR_len] at e3 t0 t4
      clear r0 r1 rz
      go_wp2
      simp [bodyPost, go_sem, t0, t1]
      exact ⟨_, by simp [results, Tryz.f113, go_sem, t0, t1] <;> rfl, t4⟩
end Go.Proofs.YtignkkejkknddaaGreat
/- Lines: how many columns a span has, and which is the first.  -/
namespace Go.Proofs.YtignkkejkknddaaGreat
open Go.RowKit
set_option linter.unusedVariables false
set_option linter.unusedSimpArgs false

end Go.Proofs.YtignkkejkknddaaGreat
/- Lines: the reference lays a row.  -/
namespace Go.Proofs.YtignkkejkknddaaGreat
open Go.RowKit
set_option linter.unusedVariables false
set_option linter.unusedSimpArgs false

end Go.Proofs.YtignkkejkknddaaGreat
/- Lines: the reference's moves.  -/
namespace Go.Proofs.YtignkkejkknddaaGreat
open Go.RowKit
set_option linter.unusedVariables false
set_option linter.unusedSimpArgs false

theorem erased_r (w : World) : Calls Tryz.prog 139 #[] w (Gives w (.agg #[.int .i32 32, .int .u8 0, .bool false])) := by
  go_enter Tryz.func139, Tryz.ntmps139
  go_wp2
  go_returns
  exact ⟨rfl, by (repeat' (first | (with_reducible exact Below.refl _ _) | (with_reducible refine Below.alloc ?_ ?_ _) | (with_reducible refine below_ext ?_ ?_ _) | (with_reducible refine Below.drew ?_) | (with_reducible refine below_drewN ?_ _) | (with_reducible refine Below.setCell ?_ ?_ _) | go_size | (simp only [go_sem]; omega) | (simp [go_sem]; done) | (simp [go_sem]; omega)))⟩
end Go.Proofs.YtignkkejkknddaaGreat
/- Lines: the cells of a span.  -/
namespace Go.Proofs.YtignkkejkknddaaGreat
open Go.RowKit
set_option linter.unusedVariables false
set_option linter.unusedSimpArgs false

/-- the span of a row that lies in block g, clipped -/
def cutW (g : Nat) (n f t : Int) : Value := if spanN n f t = 0 then .slice none 0 0 else .slice (some ⟨g, (spanA f).toNat * 3, none⟩) (spanN n f t).toNat (spanN n f t).toNat
def CutL (w : World) (xs : List Cl) (f t : Int) (e : Ending) (w' : World) : Prop := ∃ A' c' x, w' = ext w x ∧ Own encC 3 60 w.heap.size (ext w x) (.slice A' xs.length c') xs ∧
  ((xs.length = 0 ∧ e = .returned (.slice none 0 0)) ∨ ∃ g, A' = some ⟨g, 0, none⟩ ∧ e = .returned (cutW g xs.length f t))
theorem PartL.sl {w w' : World} {xs : List Cl} {sz f t : Int} {e : Ending} (h : PartL w xs sz f t e w') : ∃ A' c' x a n k, w' = ext w x ∧ Own encC 3 60 w.heap.size (ext w x) (.slice A' xs.length c') xs ∧ n ≤ k ∧ k ≤ 9223372036854775807 ∧
    e = .returned (.tuple #[lineV A' xs.length c' sz, .slice a n k]) ∧ ((xs.length = 0 ∧ (Value.slice a n n) = .slice none 0 0) ∨ ∃ g, A' = some ⟨g, 0, none⟩ ∧ (Value.slice a n n) = cutW g xs.length f t) := by
  obtain ⟨A', c', x, e1, hO, h⟩ := h
  rcases h with ⟨hn, e2⟩ | ⟨g, hg, e2⟩
  · exact ⟨A', c', x, none, 0, 0, e1, hO, by omega, by omega, e2, .inl ⟨hn, rfl⟩⟩
  · by_cases q : spanN xs.length f t = 0
    · refine ⟨A', c', x, none, 0, 0, e1, hO, by omega, by omega, ?_, .inr ⟨g, hg, by unfold cutW; rw [if_pos q]⟩⟩
      rw [e2]; unfold cutV; rw [if_pos q]
    · have q0 : 0 < xs.length := by unfold spanN at q; omega
      obtain ⟨g', eg, h1, h2⟩ := hO.at0 q0
      simp only [maxLen] at h2
      exact ⟨A', c', x, some ⟨g, (spanA f).toNat * 3, none⟩, (spanN xs.length f t).toNat, c' - (spanA f).toNat, e1, hO, by unfold spanN spanA; omega, by omega, by rw [e2]; unfold cutV; rw [if_neg q], .inr ⟨g, hg, by unfold cutW; rw [if_neg q]⟩⟩
theorem CutL.of {w w' : World} {A : Option Addr} {c B : Nat} {xs : List Cl} {f t : Int} {S : Value} (hb : Below w.heap.size w w') (hB : w.heap.size ≤ B) (h : Own encC 3 60 B w' (.slice A xs.length c) xs)
    (hr : (xs.length = 0 ∧ S = .slice none 0 0) ∨ ∃ g, A = some ⟨g, 0, none⟩ ∧ S = cutW g xs.length f t) : CutL w xs f t (.returned S) w' := by
  obtain ⟨x, rfl⟩ := ext_of hb
  refine ⟨A, c, x, rfl, h.mono hB, ?_⟩
  rcases hr with ⟨hn, rfl⟩ | ⟨g, hg, rfl⟩
  · exact .inl ⟨hn, rfl⟩
  · exact .inr ⟨g, hg, rfl⟩
set_option maxRecDepth 100000 in
set_option maxHeartbeats 4000000 in
theorem cut_l (A : Option Addr) (C : Nat) (sz : Int) (xs : List Cl) (f t : Int) (w : World) (rd : Rd encC 3 w A xs) (hC : A = none → C = 0) (hm : xs.length ≤ 1000000) (hf : f ≤ 9223372036854775807) :
    Calls Tryz.prog 93 #[lineV A xs.length C sz, .int .i64 f, .int .i64 t] w (CutL w xs f t) := by
  have PA := Lib.hid (fun w' (h : Rd encC 3 w' A xs) => part_l A C sz xs f t w' h hC hm hf)
  have X := Lib.hid rd
  clear rd hC
  go_enter Tryz.func93, Tryz.ntmps93
  go_wp2_with (first
    | (go_at_call 114
       (with_reducible refine (PA.out _ (by repeat (first | exact X.out | exact X | refine Rd.ext ?_ _ | refine Rd.alloc ?_ _ | refine Rd.drew ?_))).mono ?_)
       intro _ _ hp
       obtain ⟨A1, c1, x1, a, n, k, rfl, hO1, hk1, hk2, rfl, hr⟩ := PartL.sl hp
       clear hp
       have hO := Lib.hid hO1
       clear hO1
       replace hr := Lib.hid hr)
    | (go_at_call 115; ((with_reducible refine (clip_c a n k _ hk1 hk2).mono ?_); rintro _ _ ⟨rfl, rfl⟩)))
  go_returns
  exact CutL.of (by (repeat' (first | (with_reducible exact Below.refl _ _) | (with_reducible refine Below.alloc ?_ ?_ _) | (with_reducible refine below_ext ?_ ?_ _) | (with_reducible refine Below.drew ?_) | (with_reducible refine below_drewN ?_ _) | (with_reducible refine Below.setCell ?_ ?_ _) | go_size | (simp only [go_sem]; omega) | (simp [go_sem]; done) | (simp [go_sem]; omega)))) (by first | (simp [go_sem]; done) | (simp [go_sem]; omega)) (hO.out.alloc _) hr.out
end Go.Proofs.YtignkkejkknddaaGreat
/- Lines: a span's cells, of both.  -/
namespace Go.Proofs.YtignkkejkknddaaGreat
open Go.RowKit
set_option linter.unusedVariables false
set_option linter.unusedSimpArgs false

end Go.Proofs.YtignkkejkknddaaGreat
/- Lines: the plain laws of laying and cutting.  -/
namespace Go.Proofs.YtignkkejkknddaaGreat
open Go.RowKit
set_option linter.unusedVariables false
set_option linter.unusedSimpArgs false

theorem layOn_get {α : Type} (xs zs : List α) (o i : Nat) (h : o + zs.length ≤ xs.length) : (layOn xs o zs)[i]? = if o ≤ i ∧ i < o + zs.length then zs[i - o]? else xs[i]? := by
  unfold layOn
  rw [List.getElem?_append, List.length_take, show min o xs.length = o by omega]
  by_cases h1 : i < o
  · rw [if_pos h1, if_neg (by omega), List.getElem?_take, if_pos h1]
  · rw [if_neg h1, List.getElem?_append]
    by_cases h2 : i - o < zs.length
    · rw [if_pos h2, if_pos (by omega)]
    · rw [if_neg h2, if_neg (by omega), List.getElem?_drop]
      congr 1
      omega
/-- the cells of a span -/
def cutR (xs : List Cl) (f t : Int) : List Cl := (xs.drop (offN xs.length f t)).take (spanN xs.length f t).toNat
theorem cutR_len (xs : List Cl) (f t : Int) : (cutR xs f t).length = (spanN xs.length f t).toNat := by
  have h := offN_le xs.length f t (by omega)
  simp only [cutR, List.length_take, List.length_drop]
  omega
theorem CutL.at {w w' : World} {xs : List Cl} {f t : Int} {e : Ending} (hm : xs.length ≤ 1000000) (h : CutL w xs f t e w') : ∃ a k x, e = .returned (.slice a (cutR xs f t).length k) ∧ w' = ext w x ∧ Rd encC 3 (ext w x) a (cutR xs f t) ∧ (a = none → k = 0) ∧ (cutR xs f t).length ≤ k ∧ k ≤ 1000000 := by
  obtain ⟨A', c', x, rfl, hO, hr⟩ := h
  have hh := offN_le xs.length f t (by omega)
  have hl := cutR_len xs f t
  rcases hr with ⟨hn, rfl⟩ | ⟨g, rfl, rfl⟩
  · have e0 : (cutR xs f t).length = 0 := by omega
    exact ⟨none, 0, x, by rw [e0], rfl, fun q => by omega, fun _ => rfl, by omega, by omega⟩
  · by_cases q : spanN xs.length f t = 0
    · have e0 : (cutR xs f t).length = 0 := by omega
      exact ⟨none, 0, x, by rw [e0]; unfold cutW; rw [if_pos q], rfl, fun q => by omega, fun _ => rfl, by omega, by omega⟩
    · refine ⟨some ⟨g, (spanA f).toNat * 3, none⟩, (spanN xs.length f t).toNat, x, by rw [hl]; unfold cutW; rw [if_neg q], rfl, ?_, fun e => (by cases e), by omega, by omega⟩
      have e1 : offN xs.length f t = (spanA f).toNat := by unfold offN; rw [if_neg q]
      have hr := hO.rd encC_len
      obtain ⟨b, off, e2, hd⟩ := hr.drop (k := (spanA f).toNat) (by omega)
      injection e2 with e2
      injection e2 with e2 e3
      subst e2 e3
      have h4 := hd.take (spanN xs.length f t).toNat
      rw [Nat.zero_add] at h4
      unfold cutR
      rw [e1]
      exact h4
end Go.Proofs.YtignkkejkknddaaGreat
