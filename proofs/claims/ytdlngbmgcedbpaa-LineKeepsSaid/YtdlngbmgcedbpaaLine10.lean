/- Lines: a row laid over a span. -/
import Derived.Test.YtdlngbmgcedbpaaLine4
import Derived.Test.YtdlngbmgcedbpaaCopyK
namespace Go.Proofs.Ytdlngbmgcedbpaa
open Go.RowKit
set_option linter.unusedVariables false
set_option linter.unusedSimpArgs false

theorem cell_of_heap {w w' : World} {b : Nat} (h : w'.heap[b]? = w.heap[b]?) {i : Nat} : w'.cell? ⟨b, i, none⟩ = w.cell? ⟨b, i, none⟩ := by unfold World.cell?; rw [h]
theorem frozen_of_heap {w w' : World} {b : Nat} (h : w'.heap[b]? = w.heap[b]?) {i : Nat} : w'.frozen? ⟨b, i, none⟩ = w.frozen? ⟨b, i, none⟩ := by unfold World.frozen?; rw [h]
/-- where a span begins, if it has cells -/
def offN (n f t : Int) : Nat := if spanN n f t = 0 then 0 else (spanA f).toNat
def layR (xs : List Cl) (f t : Int) (ys : List Cl) : List Cl := layOn xs (offN xs.length f t) (ys.take (spanN xs.length f t).toNat)
theorem offN_le (n f t : Int) (h : 0 ≤ n) : 0 ≤ spanN n f t ∧ ((offN n f t : Nat) : Int) + spanN n f t ≤ n := by
  unfold offN
  split
  · rename_i q; rw [q]; omega
  · unfold spanN spanA at *; omega
theorem layR_len (xs : List Cl) (f t : Int) (ys : List Cl) : (layR xs f t ys).length = xs.length := by
  have h := offN_le xs.length f t (by omega)
  exact layOn_len _ _ _ (by rw [List.length_take]; omega)
theorem PartL.at {w w' : World} {xs : List Cl} {sz f t : Int} {e : Ending} (h : PartL w xs sz f t e w') : ∃ A' c' x a n k, w' = ext w x ∧ Own encC 3 87 w.heap.size (ext w x) (.slice A' xs.length c') xs ∧ n = (spanN xs.length f t).toNat ∧
    e = .returned (.tuple #[lineV A' xs.length c' sz, .slice a n k]) ∧ (0 < n → ∃ g, A' = some ⟨g, 0, none⟩ ∧ a = some ⟨g, offN xs.length f t * 3, none⟩) := by
  obtain ⟨A', c', x, e1, hO, h⟩ := h
  rcases h with ⟨hn, e2⟩ | ⟨g, hg, e2⟩
  · exact ⟨A', c', x, none, 0, 0, e1, hO, by have h := offN_le xs.length f t (by omega); omega, e2, fun h => by omega⟩
  · by_cases q : spanN xs.length f t = 0
    · refine ⟨A', c', x, none, 0, 0, e1, hO, by rw [q]; rfl, ?_, fun h => by omega⟩
      rw [e2]; unfold cutV; rw [if_pos q]
    · exact ⟨A', c', x, some ⟨g, (spanA f).toNat * 3, none⟩, (spanN xs.length f t).toNat, c' - (spanA f).toNat, e1, hO, rfl, by rw [e2]; unfold cutV; rw [if_neg q], fun _ => ⟨g, hg, by unfold offN; rw [if_neg q]⟩⟩
set_option maxRecDepth 100000 in
set_option maxHeartbeats 4000000 in
theorem lay_l (A : Option Addr) (C : Nat) (sz : Int) (xs : List Cl) (f t : Int) (A2 : Option Addr) (C2 : Nat) (ys : List Cl) (w : World) (rd : Rd encC 3 w A xs) (hC : A = none → C = 0) (hm : xs.length ≤ 1000000) (hf : f ≤ 9223372036854775807) (rd2 : Rd encC 3 w A2 ys) :
    Calls Try.prog 46 #[lineV A xs.length C sz, .int .i64 f, .int .i64 t, .slice A2 ys.length C2] w (NewL w (layR xs f t ys) sz) := by
  have PA := Lib.hid (fun w' (h : Rd encC 3 w' A xs) => part_l A C sz xs f t w' h hC hm hf)
  have X := Lib.hid rd
  have Y := Lib.hid rd2
  have HO := Lib.hid (offN_le xs.length f t (by omega))
  clear rd hC rd2
  go_enter Try.func46, Try.ntmps46
  go_wp2_with (first
    | (go_at_call 97
       (with_reducible refine (PA.out _ (by repeat (first | exact X.out | exact X | refine Rd.ext ?_ _ | refine Rd.alloc ?_ _ | refine Rd.drew ?_))).mono ?_)
       intro _ _ hp
       obtain ⟨A1, c1, x1, a, n, k, rfl, hO1, hn, rfl, hr⟩ := PartL.at hp
       clear hp
       have hO := Lib.hid hO1
       clear hO1
       replace hr := Lib.hid hr
       replace hn := Lib.hid hn
       have hg1 : ∀ b, A1 = some ⟨b, 0, none⟩ → w.heap.size + 2 ≤ b ∧ b < w.heap.size + 2 + x1.sz := by
         intro b hb
         rcases hO.out.2 with ⟨h1, _⟩ | ⟨g', cap', cur, hv, hB, hgg, _⟩
         · rw [hb] at h1; cases h1
         · injection hv with e1 _ _
           rw [hb] at e1
           injection e1 with e1
           injection e1 with e1
           subst e1
           have := (Array.getElem?_eq_some_iff.1 hgg).1
           simp [go_sem] at hB this
           omega
       replace hg1 := Lib.hid hg1))
  obtain ⟨w2, hrun, hO2, hB2, hs2, hf2⟩ := run_copy_lay (P := Try.prog) (size := 3) (enc := encC) 68 68 3 87 Try.underlying68 (by kernel_rfl) encC_len encC_one a A2 n k C2 ys 87 (w.heap.size + 2) A1 xs.length c1 xs (show Own encC 3 87 (w.heap.size + 2) ((ext ((w.alloc (.cells #[.slice A xs.length C, .int .i64 sz] 70)).alloc (.cells #[.slice none 0 0, .int .i64 0] 70)) x1).alloc (.cells #[.slice A1 xs.length c1, .int .i64 sz] 70)) _ _ from by simpa [go_sem] using hO.out.alloc _) (offN xs.length f t) hr.out (by have h1 := HO.out; have h2 := hn.out; rw [List.length_take]; omega) (by repeat (first | exact Y.out | exact Y | refine Rd.ext ?_ _ | refine Rd.alloc ?_ _ | refine Rd.drew ?_))
  have D := hf2 (w.heap.size + 1 + 1 + x1.sz) (fun hb => by have := hg1.out _ hb; omega)
  have D1 := hf2 (w.heap.size + 1) (fun hb => by have := hg1.out _ hb; omega)
  have d0 : w2.cell? ⟨w.heap.size + 1 + 1 + x1.sz, 0, none⟩ = some (.slice A1 xs.length c1) := by
    rw [cell_of_heap D]; simp [go_sem]
  have d1 : w2.cell? ⟨w.heap.size + 1 + 1 + x1.sz, 1, none⟩ = some (.int .i64 sz) := by
    rw [cell_of_heap D]; simp [go_sem]
  have r0 : w2.cell? ⟨w.heap.size + 1, 0, none⟩ = some (.slice none 0 0) := by
    rw [cell_of_heap D1]; simp [go_sem]
  have r1 : w2.cell? ⟨w.heap.size + 1, 1, none⟩ = some (.int .i64 0) := by
    rw [cell_of_heap D1]; simp [go_sem]
  have z0 : w2.frozen? ⟨w.heap.size + 1, 0, none⟩ = false := by
    rw [frozen_of_heap D1]; simp [go_sem]
  have z1 : w2.frozen? ⟨w.heap.size + 1, 1, none⟩ = false := by
    rw [frozen_of_heap D1]; simp [go_sem]
  clear D D1
  rw [hrun]
  go_wp2
  have hz : layOn xs (offN xs.length f t) (ys.take n) = layR xs f t ys := by unfold layR; rw [hn.out]
  rw [hz] at hO2
  rw [← layR_len xs f t ys] at hO2 ⊢
  have q0 : ∀ V, (w2.setCell ⟨w.heap.size + 1, 0, none⟩ V).cell? ⟨w.heap.size + 1, 0, none⟩ = some V := fun V => World.cell?_setCell_same _ _ _ r0
  have q1 : ∀ V U, ((w2.setCell ⟨w.heap.size + 1, 0, none⟩ V).setCell ⟨w.heap.size + 1, 1, none⟩ U).cell? ⟨w.heap.size + 1, 1, none⟩ = some U := fun V U => World.cell?_setCell_same _ _ _ ((World.cell?_setCell_other _ _ _ _ (by simp)).trans r1)
  have t0 := (World.cell?_setCell_other (w2.setCell ⟨w.heap.size + 1, 0, none⟩ (.slice A1 (layR xs f t ys).length c1)) ⟨w.heap.size + 1, 1, none⟩ ⟨w.heap.size + 1, 0, none⟩ (.int .i64 sz) (by simp)).trans (q0 _)
  have t1 := q1 (.slice A1 (layR xs f t ys).length c1) (.int .i64 sz)
  have t2 : Below w.heap.size w ((w2.setCell ⟨w.heap.size + 1, 0, none⟩ (.slice A1 (layR xs f t ys).length c1)).setCell ⟨w.heap.size + 1, 1, none⟩ (.int .i64 sz)) := ((Below.trans (show Below w.heap.size w ((ext ((w.alloc (.cells #[.slice A xs.length C, .int .i64 sz] 70)).alloc (.cells #[.slice none 0 0, .int .i64 0] 70)) x1).alloc (.cells #[.slice A1 xs.length c1, .int .i64 sz] 70)) by (repeat' (first | (with_reducible exact Below.refl _ _) | (with_reducible refine Below.alloc ?_ ?_ _) | (with_reducible refine below_ext ?_ ?_ _) | (with_reducible refine Below.drew ?_) | (with_reducible refine below_drewN ?_ _) | (with_reducible refine Below.setCell ?_ ?_ _) | go_size | (simp only [go_sem]; omega) | (simp [go_sem]; done) | (simp [go_sem]; omega)))) (hB2.mono (by first | (simp [go_sem]; done) | (simp [go_sem]; omega)))).setCell (by simp) _).setCell (by simp) _
  have t3 := own_set_far (own_set_far hO2 (w.heap.size + 1) 0 (by omega) (.slice A1 (layR xs f t ys).length c1)) (w.heap.size + 1) 1 (by omega) (.int .i64 sz)
  generalize (w2.setCell ⟨w.heap.size + 1, 0, none⟩ (.slice A1 (layR xs f t ys).length c1)).setCell ⟨w.heap.size + 1, 1, none⟩ (.int .i64 sz) = W3 at t0 t1 t2 t3 ⊢
  clear q0 q1
  simp [bodyPost, go_sem, t0, t1]
  have t4 := NewL.of (sz := sz) (B := w.heap.size + 2) t2 (by omega) t3
  exact ⟨_, by simp [results, Try.f46, go_sem, t0, t1] <;> rfl, t4⟩
end Go.Proofs.Ytdlngbmgcedbpaa
