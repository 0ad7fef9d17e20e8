/- Lines: a row laid over a span.  -/
import Derived.Test.YtignkkejkknddaaGreatLineA
import Derived.Test.YtignkkejkknddaaGreatCopyK
import Derived.Test.YtignkkejkknddaaGreatMul
import Derived.Test.YtignkkejkknddaaGreatTailM
namespace Go.Proofs.YtignkkejkknddaaGreat
open Go.RowKit
set_option linter.unusedVariables false
set_option linter.unusedSimpArgs false

theorem cell_of_heap {w w' : World} {b : Nat} (h : w'.heap[b]? = w.heap[b]?) {i : Nat} : w'.cell? ⟨b, i, none⟩ = w.cell? ⟨b, i, none⟩ := by unfold World.cell?; rw [h]
theorem frozen_of_heap {w w' : World} {b : Nat} (h : w'.heap[b]? = w.heap[b]?) {i : Nat} : w'.frozen? ⟨b, i, none⟩ = w.frozen? ⟨b, i, none⟩ := by unfold World.frozen?; rw [h]
/-- where a span begins, if it has cells -/
def offN (n f t : Int) : Nat := if spanN n f t = 0 then 0 else (spanA f).toNat
def layR (xs : List Cl) (f t : Int) (ys : List Cl) : List Cl := layOn xs (offN xs.length f t) (ys.take (spanN xs.length f t).toNat)
theorem offN_le (n f t : Int) (h : 0 ≤ n) : 0 ≤ spanN n f t ∧ ((offN n f t : Nat) : Int) + spanN n f t ≤ n := by
  unfold offN
  split
  · rename_i q; rw [q]; omega
  · unfold spanN spanA at *; omega
theorem layR_len (xs : List Cl) (f t : Int) (ys : List Cl) : (layR xs f t ys).length = xs.length := by
  have h := offN_le xs.length f t (by omega)
  exact layOn_len _ _ _ (by rw [List.length_take]; omega)
theorem PartL.at {w w' : World} {xs : List Cl} {sz f t : Int} {e : Ending} (h : PartL w xs sz f t e w') : ∃ A' c' x a n k, w' = ext w x ∧ Own encC 3 60 w.heap.size (ext w x) (.slice A' xs.length c') xs ∧ n = (spanN xs.length f t).toNat ∧
    e = .returned (.tuple #[lineV A' xs.length c' sz, .slice a n k]) ∧ (0 < n → ∃ g, A' = some ⟨g, 0, none⟩ ∧ a = some ⟨g, offN xs.length f t * 3, none⟩) := by
  obtain ⟨A', c', x, e1, hO, h⟩ := h
  rcases h with ⟨hn, e2⟩ | ⟨g, hg, e2⟩
  · exact ⟨A', c', x, none, 0, 0, e1, hO, by have h := offN_le xs.length f t (by omega); omega, e2, fun h => by omega⟩
  · by_cases q : spanN xs.length f t = 0
    · refine ⟨A', c', x, none, 0, 0, e1, hO, by rw [q]; rfl, ?_, fun h => by omega⟩
      rw [e2]; unfold cutV; rw [if_pos q]
    · exact ⟨A', c', x, some ⟨g, (spanA f).toNat * 3, none⟩, (spanN xs.length f t).toNat, c' - (spanA f).toNat, e1, hO, rfl, by rw [e2]; unfold cutV; rw [if_neg q], fun _ => ⟨g, hg, by unfold offN; rw [if_neg q]⟩⟩
set_option maxRecDepth 100000 in
set_option maxHeartbeats 4000000 in
theorem lay_l (A : Option Addr) (C : Nat) (sz : Int) (xs : List Cl) (f t : Int) (A2 : Option Addr) (C2 : Nat) (ys : List Cl) (w : World) (rd : Rd encC 3 w A xs) (hC : A = none → C = 0) (hm : xs.length ≤ 1000000) (hf : f ≤ 9223372036854775807) (rd2 : Rd encC 3 w A2 ys) :
    Calls Tryz.prog 119 #[lineV A xs.length C sz, .int .i64 f, .int .i64 t, .slice A2 ys.length C2] w (NewL w (layR xs f t ys) sz) := by
  have PA := Lib.hid (fun w' (h : Rd encC 3 w' A xs) => part_l A C sz xs f t w' h hC hm hf)
  have X := Lib.hid rd
  have Y := Lib.hid rd2
  have HO := Lib.hid (offN_le xs.length f t (by omega))
  clear rd hC rd2
  go_enter Tryz.func119, Tryz.ntmps119
  go_wp2_with (first
    | (go_at_call 114
       (with_reducible refine (PA.out _ (by repeat (first | exact X.out | exact X | refine Rd.ext ?_ _ | refine Rd.alloc ?_ _ | refine Rd.drew ?_))).mono ?_)
       intro _ _ hp
       obtain ⟨A1, c1, x1, a, n, k, rfl, hO1, hn, rfl, hr⟩ := PartL.at hp
       clear hp
       have hO := Lib.hid hO1
       clear hO1
       replace hr := Lib.hid hr
       replace hn := Lib.hid hn
       have hg1 : ∀ b, A1 = some ⟨b, 0, none⟩ → w.heap.size + 2 ≤ b ∧ b < w.heap.size + 2 + x1.sz := by
         intro b hb
         rcases hO.out.2 with ⟨h1, _⟩ | ⟨g', cap', cur, hv, hB, hgg, _⟩
         · rw [hb] at h1; cases h1
         · injection hv with e1 _ _
           rw [hb] at e1
           injection e1 with e1
           injection e1 with e1
           subst e1
           have := (Array.getElem?_eq_some_iff.1 hgg).1
           simp [go_sem] at hB this
           omega
       replace hg1 := Lib.hid hg1))
  obtain ⟨w2, hrun, hO2, hB2, hs2, hf2⟩ := run_copy_lay (P := Tryz.prog) (size := 3) (enc := encC) 65 65 3 60 Tryz.underlying65 (by kernel_rfl) encC_len encC_one a A2 n k C2 ys 60 (w.heap.size + 2) A1 xs.length c1 xs (show Own encC 3 60 (w.heap.size + 2) ((ext ((w.alloc (.cells #[.slice A xs.length C, .int .i64 sz] 67)).alloc (.cells #[.slice none 0 0, .int .i64 0] 67)) x1).alloc (.cells #[.slice A1 xs.length c1, .int .i64 sz] 67)) _ _ from by simpa [go_sem] using hO.out.alloc _) (offN xs.length f t) hr.out (by have h1 := HO.out; have h2 := hn.out; rw [List.length_take]; omega) (by repeat (first | exact Y.out | exact Y | refine Rd.ext ?_ _ | refine Rd.alloc ?_ _ | refine Rd.drew ?_))
  have D := hf2 (w.heap.size + 1 + 1 + x1.sz) (fun hb => by have := hg1.out _ hb; omega)
  have D1 := hf2 (w.heap.size + 1) (fun hb => by have := hg1.out _ hb; omega)
  have d0 : w2.cell? ⟨w.heap.size + 1 + 1 + x1.sz, 0, none⟩ = some (.slice A1 xs.length c1) := by
    rw [cell_of_heap D]; simp [go_sem]
  have d1 : w2.cell? ⟨w.heap.size + 1 + 1 + x1.sz, 1, none⟩ = some (.int .i64 sz) := by
    rw [cell_of_heap D]; simp [go_sem]
  have r0 : w2.cell? ⟨w.heap.size + 1, 0, none⟩ = some (.slice none 0 0) := by
    rw [cell_of_heap D1]; simp [go_sem]
  have r1 : w2.cell? ⟨w.heap.size + 1, 1, none⟩ = some (.int .i64 0) := by
    rw [cell_of_heap D1]; simp [go_sem]
  have z0 : w2.frozen? ⟨w.heap.size + 1, 0, none⟩ = false := by
    rw [frozen_of_heap D1]; simp [go_sem]
  have z1 : w2.frozen? ⟨w.heap.size + 1, 1, none⟩ = false := by
    rw [frozen_of_heap D1]; simp [go_sem]
  clear D D1
  rw [hrun]
  go_wp2
  have hz : layOn xs (offN xs.length f t) (ys.take n) = layR xs f t ys := by unfold layR; rw [hn.out]
  rw [hz] at hO2
  rw [← layR_len xs f t ys] at hO2 ⊢
  have q0 : ∀ V, (w2.setCell ⟨w.heap.size + 1, 0, none⟩ V).cell? ⟨w.heap.size + 1, 0, none⟩ = some V := fun V => World.cell?_setCell_same _ _ _ r0
  have q1 : ∀ V U, ((w2.setCell ⟨w.heap.size + 1, 0, none⟩ V).setCell ⟨w.heap.size + 1, 1, none⟩ U).cell? ⟨w.heap.size + 1, 1, none⟩ = some U := fun V U => World.cell?_setCell_same _ _ _ ((World.cell?_setCell_other _ _ _ _ (by simp)).trans r1)
  have t0 := (World.cell?_setCell_other (w2.setCell ⟨w.heap.size + 1, 0, none⟩ (.slice A1 (layR xs f t ys).length c1)) ⟨w.heap.size + 1, 1, none⟩ ⟨w.heap.size + 1, 0, none⟩ (.int .i64 sz) (by simp)).trans (q0 _)
  have t1 := q1 (.slice A1 (layR xs f t ys).length c1) (.int .i64 sz)
  have t2 : Below w.heap.size w ((w2.setCell ⟨w.heap.size + 1, 0, none⟩ (.slice A1 (layR xs f t ys).length c1)).setCell ⟨w.heap.size + 1, 1, none⟩ (.int .i64 sz)) := ((Below.trans (show Below w.heap.size w ((ext ((w.alloc (.cells #[.slice A xs.length C, .int .i64 sz] 67)).alloc (.cells #[.slice none 0 0, .int .i64 0] 67)) x1).alloc (.cells #[.slice A1 xs.length c1, .int .i64 sz] 67)) by (repeat' (first | (with_reducible exact Below.refl _ _) | (with_reducible refine Below.alloc ?_ ?_ _) | (with_reducible refine below_ext ?_ ?_ _) | (with_reducible refine Below.drew ?_) | (with_reducible refine below_drewN ?_ _) | (with_reducible refine Below.setCell ?_ ?_ _) | go_size | (simp only [go_sem]; omega) | (simp [go_sem]; done) | (simp [go_sem]; omega)))) (hB2.mono (by first | (simp [go_sem]; done) | (simp [go_sem]; omega)))).setCell (by simp) _).setCell (by simp) _
  have t3 := own_set_far (own_set_far hO2 (w.heap.size + 1) 0 (by omega) (.slice A1 (layR xs f t ys).length c1)) (w.heap.size + 1) 1 (by omega) (.int .i64 sz)
  generalize (w2.setCell ⟨w.heap.size + 1, 0, none⟩ (.slice A1 (layR xs f t ys).length c1)).setCell ⟨w.heap.size + 1, 1, none⟩ (.int .i64 sz) = W3 at t0 t1 t2 t3 ⊢
  clear q0 q1
  simp [bodyPost, go_sem, t0, t1]
  have t4 := NewL.of (sz := sz) (B := w.heap.size + 2) t2 (by omega) t3
  exact ⟨_, by simp [results, Tryz.f46, go_sem, t0, t1] <;> rfl, t4⟩
end Go.Proofs.YtignkkejkknddaaGreat
/- Lines: rows of erased cells.  -/
namespace Go.Proofs.YtignkkejkknddaaGreat
open Go.RowKit
set_option linter.unusedVariables false
set_option linter.unusedSimpArgs false

/-- an erased cell -/
def erC : Cl := ⟨32, 0, false⟩
/-- the first k of n cells are y, the others are as made -/
def halfR (y : Cl) (n k : Nat) : List Cl := List.replicate k y ++ List.replicate (n - k) noC
theorem halfR_len (y : Cl) (n k : Nat) (h : k ≤ n) : (halfR y n k).length = n := by simp [halfR]; omega
theorem halfR_step (y : Cl) (n k m : Nat) (h : k ≤ n) (hm : m = Nat.min k (n - k)) : layOn (halfR y n k) k ((List.replicate k y).take (n - k)) = halfR y n (k + m) := by
  have e : (List.replicate k y).take (n - k) = List.replicate m y := by rw [List.take_replicate, hm, show min (n - k) k = Nat.min k (n - k) from Nat.min_comm _ _]
  have hm2 : m ≤ n - k := by rw [hm]; exact Nat.min_le_right _ _
  rw [e]
  unfold layOn halfR
  rw [List.take_append_of_le_length (by simp), List.take_of_length_le (by simp), List.drop_append, List.drop_of_length_le (by simp), List.length_replicate, List.length_replicate, List.drop_replicate]
  rw [List.nil_append, ← List.append_assoc, List.replicate_append_replicate]
  congr 2
  omega
theorem halfR_first (y : Cl) (n m : Nat) (hm : m = Nat.min 1 n) : layOn (List.replicate n noC) 0 ([y].take n) = halfR y n m := by
  have e : [y].take n = List.replicate m y := by
    rw [hm]
    match n with
    | 0 => rfl
    | k + 1 => rw [show Nat.min 1 (k + 1) = 1 from Nat.min_eq_left (by omega)]; simp
  rw [e]
  unfold layOn halfR
  rw [List.take_zero, List.nil_append, List.length_replicate, Nat.zero_add, List.drop_replicate]
set_option maxRecDepth 100000 in
set_option maxHeartbeats 4000000 in
theorem repeat_c (A : Option Addr) (C : Nat) (y : Cl) (n : Nat) (w : World) (rd : Rd encC 3 w A [y]) (hn : n ≤ 1000000) :
    Calls Tryz.prog 138 #[.slice A 1 C, .int .i64 n] w (NewCs w (List.replicate n y)) := by
  have X := Lib.hid rd
  clear rd
  have MU := Lib.hid (fun w' => mul1_c n (by omega) w')
  obtain ⟨x0, hmk, hO0⟩ := make_cells w n (by omega)
  have hO := Lib.hid hO0
  clear hO0
  go_enter Tryz.func138, Tryz.ntmps138
  go_wp2_with (go_at_call 142; ((with_reducible refine (MU.out _).mono ?_); rintro _ _ ⟨rfl, rfl⟩))
  obtain ⟨w2, hrun, hO2, hB2, hs2, hf2⟩ := run_copy_lay (P := Tryz.prog) (size := 3) (enc := encC) 65 65 3 60 Tryz.underlying65 (by kernel_rfl) encC_len encC_one (some ⟨w.heap.size, 0, none⟩) A n n C [y] 60 w.heap.size (some ⟨w.heap.size, 0, none⟩) n n _ hO.out 0 (fun _ => ⟨_, rfl, rfl⟩) (by simp; omega) (by repeat (first | exact X.out | exact X | refine Rd.ext ?_ _ | refine Rd.alloc ?_ _ | refine Rd.drew ?_))
  obtain ⟨x2, rfl⟩ := ext_of (show Below w.heap.size w w2 from (below_of_ext w x0).trans hB2)
  rw [halfR_first y n (Nat.min 1 n) rfl] at hO2
  simp only [List.length_singleton] at hrun
  rw [hrun]
  have hm : Nat.min 1 n ≤ n ∧ Nat.min 1 n ≤ 1 ∧ (0 < n → 0 < Nat.min 1 n) := by
    have e : Nat.min 1 n = min 1 n := rfl
    rw [e]; omega
  have hP := Lib.hid hO2
  clear hO2 hB2 hs2 hf2 hrun hmk hO X
  generalize Nat.min 1 n = k0 at hP hm ⊢
  go_wp2
  go_loopw [8] (fun kv wr => ∃ (k : Nat) (x : More), k ≤ n ∧ (0 < n → 0 < k) ∧ kv = .int .i64 k ∧ wr = ext w x ∧ Hid (Own encC 3 60 w.heap.size (ext w x) (.slice (some ⟨w.heap.size, 0, none⟩) n n) (halfR y n k))) (fun kv _ => n - (intOf kv).toNat)
  case atStart => exact ⟨k0, x2, by omega, by omega, rfl, rfl, hP⟩
  case round =>
    obtain ⟨k, x, hk, hk0, rfl, rfl, hO⟩ := hrel
    by_cases hlt : k < n
    · go_wp2
      (refine wp_region_tail1 7 (by kernel_rfl) (by kernel_rfl) (fun _ _ _ _ h => h) (.tmp 8) rfl rfl ?_; simp only [Nat.reduceSub, List.take_succ_cons, List.take_zero, List.drop_succ_cons, List.drop_zero])
      repeat (go_big_quiet_step (fail))
      refine wpQuiet_nil ?_; rintro _ ⟨x3, rfl⟩
      obtain ⟨w2, hrun, hO2, hB2, hs2, hf2⟩ := run_copy_lay (P := Tryz.prog) (size := 3) (enc := encC) 65 65 3 60 Tryz.underlying65 (by kernel_rfl) encC_len encC_one (some ⟨w.heap.size, k * 3, none⟩) (some ⟨w.heap.size, 0, none⟩) (n - k) (n - k) n (List.replicate k y) 60 w.heap.size (some ⟨w.heap.size, 0, none⟩) n n _ (hO.out.ext x3) k (fun _ => ⟨_, rfl, rfl⟩) (by rw [halfR_len y n k hk, List.length_take, List.length_replicate]; omega) (by
        have h := (hO.out.ext x3).rd encC_len
        have h2 := h.take k
        rw [show (halfR y n k).take k = List.replicate k y by unfold halfR; rw [List.take_append_of_le_length (by simp), List.take_of_length_le (by simp)]] at h2
        exact h2)
      obtain ⟨x4, rfl⟩ := ext_of (show Below w.heap.size w w2 from ((below_of_ext w x).trans ((below_of_ext _ x3).mono (by simp [go_sem]))).trans hB2)
      rw [halfR_step y n k _ hk rfl] at hO2
      simp only [List.length_replicate] at hrun
      have hm2 : Nat.min k (n - k) ≤ n - k ∧ 0 < Nat.min k (n - k) := by
        have e : Nat.min k (n - k) = min k (n - k) := rfl
        rw [e]; omega
      have hP2 := Lib.hid hO2
      clear hO2 hB2 hs2 hf2
      generalize Nat.min k (n - k) = m at hP2 hm2 hrun
      go_wp2
      go_roundw
      case rel => exact ⟨k + m, x4, by omega, by omega, by go_num, rfl, hP2⟩
      case measure => simp [intOf]; omega
    · obtain rfl : k = n := by omega
      go_wp2
      go_returns
      have e : halfR y k k = List.replicate k y := by simp [halfR]
      have h := hO.out
      rw [e] at h
      refine ⟨some ⟨w.heap.size, 0, none⟩, k, x, ?_, rfl, ?_⟩
      · simp
      · simpa using h
end Go.Proofs.YtignkkejkknddaaGreat
/- Lines: new ones.  -/
namespace Go.Proofs.YtignkkejkknddaaGreat
open Go.RowKit
set_option linter.unusedVariables false
set_option linter.unusedSimpArgs false

theorem NewCs.of {w w' : World} {A : Option Addr} {c n : Nat} {xs : List Cl} {B : Nat} {V : Value} (hV : V = .slice A n c) (hn : n = xs.length) (hb : Below w.heap.size w w') (hB : w.heap.size ≤ B) (h : Own encC 3 60 B w' (.slice A xs.length c) xs) : NewCs w xs (.returned V) w' := by
  subst hV hn
  obtain ⟨x, rfl⟩ := ext_of hb
  exact ⟨A, c, x, rfl, rfl, h.mono hB⟩
theorem NewL.at {w w' : World} {A : Option Addr} {c n : Nat} {xs : List Cl} {sz : Int} {B : Nat} {V : Value} (hV : V = lineV A n c sz) (hn : n = xs.length) (hb : Below w.heap.size w w') (hB : w.heap.size ≤ B) (h : Own encC 3 60 B w' (.slice A xs.length c) xs) : NewL w xs sz (.returned V) w' := by
  subst hV hn
  exact NewL.of hb hB h
theorem erased_c (w : World) : Calls Tryz.prog 64 #[] w (Gives w (.agg #[.int .i32 32, .int .u8 0, .bool false])) := by
  go_enter Tryz.func64, Tryz.ntmps64
  go_wp2
  go_returns
  exact ⟨rfl, by (repeat' (first | (with_reducible exact Below.refl _ _) | (with_reducible refine Below.alloc ?_ ?_ _) | (with_reducible refine below_ext ?_ ?_ _) | (with_reducible refine Below.drew ?_) | (with_reducible refine below_drewN ?_ _) | (with_reducible refine Below.setCell ?_ ?_ _) | go_size | (simp only [go_sem]; omega) | (simp [go_sem]; done) | (simp [go_sem]; omega)))⟩
set_option maxRecDepth 100000 in
set_option maxHeartbeats 4000000 in
theorem blank_c (n : Nat) (w : World) (hn : n ≤ 1000000) : Calls Tryz.prog 128 #[.int .i64 n] w (NewCs w (List.replicate n erC)) := by
  have RE := Lib.hid (fun A C w' rd => repeat_c A C erC n w' rd hn)
  go_enter Tryz.func128, Tryz.ntmps128
  go_wp2_with (first
    | (go_at_call 64; ((with_reducible refine (erased_c _).mono ?_); rintro _ _ hgets; obtain ⟨rfl, x1, rfl⟩ := hgets.get; clear hgets))
    | (go_at_call 138
       (with_reducible refine (RE.out _ _ _ ?_).mono ?_)
       · exact cell_new _ erC (by simp [go_sem])
       rintro _ _ ⟨A1, c1, x2, rfl, rfl, hO1⟩
       have hO := Lib.hid hO1
       clear hO1))
  go_returns
  exact NewCs.of (A := A1) (c := c1) (n := n) (by first | rfl | simp) (by simp) (by (repeat' (first | (with_reducible exact Below.refl _ _) | (with_reducible refine Below.alloc ?_ ?_ _) | (with_reducible refine below_ext ?_ ?_ _) | (with_reducible refine Below.drew ?_) | (with_reducible refine below_drewN ?_ _) | (with_reducible refine Below.setCell ?_ ?_ _) | go_size | (simp only [go_sem]; omega) | (simp [go_sem]; done) | (simp [go_sem]; omega)))) (by first | (simp [go_sem]; done) | (simp [go_sem]; omega)) hO.out
def newN (cols : Int) : Nat := (max 0 (min cols 500)).toNat
set_option maxRecDepth 100000 in
set_option maxHeartbeats 4000000 in
theorem new_l (cols : Int) (w : World) : Calls Tryz.prog 110 #[.int .i64 cols] w (NewL w (List.replicate (newN cols) erC) 0) := by
  have e : max 0 (min cols 500) = ((newN cols : Nat) : Int) := by unfold newN; omega
  have hn : newN cols ≤ 500 := by unfold newN; omega
  have BL := Lib.hid (fun w' => blank_c (newN cols) w' (by omega))
  generalize newN cols = n at e hn BL ⊢
  go_enter Tryz.func110, Tryz.ntmps110
  go_wp2_with (first
    | (go_at_call 128
       (with_reducible refine (BL.out _).mono ?_)
       rintro _ _ ⟨A1, c1, x2, rfl, rfl, hO1⟩
       have hO := Lib.hid hO1
       clear hO1))
  go_returns
  exact NewL.at (A := A1) (c := c1) (n := n) rfl (by simp) (by (repeat' (first | (with_reducible exact Below.refl _ _) | (with_reducible refine Below.alloc ?_ ?_ _) | (with_reducible refine below_ext ?_ ?_ _) | (with_reducible refine Below.drew ?_) | (with_reducible refine below_drewN ?_ _) | (with_reducible refine Below.setCell ?_ ?_ _) | go_size | (simp only [go_sem]; omega) | (simp [go_sem]; done) | (simp [go_sem]; omega)))) (by first | (simp [go_sem]; done) | (simp [go_sem]; omega)) (own_swap (w := w) (o := .cells #[.slice none 0 0, .int .i64 0] 67) (by simpa [go_sem] using hO.out))
end Go.Proofs.YtignkkejkknddaaGreat
/- Lines: are they alike? what the reference counts.  -/
namespace Go.Proofs.YtignkkejkknddaaGreat
open Go.RowKit
set_option linter.unusedVariables false
set_option linter.unusedSimpArgs false

attribute [local go_sem ↓] cell_neq
set_option maxHeartbeats 2000000 in
theorem equal_cells (a b : Option Addr) (c d : Nat) (xs ys : List Cl) (w : World) (hx : Rd encC 3 w a xs) (hy : Rd encC 3 w b ys) (hm : xs.length ≤ 9223372036854775807) (hn : ys.length ≤ 9223372036854775807) :
    Calls Tryz.prog 109 #[.slice a xs.length c, .slice b ys.length d] w (Gives w (.bool (decide (xs = ys)))) := by
  have X := Lib.hid hx
  have Y := Lib.hid hy
  clear hx hy
  by_cases hl : xs.length = ys.length
  · go_enter Tryz.func109, Tryz.ntmps109
    have HL := Lib.hid hl
    rw [← hl]
    clear hl
    go_wp2
    go_loopw [13] (fun iv wr => ∃ (j : Nat) (x : More), j ≤ xs.length ∧ iv = .int .i64 j ∧ wr = ext w x ∧ Hid (∀ i, i < j → xs[i]? = ys[i]?)) (fun iv _ => xs.length - (intOf iv).toNat)
    case atStart => exact ⟨0, ⟨#[], w.drawn⟩, by omega, rfl, by simp [ext], Lib.hid (fun i hi => by omega)⟩
    case round =>
      obtain ⟨j, x, hj, rfl, rfl, hr⟩ := hrel
      by_cases hlt : j < xs.length
      · have hlt2 : j < ys.length := by rw [← HL.out]; exact hlt
        obtain ⟨b1, o1, rfl, hb1, e0, e1, e2⟩ := X.out.cell3 hlt
        obtain ⟨b2, o2, rfl, hb2, f0, f1, f2⟩ := Y.out.cell3 hlt2
        have hx1 := Lib.hid (List.getElem?_eq_getElem hlt)
        have hy1 := Lib.hid (List.getElem?_eq_getElem hlt2)
        generalize xs[j] = y at e0 e1 e2 hx1
        generalize ys[j] = z at f0 f1 f2 hy1
        obtain ⟨yg, yr, yk⟩ := y
        obtain ⟨zg, zr, zk⟩ := z
        simp only at e0 e1 e2 f0 f1 f2
        by_cases he : (⟨yg, yr, yk⟩ : Cl) = ⟨zg, zr, zk⟩
        · have he2 := eqC_t he
          have hr2 := Lib.hid (fun i (hi : i < j + 1) => by
            rcases Nat.lt_or_ge i j with h | h
            · exact hr.out i h
            · obtain rfl : i = j := by omega
              rw [hx1.out, hy1.out, he])
          clear he hlt2
          go_wp2
          (refine wp_region_free (by kernel_rfl) (by kernel_rfl) ?_)
          repeat (go_big_quiet_step (fail))
          refine wpQuiet_nil ?_; rintro _ ⟨x2, rfl⟩
          go_wp2
          go_roundw
          case rel => exact ⟨j + 1, _, by omega, by go_num, ext_ext _ _ _, Lib.hid hr2.out⟩
          case measure => simp [intOf]; omega
        · have he2 := eqC_f he
          have hne := Lib.hid (show decide (xs = ys) = false by
            simp only [decide_eq_false_iff_not]
            intro h
            rw [h] at hx1
            exact he (Option.some.inj (hx1.out.symm.trans hy1.out)))
          clear he hlt2
          go_wp2
          (refine wp_region_free (by kernel_rfl) (by kernel_rfl) ?_)
          repeat (go_big_quiet_step (fail))
          refine wpQuiet_nil ?_; rintro _ ⟨x2, rfl⟩
          go_wp2
          go_returns
          rw [hne.out]
          exact ⟨rfl, by (repeat' (first | (with_reducible exact Below.refl _ _) | (with_reducible refine Below.alloc ?_ ?_ _) | (with_reducible refine below_ext ?_ ?_ _) | (with_reducible refine Below.drew ?_) | (with_reducible refine below_drewN ?_ _) | (with_reducible refine Below.setCell ?_ ?_ _) | go_size | (simp only [go_sem]; omega) | (simp [go_sem]; done) | (simp [go_sem]; omega)))⟩
      · have hq := Lib.hid (show decide (xs = ys) = true by
          simp only [decide_eq_true_eq]
          exact eq_of_takeC HL.out j (by omega) hr.out)
        go_wp2
        go_returns
        rw [hq.out]
        exact ⟨rfl, by (repeat' (first | (with_reducible exact Below.refl _ _) | (with_reducible refine Below.alloc ?_ ?_ _) | (with_reducible refine below_ext ?_ ?_ _) | (with_reducible refine Below.drew ?_) | (with_reducible refine below_drewN ?_ _) | (with_reducible refine Below.setCell ?_ ?_ _) | go_size | (simp only [go_sem]; omega) | (simp [go_sem]; done) | (simp [go_sem]; omega)))⟩
  · have hne := Lib.hid (show decide (xs = ys) = false by
      simp only [decide_eq_false_iff_not]
      intro h
      exact hl (by rw [h]))
    have q1 : ((xs.length : Int) != (ys.length : Int)) = true := by simp; omega
    go_enter Tryz.func109, Tryz.ntmps109
    go_wp2
    go_returns
    rw [hne.out]
    exact ⟨rfl, by (repeat' (first | (with_reducible exact Below.refl _ _) | (with_reducible refine Below.alloc ?_ ?_ _) | (with_reducible refine below_ext ?_ ?_ _) | (with_reducible refine Below.drew ?_) | (with_reducible refine below_drewN ?_ _) | (with_reducible refine Below.setCell ?_ ?_ _) | go_size | (simp only [go_sem]; omega) | (simp [go_sem]; done) | (simp [go_sem]; omega)))⟩
/-- are two lines alike? -/
def sameL (xs : List Cl) (s : Int) (ys : List Cl) (t : Int) : Bool := decide (s = t) && decide (xs = ys)
set_option maxRecDepth 100000 in
theorem same_l (a b : Option Addr) (c d : Nat) (xs ys : List Cl) (s t : Int) (w : World) (hx : Rd encC 3 w a xs) (hy : Rd encC 3 w b ys) (hm : xs.length ≤ 9223372036854775807) (hn : ys.length ≤ 9223372036854775807) :
    Calls Tryz.prog 80 #[lineV a xs.length c s, lineV b ys.length d t] w (Gives w (.bool (sameL xs s ys t))) := by
  have E := Lib.hid (fun w' h1 h2 => equal_cells a b c d xs ys w' h1 h2 hm hn)
  have X := Lib.hid hx
  have Y := Lib.hid hy
  clear hx hy
  unfold sameL
  by_cases h : s = t
  · subst h
    simp only [decide_true, Bool.true_and]
    go_enter Tryz.func80, Tryz.ntmps80
    go_wp2_with (go_at_call 109; (with_reducible refine (E.out _ ?_ ?_).mono ?_); (focus ((repeat (first | (with_reducible exact X.out) | (with_reducible exact X) | (with_reducible refine Rd.ext ?_ _) | (with_reducible refine Rd.alloc ?_ _) | (with_reducible refine Rd.drew ?_))); done)); (focus ((repeat (first | (with_reducible exact Y.out) | (with_reducible exact Y) | (with_reducible refine Rd.ext ?_ _) | (with_reducible refine Rd.alloc ?_ _) | (with_reducible refine Rd.drew ?_))); done)); rintro _ _ hgets; obtain ⟨rfl, x1, rfl⟩ := hgets.get; clear hgets)
    go_returns
    exact ⟨rfl, by (repeat' (first | (with_reducible exact Below.refl _ _) | (with_reducible refine Below.alloc ?_ ?_ _) | (with_reducible refine below_ext ?_ ?_ _) | (with_reducible refine Below.drew ?_) | (with_reducible refine below_drewN ?_ _) | (with_reducible refine Below.setCell ?_ ?_ _) | go_size | (simp only [go_sem]; omega) | (simp [go_sem]; done) | (simp [go_sem]; omega)))⟩
  · have q : (s == t) = false := by simpa using h
    simp only [h, decide_false, Bool.false_and]
    go_enter Tryz.func80, Tryz.ntmps80
    go_wp2
    go_returns
    exact ⟨rfl, by (repeat' (first | (with_reducible exact Below.refl _ _) | (with_reducible refine Below.alloc ?_ ?_ _) | (with_reducible refine below_ext ?_ ?_ _) | (with_reducible refine Below.drew ?_) | (with_reducible refine below_drewN ?_ _) | (with_reducible refine Below.setCell ?_ ?_ _) | go_size | (simp only [go_sem]; omega) | (simp [go_sem]; done) | (simp [go_sem]; omega)))⟩
end Go.Proofs.YtignkkejkknddaaGreat
/- Lines: what the reference asks of a column; sizes.  -/
namespace Go.Proofs.YtignkkejkknddaaGreat
open Go.RowKit
set_option linter.unusedVariables false
set_option linter.unusedSimpArgs false

def inS (n : Nat) (i f t : Int) : Bool := decide (0 ≤ i ∧ i < n ∧ f ≤ i ∧ i < t)
set_option maxRecDepth 100000 in
theorem in_s (A : Option Addr) (n C : Nat) (sz i f t : Int) (w : World) (hn : n ≤ 9223372036854775807) : Calls Tryz.prog 117 #[lineV A n C sz, .int .i64 i, .int .i64 f, .int .i64 t] w (Gives w (.bool (inS n i f t))) := by
  by_cases h1 : 0 ≤ i
  · have q1 : decide (0 ≤ i) = true := by simpa using h1
    by_cases h2 : i < n
    · have q2 : decide (i < (n : Int)) = true := by simpa using h2
      by_cases h3 : f ≤ i
      · have q3 : decide (f ≤ i) = true := by simpa using h3
        rw [show inS n i f t = decide (i < t) by simp [inS, h1, h2, h3]]
        clear h1 h2 h3
        go_enter Tryz.func117, Tryz.ntmps117
        go_wp2
        go_returns
        exact ⟨rfl, by (repeat' (first | (with_reducible exact Below.refl _ _) | (with_reducible refine Below.alloc ?_ ?_ _) | (with_reducible refine below_ext ?_ ?_ _) | (with_reducible refine Below.drew ?_) | (with_reducible refine below_drewN ?_ _) | (with_reducible refine Below.setCell ?_ ?_ _) | go_size | (simp only [go_sem]; omega) | (simp [go_sem]; done) | (simp [go_sem]; omega)))⟩
      · have q3 : decide (f ≤ i) = false := by simpa using h3
        rw [show inS n i f t = false by simp [inS, h3]]
        clear h1 h2 h3
        go_enter Tryz.func117, Tryz.ntmps117
        go_wp2
        go_returns
        exact ⟨rfl, by (repeat' (first | (with_reducible exact Below.refl _ _) | (with_reducible refine Below.alloc ?_ ?_ _) | (with_reducible refine below_ext ?_ ?_ _) | (with_reducible refine Below.drew ?_) | (with_reducible refine below_drewN ?_ _) | (with_reducible refine Below.setCell ?_ ?_ _) | go_size | (simp only [go_sem]; omega) | (simp [go_sem]; done) | (simp [go_sem]; omega)))⟩
    · have q2 : decide (i < (n : Int)) = false := by simpa using h2
      rw [show inS n i f t = false by simp [inS, h2]]
      clear h1 h2
      go_enter Tryz.func117, Tryz.ntmps117
      go_wp2
      go_returns
      exact ⟨rfl, by (repeat' (first | (with_reducible exact Below.refl _ _) | (with_reducible refine Below.alloc ?_ ?_ _) | (with_reducible refine below_ext ?_ ?_ _) | (with_reducible refine Below.drew ?_) | (with_reducible refine below_drewN ?_ _) | (with_reducible refine Below.setCell ?_ ?_ _) | go_size | (simp only [go_sem]; omega) | (simp [go_sem]; done) | (simp [go_sem]; omega)))⟩
  · have q1 : decide (0 ≤ i) = false := by simpa using h1
    rw [show inS n i f t = false by simp [inS, h1]]
    clear h1
    go_enter Tryz.func117, Tryz.ntmps117
    go_wp2
    go_returns
    exact ⟨rfl, by (repeat' (first | (with_reducible exact Below.refl _ _) | (with_reducible refine Below.alloc ?_ ?_ _) | (with_reducible refine below_ext ?_ ?_ _) | (with_reducible refine Below.drew ?_) | (with_reducible refine below_drewN ?_ _) | (with_reducible refine Below.setCell ?_ ?_ _) | go_size | (simp only [go_sem]; omega) | (simp [go_sem]; done) | (simp [go_sem]; omega)))⟩
def clampR (n lo hi : Int) : Int := if n < lo then lo else if n > hi then hi else n
set_option maxRecDepth 100000 in
theorem clamp_l (n lo hi : Int) (w : World) : Calls Tryz.prog 34 #[.int .i64 n, .int .i64 lo, .int .i64 hi] w (Gives w (.int .i64 (clampR n lo hi))) := by
  unfold clampR
  by_cases h1 : n < lo
  · rw [if_pos h1]
    go_enter Tryz.func34, Tryz.ntmps34
    go_wp2
    go_returns
    exact ⟨rfl, by (repeat' (first | (with_reducible exact Below.refl _ _) | (with_reducible refine Below.alloc ?_ ?_ _) | (with_reducible refine below_ext ?_ ?_ _) | (with_reducible refine Below.drew ?_) | (with_reducible refine below_drewN ?_ _) | (with_reducible refine Below.setCell ?_ ?_ _) | go_size | (simp only [go_sem]; omega) | (simp [go_sem]; done) | (simp [go_sem]; omega)))⟩
  · rw [if_neg h1]
    by_cases h2 : n > hi
    · rw [if_pos h2]
      go_enter Tryz.func34, Tryz.ntmps34
      go_wp2
      go_returns
      exact ⟨rfl, by (repeat' (first | (with_reducible exact Below.refl _ _) | (with_reducible refine Below.alloc ?_ ?_ _) | (with_reducible refine below_ext ?_ ?_ _) | (with_reducible refine Below.drew ?_) | (with_reducible refine below_drewN ?_ _) | (with_reducible refine Below.setCell ?_ ?_ _) | go_size | (simp only [go_sem]; omega) | (simp [go_sem]; done) | (simp [go_sem]; omega)))⟩
    · rw [if_neg h2]
      go_enter Tryz.func34, Tryz.ntmps34
      go_wp2
      go_returns
      exact ⟨rfl, by (repeat' (first | (with_reducible exact Below.refl _ _) | (with_reducible refine Below.alloc ?_ ?_ _) | (with_reducible refine below_ext ?_ ?_ _) | (with_reducible refine Below.drew ?_) | (with_reducible refine below_drewN ?_ _) | (with_reducible refine Below.setCell ?_ ?_ _) | go_size | (simp only [go_sem]; omega) | (simp [go_sem]; done) | (simp [go_sem]; omega)))⟩
def sizeI (s : Int) : Int := if s < 0 ∨ 3 < s then 0 else s
set_option maxRecDepth 100000 in
set_option maxHeartbeats 4000000 in
theorem sized_l (A : Option Addr) (C : Nat) (sz s : Int) (xs : List Cl) (w : World) (rd : Rd encC 3 w A xs) (hC : A = none → C = 0) (hm : xs.length * 8 ≤ 140737488355328) (h63 : xs.length ≤ maxLen) :
    Calls Tryz.prog 85 #[lineV A xs.length C sz, .int .i64 s] w (NewL w xs (sizeI s)) := by
  have CP := Lib.hid (fun w' (h : Rd encC 3 w' A xs) => copy_l A C sz xs w' h hC hm h63)
  have X := Lib.hid rd
  clear rd hC hm h63
  have hs : (s < 0 ∧ sizeI s = 0) ∨ (¬ s < 0 ∧ 3 < s ∧ sizeI s = 0) ∨ (¬ s < 0 ∧ ¬ 3 < s ∧ sizeI s = s) := by unfold sizeI; split <;> omega
  rcases hs with ⟨h1, e⟩ | ⟨h1, h2, e⟩ | ⟨h1, h2, e⟩
  · rw [e]
    have q1 : decide (s < 0) = true := by simpa using h1
    clear e h1
    go_enter Tryz.func85, Tryz.ntmps85
    go_wp2_with (first
      | (go_at_call 62
         (with_reducible refine (CP.out _ (by repeat (first | exact X.out | exact X | refine Rd.ext ?_ _ | refine Rd.alloc ?_ _ | refine Rd.drew ?_))).mono ?_)
         rintro _ _ ⟨A1, c1, x1, rfl, rfl, hO1⟩
         have hO := Lib.hid hO1
         clear hO1))
    go_returns
    exact NewL.of (by (repeat' (first | (with_reducible exact Below.refl _ _) | (with_reducible refine Below.alloc ?_ ?_ _) | (with_reducible refine below_ext ?_ ?_ _) | (with_reducible refine Below.drew ?_) | (with_reducible refine below_drewN ?_ _) | (with_reducible refine Below.setCell ?_ ?_ _) | go_size | (simp only [go_sem]; omega) | (simp [go_sem]; done) | (simp [go_sem]; omega)))) (by first | (simp [go_sem]; done) | (simp [go_sem]; omega)) ((own_swap (w := w.alloc (.cells #[.slice A xs.length C, .int .i64 sz] 67)) (o := .cells #[.slice none 0 0, .int .i64 0] 67) (by simpa [go_sem] using hO.out)).alloc _)
  · rw [e]
    have q1 : decide (s < 0) = false := by simpa using h1
    have q2 : decide (3 < s) = true := by simpa using h2
    clear e h1 h2
    go_enter Tryz.func85, Tryz.ntmps85
    go_wp2_with (first
      | (go_at_call 62
         (with_reducible refine (CP.out _ (by repeat (first | exact X.out | exact X | refine Rd.ext ?_ _ | refine Rd.alloc ?_ _ | refine Rd.drew ?_))).mono ?_)
         rintro _ _ ⟨A1, c1, x1, rfl, rfl, hO1⟩
         have hO := Lib.hid hO1
         clear hO1))
    go_returns
    exact NewL.of (by (repeat' (first | (with_reducible exact Below.refl _ _) | (with_reducible refine Below.alloc ?_ ?_ _) | (with_reducible refine below_ext ?_ ?_ _) | (with_reducible refine Below.drew ?_) | (with_reducible refine below_drewN ?_ _) | (with_reducible refine Below.setCell ?_ ?_ _) | go_size | (simp only [go_sem]; omega) | (simp [go_sem]; done) | (simp [go_sem]; omega)))) (by first | (simp [go_sem]; done) | (simp [go_sem]; omega)) ((own_swap (w := w.alloc (.cells #[.slice A xs.length C, .int .i64 sz] 67)) (o := .cells #[.slice none 0 0, .int .i64 0] 67) (by simpa [go_sem] using hO.out)).alloc _)
  · rw [e]
    have q1 : decide (s < 0) = false := by simpa using h1
    have q2 : decide (3 < s) = false := by simpa using h2
    clear e h1 h2
    go_enter Tryz.func85, Tryz.ntmps85
    go_wp2_with (first
      | (go_at_call 62
         (with_reducible refine (CP.out _ (by repeat (first | exact X.out | exact X | refine Rd.ext ?_ _ | refine Rd.alloc ?_ _ | refine Rd.drew ?_))).mono ?_)
         rintro _ _ ⟨A1, c1, x1, rfl, rfl, hO1⟩
         have hO := Lib.hid hO1
         clear hO1))
    go_returns
    exact NewL.of (by (repeat' (first | (with_reducible exact Below.refl _ _) | (with_reducible refine Below.alloc ?_ ?_ _) | (with_reducible refine below_ext ?_ ?_ _) | (with_reducible refine Below.drew ?_) | (with_reducible refine below_drewN ?_ _) | (with_reducible refine Below.setCell ?_ ?_ _) | go_size | (simp only [go_sem]; omega) | (simp [go_sem]; done) | (simp [go_sem]; omega)))) (by first | (simp [go_sem]; done) | (simp [go_sem]; omega)) ((own_swap (w := w.alloc (.cells #[.slice A xs.length C, .int .i64 sz] 67)) (o := .cells #[.slice none 0 0, .int .i64 0] 67) (by simpa [go_sem] using hO.out)).alloc _)
end Go.Proofs.YtignkkejkknddaaGreat
