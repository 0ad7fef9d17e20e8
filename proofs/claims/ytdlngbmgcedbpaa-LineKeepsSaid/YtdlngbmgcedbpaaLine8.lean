/- Lines: a span's cells, of both. -/
import Derived.Test.YtdlngbmgcedbpaaLine7
namespace Go.Proofs.Ytdlngbmgcedbpaa
open Go.RowKit
set_option linter.unusedVariables false
set_option linter.unusedSimpArgs false

/-- the cells of a span among the first j -/
def cutTo (xs : List Cl) (f t : Int) : Nat → List Cl
  | 0 => []
  | j + 1 => cutTo xs f t j ++ (if inS xs.length j f t then [xs.getD j noC] else [])
theorem cutTo_len (xs : List Cl) (f t : Int) : ∀ j, (cutTo xs f t j).length ≤ j
  | 0 => Nat.le_refl _
  | j + 1 => by
    have := cutTo_len xs f t j
    simp only [cutTo, List.length_append]
    split
    · simp only [List.length_singleton]; omega
    · simp only [List.length_nil]; omega
theorem cutTo_eq (xs : List Cl) (f t : Int) : ∀ j, j ≤ xs.length → cutTo xs f t j = ((xs.take (min t j).toNat).drop (max f 0).toNat)
  | 0, _ => by simp [cutTo]; omega
  | j + 1, hj => by
    rw [cutTo, cutTo_eq xs f t j (by omega)]
    unfold inS
    by_cases h : 0 ≤ (j : Int) ∧ (j : Int) < xs.length ∧ f ≤ j ∧ (j : Int) < t
    · simp only [h, and_self, decide_true, if_true]
      rw [show (min t (j : Int)).toNat = j by omega, show (min t ((j + 1 : Nat) : Int)).toNat = j + 1 by omega, List.take_succ_eq_append_getElem (by omega : j < xs.length), List.drop_append_of_le_length (by simp; omega)]
      congr 1
      rw [List.getD_eq_getElem?_getD, List.getElem?_eq_getElem (by omega : j < xs.length)]
      rfl
    · simp only [h, decide_false, Bool.false_eq_true, if_false, List.append_nil]
      by_cases h2 : t ≤ j
      · rw [show (min t ((j + 1 : Nat) : Int)) = min t (j : Int) by omega]
      · have h3 : ¬ f ≤ j := by omega
        rw [List.drop_eq_nil_of_le (by simp; omega), List.drop_eq_nil_of_le (by simp; omega)]
set_option maxRecDepth 100000 in
set_option maxHeartbeats 4000000 in
theorem cut_r (A : Option Addr) (C : Nat) (sz f t : Int) (xs : List Cl) (w : World) (rd : Rd encC 3 w A xs) (hn : xs.length ≤ 1000000) : Calls Try.prog 51 #[lineV A xs.length C sz, .int .i64 f, .int .i64 t] w (NewCs w (cutTo xs f t xs.length)) := by
  have IN := Lib.hid (fun i w' => in_s A xs.length C sz i f t w' (by omega))
  have X := Lib.hid rd
  clear rd
  go_enter Try.func51, Try.ntmps51
  go_wp2
  go_loopw [7, 8] (fun ov iv wr => ∃ (j : Nat) (B : Option Addr) (bc : Nat), j ≤ xs.length ∧ iv = .int .i64 j ∧ ov = .slice B (cutTo xs f t j).length bc ∧ Below (w.heap.size + 1) (w.alloc (.cells #[.slice A xs.length C, .int .i64 sz] 70)) wr ∧ Hid (Own encC 3 87 (w.heap.size + 1) wr (.slice B (cutTo xs f t j).length bc) (cutTo xs f t j))) (fun _ iv _ => xs.length - (intOf iv).toNat)
  case atStart => exact ⟨0, none, 0, by omega, rfl, rfl, Below.refl _ _, Lib.hid (Own.nil _ _ _ _ _)⟩
  case round =>
    obtain ⟨j, B, bc, hj, rfl, rfl, hB, hO⟩ := hrel
    obtain ⟨x, rfl⟩ := ext_of (w := w.alloc (.cells #[.slice A xs.length C, .int .i64 sz] 70)) (by simpa using hB)
    clear hB
    have eU : (w.alloc (.cells #[.slice A xs.length C, .int .i64 sz] 70)).heap.size = w.heap.size + 1 := by simp [go_sem]
    by_cases hlt : j < xs.length
    · obtain ⟨b1, o1, rfl, hb1, d0, d1, d2⟩ := X.out.cell3 hlt
      have hs := Lib.hid (show cutTo xs f t (j + 1) = cutTo xs f t j ++ (if inS xs.length j f t then [xs[j]] else []) by rw [cutTo, List.getD_eq_getElem?_getD, List.getElem?_eq_getElem hlt]; rfl)
      have hl := cutTo_len xs f t j
      generalize xs[j] = y at d0 d1 d2 hs
      obtain ⟨yg, yr, yk⟩ := y
      simp only at d0 d1 d2
      generalize cutTo xs f t j = L at hO hs hl
      rcases Bool.eq_false_or_eq_true (inS xs.length j f t) with hin | hin
      · have I1 := Lib.hid (fun w' => IN.out j w')
        rw [hin] at hs I1
        go_wp2_with (first
          | (go_at_call 99; ((with_reducible refine (I1.out _).mono ?_); rintro _ _ hgets; obtain ⟨rfl, x2, rfl⟩ := hgets.get; clear hgets))
          | (at_builtin
             refine append_rd (U := w.alloc (.cells #[.slice (some ⟨b1, o1, none⟩) xs.length C, .int .i64 sz] 70)) (.tmp 21) (.tmp 27) 68 87 _ 8 rfl rfl Try.underlying68 cell_info rfl (by omega) encC_len encC_one L [⟨yg, yr, yk⟩] _ _ _ rfl rfl ?_ (by rw [eU]; exact (hO.out.ext _).alloc _) (cell_new _ ⟨yg, yr, yk⟩ (by simp [go_sem])) (by first | (simp [maxLen]; done) | (simp [maxLen]; omega)) (by first | (simp; done) | (simp; omega)) ?_
             · rw [eU]
               (repeat' (first | (with_reducible exact Below.refl _ _) | (with_reducible refine Below.alloc ?_ ?_ _) | (with_reducible refine below_ext ?_ ?_ _) | (with_reducible refine Below.drew ?_) | (with_reducible refine below_drewN ?_ _) | (with_reducible refine Below.setCell ?_ ?_ _) | go_size | (simp only [go_sem]; omega) | (simp [go_sem]; done) | (simp [go_sem]; omega)))
             intro A' c' x3 zs hz1 hO1
             have hO3 := Lib.hid hO1
             have hz := Lib.hid hz1
             clear hO1 hz1))
        go_roundw
        case rel =>
          have hz2 : zs = cutTo xs f t (j + 1) := by rw [hz.out, hs.out]; simp
          subst hz2
          refine ⟨j + 1, A', c', by omega, by go_num, rfl, by (repeat' (first | (with_reducible exact Below.refl _ _) | (with_reducible refine Below.alloc ?_ ?_ _) | (with_reducible refine below_ext ?_ ?_ _) | (with_reducible refine Below.drew ?_) | (with_reducible refine below_drewN ?_ _) | (with_reducible refine Below.setCell ?_ ?_ _) | go_size | (simp only [go_sem]; omega) | (simp [go_sem]; done) | (simp [go_sem]; omega))), ?_⟩
          have := hO3.out
          rw [eU] at this
          exact Lib.hid this
        case measure => first | (simp [intOf]; done) | (simp [intOf]; omega)
      · have I1 := Lib.hid (fun w' => IN.out j w')
        rw [hin] at hs I1
        go_wp2_with (go_at_call 99; ((with_reducible refine (I1.out _).mono ?_); rintro _ _ hgets; obtain ⟨rfl, x2, rfl⟩ := hgets.get; clear hgets))
        go_roundw
        case rel =>
          have hz2 : L = cutTo xs f t (j + 1) := by rw [hs.out]; simp
          subst hz2
          exact ⟨j + 1, B, bc, by omega, by go_num, rfl, by (repeat' (first | (with_reducible exact Below.refl _ _) | (with_reducible refine Below.alloc ?_ ?_ _) | (with_reducible refine below_ext ?_ ?_ _) | (with_reducible refine Below.drew ?_) | (with_reducible refine below_drewN ?_ _) | (with_reducible refine Below.setCell ?_ ?_ _) | go_size | (simp only [go_sem]; omega) | (simp [go_sem]; done) | (simp [go_sem]; omega))), Lib.hid (hO.out.ext x2)⟩
        case measure => first | (simp [intOf]; done) | (simp [intOf]; omega)
    · obtain rfl : j = xs.length := by omega
      have hlen := hO.out.1
      go_wp2
      go_returns
      obtain ⟨x5, hx5⟩ := ext_of (show Below w.heap.size w (ext (w.alloc (.cells #[.slice A xs.length C, .int .i64 sz] 70)) x) by (repeat' (first | (with_reducible exact Below.refl _ _) | (with_reducible refine Below.alloc ?_ ?_ _) | (with_reducible refine below_ext ?_ ?_ _) | (with_reducible refine Below.drew ?_) | (with_reducible refine below_drewN ?_ _) | (with_reducible refine Below.setCell ?_ ?_ _) | go_size | (simp only [go_sem]; omega) | (simp [go_sem]; done) | (simp [go_sem]; omega))))
      refine ⟨B, bc, x5, ?_, hx5, ?_⟩
      · first | rfl | simp [go_sem]
      · rw [← hx5]; exact hO.out.mono (B' := w.heap.size) (by omega)
end Go.Proofs.Ytdlngbmgcedbpaa
