/- Spare: a copy with tinted room behind it. -/
import Derived.Test.YtpahcgappaifnaaClk
namespace Go.Proofs.Ytpahcgappaifnaa
open Go.RowKit
set_option linter.unusedVariables false
set_option linter.unusedSimpArgs false

def spAt (xs : List Cl) (i : Nat) : Cl := if h : i < xs.length then xs[i] else ⟨900 + i, 3, false⟩
def spTo (xs : List Cl) (j : Nat) : List Cl := (List.range (xs.length + 9)).map (fun i => if i < j then spAt xs i else noC)
/-- the whole that Spare makes -/
def spare (xs : List Cl) : List Cl := (List.range (xs.length + 9)).map (spAt xs)
theorem spTo_len (xs : List Cl) (j : Nat) : (spTo xs j).length = xs.length + 9 := by simp [spTo]
theorem spTo_zero (xs : List Cl) : spTo xs 0 = List.replicate (xs.length + 9) noC := by
  apply List.ext_getElem?
  intro i
  rcases Nat.lt_or_ge i (xs.length + 9) with h | h
  · simp [spTo, h]
  · simp [spTo, h]
theorem spTo_set (xs : List Cl) (j : Nat) : (spTo xs j).set j (spAt xs j) = spTo xs (j + 1) := by
  apply List.ext_getElem?
  intro i
  rw [List.getElem?_set]
  rcases Nat.lt_or_ge i (xs.length + 9) with h | h
  · by_cases hij : j = i
    · subst hij
      rw [if_pos rfl]
      simp [spTo, h]
    · rw [if_neg hij]
      simp only [spTo, List.getElem?_map, List.getElem?_range h, Option.map_some]
      congr 1
      by_cases h1 : i < j
      · rw [if_pos h1, if_pos (by omega)]
      · rw [if_neg h1, if_neg (by omega)]
  · by_cases hij : j = i
    · subst hij
      rw [if_pos rfl]
      simp [spTo, h]
    · rw [if_neg hij]
      simp [spTo, h]
theorem spTo_end (xs : List Cl) : spTo xs (xs.length + 9) = spare xs := by
  apply List.map_congr_left
  intro i hi
  rw [if_pos (List.mem_range.1 hi)]
theorem spare_len (xs : List Cl) : (spare xs).length = xs.length + 9 := by simp [spare]

set_option maxRecDepth 100000 in
set_option maxHeartbeats 4000000 in
theorem spare_c (a : Option Addr) (c : Nat) (xs : List Cl) (w : World) (hx : Rd encC 3 w a xs) (hm : xs.length ≤ 4000) :
    Calls Try.prog 22 #[.slice a xs.length c] w (fun e w' => ∃ x, e = .returned (.tuple #[.slice (some ⟨w.heap.size, 0, none⟩) xs.length (xs.length + 9), .slice (some ⟨w.heap.size, 0, none⟩) (xs.length + 9) (xs.length + 9)]) ∧ w' = ext w x ∧
      Own encC 3 41 w.heap.size (ext w x) (.slice (some ⟨w.heap.size, 0, none⟩) (xs.length + 9) (xs.length + 9)) (spare xs)) := by
  have X := Lib.hid hx
  obtain ⟨x0, hrun, hO⟩ := make_cells w (xs.length + 9) (by omega)
  have hrun' : (Instr.makeSlice 54 (.int .i64 ((xs.length : Int) + 9)) (.int .i64 ((xs.length : Int) + 9))).run Try.prog w = .ok (.slice (some ⟨w.heap.size, 0, none⟩) (xs.length + 9) (xs.length + 9)) (ext w x0) := by simpa using hrun
  rw [← spTo_zero] at hO
  replace hO := Lib.hid hO
  clear hrun hx
  go_enter Try.func22, Try.ntmps22
  go_wp2
  go_loopw [5] (fun iv wr => ∃ j : Nat, j ≤ xs.length + 9 ∧ iv = .int .i64 j ∧ Below w.heap.size w wr ∧ Hid (Own encC 3 41 w.heap.size wr (.slice (some ⟨w.heap.size, 0, none⟩) (xs.length + 9) (xs.length + 9)) (spTo xs j))) (fun iv _ => xs.length + 9 - (intOf iv).toNat)
  case atStart => exact ⟨0, by omega, rfl, by (repeat' (first | (with_reducible exact Below.refl _ _) | (with_reducible refine Below.alloc ?_ ?_ _) | (with_reducible refine below_ext ?_ ?_ _) | (with_reducible refine Below.drew ?_) | (with_reducible refine below_drewN ?_ _) | (with_reducible refine Below.setCell ?_ ?_ _) | go_size | (simp only [go_sem]; omega) | (simp [go_sem]; done) | (simp [go_sem]; omega))), hO⟩
  case round =>
    obtain ⟨j, hj, rfl, hB, hW⟩ := hrel
    obtain ⟨x', rfl⟩ := ext_of hB
    clear hB hO
    by_cases hlt : j < xs.length + 9
    · obtain ⟨g, hge, hg1, hg2, d0, d1, d2, hfz⟩ := own_at hW.out j (by rw [spTo_len]; exact hlt)
      injection hge with hge
      injection hge with hge
      subst hge
      have f0 := hfz (j * 3)
      have f1 := hfz (j * 3 + 1)
      have f2 := hfz (j * 3 + 2)
      clear hfz hg1
      rw [size_ext] at hg2
      have hl := Lib.hid (show j < (spTo xs j).length by rw [spTo_len]; exact hlt)
      have T1 := Lib.hid (own_set3 hW.out j hl.out ⟨900 + j, 3, false⟩)
      by_cases hin : j < xs.length
      · obtain ⟨b1, o1, rfl, hb1, e0, e1, e2⟩ := X.out.cell3 hin
        have T2 := Lib.hid (own_set3 T1.out j (by rw [List.length_set]; exact hl.out) xs[j])
        rw [List.set_set, show xs[j] = spAt xs j by simp [spAt, hin], spTo_set] at T2
        have hsp := Lib.hid (show spAt xs j = xs[j] by simp [spAt, hin])
        generalize spAt xs j = y at T2 hsp
        rw [← hsp.out] at e0 e1 e2
        obtain ⟨yg, yr, yk⟩ := y
        simp only at e0 e1 e2 T2
        generalize (spTo xs j)[j] = z at d0 d1 d2
        have hne : ¬ b1 = w.heap.size := by omega
        have hne2 : ¬ w.heap.size = b1 := by omega
        go_wp2
        exact ⟨⟨j + 1, by omega, by go_num, by (repeat' (first | (with_reducible exact Below.refl _ _) | (with_reducible refine Below.alloc ?_ ?_ _) | (with_reducible refine below_ext ?_ ?_ _) | (with_reducible refine Below.drew ?_) | (with_reducible refine below_drewN ?_ _) | (with_reducible refine Below.setCell ?_ ?_ _) | go_size | (simp only [go_sem]; omega) | (simp [go_sem]; done) | (simp [go_sem]; omega))), T2⟩, by simp [intOf]; omega⟩
      · rw [show (spTo xs j).set j (⟨900 + j, 3, false⟩ : Cl) = spTo xs (j + 1) by rw [← spTo_set]; simp [spAt, hin]] at T1
        generalize (spTo xs j)[j] = z at d0 d1 d2
        go_wp2
        exact ⟨⟨j + 1, by omega, by go_num, by (repeat' (first | (with_reducible exact Below.refl _ _) | (with_reducible refine Below.alloc ?_ ?_ _) | (with_reducible refine below_ext ?_ ?_ _) | (with_reducible refine Below.drew ?_) | (with_reducible refine below_drewN ?_ _) | (with_reducible refine Below.setCell ?_ ?_ _) | go_size | (simp only [go_sem]; omega) | (simp [go_sem]; done) | (simp [go_sem]; omega))), T1⟩, by simp [intOf]; omega⟩
    · obtain rfl : j = xs.length + 9 := by omega
      rw [spTo_end] at hW
      go_wp2
      go_returns
      exact ⟨x', rfl, rfl, hW.out⟩

attribute [local go_sem ↓] cell_neq
set_option maxRecDepth 100000 in
set_option maxHeartbeats 4000000 in
theorem kept_c (a b : Option Addr) (c d : Nat) (xs : List Cl) (w : World) (hx : Rd encC 3 w a (spare xs)) (hy : Rd encC 3 w b xs) (hm : xs.length ≤ 4000) :
    Calls Try.prog 25 #[.slice a (xs.length + 9) c, .slice b xs.length d] w (Gives w (.bool true)) := by
  have X := Lib.hid hx
  have Y := Lib.hid hy
  clear hx hy
  go_enter Try.func25, Try.ntmps25
  go_wp2
  go_loopw [5] (fun iv wr => ∃ (j : Nat) (x : More), j ≤ xs.length + 9 ∧ iv = .int .i64 j ∧ wr = ext w x) (fun iv _ => xs.length + 9 - (intOf iv).toNat)
  case atStart => exact ⟨0, ⟨#[], w.drawn⟩, by omega, rfl, by simp [ext]⟩
  case round =>
    obtain ⟨j, x, hj, rfl, rfl⟩ := hrel
    by_cases hlt : j < xs.length + 9
    · obtain ⟨b1, o1, rfl, hb1, e0, e1, e2⟩ := X.out.cell3 (by rw [spare_len]; exact hlt)
      have hs : (spare xs)[j]'(by rw [spare_len]; exact hlt) = spAt xs j := by simp [spare]
      rw [hs] at e0 e1 e2
      by_cases hin : j < xs.length
      · obtain ⟨b2, o2, rfl, hb2, f0, f1, f2⟩ := Y.out.cell3 hin
        rw [show spAt xs j = xs[j] by simp [spAt, hin]] at e0 e1 e2
        generalize xs[j] = y at e0 e1 e2 f0 f1 f2
        obtain ⟨yg, yr, yk⟩ := y
        simp only at e0 e1 e2 f0 f1 f2
        have he := eqC_t (rfl : (⟨yg, yr, yk⟩ : Cl) = ⟨yg, yr, yk⟩)
        have q1 : decide (xs.length ≤ j) = false := by simp; omega
        go_wp2
        (refine wp_region_free (by kernel_rfl) (by kernel_rfl) ?_)
        repeat (go_big_quiet_step (fail))
        refine wpQuiet_nil ?_; rintro _ ⟨x2, rfl⟩
        go_wp2
        exact ⟨⟨j + 1, _, by omega, by go_num, ext_ext _ _ _⟩, by simp [intOf]; omega⟩
      · rw [show spAt xs j = ⟨900 + j, 3, false⟩ by simp [spAt, hin]] at e0 e1 e2
        simp only at e0 e1 e2
        have he := eqC_t (rfl : (⟨900 + (j : Int), 3, false⟩ : Cl) = ⟨900 + (j : Int), 3, false⟩)
        have q1 : decide (j < xs.length) = false := by simp; omega
        have q2 : decide (xs.length ≤ j) = true := by simp; omega
        go_wp2
        (refine wp_region_free (by kernel_rfl) (by kernel_rfl) ?_)
        repeat (go_big_quiet_step (fail))
        refine wpQuiet_nil ?_; rintro _ ⟨x2, rfl⟩
        go_wp2
        exact ⟨⟨j + 1, _, by omega, by go_num, ext_ext _ _ _⟩, by simp [intOf]; omega⟩
    · go_wp2
      go_returns
      exact ⟨rfl, by (repeat' (first | (with_reducible exact Below.refl _ _) | (with_reducible refine Below.alloc ?_ ?_ _) | (with_reducible refine below_ext ?_ ?_ _) | (with_reducible refine Below.drew ?_) | (with_reducible refine below_drewN ?_ _) | (with_reducible refine Below.setCell ?_ ?_ _) | go_size | (simp only [go_sem]; omega) | (simp [go_sem]; done) | (simp [go_sem]; omega)))⟩
end Go.Proofs.Ytpahcgappaifnaa
