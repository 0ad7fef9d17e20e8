/- The sets' glyphs: a rune of a text, supplemental, national.  -/
import Derived.Test.YtigmdokegiomaaaAhB
import Derived.Laws.RangeString
import Derived.Laws.RangeAny
import Derived.Laws.Runes
namespace Go.Proofs.Ytigmdokegiomaaa
open Go.RowKit
set_option linter.unusedVariables false
set_option linter.unusedSimpArgs false

/-- the text's runes from a place on are these -/
def runesFrom : Nat → ByteArray → Nat → List Int
  | 0, _, _ => []
  | f + 1, s, pos => if pos < s.size then ((Utf8.decode s pos).1 : Int) :: runesFrom f s (pos + (Utf8.decode s pos).2) else []
theorem width_a (s : ByteArray) (pos : Nat) (h : pos < s.size) : 1 ≤ (Utf8.decode s pos).2 := by
  by_cases ha : (s[pos]'h).toNat < 128
  · rw [decode_ascii s pos h ha]
    exact Nat.le_refl _
  · exact (decode_high s pos h (by omega)).2
theorem runesFrom_more : ∀ (f g : Nat) (s : ByteArray) (pos : Nat), s.size ≤ pos + f → s.size ≤ pos + g → runesFrom f s pos = runesFrom g s pos
  | 0, 0, _, _, _, _ => rfl
  | 0, g + 1, s, pos, h, _ => by simp [runesFrom, show ¬ pos < s.size by omega]
  | f + 1, 0, s, pos, _, h => by simp [runesFrom, show ¬ pos < s.size by omega]
  | f + 1, g + 1, s, pos, h, h' => by
    unfold runesFrom
    by_cases hp : pos < s.size
    · have := width_a s pos hp
      rw [if_pos hp, if_pos hp, runesFrom_more f g s _ (by omega) (by omega)]
    · rw [if_neg hp, if_neg hp]
theorem runes_step (f : Nat) (s : ByteArray) (pos : Nat) (hp : pos < s.size) : runesFrom (f + 1) s pos = ((Utf8.decode s pos).1 : Int) :: runesFrom f s (pos + (Utf8.decode s pos).2) := if_pos hp
theorem below_iter (w : World) (s : ByteArray) (pos : Nat) : Below w.heap.size w (w.iter s pos) := (Below.refl _ _).alloc (Nat.le_refl _) _
set_option maxRecDepth 100000 in
set_option maxHeartbeats 4000000 in
theorem nth_c (s : ByteArray) (rs : List Int) (hr : runesFrom s.size s 0 = rs) (n : Nat) (hn : n ≤ 1000) (w : World) : Calls Try.prog 30 #[.string s, .int .i64 n] w (Gives w (.int .i32 (rs.getD n 65533))) := by
  have hR := Lib.hid hr
  obtain ⟨v, hv⟩ : ∃ v, v = rs.getD n 65533 := ⟨_, rfl⟩
  rw [← hv]
  replace hv := Lib.hid hv
  clear hr
  go_enter Try.func30, Try.ntmps30
  go_wp2
  go_loopw [1] (fun nv w' => ∃ (pos k : Nat) (ds : List Int), w' = w.iter s pos ∧ nv = .int .i64 k ∧ k ≤ 1000 ∧ Hid (runesFrom s.size s pos = ds ∧ v = ds.getD k 65533)) (fun _ w' => s.size - w'.iterPos w.heap.size)
  case atStart => exact ⟨0, n, rs, rfl, rfl, hn, Lib.hid ⟨hR.out, hv.out⟩⟩
  case round =>
    obtain ⟨pos, k, ds, rfl, rfl, hk, hd⟩ := hrel
    by_cases hp : pos < s.size
    · have hnx : ∀ ty, (Instr.next (.pointer (some ⟨w.heap.size, 0, none⟩)) true ty).run Try.prog (w.iter s pos) = _ := fun ty => run_next_any w s pos ty hp
      have hwd := width_a s pos hp
      have hds : ds = ((Utf8.decode s pos).1 : Int) :: runesFrom s.size s (pos + (Utf8.decode s pos).2) := by
        rw [← hd.out.1, runesFrom_more s.size (s.size + 1) s pos (by omega) (by omega), runes_step _ _ _ hp]
      by_cases hk0 : k = 0
      · subst hk0
        have hv2 : v = ((Utf8.decode s pos).1 : Int) := by rw [hd.out.2, hds]; rfl
        replace hv2 := Lib.hid hv2
        clear hds hd
        go_wp2
        go_returns
        exact ⟨by rw [hv2.out]; rfl, below_iter _ _ _⟩
      · obtain ⟨j, rfl⟩ : ∃ j, k = j + 1 := ⟨k - 1, by omega⟩
        have e0 : ((((j + 1 : Nat)) : Int) == 0) = false := by simp; omega
        have hw : IntKind.i64.wrap ((((j + 1 : Nat)) : Int) - 1) = (j : Int) := by rw [wrap_a (by omega) (by omega)]; omega
        have hd2 : Hid (runesFrom s.size s (pos + (Utf8.decode s pos).2) = runesFrom s.size s (pos + (Utf8.decode s pos).2) ∧ v = (runesFrom s.size s (pos + (Utf8.decode s pos).2)).getD j 65533) := Lib.hid ⟨rfl, by rw [hd.out.2, hds]; rfl⟩
        clear hds hd
        go_wp2
        exact ⟨⟨_, j, _, rfl, rfl, by omega, hd2⟩, by simp; omega⟩
    · have hnx : ∀ ty, (Instr.next (.pointer (some ⟨w.heap.size, 0, none⟩)) true ty).run Try.prog (w.iter s pos) = _ := fun ty => run_next_end w s pos ty hp
      have hv2 : v = 65533 := by
        have h1 := hd.out.1
        rw [runesFrom_more s.size 0 s pos (by omega) (by omega)] at h1
        rw [hd.out.2, ← h1]
        rfl
      subst hv2
      go_wp2
      go_returns
      exact ⟨rfl, below_iter _ _ _⟩
theorem draw_runes : runesFrom drawB.size drawB 0 = draw2 := by decide +kernel
theorem tech_runes : runesFrom techB.size techB 0 = tech2 := by decide +kernel
def natBytes (s : Int) : ByteArray := rowI natB s placesB
theorem nat_runes : ((List.range 12).all fun k => runesFrom (natBytes ((k : Int) + 6)).size (natBytes ((k : Int) + 6)) 0 == rowI natR ((k : Int) + 6) []) = true := by decide +kernel
set_option maxRecDepth 100000 in
set_option maxHeartbeats 8000000 in
theorem national_c (s : Int) (h1 : 6 ≤ s) (h2 : s ≤ 17) (w : World) : Calls Try.prog 34 #[.int .i64 s] w (Gives w (.string (natBytes s))) := by
  have hs : s = 6 ∨ s = 7 ∨ s = 8 ∨ s = 9 ∨ s = 10 ∨ s = 11 ∨ s = 12 ∨ s = 13 ∨ s = 14 ∨ s = 15 ∨ s = 16 ∨ s = 17 := by omega
  rcases hs with rfl | rfl | rfl | rfl | rfl | rfl | rfl | rfl | rfl | rfl | rfl | rfl
  all_goals (
    go_enter Try.func34, Try.ntmps34
    go_wp2
    go_returns
    exact ⟨rfl, by (repeat' (first | (with_reducible exact Below.refl _ _) | (with_reducible refine Below.alloc ?_ ?_ _) | (with_reducible refine below_ext ?_ ?_ _) | (with_reducible refine Below.drew ?_) | (with_reducible refine below_drewN ?_ _) | (with_reducible refine Below.setCell ?_ ?_ _) | go_size | (simp only [go_sem]; omega) | (simp [go_sem]; done) | (simp [go_sem]; omega)))⟩)
set_option maxHeartbeats 4000000 in
theorem isnat_c (s : Int) (w : World) : Calls Try.prog 33 #[.int .i64 s] w (Gives w (.bool (decide (6 ≤ s) && decide (s ≤ 17)))) := by
  by_cases h1 : 6 ≤ s
  · have d1 : decide (6 ≤ s) = true := decide_eq_true h1
    rw [d1, Bool.true_and]
    generalize hd : decide (s ≤ 17) = d2
    go_enter Try.func33, Try.ntmps33
    go_wp2
    go_returns
    exact ⟨rfl, by (repeat' (first | (with_reducible exact Below.refl _ _) | (with_reducible refine Below.alloc ?_ ?_ _) | (with_reducible refine below_ext ?_ ?_ _) | (with_reducible refine Below.drew ?_) | (with_reducible refine below_drewN ?_ _) | (with_reducible refine Below.setCell ?_ ?_ _) | go_size | (simp only [go_sem]; omega) | (simp [go_sem]; done) | (simp [go_sem]; omega)))⟩
  · have d1 : decide (6 ≤ s) = false := decide_eq_false h1
    rw [d1, Bool.false_and]
    go_enter Try.func33, Try.ntmps33
    go_wp2
    go_returns
    exact ⟨rfl, by (repeat' (first | (with_reducible exact Below.refl _ _) | (with_reducible refine Below.alloc ?_ ?_ _) | (with_reducible refine below_ext ?_ ?_ _) | (with_reducible refine Below.drew ?_) | (with_reducible refine below_drewN ?_ _) | (with_reducible refine Below.setCell ?_ ?_ _) | go_size | (simp only [go_sem]; omega) | (simp [go_sem]; done) | (simp [go_sem]; omega)))⟩
set_option maxRecDepth 100000 in
set_option maxHeartbeats 8000000 in
theorem supp_c (c : Int) (h1 : 0 ≤ c) (h2 : c < 128) (w : World) : Calls Try.prog 31 #[.int .u8 c] w (Gives w (.int .i32 (suppC c))) := by
  have hw : IntKind.i32.wrap (c + 128) = c + 128 := by
    have H : IntKind.i32.wrap (c + 128) = if (c + 128) % 4294967296 ≥ 2147483648 then (c + 128) % 4294967296 - 4294967296 else (c + 128) % 4294967296 := by
      simp [IntKind.wrap, IntKind.bits, IntKind.signed]
    rw [H]
    split <;> omega
  have hw0 : IntKind.i32.wrap c = c := by
    have H : IntKind.i32.wrap c = if c % 4294967296 ≥ 2147483648 then c % 4294967296 - 4294967296 else c % 4294967296 := by
      simp [IntKind.wrap, IntKind.bits, IntKind.signed]
    rw [H]
    split <;> omega
  go_enter Try.func31, Try.ntmps31
  go_wp2
  all_goals go_returns
  all_goals refine ⟨?_, by (repeat' (first | (with_reducible exact Below.refl _ _) | (with_reducible refine Below.alloc ?_ ?_ _) | (with_reducible refine below_ext ?_ ?_ _) | (with_reducible refine Below.drew ?_) | (with_reducible refine below_drewN ?_ _) | (with_reducible refine Below.setCell ?_ ?_ _) | go_size | (simp only [go_sem]; omega) | (simp [go_sem]; done) | (simp [go_sem]; omega)))⟩
  all_goals simp only [beq_iff_eq, beq_eq_false_iff_ne, ne_eq] at *
  all_goals simp [suppC, *]
end Go.Proofs.Ytigmdokegiomaaa
