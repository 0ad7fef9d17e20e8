/- What the functions of box, and those of the reference that they are held against, return; no call turns what was there. -/
import Derived.Test.YtignkkejkknddaaGreatLib
namespace Go.Proofs.YtignkkejkknddaaGreat
open Go.RowKit

set_option maxHeartbeats 400000 in
theorem empty_c (t l b r : Int) (w : World) :
    Calls Tryz.prog 90 #[.agg #[.int .i64 t, .int .i64 l, .int .i64 b, .int .i64 r]] w (Gives w (.bool (decide (b ≤ t) || decide (r ≤ l)))) := by
  go_enter Tryz.func90, Tryz.ntmps90
  go_wp2
  all_goals go_returns
  all_goals refine ⟨?_, by go_grown⟩
  all_goals simp [*]
  all_goals omega

set_option maxHeartbeats 400000 in
theorem empty_r (t l b r : Int) (w : World) :
    Calls Tryz.prog 51 #[.agg #[.int .i64 t, .int .i64 l, .int .i64 b, .int .i64 r]] w (Gives w (.bool (decide (b ≤ t) || decide (r ≤ l)))) := by
  go_enter Tryz.func51, Tryz.ntmps51
  go_wp2
  all_goals go_returns
  all_goals refine ⟨?_, by go_grown⟩
  all_goals simp [*]
  all_goals omega

def inB (t l b r x y : Int) : Bool := decide (t ≤ x) && decide (x < b) && decide (l ≤ y) && decide (y < r)
set_option maxHeartbeats 400000 in
theorem in_c (t l b r x y : Int) (w : World) :
    Calls Tryz.prog 63 #[.agg #[.int .i64 t, .int .i64 l, .int .i64 b, .int .i64 r], .agg #[.int .i64 x, .int .i64 y]] w (Gives w (.bool (inB t l b r x y))) := by
  go_enter Tryz.func63, Tryz.ntmps63
  go_wp2
  all_goals go_returns
  all_goals refine ⟨?_, by go_grown⟩
  all_goals refine ret_bool ?_
  all_goals unfold inB
  all_goals rw [Bool.eq_iff_iff]
  all_goals simp
  all_goals omega

set_option maxHeartbeats 400000 in
theorem in_r (t l b r x y : Int) (w : World) :
    Calls Tryz.prog 20 #[.agg #[.int .i64 t, .int .i64 l, .int .i64 b, .int .i64 r], .int .i64 x, .int .i64 y] w (Gives w (.bool (inB t l b r x y))) := by
  go_enter Tryz.func20, Tryz.ntmps20
  go_wp2
  all_goals go_returns
  all_goals refine ⟨?_, by go_grown⟩
  all_goals refine ret_bool ?_
  all_goals unfold inB
  all_goals rw [Bool.eq_iff_iff]
  all_goals simp
  all_goals omega

set_option maxHeartbeats 400000 in
theorem pclip_c (n a b : Int) (w : World) :
    Calls Tryz.prog 91 #[.int .i64 n, .int .i64 a, .int .i64 b] w (Same w (.int .i64 (max a (min n b)))) := by
  go_enter Tryz.func91, Tryz.ntmps91
  go_wp2
  all_goals go_returns
  all_goals exact ⟨ret_int (by first | omega | (simp; omega)), rfl⟩

set_option maxHeartbeats 400000 in
theorem whole_c (n a : Int) (w : World) :
    Calls Tryz.prog 71 #[.int .i64 n, .int .i64 a] w (Gives w (.agg #[.int .i64 0, .int .i64 0, .int .i64 (max 0 n), .int .i64 (max 0 a)])) := by
  go_enter Tryz.func71, Tryz.ntmps71
  go_wp2
  all_goals go_returns
  all_goals refine ⟨?_, by go_grown⟩
  all_goals simp
  all_goals omega

set_option maxHeartbeats 400000 in
theorem size_c (t l b r : Int) (w : World) (ht : -1000000 ≤ t ∧ t ≤ 1000000) (hl : -1000000 ≤ l ∧ l ≤ 1000000) (hb : -1000000 ≤ b ∧ b ≤ 1000000) (hr : -1000000 ≤ r ∧ r ≤ 1000000) :
    Calls Tryz.prog 87 #[.agg #[.int .i64 t, .int .i64 l, .int .i64 b, .int .i64 r]] w
      (Gives w (.tuple #[.int .i64 (if b ≤ t ∨ r ≤ l then 0 else b - t), .int .i64 (if b ≤ t ∨ r ≤ l then 0 else r - l)])) := by
  obtain ⟨ht1, ht2⟩ := ht
  obtain ⟨hl1, hl2⟩ := hl
  obtain ⟨hb1, hb2⟩ := hb
  obtain ⟨hr1, hr2⟩ := hr
  go_enter Tryz.func87, Tryz.ntmps87
  go_wp2_with (go_at_call 90; ((with_reducible refine (empty_c _ _ _ _ _).mono ?_); rintro _ _ hgets; obtain ⟨rfl, _, rfl⟩ := hgets.get; clear hgets))
  · go_returns
    refine ⟨?_, by (repeat' (first | (with_reducible exact Below.refl _ _) | (with_reducible refine Below.alloc ?_ ?_ _) | (with_reducible refine below_ext ?_ ?_ _) | (with_reducible refine Below.drew ?_) | (with_reducible refine below_drewN ?_ _) | (with_reducible refine Below.setCell ?_ ?_ _) | go_size | (simp only [go_sem]; omega) | (simp [go_sem]; done) | (simp [go_sem]; omega)))⟩
    simp [*]
  · (refine wp_region_free (by kernel_rfl) (by kernel_rfl) ?_)
    repeat (go_big_quiet_step (fail))
    refine wpQuiet_nil ?_; rintro _ ⟨x2, rfl⟩
    go_wp2
    go_returns
    refine ⟨?_, by (repeat' (first | (with_reducible exact Below.refl _ _) | (with_reducible refine Below.alloc ?_ ?_ _) | (with_reducible refine below_ext ?_ ?_ _) | (with_reducible refine Below.drew ?_) | (with_reducible refine below_drewN ?_ _) | (with_reducible refine Below.setCell ?_ ?_ _) | go_size | (simp only [go_sem]; omega) | (simp [go_sem]; done) | (simp [go_sem]; omega)))⟩
    simp [*]

/-- what two boxes both have, side by side -/
def meetI (t l b r t' l' b' r' : Int) (s : Int × Int × Int × Int → Int) : Int :=
  if (b ≤ t ∨ r ≤ l) ∨ (b' ≤ t' ∨ r' ≤ l') ∨ (min b b' ≤ max t t' ∨ min r r' ≤ max l l') then 0 else s (max t t', max l l', min b b', min r r')
def meetV (t l b r t' l' b' r' : Int) : Value :=
  .agg #[.int .i64 (meetI t l b r t' l' b' r' (·.1)), .int .i64 (meetI t l b r t' l' b' r' (·.2.1)), .int .i64 (meetI t l b r t' l' b' r' (·.2.2.1)), .int .i64 (meetI t l b r t' l' b' r' (·.2.2.2))]
set_option maxHeartbeats 1000000 in
theorem meet_c (t l b r t' l' b' r' : Int) (w : World) :
    Calls Tryz.prog 40 #[.agg #[.int .i64 t, .int .i64 l, .int .i64 b, .int .i64 r], .agg #[.int .i64 t', .int .i64 l', .int .i64 b', .int .i64 r']] w (Gives w (meetV t l b r t' l' b' r')) := by
  go_enter Tryz.func40, Tryz.ntmps40
  go_wp2_with (go_at_call 90; ((with_reducible refine (empty_c _ _ _ _ _).mono ?_); rintro _ _ hgets; obtain ⟨rfl, _, rfl⟩ := hgets.get; clear hgets))
  all_goals go_returns
  all_goals refine ⟨?_, by (repeat' (first | (with_reducible exact Below.refl _ _) | (with_reducible refine Below.alloc ?_ ?_ _) | (with_reducible refine below_ext ?_ ?_ _) | (with_reducible refine Below.drew ?_) | (with_reducible refine below_drewN ?_ _) | (with_reducible refine Below.setCell ?_ ?_ _) | go_size | (simp only [go_sem]; omega) | (simp [go_sem]; done) | (simp [go_sem]; omega)))⟩
  all_goals unfold meetV meetI
  all_goals refine ret_of ?_
  · simp only [if_pos (show (b ≤ t ∨ r ≤ l) ∨ (b' ≤ t' ∨ r' ≤ l') ∨ (min b b' ≤ max t t' ∨ min r r' ≤ max l l') by omega)]
  · simp only [if_neg (show ¬ ((b ≤ t ∨ r ≤ l) ∨ (b' ≤ t' ∨ r' ≤ l') ∨ (min b b' ≤ max t t' ∨ min r r' ≤ max l l')) by omega)]
  · simp only [if_pos (show (b ≤ t ∨ r ≤ l) ∨ (b' ≤ t' ∨ r' ≤ l') ∨ (min b b' ≤ max t t' ∨ min r r' ≤ max l l') by omega)]
  · simp only [if_pos (show (b ≤ t ∨ r ≤ l) ∨ (b' ≤ t' ∨ r' ≤ l') ∨ (min b b' ≤ max t t' ∨ min r r' ≤ max l l') by omega)]

end Go.Proofs.YtignkkejkknddaaGreat
