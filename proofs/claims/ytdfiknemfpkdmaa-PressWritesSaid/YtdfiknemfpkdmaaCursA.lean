/- Frames of a cursor. -/
import Derived.Test.YtdfiknemfpkdmaaBox2
import Derived.Deep.RegionHeld3
namespace Go.Proofs.Ytdfiknemfpkdmaa
open Go.RowKit
set_option linter.unusedVariables false
set_option linter.unusedSimpArgs false

structure Bx where
  t : Int
  l : Int
  b : Int
  r : Int
  deriving DecidableEq
/-- the margins, as far as they lie on the page; the page, if they do not -/
def inn (pb pr mt ml mb mr : Int) : Bx :=
  if max 1 pb ≤ 0 ∨ max 1 pr ≤ 0 ∨ mb ≤ mt ∨ mr ≤ ml ∨ min (max 1 pb) mb ≤ max 0 mt ∨ min (max 1 pr) mr ≤ max 0 ml then ⟨0, 0, max 1 pb, max 1 pr⟩
  else ⟨max 0 mt, max 0 ml, min (max 1 pb) mb, min (max 1 pr) mr⟩
def Bx.inn (I : Bx) (B R : Int) : Prop := 0 ≤ I.t ∧ I.t < I.b ∧ I.b ≤ B ∧ 0 ≤ I.l ∧ I.l < I.r ∧ I.r ≤ R
theorem inn_bd (pb pr mt ml mb mr : Int) : (inn pb pr mt ml mb mr).inn (max 1 pb) (max 1 pr) := by
  unfold inn Bx.inn
  split
  · simp only; omega
  · simp only; omega
theorem meetI_inn (pb pr mt ml mb mr : Int) :
    (meetI 0 0 (max 1 pb) (max 1 pr) mt ml mb mr (·.2.2.1) ≤ meetI 0 0 (max 1 pb) (max 1 pr) mt ml mb mr (·.1) ∨ meetI 0 0 (max 1 pb) (max 1 pr) mt ml mb mr (·.2.2.2) ≤ meetI 0 0 (max 1 pb) (max 1 pr) mt ml mb mr (·.2.1)) ∧ inn pb pr mt ml mb mr = ⟨0, 0, max 1 pb, max 1 pr⟩ ∨
    ¬ (meetI 0 0 (max 1 pb) (max 1 pr) mt ml mb mr (·.2.2.1) ≤ meetI 0 0 (max 1 pb) (max 1 pr) mt ml mb mr (·.1) ∨ meetI 0 0 (max 1 pb) (max 1 pr) mt ml mb mr (·.2.2.2) ≤ meetI 0 0 (max 1 pb) (max 1 pr) mt ml mb mr (·.2.1)) ∧
      inn pb pr mt ml mb mr = ⟨meetI 0 0 (max 1 pb) (max 1 pr) mt ml mb mr (·.1), meetI 0 0 (max 1 pb) (max 1 pr) mt ml mb mr (·.2.1), meetI 0 0 (max 1 pb) (max 1 pr) mt ml mb mr (·.2.2.1), meetI 0 0 (max 1 pb) (max 1 pr) mt ml mb mr (·.2.2.2)⟩ := by
  unfold meetI inn
  by_cases h : (max 1 pb ≤ 0 ∨ max 1 pr ≤ 0) ∨ (mb ≤ mt ∨ mr ≤ ml) ∨ (min (max 1 pb) mb ≤ max 0 mt ∨ min (max 1 pr) mr ≤ max 0 ml)
  · simp only [if_pos h]
    rw [if_pos (by omega)]
    exact .inl ⟨by omega, rfl⟩
  · simp only [if_neg h]
    rw [if_neg (by omega)]
    exact .inr ⟨by omega, rfl⟩
theorem meetI_comm (t l b r t' l' b' r' : Int) (s : Int × Int × Int × Int → Int) : meetI t' l' b' r' t l b r s = meetI t l b r t' l' b' r' s := by
  unfold meetI
  rw [Int.max_comm t' t, Int.max_comm l' l, Int.min_comm b' b, Int.min_comm r' r]
  by_cases h : (b ≤ t ∨ r ≤ l) ∨ (b' ≤ t' ∨ r' ≤ l') ∨ (min b b' ≤ max t t' ∨ min r r' ≤ max l l')
  · rw [if_pos h, if_pos (by omega)]
  · rw [if_neg h, if_neg (by omega)]
theorem agg4_ret {x y z u x' y' z' u' : Int} (h1 : x = x') (h2 : y = y') (h3 : z = z') (h4 : u = u') : Ending.returned (.agg #[.int .i64 x, .int .i64 y, .int .i64 z, .int .i64 u]) = .returned (.agg #[.int .i64 x', .int .i64 y', .int .i64 z', .int .i64 u']) := by
  subst h1 h2 h3 h4; rfl
theorem clamp_ne (t l b r x y : Int) (w : World) (hb : b ≤ 1000000) (hr : r ≤ 1000000) (h1 : t < b) (h2 : l < r) (h3 : -1000000 ≤ t) (h4 : -1000000 ≤ l) :
    Calls Try.prog 69 #[.agg #[.int .i64 t, .int .i64 l, .int .i64 b, .int .i64 r], .agg #[.int .i64 x, .int .i64 y]] w (Gives w (.agg #[.int .i64 (clampI t b x), .int .i64 (clampI l r y)])) := by
  have := clamp_c t l b r x y w ⟨by omega, hb⟩ ⟨by omega, hr⟩
  rwa [if_neg (by omega)] at this
set_option maxRecDepth 100000 in
set_option maxHeartbeats 4000000 in
theorem whole_f {pt pl pb pr mt ml mb mr : Int} (w : World) :
    Calls Try.prog 70 #[.agg #[.int .i64 pt, .int .i64 pl, .int .i64 pb, .int .i64 pr, .int .i64 mt, .int .i64 ml, .int .i64 mb, .int .i64 mr]] w (Gives w (.agg #[.int .i64 0, .int .i64 0, .int .i64 (max 1 pb), .int .i64 (max 1 pr)])) := by
  go_enter Try.func70, Try.ntmps70
  go_wp2_with (go_at_call 64; ((with_reducible refine (whole_c _ _ _).mono ?_); rintro _ _ hgets; obtain ⟨rfl, _, rfl⟩ := hgets.get; clear hgets))
  go_returns
  refine ⟨agg4_ret ?_ ?_ ?_ ?_, by (repeat' (first | (with_reducible exact Below.refl _ _) | (with_reducible refine Below.alloc ?_ ?_ _) | (with_reducible refine below_ext ?_ ?_ _) | (with_reducible refine Below.drew ?_) | (with_reducible refine below_drewN ?_ _) | (with_reducible refine Below.setCell ?_ ?_ _) | go_size | (simp only [go_sem]; omega) | (simp [go_sem]; done) | (simp [go_sem]; omega)))⟩ <;> omega
set_option maxRecDepth 100000 in
set_option maxHeartbeats 4000000 in
theorem inner_f {pt pl pb pr mt ml mb mr : Int} (hb : pb ≤ 2000) (hr : pr ≤ 2000) (w : World) :
    Calls Try.prog 53 #[.agg #[.int .i64 pt, .int .i64 pl, .int .i64 pb, .int .i64 pr, .int .i64 mt, .int .i64 ml, .int .i64 mb, .int .i64 mr]] w (Gives w (.agg #[.int .i64 (inn pb pr mt ml mb mr).t, .int .i64 (inn pb pr mt ml mb mr).l, .int .i64 (inn pb pr mt ml mb mr).b, .int .i64 (inn pb pr mt ml mb mr).r])) := by
  have M := fun w' => meet_c 0 0 (max 1 pb) (max 1 pr) mt ml mb mr w'
  unfold meetV at M
  rcases meetI_inn pb pr mt ml mb mr with ⟨hE, hI⟩ | ⟨hE, hI⟩
  all_goals
    rw [hI]
    clear hI
    generalize meetI 0 0 (max 1 pb) (max 1 pr) mt ml mb mr (·.1) = et at M hE ⊢
    generalize meetI 0 0 (max 1 pb) (max 1 pr) mt ml mb mr (·.2.1) = el at M hE ⊢
    generalize meetI 0 0 (max 1 pb) (max 1 pr) mt ml mb mr (·.2.2.1) = eb at M hE ⊢
    generalize meetI 0 0 (max 1 pb) (max 1 pr) mt ml mb mr (·.2.2.2) = er at M hE ⊢
    replace M := Lib.hid M
  · have E := Lib.hid (show ∀ w', Calls Try.prog 74 #[.agg #[.int .i64 et, .int .i64 el, .int .i64 eb, .int .i64 er]] w' (Gives w' (.bool true)) from fun w' => by have := empty_c et el eb er w'; rwa [show (decide (eb ≤ et) || decide (er ≤ el)) = true by simpa using hE] at this)
    clear hE
    go_enter Try.func53, Try.ntmps53
    go_wp2
    generalize hW : (w.alloc (.cells #[.int .i64 pt, .int .i64 pl, .int .i64 pb, .int .i64 pr, .int .i64 mt, .int .i64 ml, .int .i64 mb, .int .i64 mr] 69)).alloc (.cells #[.int .i64 0, .int .i64 0, .int .i64 0, .int .i64 0] 31) = W
    have hsz : W.heap.size = w.heap.size + 2 := by subst hW; simp [go_sem]
    have hB : Below w.heap.size w W := by subst hW; (repeat' (first | (with_reducible exact Below.refl _ _) | (with_reducible refine Below.alloc ?_ ?_ _) | (with_reducible refine below_ext ?_ ?_ _) | (with_reducible refine Below.drew ?_) | (with_reducible refine below_drewN ?_ _) | (with_reducible refine Below.setCell ?_ ?_ _) | go_size | (simp only [go_sem]; omega) | (simp [go_sem]; done) | (simp [go_sem]; omega)))
    have k0 : W.cell? ⟨w.heap.size, 0, none⟩ = some (.int .i64 pt) := by subst hW; simp [go_sem]
    have k1 : W.cell? ⟨w.heap.size, 1, none⟩ = some (.int .i64 pl) := by subst hW; simp [go_sem]
    have k2 : W.cell? ⟨w.heap.size, 2, none⟩ = some (.int .i64 pb) := by subst hW; simp [go_sem]
    have k3 : W.cell? ⟨w.heap.size, 3, none⟩ = some (.int .i64 pr) := by subst hW; simp [go_sem]
    have k4 : W.cell? ⟨w.heap.size, 4, none⟩ = some (.int .i64 mt) := by subst hW; simp [go_sem]
    have k5 : W.cell? ⟨w.heap.size, 5, none⟩ = some (.int .i64 ml) := by subst hW; simp [go_sem]
    have k6 : W.cell? ⟨w.heap.size, 6, none⟩ = some (.int .i64 mb) := by subst hW; simp [go_sem]
    have k7 : W.cell? ⟨w.heap.size, 7, none⟩ = some (.int .i64 mr) := by subst hW; simp [go_sem]
    have KS : ∀ w', Below W.heap.size W w' → w'.cell? ⟨w.heap.size, 0, none⟩ = some (.int .i64 pt) ∧ w'.cell? ⟨w.heap.size, 1, none⟩ = some (.int .i64 pl) ∧ w'.cell? ⟨w.heap.size, 2, none⟩ = some (.int .i64 pb) ∧ w'.cell? ⟨w.heap.size, 3, none⟩ = some (.int .i64 pr) ∧ w'.cell? ⟨w.heap.size, 4, none⟩ = some (.int .i64 mt) ∧ w'.cell? ⟨w.heap.size, 5, none⟩ = some (.int .i64 ml) ∧ w'.cell? ⟨w.heap.size, 6, none⟩ = some (.int .i64 mb) ∧ w'.cell? ⟨w.heap.size, 7, none⟩ = some (.int .i64 mr) := fun w' h => ⟨(h.cell (p := ⟨w.heap.size, 0, none⟩) (by simp; omega)).trans k0, (h.cell (p := ⟨w.heap.size, 1, none⟩) (by simp; omega)).trans k1, (h.cell (p := ⟨w.heap.size, 2, none⟩) (by simp; omega)).trans k2, (h.cell (p := ⟨w.heap.size, 3, none⟩) (by simp; omega)).trans k3, (h.cell (p := ⟨w.heap.size, 4, none⟩) (by simp; omega)).trans k4, (h.cell (p := ⟨w.heap.size, 5, none⟩) (by simp; omega)).trans k5, (h.cell (p := ⟨w.heap.size, 6, none⟩) (by simp; omega)).trans k6, (h.cell (p := ⟨w.heap.size, 7, none⟩) (by simp; omega)).trans k7⟩
    go_region_held3 (fun w' => w'.cell? ⟨w.heap.size, 0, none⟩ = some (.int .i64 pt) ∧ w'.cell? ⟨w.heap.size, 1, none⟩ = some (.int .i64 pl) ∧ w'.cell? ⟨w.heap.size, 2, none⟩ = some (.int .i64 pb) ∧ w'.cell? ⟨w.heap.size, 3, none⟩ = some (.int .i64 pr) ∧ w'.cell? ⟨w.heap.size, 4, none⟩ = some (.int .i64 mt) ∧ w'.cell? ⟨w.heap.size, 5, none⟩ = some (.int .i64 ml) ∧ w'.cell? ⟨w.heap.size, 6, none⟩ = some (.int .i64 mb) ∧ w'.cell? ⟨w.heap.size, 7, none⟩ = some (.int .i64 mr)) (exact KS _ (by (repeat' (first | (with_reducible exact Below.refl _ _) | (with_reducible refine Below.alloc ?_ ?_ _) | (with_reducible refine below_ext ?_ ?_ _) | (with_reducible refine Below.drew ?_) | (with_reducible refine below_drewN ?_ _) | (with_reducible refine Below.setCell ?_ ?_ _) | go_size | (simp only [go_sem]; omega) | (simp [go_sem]; done) | (simp [go_sem]; omega))))) ((first
      | (go_at_call 70; ((with_reducible refine (whole_f _).mono ?_); rintro _ _ hgets; obtain ⟨rfl, _, rfl⟩ := hgets.get; clear hgets))
      | (go_at_call 84; ((with_reducible refine (M.out _).mono ?_); rintro _ _ hgets; obtain ⟨rfl, _, rfl⟩ := hgets.get; clear hgets))))
    all_goals clear KS hsz hB k0 k1 k2 k3 k4 k5 k6 k7
    all_goals subst hW
    all_goals go_wp2_with (first | (go_at_call 74; ((with_reducible refine (E.out _).mono ?_); rintro _ _ hgets; obtain ⟨rfl, _, rfl⟩ := hgets.get; clear hgets)) | (go_at_call 70; ((with_reducible refine (whole_f _).mono ?_); rintro _ _ hgets; obtain ⟨rfl, _, rfl⟩ := hgets.get; clear hgets)))
    all_goals go_returns
    all_goals exact ⟨rfl, by (repeat' (first | (with_reducible exact Below.refl _ _) | (with_reducible refine Below.alloc ?_ ?_ _) | (with_reducible refine below_ext ?_ ?_ _) | (with_reducible refine Below.drew ?_) | (with_reducible refine below_drewN ?_ _) | (with_reducible refine Below.setCell ?_ ?_ _) | go_size | (simp only [go_sem]; omega) | (simp [go_sem]; done) | (simp [go_sem]; omega)))⟩
  · have E := Lib.hid (show ∀ w', Calls Try.prog 74 #[.agg #[.int .i64 et, .int .i64 el, .int .i64 eb, .int .i64 er]] w' (Gives w' (.bool false)) from fun w' => by have := empty_c et el eb er w'; rwa [show (decide (eb ≤ et) || decide (er ≤ el)) = false by simpa using hE] at this)
    clear hE
    go_enter Try.func53, Try.ntmps53
    go_wp2
    generalize hW : (w.alloc (.cells #[.int .i64 pt, .int .i64 pl, .int .i64 pb, .int .i64 pr, .int .i64 mt, .int .i64 ml, .int .i64 mb, .int .i64 mr] 69)).alloc (.cells #[.int .i64 0, .int .i64 0, .int .i64 0, .int .i64 0] 31) = W
    have hsz : W.heap.size = w.heap.size + 2 := by subst hW; simp [go_sem]
    have hB : Below w.heap.size w W := by subst hW; (repeat' (first | (with_reducible exact Below.refl _ _) | (with_reducible refine Below.alloc ?_ ?_ _) | (with_reducible refine below_ext ?_ ?_ _) | (with_reducible refine Below.drew ?_) | (with_reducible refine below_drewN ?_ _) | (with_reducible refine Below.setCell ?_ ?_ _) | go_size | (simp only [go_sem]; omega) | (simp [go_sem]; done) | (simp [go_sem]; omega)))
    have k0 : W.cell? ⟨w.heap.size, 0, none⟩ = some (.int .i64 pt) := by subst hW; simp [go_sem]
    have k1 : W.cell? ⟨w.heap.size, 1, none⟩ = some (.int .i64 pl) := by subst hW; simp [go_sem]
    have k2 : W.cell? ⟨w.heap.size, 2, none⟩ = some (.int .i64 pb) := by subst hW; simp [go_sem]
    have k3 : W.cell? ⟨w.heap.size, 3, none⟩ = some (.int .i64 pr) := by subst hW; simp [go_sem]
    have k4 : W.cell? ⟨w.heap.size, 4, none⟩ = some (.int .i64 mt) := by subst hW; simp [go_sem]
    have k5 : W.cell? ⟨w.heap.size, 5, none⟩ = some (.int .i64 ml) := by subst hW; simp [go_sem]
    have k6 : W.cell? ⟨w.heap.size, 6, none⟩ = some (.int .i64 mb) := by subst hW; simp [go_sem]
    have k7 : W.cell? ⟨w.heap.size, 7, none⟩ = some (.int .i64 mr) := by subst hW; simp [go_sem]
    have KS : ∀ w', Below W.heap.size W w' → w'.cell? ⟨w.heap.size, 0, none⟩ = some (.int .i64 pt) ∧ w'.cell? ⟨w.heap.size, 1, none⟩ = some (.int .i64 pl) ∧ w'.cell? ⟨w.heap.size, 2, none⟩ = some (.int .i64 pb) ∧ w'.cell? ⟨w.heap.size, 3, none⟩ = some (.int .i64 pr) ∧ w'.cell? ⟨w.heap.size, 4, none⟩ = some (.int .i64 mt) ∧ w'.cell? ⟨w.heap.size, 5, none⟩ = some (.int .i64 ml) ∧ w'.cell? ⟨w.heap.size, 6, none⟩ = some (.int .i64 mb) ∧ w'.cell? ⟨w.heap.size, 7, none⟩ = some (.int .i64 mr) := fun w' h => ⟨(h.cell (p := ⟨w.heap.size, 0, none⟩) (by simp; omega)).trans k0, (h.cell (p := ⟨w.heap.size, 1, none⟩) (by simp; omega)).trans k1, (h.cell (p := ⟨w.heap.size, 2, none⟩) (by simp; omega)).trans k2, (h.cell (p := ⟨w.heap.size, 3, none⟩) (by simp; omega)).trans k3, (h.cell (p := ⟨w.heap.size, 4, none⟩) (by simp; omega)).trans k4, (h.cell (p := ⟨w.heap.size, 5, none⟩) (by simp; omega)).trans k5, (h.cell (p := ⟨w.heap.size, 6, none⟩) (by simp; omega)).trans k6, (h.cell (p := ⟨w.heap.size, 7, none⟩) (by simp; omega)).trans k7⟩
    go_region_held3 (fun w' => w'.cell? ⟨w.heap.size, 0, none⟩ = some (.int .i64 pt) ∧ w'.cell? ⟨w.heap.size, 1, none⟩ = some (.int .i64 pl) ∧ w'.cell? ⟨w.heap.size, 2, none⟩ = some (.int .i64 pb) ∧ w'.cell? ⟨w.heap.size, 3, none⟩ = some (.int .i64 pr) ∧ w'.cell? ⟨w.heap.size, 4, none⟩ = some (.int .i64 mt) ∧ w'.cell? ⟨w.heap.size, 5, none⟩ = some (.int .i64 ml) ∧ w'.cell? ⟨w.heap.size, 6, none⟩ = some (.int .i64 mb) ∧ w'.cell? ⟨w.heap.size, 7, none⟩ = some (.int .i64 mr)) (exact KS _ (by (repeat' (first | (with_reducible exact Below.refl _ _) | (with_reducible refine Below.alloc ?_ ?_ _) | (with_reducible refine below_ext ?_ ?_ _) | (with_reducible refine Below.drew ?_) | (with_reducible refine below_drewN ?_ _) | (with_reducible refine Below.setCell ?_ ?_ _) | go_size | (simp only [go_sem]; omega) | (simp [go_sem]; done) | (simp [go_sem]; omega))))) ((first
      | (go_at_call 70; ((with_reducible refine (whole_f _).mono ?_); rintro _ _ hgets; obtain ⟨rfl, _, rfl⟩ := hgets.get; clear hgets))
      | (go_at_call 84; ((with_reducible refine (M.out _).mono ?_); rintro _ _ hgets; obtain ⟨rfl, _, rfl⟩ := hgets.get; clear hgets))))
    all_goals clear KS hsz hB k0 k1 k2 k3 k4 k5 k6 k7
    all_goals subst hW
    all_goals go_wp2_with (first | (go_at_call 74; ((with_reducible refine (E.out _).mono ?_); rintro _ _ hgets; obtain ⟨rfl, _, rfl⟩ := hgets.get; clear hgets)) | (go_at_call 70; ((with_reducible refine (whole_f _).mono ?_); rintro _ _ hgets; obtain ⟨rfl, _, rfl⟩ := hgets.get; clear hgets)))
    all_goals go_returns
    all_goals exact ⟨rfl, by (repeat' (first | (with_reducible exact Below.refl _ _) | (with_reducible refine Below.alloc ?_ ?_ _) | (with_reducible refine below_ext ?_ ?_ _) | (with_reducible refine Below.drew ?_) | (with_reducible refine below_drewN ?_ _) | (with_reducible refine Below.setCell ?_ ?_ _) | go_size | (simp only [go_sem]; omega) | (simp [go_sem]; done) | (simp [go_sem]; omega)))⟩
end Go.Proofs.Ytdfiknemfpkdmaa
