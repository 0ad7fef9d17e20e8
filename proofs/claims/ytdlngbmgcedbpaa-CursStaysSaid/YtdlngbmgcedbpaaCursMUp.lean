/- The cursor: the reference moves step by step (move_up). -/
import Derived.Test.YtdlngbmgcedbpaaCursM
namespace Go.Proofs.Ytdlngbmgcedbpaa
open Go.RowKit
set_option linter.unusedVariables false
set_option linter.unusedSimpArgs false
set_option maxRecDepth 100000 in
set_option maxHeartbeats 4000000 in
theorem move_up {row col rd : Int} {kp wp og : Bool} {a b c d l r s : Int} {pt pl pb pr mt ml mb mr : Int} (hb : pb ≤ 2000) (hr : pr ≤ 2000) (n : Int) (w : World) :
    Calls Try.prog 91 #[.agg #[.int .i64 row, .int .i64 col, .int .u8 rd, .bool kp, .bool wp, .bool og, .int .i64 a, .int .i64 b, .int .i64 c, .int .i64 d, .int .i64 l, .int .i64 r, .int .i64 s], .agg #[.int .i64 pt, .int .i64 pl, .int .i64 pb, .int .i64 pr, .int .i64 mt, .int .i64 ml, .int .i64 mb, .int .i64 mr], .int .i64 n, .int .i64 (-1), .int .i64 0] w (Gives w (.agg #[.int .i64 (upI (clampI 0 (max 1 pb) row) n (inn pb pr mt ml mb mr).t), .int .i64 (clampI 0 (max 1 pr) col), .int .u8 rd, .bool kp, .bool false, .bool og, .int .i64 a, .int .i64 b, .int .i64 c, .int .i64 d, .int .i64 l, .int .i64 r, .int .i64 s])) := by
  have b0 : 1 ≤ max 1 pb ∧ max 1 pb ≤ 2000 := by omega
  have r0 : 1 ≤ max 1 pr ∧ max 1 pr ≤ 2000 := by omega
  have p0 := clampI_bd (max 1 pb) row b0.1
  have q0 := clampI_bd (max 1 pr) col r0.1
  have ib := inn_bd pb pr mt ml mb mr
  unfold Bx.inn at ib
  have ON := fun w' => on_r (row := row) (col := col) (rd := rd) (kp := kp) (wp := wp) (og := og) (a := a) (b := b) (c := c) (d := d) (l := l) (r := r) (s := s) (pt := pt) (pl := pl) (pb := pb) (pr := pr) (mt := mt) (ml := ml) (mb := mb) (mr := mr) hb hr w'
  have IN := fun w' => inner_fr (pt := pt) (pl := pl) (pb := pb) (pr := pr) (mt := mt) (ml := ml) (mb := mb) (mr := mr) hb hr w'
  have W := fun w' => whole_fr (pt := pt) (pl := pl) (pb := pb) (pr := pr) (mt := mt) (ml := ml) (mb := mb) (mr := mr) hb hr w'
  generalize clampI 0 (max 1 pb) row = p at ON p0 ⊢
  generalize clampI 0 (max 1 pr) col = q at ON q0 ⊢
  generalize max 1 pb = B at W b0 p0 ib ⊢
  generalize max 1 pr = R at W r0 q0 ib ⊢
  generalize inn pb pr mt ml mb mr = I at IN ib ⊢
  obtain ⟨it, il, ibb, ir⟩ := I
  simp only at IN ib ⊢
  obtain ⟨i0, i1, i2, i3, i4, i5⟩ := ib
  obtain ⟨b1, b2⟩ := b0
  obtain ⟨r1, r2⟩ := r0
  obtain ⟨p1, p2⟩ := p0
  obtain ⟨q1, q2⟩ := q0
  replace ON := Lib.hid ON
  replace IN := Lib.hid IN
  replace W := Lib.hid W
  unfold upI
  obtain ⟨lim, hl, hlim⟩ : ∃ lim : Int, ((p < it ∧ lim = 0) ∨ (it ≤ p ∧ lim = it)) ∧ (if p < it then 0 else it) = lim := by
    by_cases h : p < it
    · exact ⟨0, .inl ⟨h, rfl⟩, if_pos h⟩
    · exact ⟨it, .inr ⟨by omega, rfl⟩, if_neg h⟩
  rw [hlim]
  clear hlim
  have HL := Lib.hid hl
  clear hl
  have hS : stepsI n = max 0 (min n 1000000) := rfl
  generalize stepsI n = S at hS ⊢
  replace hS := Lib.hid hS
  have N1 := Lib.hid (show ∀ (v : Int) w', 0 ≤ v → v < B → Calls Try.prog 42 #[.agg #[.int .i64 0, .int .i64 0, .int .i64 B, .int .i64 R], .int .i64 v, .int .i64 q] w' (Gives w' (.bool true)) from fun v w' h1 h2 => by have := in_r 0 0 B R v q w'; rwa [show inB 0 0 B R v q = true by simp [inB]; omega] at this)
  have N0 := Lib.hid (show ∀ (v : Int) w', (v < 0 ∨ B ≤ v) → Calls Try.prog 42 #[.agg #[.int .i64 0, .int .i64 0, .int .i64 B, .int .i64 R], .int .i64 v, .int .i64 q] w' (Gives w' (.bool false)) from fun v w' h1 => by have := in_r 0 0 B R v q w'; rwa [show inB 0 0 B R v q = false by simp [inB]; omega] at this)
  go_enter Try.func91, Try.ntmps91
  go_wp2_with (first | (go_at_call 41; ((with_reducible refine (ON.out _).mono ?_); rintro _ _ hgets; obtain ⟨rfl, x1, rfl⟩ := hgets.get; clear hgets)) | (go_at_call 36; ((with_reducible refine (IN.out _).mono ?_); rintro _ _ hgets; obtain ⟨rfl, x2, rfl⟩ := hgets.get; clear hgets)) | (go_at_call 34; ((with_reducible refine (W.out _).mono ?_); rintro _ _ hgets; obtain ⟨rfl, x3, rfl⟩ := hgets.get; clear hgets)))
  go_loopw [13] (fun i wr => ∃ (k : Nat) (y : Int) (x : More), (k : Int) ≤ S ∧ i = .int .i64 k ∧ lim ≤ y ∧ y ≤ p ∧ y + (k : Int) ≤ p ∧ p ≤ y + (k : Int) ∧ wr = ext ((ext ((ext (ext (((w.alloc (.cells #[.int .i64 y, .int .i64 q, .int .u8 rd, .bool kp, .bool false, .bool og, .int .i64 a, .int .i64 b, .int .i64 c, .int .i64 d, .int .i64 l, .int .i64 r, .int .i64 s] 27)).alloc (.cells #[.int .i64 pt, .int .i64 pl, .int .i64 pb, .int .i64 pr, .int .i64 mt, .int .i64 ml, .int .i64 mb, .int .i64 mr] 42)).alloc (.cells #[.int .i64 0, .int .i64 0, .int .u8 0, .bool false, .bool false, .bool false, .int .i64 0, .int .i64 0, .int .i64 0, .int .i64 0, .int .i64 0, .int .i64 0, .int .i64 0] 27)) x1) x2).alloc (.cells #[.int .i64 it, .int .i64 il, .int .i64 ibb, .int .i64 ir] 40)) x3).alloc (.cells #[.int .i64 0, .int .i64 0, .int .i64 B, .int .i64 R] 40)) x) (fun i _ => 1000000 - (intOf i).toNat)
  case atStart => exact ⟨0, p, ⟨#[], _⟩, by have := hS.out; omega, rfl, by have := HL.out; omega, by omega, by omega, by omega, by simp [ext]; rfl⟩
  case round =>
    obtain ⟨k, y, x, hk, rfl, y1, y2, y3, y4, rfl⟩ := hrel
    have y5 : 0 ≤ y := by have := HL.out; omega
    have y6 : y ≤ 1999 := by omega
    by_cases hk1 : (k : Int) < n
    · by_cases hk2 : (k : Int) < 1000000
      · by_cases hm : y = it
        · have hm1 : (y == it) = true := by simpa using hm
          have HM := Lib.hid hm
          clear hm
          go_wp2
          go_returns
          have hm := HM.out
          exact ⟨cu_ret (by have := HL.out; have := hS.out; omega) (by have := HL.out; have := hS.out; omega) rfl, by (repeat' (first | (with_reducible exact Below.refl _ _) | (with_reducible refine Below.alloc ?_ ?_ _) | (with_reducible refine below_ext ?_ ?_ _) | (with_reducible refine Below.drew ?_) | (with_reducible refine below_drewN ?_ _) | (with_reducible refine Below.setCell ?_ ?_ _) | go_size | (simp only [go_sem]; omega) | (simp [go_sem]; done) | (simp [go_sem]; omega)))⟩
        · have hm1 : (y == it) = false := by simpa using hm
          have HM := Lib.hid hm
          clear hm
          by_cases h0 : y ≤ 0
          · go_wp2_with (go_at_call 42; (with_reducible refine (N0.out _ _ ?_).mono ?_); (focus ((omega); done)); rintro _ _ hgets; obtain ⟨rfl, _, rfl⟩ := hgets.get; clear hgets)
            go_returns
            have hm := HM.out
            exact ⟨cu_ret (by have := HL.out; have := hS.out; omega) (by have := HL.out; have := hS.out; omega) rfl, by (repeat' (first | (with_reducible exact Below.refl _ _) | (with_reducible refine Below.alloc ?_ ?_ _) | (with_reducible refine below_ext ?_ ?_ _) | (with_reducible refine Below.drew ?_) | (with_reducible refine below_drewN ?_ _) | (with_reducible refine Below.setCell ?_ ?_ _) | go_size | (simp only [go_sem]; omega) | (simp [go_sem]; done) | (simp [go_sem]; omega)))⟩
          · have h1 : 1 ≤ y := by omega
            clear h0
            go_wp2_with (go_at_call 42; (with_reducible refine (N1.out _ _ ?_ ?_).mono ?_); (focus ((omega); done)); (focus ((omega); done)); rintro _ _ hgets; obtain ⟨rfl, _, rfl⟩ := hgets.get; clear hgets)
            go_roundw
            case rel =>
              have hm := HM.out
              refine ⟨k + 1, y + -1, _, by have := hS.out; omega, by go_num, by have := HL.out; omega, by omega, by omega, by omega, ext_ext _ _ _⟩
            case measure => simp [intOf]; omega
      · exact absurd hk2 (by omega)
    · go_wp2
      go_returns
      exact ⟨cu_ret (by have := HL.out; have := hS.out; omega) (by have := HL.out; have := hS.out; omega) rfl, by (repeat' (first | (with_reducible exact Below.refl _ _) | (with_reducible refine Below.alloc ?_ ?_ _) | (with_reducible refine below_ext ?_ ?_ _) | (with_reducible refine Below.drew ?_) | (with_reducible refine below_drewN ?_ _) | (with_reducible refine Below.setCell ?_ ?_ _) | go_size | (simp only [go_sem]; omega) | (simp [go_sem]; done) | (simp [go_sem]; omega)))⟩
end Go.Proofs.Ytdlngbmgcedbpaa
