/- What the law CursGoes comes to: the walk (true). -/
import Derived.Test.YtdlngbmgcedbpaaCursQ
import Derived.Test.YtdlngbmgcedbpaaFrameCurs
import Derived.Test.YtdlngbmgcedbpaaAwake13
import Derived.Test.YtdlngbmgcedbpaaCursF2
import Derived.Deep.RegionHeld3

namespace Go.Proofs.Ytdlngbmgcedbpaa
open Go.ChangeShapes Go.WideShapes Go.ChangeAt Go.RowKit
set_option linter.unusedVariables false
set_option linter.unusedSimpArgs false
attribute [local go_sem ↓] cur_same_eql cur_same_neq cuc_same_eql cuc_same_neq st_same_eql box_same_eql box_same_neq

set_option maxRecDepth 100000 in
set_option maxHeartbeats 8000000 in
theorem CursGoes_true (w : World) (row col rd : Int) (kp wp : Bool) (a b c d l r s : Int) (pt pl pb pr mt ml mb mr : Int) (x y : Int) (hb : pb ≤ 2000) (hr : pr ≤ 2000) :
    Calls Try.prog 4 #[.agg #[.int .i64 row, .int .i64 col, .int .u8 rd, .bool kp, .bool wp, .bool true, .int .i64 a, .int .i64 b, .int .i64 c, .int .i64 d, .int .i64 l, .int .i64 r, .int .i64 s], .agg #[.int .i64 pt, .int .i64 pl, .int .i64 pb, .int .i64 pr, .int .i64 mt, .int .i64 ml, .int .i64 mb, .int .i64 mr], .agg #[.int .i64 x, .int .i64 y]] w (Gives w (.bool true)) := by
  have SM := Lib.hid (show ∀ w', Calls Try.prog 20 #[.agg #[.int .i64 pt, .int .i64 pl, .int .i64 pb, .int .i64 pr, .int .i64 mt, .int .i64 ml, .int .i64 mb, .int .i64 mr]] w' (Gives w' (.bool true)) from fun w' => by have := small_c (pt := pt) (pl := pl) (pb := pb) (pr := pr) (mt := mt) (ml := ml) (mb := mb) (mr := mr) w'; simpa [hb, hr] using this)
  have TO := fun row col wp w' => to_true (row := row) (col := col) (wp := wp) (rd := rd) (kp := kp) (a := a) (b := b) (c := c) (d := d) (l := l) (r := r) (s := s) (pt := pt) (pl := pl) (pb := pb) (pr := pr) (mt := mt) (ml := ml) (mb := mb) (mr := mr) hb hr x y w'
  have TR := fun row col wp w' => torow_true (row := row) (col := col) (wp := wp) (rd := rd) (kp := kp) (a := a) (b := b) (c := c) (d := d) (l := l) (r := r) (s := s) (pt := pt) (pl := pl) (pb := pb) (pr := pr) (mt := mt) (ml := ml) (mb := mb) (mr := mr) hb hr x w'
  have TC := fun row col wp w' => tocol_true (row := row) (col := col) (wp := wp) (rd := rd) (kp := kp) (a := a) (b := b) (c := c) (d := d) (l := l) (r := r) (s := s) (pt := pt) (pl := pl) (pb := pb) (pr := pr) (mt := mt) (ml := ml) (mb := mb) (mr := mr) hb hr y w'
  have AR := fun w' => area_t (pt := pt) (pl := pl) (pb := pb) (pr := pr) (mt := mt) (ml := ml) (mb := mb) (mr := mr) hb hr w'
  have b0 : max 1 pb ≤ 2000 ∧ max 1 pr ≤ 2000 := by omega
  have ib := inn_bd pb pr mt ml mb mr
  unfold Bx.inn at ib
  generalize inn pb pr mt ml mb mr = I at TO TR TC AR ib
  obtain ⟨t, l', b', r'⟩ := I
  simp only at TO TR TC AR ib
  generalize max 1 pb = B at b0 ib
  generalize max 1 pr = R at b0 ib
  have CL := fun w' => clamp_nr t l' b' r' (t + max 0 (min x 100000)) l' w' (by omega) (by omega) (by omega) (by omega) (by omega) (by omega)
  have e1 : ∀ v, clampI t b' (clampI t b' v) = clampI t b' v := fun v => by unfold clampI; omega
  have e2 : ∀ v, clampI l' r' (clampI l' r' v) = clampI l' r' v := fun v => by unfold clampI; omega
  rw [show clampI t b' (t + max 0 (min x 100000)) = clampI t b' (t + farI x) by unfold clampI farI; omega] at CL
  have T1 := TO row col wp
  have T2 := TO (clampI t b' (t + farI x)) (clampI l' r' (l' + farI y)) false
  have M1 := TR row col wp
  have M2 := TC (clampI t b' (t + farI x)) (clampI l' r' col) false
  have N1 := TC row col wp
  have N2 := TR (clampI t b' row) (clampI l' r' (l' + farI y)) false
  simp only [e1, e2] at M2 N2
  clear TO TR TC e1 e2
  generalize clampI t b' (t + farI x) = R1 at T1 T2 M1 M2 N1 N2 CL
  generalize clampI l' r' (l' + farI y) = C1 at T1 T2 M1 M2 N1 N2 CL
  generalize clampI l' r' col = c2 at T1 T2 M1 M2 N1 N2 CL
  generalize clampI t b' row = r2 at T1 T2 M1 M2 N1 N2 CL
  generalize clampI l' r' l' = z1 at CL
  replace T1 := Lib.hid T1
  replace T2 := Lib.hid T2
  replace M1 := Lib.hid M1
  replace M2 := Lib.hid M2
  replace N1 := Lib.hid N1
  replace N2 := Lib.hid N2
  replace CL := Lib.hid CL
  replace AR := Lib.hid AR
  clear hb hr
  go_enter Try.func4, Try.ntmps4
  go_upto_region 5 with (first | (go_at_call 15; ((with_reducible refine (awake13 _).mono ?_); rintro _ _ hgets; obtain ⟨rfl, x1, rfl⟩ := hgets.get; clear hgets)) | (go_at_call 20; ((with_reducible refine (SM.out _).mono ?_); rintro _ _ hgets; obtain ⟨rfl, x2, rfl⟩ := hgets.get; clear hgets)))
  generalize hW : ext (ext (((w.alloc (.cells #[.int .i64 row, .int .i64 col, .int .u8 rd, .bool kp, .bool wp, .bool true, .int .i64 a, .int .i64 b, .int .i64 c, .int .i64 d, .int .i64 l, .int .i64 r, .int .i64 s] 27)).alloc (.cells #[.int .i64 pt, .int .i64 pl, .int .i64 pb, .int .i64 pr, .int .i64 mt, .int .i64 ml, .int .i64 mb, .int .i64 mr] 42)).alloc (.cells #[.int .i64 x, .int .i64 y] 30)) x1) x2 = W
  have hsz : W.heap.size = w.heap.size + 1 + 1 + 1 + x1.sz + x2.sz := by subst hW; simp [go_sem]
  have hB : Below w.heap.size w W := by subst hW; (repeat' (first | (with_reducible exact Below.refl _ _) | (with_reducible refine Below.alloc ?_ ?_ _) | (with_reducible refine below_ext ?_ ?_ _) | (with_reducible refine Below.drew ?_) | (with_reducible refine below_drewN ?_ _) | (with_reducible refine Below.setCell ?_ ?_ _) | go_size | (simp only [go_sem]; omega) | (simp [go_sem]; done) | (simp [go_sem]; omega)))
  have k0 : W.cell? ⟨w.heap.size, 0, none⟩ = some (.int .i64 row) := by subst hW; simp [go_sem]
  have k1 : W.cell? ⟨w.heap.size, 1, none⟩ = some (.int .i64 col) := by subst hW; simp [go_sem]
  have k2 : W.cell? ⟨w.heap.size, 2, none⟩ = some (.int .u8 rd) := by subst hW; simp [go_sem]
  have k3 : W.cell? ⟨w.heap.size, 3, none⟩ = some (.bool kp) := by subst hW; simp [go_sem]
  have k4 : W.cell? ⟨w.heap.size, 4, none⟩ = some (.bool wp) := by subst hW; simp [go_sem]
  have k5 : W.cell? ⟨w.heap.size, 5, none⟩ = some (.bool true) := by subst hW; simp [go_sem]
  have k6 : W.cell? ⟨w.heap.size, 6, none⟩ = some (.int .i64 a) := by subst hW; simp [go_sem]
  have k7 : W.cell? ⟨w.heap.size, 7, none⟩ = some (.int .i64 b) := by subst hW; simp [go_sem]
  have k8 : W.cell? ⟨w.heap.size, 8, none⟩ = some (.int .i64 c) := by subst hW; simp [go_sem]
  have k9 : W.cell? ⟨w.heap.size, 9, none⟩ = some (.int .i64 d) := by subst hW; simp [go_sem]
  have k10 : W.cell? ⟨w.heap.size, 10, none⟩ = some (.int .i64 l) := by subst hW; simp [go_sem]
  have k11 : W.cell? ⟨w.heap.size, 11, none⟩ = some (.int .i64 r) := by subst hW; simp [go_sem]
  have k12 : W.cell? ⟨w.heap.size, 12, none⟩ = some (.int .i64 s) := by subst hW; simp [go_sem]
  have k13 : W.cell? ⟨w.heap.size + 1, 0, none⟩ = some (.int .i64 pt) := by subst hW; simp [go_sem]
  have k14 : W.cell? ⟨w.heap.size + 1, 1, none⟩ = some (.int .i64 pl) := by subst hW; simp [go_sem]
  have k15 : W.cell? ⟨w.heap.size + 1, 2, none⟩ = some (.int .i64 pb) := by subst hW; simp [go_sem]
  have k16 : W.cell? ⟨w.heap.size + 1, 3, none⟩ = some (.int .i64 pr) := by subst hW; simp [go_sem]
  have k17 : W.cell? ⟨w.heap.size + 1, 4, none⟩ = some (.int .i64 mt) := by subst hW; simp [go_sem]
  have k18 : W.cell? ⟨w.heap.size + 1, 5, none⟩ = some (.int .i64 ml) := by subst hW; simp [go_sem]
  have k19 : W.cell? ⟨w.heap.size + 1, 6, none⟩ = some (.int .i64 mb) := by subst hW; simp [go_sem]
  have k20 : W.cell? ⟨w.heap.size + 1, 7, none⟩ = some (.int .i64 mr) := by subst hW; simp [go_sem]
  have KS : ∀ w', Below W.heap.size W w' → w'.cell? ⟨w.heap.size, 0, none⟩ = some (.int .i64 row) ∧ w'.cell? ⟨w.heap.size, 1, none⟩ = some (.int .i64 col) ∧ w'.cell? ⟨w.heap.size, 2, none⟩ = some (.int .u8 rd) ∧ w'.cell? ⟨w.heap.size, 3, none⟩ = some (.bool kp) ∧ w'.cell? ⟨w.heap.size, 4, none⟩ = some (.bool wp) ∧ w'.cell? ⟨w.heap.size, 5, none⟩ = some (.bool true) ∧ w'.cell? ⟨w.heap.size, 6, none⟩ = some (.int .i64 a) ∧ w'.cell? ⟨w.heap.size, 7, none⟩ = some (.int .i64 b) ∧ w'.cell? ⟨w.heap.size, 8, none⟩ = some (.int .i64 c) ∧ w'.cell? ⟨w.heap.size, 9, none⟩ = some (.int .i64 d) ∧ w'.cell? ⟨w.heap.size, 10, none⟩ = some (.int .i64 l) ∧ w'.cell? ⟨w.heap.size, 11, none⟩ = some (.int .i64 r) ∧ w'.cell? ⟨w.heap.size, 12, none⟩ = some (.int .i64 s) ∧ w'.cell? ⟨w.heap.size + 1, 0, none⟩ = some (.int .i64 pt) ∧ w'.cell? ⟨w.heap.size + 1, 1, none⟩ = some (.int .i64 pl) ∧ w'.cell? ⟨w.heap.size + 1, 2, none⟩ = some (.int .i64 pb) ∧ w'.cell? ⟨w.heap.size + 1, 3, none⟩ = some (.int .i64 pr) ∧ w'.cell? ⟨w.heap.size + 1, 4, none⟩ = some (.int .i64 mt) ∧ w'.cell? ⟨w.heap.size + 1, 5, none⟩ = some (.int .i64 ml) ∧ w'.cell? ⟨w.heap.size + 1, 6, none⟩ = some (.int .i64 mb) ∧ w'.cell? ⟨w.heap.size + 1, 7, none⟩ = some (.int .i64 mr) := fun w' h => ⟨(h.cell (p := ⟨w.heap.size, 0, none⟩) (by simp; omega)).trans k0, (h.cell (p := ⟨w.heap.size, 1, none⟩) (by simp; omega)).trans k1, (h.cell (p := ⟨w.heap.size, 2, none⟩) (by simp; omega)).trans k2, (h.cell (p := ⟨w.heap.size, 3, none⟩) (by simp; omega)).trans k3, (h.cell (p := ⟨w.heap.size, 4, none⟩) (by simp; omega)).trans k4, (h.cell (p := ⟨w.heap.size, 5, none⟩) (by simp; omega)).trans k5, (h.cell (p := ⟨w.heap.size, 6, none⟩) (by simp; omega)).trans k6, (h.cell (p := ⟨w.heap.size, 7, none⟩) (by simp; omega)).trans k7, (h.cell (p := ⟨w.heap.size, 8, none⟩) (by simp; omega)).trans k8, (h.cell (p := ⟨w.heap.size, 9, none⟩) (by simp; omega)).trans k9, (h.cell (p := ⟨w.heap.size, 10, none⟩) (by simp; omega)).trans k10, (h.cell (p := ⟨w.heap.size, 11, none⟩) (by simp; omega)).trans k11, (h.cell (p := ⟨w.heap.size, 12, none⟩) (by simp; omega)).trans k12, (h.cell (p := ⟨w.heap.size + 1, 0, none⟩) (by simp; omega)).trans k13, (h.cell (p := ⟨w.heap.size + 1, 1, none⟩) (by simp; omega)).trans k14, (h.cell (p := ⟨w.heap.size + 1, 2, none⟩) (by simp; omega)).trans k15, (h.cell (p := ⟨w.heap.size + 1, 3, none⟩) (by simp; omega)).trans k16, (h.cell (p := ⟨w.heap.size + 1, 4, none⟩) (by simp; omega)).trans k17, (h.cell (p := ⟨w.heap.size + 1, 5, none⟩) (by simp; omega)).trans k18, (h.cell (p := ⟨w.heap.size + 1, 6, none⟩) (by simp; omega)).trans k19, (h.cell (p := ⟨w.heap.size + 1, 7, none⟩) (by simp; omega)).trans k20⟩
  have t0 : W.cell? ⟨w.heap.size + 1 + 1, 0, none⟩ = some (.int .i64 x) := by subst hW; simp [go_sem]
  have t1 : W.cell? ⟨w.heap.size + 1 + 1, 1, none⟩ = some (.int .i64 y) := by subst hW; simp [go_sem]
  go_cut [7, 8] (fun xv pv wx => ∃ bx bp, xv = .pointer (some ⟨bx, 0, none⟩) ∧ pv = .pointer (some ⟨bp, 0, none⟩) ∧ Below (W).heap.size (W) wx ∧ bx < wx.heap.size ∧ bp < wx.heap.size ∧ wx.cell? ⟨bx, 0, none⟩ = some (.int .i64 pt) ∧ wx.cell? ⟨bx, 1, none⟩ = some (.int .i64 pl) ∧ wx.cell? ⟨bx, 2, none⟩ = some (.int .i64 pb) ∧ wx.cell? ⟨bx, 3, none⟩ = some (.int .i64 pr) ∧ wx.cell? ⟨bx, 4, none⟩ = some (.int .i64 mt) ∧ wx.cell? ⟨bx, 5, none⟩ = some (.int .i64 ml) ∧ wx.cell? ⟨bx, 6, none⟩ = some (.int .i64 mb) ∧ wx.cell? ⟨bx, 7, none⟩ = some (.int .i64 mr) ∧ wx.cell? ⟨bp, 0, none⟩ = some (.int .i64 row) ∧ wx.cell? ⟨bp, 1, none⟩ = some (.int .i64 col) ∧ wx.cell? ⟨bp, 2, none⟩ = some (.int .u8 rd) ∧ wx.cell? ⟨bp, 3, none⟩ = some (.bool kp) ∧ wx.cell? ⟨bp, 4, none⟩ = some (.bool wp) ∧ wx.cell? ⟨bp, 5, none⟩ = some (.bool true) ∧ wx.cell? ⟨bp, 6, none⟩ = some (.int .i64 a) ∧ wx.cell? ⟨bp, 7, none⟩ = some (.int .i64 b) ∧ wx.cell? ⟨bp, 8, none⟩ = some (.int .i64 c) ∧ wx.cell? ⟨bp, 9, none⟩ = some (.int .i64 d) ∧ wx.cell? ⟨bp, 10, none⟩ = some (.int .i64 l) ∧ wx.cell? ⟨bp, 11, none⟩ = some (.int .i64 r) ∧ wx.cell? ⟨bp, 12, none⟩ = some (.int .i64 s))
  case first =>
    go_region_held3 (fun w' => w'.cell? ⟨w.heap.size, 0, none⟩ = some (.int .i64 row) ∧ w'.cell? ⟨w.heap.size, 1, none⟩ = some (.int .i64 col) ∧ w'.cell? ⟨w.heap.size, 2, none⟩ = some (.int .u8 rd) ∧ w'.cell? ⟨w.heap.size, 3, none⟩ = some (.bool kp) ∧ w'.cell? ⟨w.heap.size, 4, none⟩ = some (.bool wp) ∧ w'.cell? ⟨w.heap.size, 5, none⟩ = some (.bool true) ∧ w'.cell? ⟨w.heap.size, 6, none⟩ = some (.int .i64 a) ∧ w'.cell? ⟨w.heap.size, 7, none⟩ = some (.int .i64 b) ∧ w'.cell? ⟨w.heap.size, 8, none⟩ = some (.int .i64 c) ∧ w'.cell? ⟨w.heap.size, 9, none⟩ = some (.int .i64 d) ∧ w'.cell? ⟨w.heap.size, 10, none⟩ = some (.int .i64 l) ∧ w'.cell? ⟨w.heap.size, 11, none⟩ = some (.int .i64 r) ∧ w'.cell? ⟨w.heap.size, 12, none⟩ = some (.int .i64 s) ∧ w'.cell? ⟨w.heap.size + 1, 0, none⟩ = some (.int .i64 pt) ∧ w'.cell? ⟨w.heap.size + 1, 1, none⟩ = some (.int .i64 pl) ∧ w'.cell? ⟨w.heap.size + 1, 2, none⟩ = some (.int .i64 pb) ∧ w'.cell? ⟨w.heap.size + 1, 3, none⟩ = some (.int .i64 pr) ∧ w'.cell? ⟨w.heap.size + 1, 4, none⟩ = some (.int .i64 mt) ∧ w'.cell? ⟨w.heap.size + 1, 5, none⟩ = some (.int .i64 ml) ∧ w'.cell? ⟨w.heap.size + 1, 6, none⟩ = some (.int .i64 mb) ∧ w'.cell? ⟨w.heap.size + 1, 7, none⟩ = some (.int .i64 mr)) (exact KS _ (by (repeat' (first | (with_reducible exact Below.refl _ _) | (with_reducible refine Below.alloc ?_ ?_ _) | (with_reducible refine below_ext ?_ ?_ _) | (with_reducible refine Below.drew ?_) | (with_reducible refine below_drewN ?_ _) | (with_reducible refine Below.setCell ?_ ?_ _) | go_size | (simp only [go_sem]; omega) | (simp [go_sem]; done) | (simp [go_sem]; omega))))) ((first
      | (go_at_call 16; ((with_reducible refine (own_c _).mono ?_); rintro _ _ hgets; obtain ⟨rfl, _, rfl⟩ := hgets.get; clear hgets))
      | (go_at_call 21; ((with_reducible refine (frame_c _).mono ?_); rintro _ _ hgets; obtain ⟨rfl, _, rfl⟩ := hgets.get; clear hgets))))
    all_goals clear KS
    all_goals go_wp2
    all_goals go_meet
    all_goals exact ⟨_, _, rfl, rfl, by (repeat' (first | (with_reducible exact Below.refl _ _) | (with_reducible refine Below.alloc ?_ ?_ _) | (with_reducible refine below_ext ?_ ?_ _) | (with_reducible refine Below.drew ?_) | (with_reducible refine below_drewN ?_ _) | (with_reducible refine Below.setCell ?_ ?_ _) | go_size | (simp only [go_sem]; omega) | (simp [go_sem]; done) | (simp [go_sem]; omega))), (by first | (simp [go_sem, hsz]; done) | (simp [go_sem, hsz]; omega)), (by first | (simp [go_sem, hsz]; done) | (simp [go_sem, hsz]; omega)), (by first | (simp [go_sem, hsz]; done) | (simp [go_sem, hsz]; omega)), (by first | (simp [go_sem, hsz]; done) | (simp [go_sem, hsz]; omega)), (by first | (simp [go_sem, hsz]; done) | (simp [go_sem, hsz]; omega)), (by first | (simp [go_sem, hsz]; done) | (simp [go_sem, hsz]; omega)), (by first | (simp [go_sem, hsz]; done) | (simp [go_sem, hsz]; omega)), (by first | (simp [go_sem, hsz]; done) | (simp [go_sem, hsz]; omega)), (by first | (simp [go_sem, hsz]; done) | (simp [go_sem, hsz]; omega)), (by first | (simp [go_sem, hsz]; done) | (simp [go_sem, hsz]; omega)), (by first | (simp [go_sem, hsz]; done) | (simp [go_sem, hsz]; omega)), (by first | (simp [go_sem, hsz]; done) | (simp [go_sem, hsz]; omega)), (by first | (simp [go_sem, hsz]; done) | (simp [go_sem, hsz]; omega)), (by first | (simp [go_sem, hsz]; done) | (simp [go_sem, hsz]; omega)), (by first | (simp [go_sem, hsz]; done) | (simp [go_sem, hsz]; omega)), (by first | (simp [go_sem, hsz]; done) | (simp [go_sem, hsz]; omega)), (by first | (simp [go_sem, hsz]; done) | (simp [go_sem, hsz]; omega)), (by first | (simp [go_sem, hsz]; done) | (simp [go_sem, hsz]; omega)), (by first | (simp [go_sem, hsz]; done) | (simp [go_sem, hsz]; omega)), (by first | (simp [go_sem, hsz]; done) | (simp [go_sem, hsz]; omega)), (by first | (simp [go_sem, hsz]; done) | (simp [go_sem, hsz]; omega)), (by first | (simp [go_sem, hsz]; done) | (simp [go_sem, hsz]; omega)), (by first | (simp [go_sem, hsz]; done) | (simp [go_sem, hsz]; omega))⟩
  obtain ⟨bx, bp, rfl, rfl, hB2, hbx, hbp, f0, f1, f2, f3, f4, f5, f6, f7, p0, p1, p2, p3, p4, p5, p6, p7, p8, p9, p10, p11, p12⟩ := hcut
  replace t0 := (hB2.cell (p := ⟨w.heap.size + 1 + 1, 0, none⟩) (by simp; omega)).trans t0
  replace t1 := (hB2.cell (p := ⟨w.heap.size + 1 + 1, 1, none⟩) (by simp; omega)).trans t1
  have o5 := (hB2.cell (p := ⟨w.heap.size, 5, none⟩) (by simp; omega)).trans k5
  have s2 : w.heap.size + 1 + 1 < wc.heap.size := by have := hB2.size; omega
  have s0 : w.heap.size < wc.heap.size := by omega
  have hBc : Below w.heap.size w wc := hB.trans (hB2.mono (by omega))
  clear KS k0 k1 k2 k3 k4 k5 k6 k7 k8 k9 k10 k11 k12 k13 k14 k15 k16 k17 k18 k19 k20 hB hB2 hsz
  clear hW
  go_upto_region 7 with (first | (go_at_call 22; ((with_reducible refine (T1.out _).mono ?_); rintro _ _ hgets; obtain ⟨rfl, x3, rfl⟩ := hgets.get; clear hgets)))
  have ebo : ∃ bo, bo = wc.heap.size + x3.sz := ⟨_, rfl⟩
  obtain ⟨bo, hbo⟩ := ebo
  generalize hW : (ext wc x3).alloc (.cells #[.int .i64 R1, .int .i64 C1, .int .u8 rd, .bool kp, .bool false, .bool true, .int .i64 a, .int .i64 b, .int .i64 c, .int .i64 d, .int .i64 l, .int .i64 r, .int .i64 s] 33) = W2
  have hN : Below wc.heap.size wc W2 := by subst hW; (repeat' (first | (with_reducible exact Below.refl _ _) | (with_reducible refine Below.alloc ?_ ?_ _) | (with_reducible refine below_ext ?_ ?_ _) | (with_reducible refine Below.drew ?_) | (with_reducible refine below_drewN ?_ _) | (with_reducible refine Below.setCell ?_ ?_ _) | go_size | (simp only [go_sem]; omega) | (simp [go_sem]; done) | (simp [go_sem]; omega)))
  replace f0 := (hN.cell (p := ⟨bx, 0, none⟩) hbx).trans f0
  replace f1 := (hN.cell (p := ⟨bx, 1, none⟩) hbx).trans f1
  replace f2 := (hN.cell (p := ⟨bx, 2, none⟩) hbx).trans f2
  replace f3 := (hN.cell (p := ⟨bx, 3, none⟩) hbx).trans f3
  replace f4 := (hN.cell (p := ⟨bx, 4, none⟩) hbx).trans f4
  replace f5 := (hN.cell (p := ⟨bx, 5, none⟩) hbx).trans f5
  replace f6 := (hN.cell (p := ⟨bx, 6, none⟩) hbx).trans f6
  replace f7 := (hN.cell (p := ⟨bx, 7, none⟩) hbx).trans f7
  replace hbx := Nat.lt_of_lt_of_le hbx hN.size
  replace p0 := (hN.cell (p := ⟨bp, 0, none⟩) hbp).trans p0
  replace p1 := (hN.cell (p := ⟨bp, 1, none⟩) hbp).trans p1
  replace p2 := (hN.cell (p := ⟨bp, 2, none⟩) hbp).trans p2
  replace p3 := (hN.cell (p := ⟨bp, 3, none⟩) hbp).trans p3
  replace p4 := (hN.cell (p := ⟨bp, 4, none⟩) hbp).trans p4
  replace p5 := (hN.cell (p := ⟨bp, 5, none⟩) hbp).trans p5
  replace p6 := (hN.cell (p := ⟨bp, 6, none⟩) hbp).trans p6
  replace p7 := (hN.cell (p := ⟨bp, 7, none⟩) hbp).trans p7
  replace p8 := (hN.cell (p := ⟨bp, 8, none⟩) hbp).trans p8
  replace p9 := (hN.cell (p := ⟨bp, 9, none⟩) hbp).trans p9
  replace p10 := (hN.cell (p := ⟨bp, 10, none⟩) hbp).trans p10
  replace p11 := (hN.cell (p := ⟨bp, 11, none⟩) hbp).trans p11
  replace p12 := (hN.cell (p := ⟨bp, 12, none⟩) hbp).trans p12
  replace hbp := Nat.lt_of_lt_of_le hbp hN.size
  replace t0 := (hN.cell (p := ⟨w.heap.size + 1 + 1, 0, none⟩) s2).trans t0
  replace t1 := (hN.cell (p := ⟨w.heap.size + 1 + 1, 1, none⟩) s2).trans t1
  replace s2 := Nat.lt_of_lt_of_le s2 hN.size
  replace o5 := (hN.cell (p := ⟨w.heap.size, 5, none⟩) s0).trans o5
  replace s0 := Nat.lt_of_lt_of_le s0 hN.size
  have q0 : W2.cell? ⟨wc.heap.size + x3.sz, 0, none⟩ = some (.int .i64 R1) := by subst hW; simp [go_sem]
  have q1 : W2.cell? ⟨wc.heap.size + x3.sz, 1, none⟩ = some (.int .i64 C1) := by subst hW; simp [go_sem]
  have q2 : W2.cell? ⟨wc.heap.size + x3.sz, 2, none⟩ = some (.int .u8 rd) := by subst hW; simp [go_sem]
  have q3 : W2.cell? ⟨wc.heap.size + x3.sz, 3, none⟩ = some (.bool kp) := by subst hW; simp [go_sem]
  have q4 : W2.cell? ⟨wc.heap.size + x3.sz, 4, none⟩ = some (.bool false) := by subst hW; simp [go_sem]
  have q5 : W2.cell? ⟨wc.heap.size + x3.sz, 5, none⟩ = some (.bool true) := by subst hW; simp [go_sem]
  have q6 : W2.cell? ⟨wc.heap.size + x3.sz, 6, none⟩ = some (.int .i64 a) := by subst hW; simp [go_sem]
  have q7 : W2.cell? ⟨wc.heap.size + x3.sz, 7, none⟩ = some (.int .i64 b) := by subst hW; simp [go_sem]
  have q8 : W2.cell? ⟨wc.heap.size + x3.sz, 8, none⟩ = some (.int .i64 c) := by subst hW; simp [go_sem]
  have q9 : W2.cell? ⟨wc.heap.size + x3.sz, 9, none⟩ = some (.int .i64 d) := by subst hW; simp [go_sem]
  have q10 : W2.cell? ⟨wc.heap.size + x3.sz, 10, none⟩ = some (.int .i64 l) := by subst hW; simp [go_sem]
  have q11 : W2.cell? ⟨wc.heap.size + x3.sz, 11, none⟩ = some (.int .i64 r) := by subst hW; simp [go_sem]
  have q12 : W2.cell? ⟨wc.heap.size + x3.sz, 12, none⟩ = some (.int .i64 s) := by subst hW; simp [go_sem]
  have hbq : wc.heap.size + x3.sz < W2.heap.size := by subst hW; simp [go_sem]
  replace hBc := hBc.trans (hN.mono (hBc.size))
  clear hN hW
  rw [← hbo] at hbq q0 q1 q2 q3 q4 q5 q6 q7 q8 q9 q10 q11 q12 ⊢
  clear hbo
  (refine wp_region_free (by kernel_rfl) (by kernel_rfl) ?_)
  repeat (go_big_quiet_step (first | ((go_at_call 22; with_reducible exact Calls.free (T2.out _))) | ((go_at_call 23; with_reducible exact Calls.free (M1.out _))) | ((go_at_call 24; with_reducible exact Calls.free (M2.out _))) | ((go_at_call 24; with_reducible exact Calls.free (N1.out _))) | ((go_at_call 23; with_reducible exact Calls.free (N2.out _)))))
  refine wpQuiet_nil ?_; rintro _ ⟨x4, rfl⟩
  go_upto_region 10 with (first | (go_at_call 25; ((with_reducible refine (AR.out _).mono ?_); rintro _ _ hgets; obtain ⟨rfl, x5, rfl⟩ := hgets.get; clear hgets)))
  have ebo : ∃ ba, ba = W2.heap.size + x4.sz + x5.sz := ⟨_, rfl⟩
  obtain ⟨ba, hba⟩ := ebo
  clear hbx s0 o5 t1 f0 f1 f2 f3 f4 f5 f6 f7 p0 p1 p3 p4 p5 q1 q3 q4 q5
  generalize hW : (ext (ext W2 x4) x5).alloc (.cells #[.int .i64 t, .int .i64 l', .int .i64 b', .int .i64 r'] 40) = W3
  have hN : Below W2.heap.size W2 W3 := by subst hW; (repeat' (first | (with_reducible exact Below.refl _ _) | (with_reducible refine Below.alloc ?_ ?_ _) | (with_reducible refine below_ext ?_ ?_ _) | (with_reducible refine Below.drew ?_) | (with_reducible refine below_drewN ?_ _) | (with_reducible refine Below.setCell ?_ ?_ _) | go_size | (simp only [go_sem]; omega) | (simp [go_sem]; done) | (simp [go_sem]; omega)))
  replace p2 := (hN.cell (p := ⟨bp, 2, none⟩) hbp).trans p2
  replace p6 := (hN.cell (p := ⟨bp, 6, none⟩) hbp).trans p6
  replace p7 := (hN.cell (p := ⟨bp, 7, none⟩) hbp).trans p7
  replace p8 := (hN.cell (p := ⟨bp, 8, none⟩) hbp).trans p8
  replace p9 := (hN.cell (p := ⟨bp, 9, none⟩) hbp).trans p9
  replace p10 := (hN.cell (p := ⟨bp, 10, none⟩) hbp).trans p10
  replace p11 := (hN.cell (p := ⟨bp, 11, none⟩) hbp).trans p11
  replace p12 := (hN.cell (p := ⟨bp, 12, none⟩) hbp).trans p12
  replace hbp := Nat.lt_of_lt_of_le hbp hN.size
  replace t0 := (hN.cell (p := ⟨w.heap.size + 1 + 1, 0, none⟩) s2).trans t0
  replace s2 := Nat.lt_of_lt_of_le s2 hN.size
  replace q0 := (hN.cell (p := ⟨bo, 0, none⟩) hbq).trans q0
  replace q2 := (hN.cell (p := ⟨bo, 2, none⟩) hbq).trans q2
  replace q6 := (hN.cell (p := ⟨bo, 6, none⟩) hbq).trans q6
  replace q7 := (hN.cell (p := ⟨bo, 7, none⟩) hbq).trans q7
  replace q8 := (hN.cell (p := ⟨bo, 8, none⟩) hbq).trans q8
  replace q9 := (hN.cell (p := ⟨bo, 9, none⟩) hbq).trans q9
  replace q10 := (hN.cell (p := ⟨bo, 10, none⟩) hbq).trans q10
  replace q11 := (hN.cell (p := ⟨bo, 11, none⟩) hbq).trans q11
  replace q12 := (hN.cell (p := ⟨bo, 12, none⟩) hbq).trans q12
  replace hbq := Nat.lt_of_lt_of_le hbq hN.size
  have g0 : W3.cell? ⟨W2.heap.size + x4.sz + x5.sz, 0, none⟩ = some (.int .i64 t) := by subst hW; simp [go_sem]
  have g1 : W3.cell? ⟨W2.heap.size + x4.sz + x5.sz, 1, none⟩ = some (.int .i64 l') := by subst hW; simp [go_sem]
  have g2 : W3.cell? ⟨W2.heap.size + x4.sz + x5.sz, 2, none⟩ = some (.int .i64 b') := by subst hW; simp [go_sem]
  have g3 : W3.cell? ⟨W2.heap.size + x4.sz + x5.sz, 3, none⟩ = some (.int .i64 r') := by subst hW; simp [go_sem]
  have hbg : W2.heap.size + x4.sz + x5.sz < W3.heap.size := by subst hW; simp [go_sem]
  replace hBc := hBc.trans (hN.mono (hBc.size))
  clear hN hW
  rw [← hba] at hbg g0 g1 g2 g3 ⊢
  clear hba
  (refine wp_region_free (by kernel_rfl) (by kernel_rfl) ?_)
  repeat (go_big_quiet_step (first | ((go_at_call 26; with_reducible exact Calls.free (CL.out _)))))
  refine wpQuiet_nil ?_; rintro _ ⟨x6, rfl⟩
  go_wp2
  go_returns
  refine ⟨?_, ?_⟩
  · first | rfl | (refine ret_bool ?_; simp [*])
  · have hs := hBc.size
    (repeat (first | exact hBc | (with_reducible refine below_ext ?_ (by first | exact hs | (simp [go_sem]; done) | (simp [go_sem]; omega)) _) | (with_reducible refine Below.drew ?_) | (with_reducible refine Below.alloc ?_ (by first | (simp [go_sem]; done) | (simp [go_sem]; omega)) _)))
end Go.Proofs.Ytdlngbmgcedbpaa
