/- What the law CursJoins comes to: the walk. -/
import Derived.Test.YtdlngbmgcedbpaaCursQ
import Derived.Test.YtdlngbmgcedbpaaFrameCurs
import Derived.Test.YtdlngbmgcedbpaaAwake13
import Derived.Test.YtdlngbmgcedbpaaCursF2
import Derived.Test.YtdlngbmgcedbpaaCursG
import Derived.Deep.RegionHeld3
import Derived.Test.YtdlngbmgcedbpaaRowAt

namespace Go.Proofs.Ytdlngbmgcedbpaa
open Go.ChangeShapes Go.WideShapes Go.ChangeAt Go.RowKit
set_option linter.unusedVariables false
set_option linter.unusedSimpArgs false
theorem guard_cur (x y : Operand) (u v : Array Value) (w : World) : (eqGuard .eql 33 x y (.agg u) (.agg v)).run Try.prog w = .ok () w := by
  have hm : Try.prog.eqGuardType Try.prog.depth 33 = false := by kernel_rfl
  simp [run_eqGuard_agg, hm]
theorem rangeAt_ext {w : World} {b : Nat} {cs : List Value} (h : w.rangeAt b 0 cs) (hb : b < w.heap.size) (x : More) : (ext w x).rangeAt b 0 cs := fun j v hv => (cell_ext w x b _ hb).trans (h j v hv)
theorem back_join (B p n m t : Int) (hB : 1 ≤ B) (hB2 : B ≤ 2000) (hp : 0 ≤ p) (hp2 : p ≤ B - 1) (h0 : 0 ≤ t) (ht : t ≤ p) (hn : 0 ≤ n) (hm : 0 ≤ m) (hn2 : n ≤ 1000000) (hm2 : m ≤ 1000000) : backI (clampI 0 B (backI p n t)) m t = backI p (n + m) t := by
  have h1 : backI p n t = max t (p - n) := by unfold backI farI; rw [if_neg (by omega)]; omega
  have h2 : clampI 0 B (backI p n t) = max t (p - n) := by rw [h1]; unfold clampI; omega
  rw [h2]
  unfold backI farI
  rw [if_neg (by omega), if_neg (by omega)]
  omega
theorem forth_join (B p n m e : Int) (hB : 1 ≤ B) (hB2 : B ≤ 2000) (hp : 0 ≤ p) (he : e ≤ B - 1) (hpe : p ≤ e) (hn : 0 ≤ n) (hm : 0 ≤ m) (hn2 : n ≤ 1000000) (hm2 : m ≤ 1000000) : forthI (clampI 0 B (forthI p n e (B - 1))) m e (B - 1) = forthI p (n + m) e (B - 1) := by
  have h1 : forthI p n e (B - 1) = min e (p + n) := by unfold forthI farI; rw [if_neg (by omega)]; omega
  have h2 : clampI 0 B (forthI p n e (B - 1)) = min e (p + n) := by rw [h1]; unfold clampI; omega
  rw [h2]
  unfold forthI farI
  rw [if_neg (by omega), if_neg (by omega)]
  omega
theorem clamp_same (B p : Int) (hp : 0 ≤ p) (hp2 : p ≤ B - 1) : clampI 0 B p = p := by unfold clampI; omega
set_option maxRecDepth 100000 in
set_option maxHeartbeats 8000000 in
theorem CursJoins_in (w : World) (row col rd : Int) (kp wp og : Bool) (a b c d l r s : Int) (pt pl pb pr mt ml mb mr : Int) (n m : Int) (hb : pb ≤ 2000) (hr : pr ≤ 2000) (hin : inB (inn pb pr mt ml mb mr).t (inn pb pr mt ml mb mr).l (inn pb pr mt ml mb mr).b (inn pb pr mt ml mb mr).r (clampI 0 (max 1 pb) row) (clampI 0 (max 1 pr) col) = true) (hn : 0 ≤ n) (hm : 0 ≤ m) (hn2 : n ≤ 1000000) (hm2 : m ≤ 1000000) :
    Calls Try.prog 5 #[.agg #[.int .i64 row, .int .i64 col, .int .u8 rd, .bool kp, .bool wp, .bool og, .int .i64 a, .int .i64 b, .int .i64 c, .int .i64 d, .int .i64 l, .int .i64 r, .int .i64 s], .agg #[.int .i64 pt, .int .i64 pl, .int .i64 pb, .int .i64 pr, .int .i64 mt, .int .i64 ml, .int .i64 mb, .int .i64 mr], .agg #[.int .i64 n, .int .i64 m]] w (Gives w (.bool true)) := by
  have SM := Lib.hid (show ∀ w', Calls Try.prog 20 #[.agg #[.int .i64 pt, .int .i64 pl, .int .i64 pb, .int .i64 pr, .int .i64 mt, .int .i64 ml, .int .i64 mb, .int .i64 mr]] w' (Gives w' (.bool true)) from fun w' => by have := small_c (pt := pt) (pl := pl) (pb := pb) (pr := pr) (mt := mt) (ml := ml) (mb := mb) (mr := mr) w'; simpa [hb, hr] using this)
  have INS := fun w' => inside_r (row := row) (col := col) (wp := wp) (rd := rd) (kp := kp) (og := og) (a := a) (b := b) (c := c) (d := d) (l := l) (r := r) (s := s) (pt := pt) (pl := pl) (pb := pb) (pr := pr) (mt := mt) (ml := ml) (mb := mb) (mr := mr) hb hr w'
  rw [hin] at INS
  have U := fun row col wp k w' => up_c (row := row) (col := col) (wp := wp) (rd := rd) (kp := kp) (og := og) (a := a) (b := b) (c := c) (d := d) (l := l) (r := r) (s := s) (pt := pt) (pl := pl) (pb := pb) (pr := pr) (mt := mt) (ml := ml) (mb := mb) (mr := mr) hb hr k w'
  have D := fun row col wp k w' => down_c (row := row) (col := col) (wp := wp) (rd := rd) (kp := kp) (og := og) (a := a) (b := b) (c := c) (d := d) (l := l) (r := r) (s := s) (pt := pt) (pl := pl) (pb := pb) (pr := pr) (mt := mt) (ml := ml) (mb := mb) (mr := mr) hb hr k w'
  have L := fun row col wp k w' => left_c (row := row) (col := col) (wp := wp) (rd := rd) (kp := kp) (og := og) (a := a) (b := b) (c := c) (d := d) (l := l) (r := r) (s := s) (pt := pt) (pl := pl) (pb := pb) (pr := pr) (mt := mt) (ml := ml) (mb := mb) (mr := mr) hb hr k w'
  have R := fun row col wp k w' => right_c (row := row) (col := col) (wp := wp) (rd := rd) (kp := kp) (og := og) (a := a) (b := b) (c := c) (d := d) (l := l) (r := r) (s := s) (pt := pt) (pl := pl) (pb := pb) (pr := pr) (mt := mt) (ml := ml) (mb := mb) (mr := mr) hb hr k w'
  have T := fun row col wp w' => return_c (row := row) (col := col) (wp := wp) (rd := rd) (kp := kp) (og := og) (a := a) (b := b) (c := c) (d := d) (l := l) (r := r) (s := s) (pt := pt) (pl := pl) (pb := pb) (pr := pr) (mt := mt) (ml := ml) (mb := mb) (mr := mr) hb hr w'
  have b0 : 1 ≤ max 1 pb ∧ max 1 pb ≤ 2000 := by omega
  have r0 : 1 ≤ max 1 pr ∧ max 1 pr ≤ 2000 := by omega
  have p0 := clampI_bd (max 1 pb) row b0.1
  have q0 := clampI_bd (max 1 pr) col r0.1
  have ib := inn_bd pb pr mt ml mb mr
  unfold Bx.inn at ib
  generalize inn pb pr mt ml mb mr = I at U D L R T ib hin
  obtain ⟨it, il, ibb, ir⟩ := I
  simp only at U D L R T ib hin
  generalize max 1 pb = B at U D L R T ib hin b0 p0
  generalize max 1 pr = Q at U D L R T ib hin r0 q0
  simp only [inB, Bool.and_eq_true, decide_eq_true_eq] at hin
  obtain ⟨⟨⟨n1, n2⟩, n3⟩, n4⟩ := hin
  have U1 := U row col wp n
  have U2 := U (backI (clampI 0 B row) n it) (clampI 0 Q col) false m
  have U3 := U row col wp (n + m)
  have D1 := D row col wp n
  have D2 := D (forthI (clampI 0 B row) n (ibb - 1) (B - 1)) (clampI 0 Q col) false m
  have D3 := D row col wp (n + m)
  have L1 := L row col wp n
  have L2 := L (clampI 0 B row) (backI (clampI 0 Q col) n il) false m
  have L3 := L row col wp (n + m)
  have R1 := R row col wp n
  have R2 := R (clampI 0 B row) (forthI (clampI 0 Q col) n (ir - 1) (Q - 1)) false m
  have R3 := R row col wp (n + m)
  have T1 := T row col wp
  have T2 := T (clampI 0 B row) (firstCol (clampI 0 Q col) il og) false
  rw [back_join B (clampI 0 B row) n m it b0.1 b0.2 p0.1 p0.2 (by omega) n1 hn hm hn2 hm2, clamp_same Q _ q0.1 q0.2] at U2
  rw [forth_join B (clampI 0 B row) n m (ibb - 1) b0.1 b0.2 p0.1 (by omega) (by omega) hn hm hn2 hm2, clamp_same Q _ q0.1 q0.2] at D2
  rw [clamp_same B _ p0.1 p0.2, back_join Q (clampI 0 Q col) n m il r0.1 r0.2 q0.1 q0.2 (by omega) (by omega) hn hm hn2 hm2] at L2
  rw [clamp_same B _ p0.1 p0.2, forth_join Q (clampI 0 Q col) n m (ir - 1) r0.1 r0.2 q0.1 (by omega) (by omega) hn hm hn2 hm2] at R2
  have hfc : firstCol (clampI 0 Q col) il og = il := by unfold firstCol; rw [if_neg (by omega)]
  rw [hfc] at T1 T2
  rw [clamp_same B _ p0.1 p0.2, show firstCol (clampI 0 Q il) il og = il by unfold firstCol clampI; rw [if_neg (by omega)]] at T2
  generalize backI (clampI 0 B row) (n + m) it = u3 at U1 U2 U3 D1 D2 D3 L1 L2 L3 R1 R2 R3 T1 T2
  generalize backI (clampI 0 B row) n it = u1 at U1 U2 U3 D1 D2 D3 L1 L2 L3 R1 R2 R3 T1 T2
  generalize forthI (clampI 0 B row) (n + m) (ibb - 1) (B - 1) = d3 at U1 U2 U3 D1 D2 D3 L1 L2 L3 R1 R2 R3 T1 T2
  generalize forthI (clampI 0 B row) n (ibb - 1) (B - 1) = d1 at U1 U2 U3 D1 D2 D3 L1 L2 L3 R1 R2 R3 T1 T2
  generalize backI (clampI 0 Q col) (n + m) il = l3 at U1 U2 U3 D1 D2 D3 L1 L2 L3 R1 R2 R3 T1 T2
  generalize backI (clampI 0 Q col) n il = l1 at U1 U2 U3 D1 D2 D3 L1 L2 L3 R1 R2 R3 T1 T2
  generalize forthI (clampI 0 Q col) (n + m) (ir - 1) (Q - 1) = r3 at U1 U2 U3 D1 D2 D3 L1 L2 L3 R1 R2 R3 T1 T2
  generalize forthI (clampI 0 Q col) n (ir - 1) (Q - 1) = r1 at U1 U2 U3 D1 D2 D3 L1 L2 L3 R1 R2 R3 T1 T2
  generalize clampI 0 B row = P at U1 U2 U3 D1 D2 D3 L1 L2 L3 R1 R2 R3 T1 T2
  generalize clampI 0 Q col = C at U1 U2 U3 D1 D2 D3 L1 L2 L3 R1 R2 R3 T1 T2
  clear U D L R T
  replace U1 := Lib.hid U1
  replace U2 := Lib.hid U2
  replace U3 := Lib.hid U3
  replace D1 := Lib.hid D1
  replace D2 := Lib.hid D2
  replace D3 := Lib.hid D3
  replace L1 := Lib.hid L1
  replace L2 := Lib.hid L2
  replace L3 := Lib.hid L3
  replace R1 := Lib.hid R1
  replace R2 := Lib.hid R2
  replace R3 := Lib.hid R3
  replace T1 := Lib.hid T1
  replace T2 := Lib.hid T2
  replace INS := Lib.hid INS
  clear hb hr b0 r0 ib hfc n1 n2 n3 n4
  go_enter Try.func5, Try.ntmps5
  go_upto_region 1 with (fail)
  (refine wp_region_free (by kernel_rfl) (by kernel_rfl) ?_)
  repeat (go_big_quiet_step (fail))
  refine wpQuiet_nil ?_; rintro _ ⟨x0, rfl⟩
  go_upto_region 6 with (first | (go_at_call 15; ((with_reducible refine (awake13 _).mono ?_); rintro _ _ hgets; obtain ⟨rfl, x1, rfl⟩ := hgets.get; clear hgets)) | (go_at_call 20; ((with_reducible refine (SM.out _).mono ?_); rintro _ _ hgets; obtain ⟨rfl, x2, rfl⟩ := hgets.get; clear hgets)) | (go_at_call 27; ((with_reducible refine (INS.out _).mono ?_); rintro _ _ hgets; obtain ⟨rfl, x3, rfl⟩ := hgets.get; clear hgets)))
  generalize hW : ext (ext (ext (ext (((w.alloc (.cells #[.int .i64 row, .int .i64 col, .int .u8 rd, .bool kp, .bool wp, .bool og, .int .i64 a, .int .i64 b, .int .i64 c, .int .i64 d, .int .i64 l, .int .i64 r, .int .i64 s] 27)).alloc (.cells #[.int .i64 pt, .int .i64 pl, .int .i64 pb, .int .i64 pr, .int .i64 mt, .int .i64 ml, .int .i64 mb, .int .i64 mr] 42)).alloc (.cells #[.int .i64 n, .int .i64 m] 51)) x0) x1) x2) x3 = W
  have hsz : W.heap.size = w.heap.size + 1 + 1 + 1 + x0.sz + x1.sz + x2.sz + x3.sz := by subst hW; simp [go_sem]
  have hB : Below w.heap.size w W := by subst hW; (repeat' (first | (with_reducible exact Below.refl _ _) | (with_reducible refine Below.alloc ?_ ?_ _) | (with_reducible refine below_ext ?_ ?_ _) | (with_reducible refine Below.drew ?_) | (with_reducible refine below_drewN ?_ _) | (with_reducible refine Below.setCell ?_ ?_ _) | go_size | (simp only [go_sem]; omega) | (simp [go_sem]; done) | (simp [go_sem]; omega)))
  have k0 : W.cell? ⟨w.heap.size, 0, none⟩ = some (.int .i64 row) := by subst hW; simp [go_sem]
  have k1 : W.cell? ⟨w.heap.size, 1, none⟩ = some (.int .i64 col) := by subst hW; simp [go_sem]
  have k2 : W.cell? ⟨w.heap.size, 2, none⟩ = some (.int .u8 rd) := by subst hW; simp [go_sem]
  have k3 : W.cell? ⟨w.heap.size, 3, none⟩ = some (.bool kp) := by subst hW; simp [go_sem]
  have k4 : W.cell? ⟨w.heap.size, 4, none⟩ = some (.bool wp) := by subst hW; simp [go_sem]
  have k5 : W.cell? ⟨w.heap.size, 5, none⟩ = some (.bool og) := by subst hW; simp [go_sem]
  have k6 : W.cell? ⟨w.heap.size, 6, none⟩ = some (.int .i64 a) := by subst hW; simp [go_sem]
  have k7 : W.cell? ⟨w.heap.size, 7, none⟩ = some (.int .i64 b) := by subst hW; simp [go_sem]
  have k8 : W.cell? ⟨w.heap.size, 8, none⟩ = some (.int .i64 c) := by subst hW; simp [go_sem]
  have k9 : W.cell? ⟨w.heap.size, 9, none⟩ = some (.int .i64 d) := by subst hW; simp [go_sem]
  have k10 : W.cell? ⟨w.heap.size, 10, none⟩ = some (.int .i64 l) := by subst hW; simp [go_sem]
  have k11 : W.cell? ⟨w.heap.size, 11, none⟩ = some (.int .i64 r) := by subst hW; simp [go_sem]
  have k12 : W.cell? ⟨w.heap.size, 12, none⟩ = some (.int .i64 s) := by subst hW; simp [go_sem]
  have k13 : W.cell? ⟨w.heap.size + 1, 0, none⟩ = some (.int .i64 pt) := by subst hW; simp [go_sem]
  have k14 : W.cell? ⟨w.heap.size + 1, 1, none⟩ = some (.int .i64 pl) := by subst hW; simp [go_sem]
  have k15 : W.cell? ⟨w.heap.size + 1, 2, none⟩ = some (.int .i64 pb) := by subst hW; simp [go_sem]
  have k16 : W.cell? ⟨w.heap.size + 1, 3, none⟩ = some (.int .i64 pr) := by subst hW; simp [go_sem]
  have k17 : W.cell? ⟨w.heap.size + 1, 4, none⟩ = some (.int .i64 mt) := by subst hW; simp [go_sem]
  have k18 : W.cell? ⟨w.heap.size + 1, 5, none⟩ = some (.int .i64 ml) := by subst hW; simp [go_sem]
  have k19 : W.cell? ⟨w.heap.size + 1, 6, none⟩ = some (.int .i64 mb) := by subst hW; simp [go_sem]
  have k20 : W.cell? ⟨w.heap.size + 1, 7, none⟩ = some (.int .i64 mr) := by subst hW; simp [go_sem]
  have KS : ∀ w', Below W.heap.size W w' → w'.cell? ⟨w.heap.size, 0, none⟩ = some (.int .i64 row) ∧ w'.cell? ⟨w.heap.size, 1, none⟩ = some (.int .i64 col) ∧ w'.cell? ⟨w.heap.size, 2, none⟩ = some (.int .u8 rd) ∧ w'.cell? ⟨w.heap.size, 3, none⟩ = some (.bool kp) ∧ w'.cell? ⟨w.heap.size, 4, none⟩ = some (.bool wp) ∧ w'.cell? ⟨w.heap.size, 5, none⟩ = some (.bool og) ∧ w'.cell? ⟨w.heap.size, 6, none⟩ = some (.int .i64 a) ∧ w'.cell? ⟨w.heap.size, 7, none⟩ = some (.int .i64 b) ∧ w'.cell? ⟨w.heap.size, 8, none⟩ = some (.int .i64 c) ∧ w'.cell? ⟨w.heap.size, 9, none⟩ = some (.int .i64 d) ∧ w'.cell? ⟨w.heap.size, 10, none⟩ = some (.int .i64 l) ∧ w'.cell? ⟨w.heap.size, 11, none⟩ = some (.int .i64 r) ∧ w'.cell? ⟨w.heap.size, 12, none⟩ = some (.int .i64 s) ∧ w'.cell? ⟨w.heap.size + 1, 0, none⟩ = some (.int .i64 pt) ∧ w'.cell? ⟨w.heap.size + 1, 1, none⟩ = some (.int .i64 pl) ∧ w'.cell? ⟨w.heap.size + 1, 2, none⟩ = some (.int .i64 pb) ∧ w'.cell? ⟨w.heap.size + 1, 3, none⟩ = some (.int .i64 pr) ∧ w'.cell? ⟨w.heap.size + 1, 4, none⟩ = some (.int .i64 mt) ∧ w'.cell? ⟨w.heap.size + 1, 5, none⟩ = some (.int .i64 ml) ∧ w'.cell? ⟨w.heap.size + 1, 6, none⟩ = some (.int .i64 mb) ∧ w'.cell? ⟨w.heap.size + 1, 7, none⟩ = some (.int .i64 mr) := fun w' h => ⟨(h.cell (p := ⟨w.heap.size, 0, none⟩) (by simp; omega)).trans k0, (h.cell (p := ⟨w.heap.size, 1, none⟩) (by simp; omega)).trans k1, (h.cell (p := ⟨w.heap.size, 2, none⟩) (by simp; omega)).trans k2, (h.cell (p := ⟨w.heap.size, 3, none⟩) (by simp; omega)).trans k3, (h.cell (p := ⟨w.heap.size, 4, none⟩) (by simp; omega)).trans k4, (h.cell (p := ⟨w.heap.size, 5, none⟩) (by simp; omega)).trans k5, (h.cell (p := ⟨w.heap.size, 6, none⟩) (by simp; omega)).trans k6, (h.cell (p := ⟨w.heap.size, 7, none⟩) (by simp; omega)).trans k7, (h.cell (p := ⟨w.heap.size, 8, none⟩) (by simp; omega)).trans k8, (h.cell (p := ⟨w.heap.size, 9, none⟩) (by simp; omega)).trans k9, (h.cell (p := ⟨w.heap.size, 10, none⟩) (by simp; omega)).trans k10, (h.cell (p := ⟨w.heap.size, 11, none⟩) (by simp; omega)).trans k11, (h.cell (p := ⟨w.heap.size, 12, none⟩) (by simp; omega)).trans k12, (h.cell (p := ⟨w.heap.size + 1, 0, none⟩) (by simp; omega)).trans k13, (h.cell (p := ⟨w.heap.size + 1, 1, none⟩) (by simp; omega)).trans k14, (h.cell (p := ⟨w.heap.size + 1, 2, none⟩) (by simp; omega)).trans k15, (h.cell (p := ⟨w.heap.size + 1, 3, none⟩) (by simp; omega)).trans k16, (h.cell (p := ⟨w.heap.size + 1, 4, none⟩) (by simp; omega)).trans k17, (h.cell (p := ⟨w.heap.size + 1, 5, none⟩) (by simp; omega)).trans k18, (h.cell (p := ⟨w.heap.size + 1, 6, none⟩) (by simp; omega)).trans k19, (h.cell (p := ⟨w.heap.size + 1, 7, none⟩) (by simp; omega)).trans k20⟩
  go_cut [9, 10] (fun xv pv wx => ∃ bx bp, xv = .pointer (some ⟨bx, 0, none⟩) ∧ pv = .pointer (some ⟨bp, 0, none⟩) ∧ Below (W).heap.size (W) wx ∧ bx < wx.heap.size ∧ bp < wx.heap.size ∧ wx.cell? ⟨bx, 0, none⟩ = some (.int .i64 pt) ∧ wx.cell? ⟨bx, 1, none⟩ = some (.int .i64 pl) ∧ wx.cell? ⟨bx, 2, none⟩ = some (.int .i64 pb) ∧ wx.cell? ⟨bx, 3, none⟩ = some (.int .i64 pr) ∧ wx.cell? ⟨bx, 4, none⟩ = some (.int .i64 mt) ∧ wx.cell? ⟨bx, 5, none⟩ = some (.int .i64 ml) ∧ wx.cell? ⟨bx, 6, none⟩ = some (.int .i64 mb) ∧ wx.cell? ⟨bx, 7, none⟩ = some (.int .i64 mr) ∧ wx.cell? ⟨bp, 0, none⟩ = some (.int .i64 row) ∧ wx.cell? ⟨bp, 1, none⟩ = some (.int .i64 col) ∧ wx.cell? ⟨bp, 2, none⟩ = some (.int .u8 rd) ∧ wx.cell? ⟨bp, 3, none⟩ = some (.bool kp) ∧ wx.cell? ⟨bp, 4, none⟩ = some (.bool wp) ∧ wx.cell? ⟨bp, 5, none⟩ = some (.bool og) ∧ wx.cell? ⟨bp, 6, none⟩ = some (.int .i64 a) ∧ wx.cell? ⟨bp, 7, none⟩ = some (.int .i64 b) ∧ wx.cell? ⟨bp, 8, none⟩ = some (.int .i64 c) ∧ wx.cell? ⟨bp, 9, none⟩ = some (.int .i64 d) ∧ wx.cell? ⟨bp, 10, none⟩ = some (.int .i64 l) ∧ wx.cell? ⟨bp, 11, none⟩ = some (.int .i64 r) ∧ wx.cell? ⟨bp, 12, none⟩ = some (.int .i64 s))
  case first =>
    as_aux_lemma =>
      go_region_held3 (fun w' => w'.cell? ⟨w.heap.size, 0, none⟩ = some (.int .i64 row) ∧ w'.cell? ⟨w.heap.size, 1, none⟩ = some (.int .i64 col) ∧ w'.cell? ⟨w.heap.size, 2, none⟩ = some (.int .u8 rd) ∧ w'.cell? ⟨w.heap.size, 3, none⟩ = some (.bool kp) ∧ w'.cell? ⟨w.heap.size, 4, none⟩ = some (.bool wp) ∧ w'.cell? ⟨w.heap.size, 5, none⟩ = some (.bool og) ∧ w'.cell? ⟨w.heap.size, 6, none⟩ = some (.int .i64 a) ∧ w'.cell? ⟨w.heap.size, 7, none⟩ = some (.int .i64 b) ∧ w'.cell? ⟨w.heap.size, 8, none⟩ = some (.int .i64 c) ∧ w'.cell? ⟨w.heap.size, 9, none⟩ = some (.int .i64 d) ∧ w'.cell? ⟨w.heap.size, 10, none⟩ = some (.int .i64 l) ∧ w'.cell? ⟨w.heap.size, 11, none⟩ = some (.int .i64 r) ∧ w'.cell? ⟨w.heap.size, 12, none⟩ = some (.int .i64 s) ∧ w'.cell? ⟨w.heap.size + 1, 0, none⟩ = some (.int .i64 pt) ∧ w'.cell? ⟨w.heap.size + 1, 1, none⟩ = some (.int .i64 pl) ∧ w'.cell? ⟨w.heap.size + 1, 2, none⟩ = some (.int .i64 pb) ∧ w'.cell? ⟨w.heap.size + 1, 3, none⟩ = some (.int .i64 pr) ∧ w'.cell? ⟨w.heap.size + 1, 4, none⟩ = some (.int .i64 mt) ∧ w'.cell? ⟨w.heap.size + 1, 5, none⟩ = some (.int .i64 ml) ∧ w'.cell? ⟨w.heap.size + 1, 6, none⟩ = some (.int .i64 mb) ∧ w'.cell? ⟨w.heap.size + 1, 7, none⟩ = some (.int .i64 mr)) (exact KS _ (by (repeat' (first | (with_reducible exact Below.refl _ _) | (with_reducible refine Below.alloc ?_ ?_ _) | (with_reducible refine below_ext ?_ ?_ _) | (with_reducible refine Below.drew ?_) | (with_reducible refine below_drewN ?_ _) | (with_reducible refine Below.setCell ?_ ?_ _) | go_size | (simp only [go_sem]; omega) | (simp [go_sem]; done) | (simp [go_sem]; omega))))) ((first
        | (go_at_call 16; ((with_reducible refine (own_c _).mono ?_); rintro _ _ hgets; obtain ⟨rfl, _, rfl⟩ := hgets.get; clear hgets))
        | (go_at_call 21; ((with_reducible refine (frame_c _).mono ?_); rintro _ _ hgets; obtain ⟨rfl, _, rfl⟩ := hgets.get; clear hgets))))
      all_goals clear KS
      all_goals go_wp2
      all_goals go_meet
      all_goals exact ⟨_, _, rfl, rfl, by (repeat' (first | (with_reducible exact Below.refl _ _) | (with_reducible refine Below.alloc ?_ ?_ _) | (with_reducible refine below_ext ?_ ?_ _) | (with_reducible refine Below.drew ?_) | (with_reducible refine below_drewN ?_ _) | (with_reducible refine Below.setCell ?_ ?_ _) | go_size | (simp only [go_sem]; omega) | (simp [go_sem]; done) | (simp [go_sem]; omega))), (by first | (simp [go_sem, hsz]; done) | (simp [go_sem, hsz]; omega)), (by first | (simp [go_sem, hsz]; done) | (simp [go_sem, hsz]; omega)), (by first | (simp [go_sem, hsz]; done) | (simp [go_sem, hsz]; omega)), (by first | (simp [go_sem, hsz]; done) | (simp [go_sem, hsz]; omega)), (by first | (simp [go_sem, hsz]; done) | (simp [go_sem, hsz]; omega)), (by first | (simp [go_sem, hsz]; done) | (simp [go_sem, hsz]; omega)), (by first | (simp [go_sem, hsz]; done) | (simp [go_sem, hsz]; omega)), (by first | (simp [go_sem, hsz]; done) | (simp [go_sem, hsz]; omega)), (by first | (simp [go_sem, hsz]; done) | (simp [go_sem, hsz]; omega)), (by first | (simp [go_sem, hsz]; done) | (simp [go_sem, hsz]; omega)), (by first | (simp [go_sem, hsz]; done) | (simp [go_sem, hsz]; omega)), (by first | (simp [go_sem, hsz]; done) | (simp [go_sem, hsz]; omega)), (by first | (simp [go_sem, hsz]; done) | (simp [go_sem, hsz]; omega)), (by first | (simp [go_sem, hsz]; done) | (simp [go_sem, hsz]; omega)), (by first | (simp [go_sem, hsz]; done) | (simp [go_sem, hsz]; omega)), (by first | (simp [go_sem, hsz]; done) | (simp [go_sem, hsz]; omega)), (by first | (simp [go_sem, hsz]; done) | (simp [go_sem, hsz]; omega)), (by first | (simp [go_sem, hsz]; done) | (simp [go_sem, hsz]; omega)), (by first | (simp [go_sem, hsz]; done) | (simp [go_sem, hsz]; omega)), (by first | (simp [go_sem, hsz]; done) | (simp [go_sem, hsz]; omega)), (by first | (simp [go_sem, hsz]; done) | (simp [go_sem, hsz]; omega)), (by first | (simp [go_sem, hsz]; done) | (simp [go_sem, hsz]; omega)), (by first | (simp [go_sem, hsz]; done) | (simp [go_sem, hsz]; omega))⟩
  obtain ⟨bx, bp, rfl, rfl, hB2, hbx, hbp, f0, f1, f2, f3, f4, f5, f6, f7, p0, p1, p2, p3, p4, p5, p6, p7, p8, p9, p10, p11, p12⟩ := hcut
  have hBc : Below w.heap.size w wc := hB.trans (hB2.mono (by omega))
  clear KS k0 k1 k2 k3 k4 k5 k6 k7 k8 k9 k10 k11 k12 k13 k14 k15 k16 k17 k18 k19 k20 hB hB2 hsz
  clear hW
  have RP : wc.rangeAt bp 0 [.int .i64 row, .int .i64 col, .int .u8 rd, .bool kp, .bool wp, .bool og, .int .i64 a, .int .i64 b, .int .i64 c, .int .i64 d, .int .i64 l, .int .i64 r, .int .i64 s] := fun j v hv => by
    match j, hv with
    | 0, hv => injection hv with hv; subst hv; exact p0
    | 1, hv => injection hv with hv; subst hv; exact p1
    | 2, hv => injection hv with hv; subst hv; exact p2
    | 3, hv => injection hv with hv; subst hv; exact p3
    | 4, hv => injection hv with hv; subst hv; exact p4
    | 5, hv => injection hv with hv; subst hv; exact p5
    | 6, hv => injection hv with hv; subst hv; exact p6
    | 7, hv => injection hv with hv; subst hv; exact p7
    | 8, hv => injection hv with hv; subst hv; exact p8
    | 9, hv => injection hv with hv; subst hv; exact p9
    | 10, hv => injection hv with hv; subst hv; exact p10
    | 11, hv => injection hv with hv; subst hv; exact p11
    | 12, hv => injection hv with hv; subst hv; exact p12
    | _ + 13, hv => cases hv
  have RX : wc.rangeAt bx 0 [.int .i64 pt, .int .i64 pl, .int .i64 pb, .int .i64 pr, .int .i64 mt, .int .i64 ml, .int .i64 mb, .int .i64 mr] := fun j v hv => by
    match j, hv with
    | 0, hv => injection hv with hv; subst hv; exact f0
    | 1, hv => injection hv with hv; subst hv; exact f1
    | 2, hv => injection hv with hv; subst hv; exact f2
    | 3, hv => injection hv with hv; subst hv; exact f3
    | 4, hv => injection hv with hv; subst hv; exact f4
    | 5, hv => injection hv with hv; subst hv; exact f5
    | 6, hv => injection hv with hv; subst hv; exact f6
    | 7, hv => injection hv with hv; subst hv; exact f7
    | _ + 8, hv => cases hv
  clear p0 p1 p2 p3 p4 p5 p6 p7 p8 p9 p10 p11 p12 f0 f1 f2 f3 f4 f5 f6 f7
  have LP : ∀ x, (Instr.loadAt 33 (.pointer (some ⟨bp, 0, none⟩))).run Try.prog (ext wc x) = .ok (.agg #[.int .i64 row, .int .i64 col, .int .u8 rd, .bool kp, .bool wp, .bool og, .int .i64 a, .int .i64 b, .int .i64 c, .int .i64 d, .int .i64 l, .int .i64 r, .int .i64 s]) (ext wc x) := fun x => run_loadAt_mid (ext wc x) bp 0 _ _ _ (rangeAt_ext RP hbp x) Try.underlying33 rfl (by kernel_rfl)
  have LX : ∀ x, (Instr.loadAt 44 (.pointer (some ⟨bx, 0, none⟩))).run Try.prog (ext wc x) = .ok (.agg #[.int .i64 pt, .int .i64 pl, .int .i64 pb, .int .i64 pr, .int .i64 mt, .int .i64 ml, .int .i64 mb, .int .i64 mr]) (ext wc x) := fun x => run_loadAt_mid (ext wc x) bx 0 _ _ _ (rangeAt_ext RX hbx x) Try.underlying44 rfl (by kernel_rfl)
  clear RP RX hbx hbp
  have UE : ∀ x y w', ((eqGuard .eql 33 x y (.agg #[.int .i64 u3, .int .i64 C, .int .u8 rd, .bool kp, .bool false, .bool og, .int .i64 a, .int .i64 b, .int .i64 c, .int .i64 d, .int .i64 l, .int .i64 r, .int .i64 s]) (.agg #[.int .i64 u3, .int .i64 C, .int .u8 rd, .bool kp, .bool false, .bool og, .int .i64 a, .int .i64 b, .int .i64 c, .int .i64 d, .int .i64 l, .int .i64 r, .int .i64 s])).run Try.prog w').andThen (fun _ w' => (binOp .eql 33 (.agg #[.int .i64 u3, .int .i64 C, .int .u8 rd, .bool kp, .bool false, .bool og, .int .i64 a, .int .i64 b, .int .i64 c, .int .i64 d, .int .i64 l, .int .i64 r, .int .i64 s]) (.agg #[.int .i64 u3, .int .i64 C, .int .u8 rd, .bool kp, .bool false, .bool og, .int .i64 a, .int .i64 b, .int .i64 c, .int .i64 d, .int .i64 l, .int .i64 r, .int .i64 s])).run Try.prog w') = .ok (.bool true) w' := fun x y w' => (congrArg (fun z => Result.andThen z (fun _ w' => (binOp .eql 33 (.agg #[.int .i64 u3, .int .i64 C, .int .u8 rd, .bool kp, .bool false, .bool og, .int .i64 a, .int .i64 b, .int .i64 c, .int .i64 d, .int .i64 l, .int .i64 r, .int .i64 s]) (.agg #[.int .i64 u3, .int .i64 C, .int .u8 rd, .bool kp, .bool false, .bool og, .int .i64 a, .int .i64 b, .int .i64 c, .int .i64 d, .int .i64 l, .int .i64 r, .int .i64 s])).run Try.prog w')) (guard_cur x y _ _ w')).trans (cuc_same_eql _ _ _ _ _ _ _ _ _ _ _ _ _ w')
  have DE : ∀ x y w', ((eqGuard .eql 33 x y (.agg #[.int .i64 d3, .int .i64 C, .int .u8 rd, .bool kp, .bool false, .bool og, .int .i64 a, .int .i64 b, .int .i64 c, .int .i64 d, .int .i64 l, .int .i64 r, .int .i64 s]) (.agg #[.int .i64 d3, .int .i64 C, .int .u8 rd, .bool kp, .bool false, .bool og, .int .i64 a, .int .i64 b, .int .i64 c, .int .i64 d, .int .i64 l, .int .i64 r, .int .i64 s])).run Try.prog w').andThen (fun _ w' => (binOp .eql 33 (.agg #[.int .i64 d3, .int .i64 C, .int .u8 rd, .bool kp, .bool false, .bool og, .int .i64 a, .int .i64 b, .int .i64 c, .int .i64 d, .int .i64 l, .int .i64 r, .int .i64 s]) (.agg #[.int .i64 d3, .int .i64 C, .int .u8 rd, .bool kp, .bool false, .bool og, .int .i64 a, .int .i64 b, .int .i64 c, .int .i64 d, .int .i64 l, .int .i64 r, .int .i64 s])).run Try.prog w') = .ok (.bool true) w' := fun x y w' => (congrArg (fun z => Result.andThen z (fun _ w' => (binOp .eql 33 (.agg #[.int .i64 d3, .int .i64 C, .int .u8 rd, .bool kp, .bool false, .bool og, .int .i64 a, .int .i64 b, .int .i64 c, .int .i64 d, .int .i64 l, .int .i64 r, .int .i64 s]) (.agg #[.int .i64 d3, .int .i64 C, .int .u8 rd, .bool kp, .bool false, .bool og, .int .i64 a, .int .i64 b, .int .i64 c, .int .i64 d, .int .i64 l, .int .i64 r, .int .i64 s])).run Try.prog w')) (guard_cur x y _ _ w')).trans (cuc_same_eql _ _ _ _ _ _ _ _ _ _ _ _ _ w')
  have LE : ∀ x y w', ((eqGuard .eql 33 x y (.agg #[.int .i64 P, .int .i64 l3, .int .u8 rd, .bool kp, .bool false, .bool og, .int .i64 a, .int .i64 b, .int .i64 c, .int .i64 d, .int .i64 l, .int .i64 r, .int .i64 s]) (.agg #[.int .i64 P, .int .i64 l3, .int .u8 rd, .bool kp, .bool false, .bool og, .int .i64 a, .int .i64 b, .int .i64 c, .int .i64 d, .int .i64 l, .int .i64 r, .int .i64 s])).run Try.prog w').andThen (fun _ w' => (binOp .eql 33 (.agg #[.int .i64 P, .int .i64 l3, .int .u8 rd, .bool kp, .bool false, .bool og, .int .i64 a, .int .i64 b, .int .i64 c, .int .i64 d, .int .i64 l, .int .i64 r, .int .i64 s]) (.agg #[.int .i64 P, .int .i64 l3, .int .u8 rd, .bool kp, .bool false, .bool og, .int .i64 a, .int .i64 b, .int .i64 c, .int .i64 d, .int .i64 l, .int .i64 r, .int .i64 s])).run Try.prog w') = .ok (.bool true) w' := fun x y w' => (congrArg (fun z => Result.andThen z (fun _ w' => (binOp .eql 33 (.agg #[.int .i64 P, .int .i64 l3, .int .u8 rd, .bool kp, .bool false, .bool og, .int .i64 a, .int .i64 b, .int .i64 c, .int .i64 d, .int .i64 l, .int .i64 r, .int .i64 s]) (.agg #[.int .i64 P, .int .i64 l3, .int .u8 rd, .bool kp, .bool false, .bool og, .int .i64 a, .int .i64 b, .int .i64 c, .int .i64 d, .int .i64 l, .int .i64 r, .int .i64 s])).run Try.prog w')) (guard_cur x y _ _ w')).trans (cuc_same_eql _ _ _ _ _ _ _ _ _ _ _ _ _ w')
  have RE : ∀ x y w', ((eqGuard .eql 33 x y (.agg #[.int .i64 P, .int .i64 r3, .int .u8 rd, .bool kp, .bool false, .bool og, .int .i64 a, .int .i64 b, .int .i64 c, .int .i64 d, .int .i64 l, .int .i64 r, .int .i64 s]) (.agg #[.int .i64 P, .int .i64 r3, .int .u8 rd, .bool kp, .bool false, .bool og, .int .i64 a, .int .i64 b, .int .i64 c, .int .i64 d, .int .i64 l, .int .i64 r, .int .i64 s])).run Try.prog w').andThen (fun _ w' => (binOp .eql 33 (.agg #[.int .i64 P, .int .i64 r3, .int .u8 rd, .bool kp, .bool false, .bool og, .int .i64 a, .int .i64 b, .int .i64 c, .int .i64 d, .int .i64 l, .int .i64 r, .int .i64 s]) (.agg #[.int .i64 P, .int .i64 r3, .int .u8 rd, .bool kp, .bool false, .bool og, .int .i64 a, .int .i64 b, .int .i64 c, .int .i64 d, .int .i64 l, .int .i64 r, .int .i64 s])).run Try.prog w') = .ok (.bool true) w' := fun x y w' => (congrArg (fun z => Result.andThen z (fun _ w' => (binOp .eql 33 (.agg #[.int .i64 P, .int .i64 r3, .int .u8 rd, .bool kp, .bool false, .bool og, .int .i64 a, .int .i64 b, .int .i64 c, .int .i64 d, .int .i64 l, .int .i64 r, .int .i64 s]) (.agg #[.int .i64 P, .int .i64 r3, .int .u8 rd, .bool kp, .bool false, .bool og, .int .i64 a, .int .i64 b, .int .i64 c, .int .i64 d, .int .i64 l, .int .i64 r, .int .i64 s])).run Try.prog w')) (guard_cur x y _ _ w')).trans (cuc_same_eql _ _ _ _ _ _ _ _ _ _ _ _ _ w')
  have TE : ∀ x y w', ((eqGuard .eql 33 x y (.agg #[.int .i64 P, .int .i64 il, .int .u8 rd, .bool kp, .bool false, .bool og, .int .i64 a, .int .i64 b, .int .i64 c, .int .i64 d, .int .i64 l, .int .i64 r, .int .i64 s]) (.agg #[.int .i64 P, .int .i64 il, .int .u8 rd, .bool kp, .bool false, .bool og, .int .i64 a, .int .i64 b, .int .i64 c, .int .i64 d, .int .i64 l, .int .i64 r, .int .i64 s])).run Try.prog w').andThen (fun _ w' => (binOp .eql 33 (.agg #[.int .i64 P, .int .i64 il, .int .u8 rd, .bool kp, .bool false, .bool og, .int .i64 a, .int .i64 b, .int .i64 c, .int .i64 d, .int .i64 l, .int .i64 r, .int .i64 s]) (.agg #[.int .i64 P, .int .i64 il, .int .u8 rd, .bool kp, .bool false, .bool og, .int .i64 a, .int .i64 b, .int .i64 c, .int .i64 d, .int .i64 l, .int .i64 r, .int .i64 s])).run Try.prog w') = .ok (.bool true) w' := fun x y w' => (congrArg (fun z => Result.andThen z (fun _ w' => (binOp .eql 33 (.agg #[.int .i64 P, .int .i64 il, .int .u8 rd, .bool kp, .bool false, .bool og, .int .i64 a, .int .i64 b, .int .i64 c, .int .i64 d, .int .i64 l, .int .i64 r, .int .i64 s]) (.agg #[.int .i64 P, .int .i64 il, .int .u8 rd, .bool kp, .bool false, .bool og, .int .i64 a, .int .i64 b, .int .i64 c, .int .i64 d, .int .i64 l, .int .i64 r, .int .i64 s])).run Try.prog w')) (guard_cur x y _ _ w')).trans (cuc_same_eql _ _ _ _ _ _ _ _ _ _ _ _ _ w')
  have A1 := U1.out
  replace U1 := U1.out
  replace U2 := U2.out
  replace U3 := U3.out
  replace D1 := D1.out
  replace D2 := D2.out
  replace D3 := D3.out
  replace L1 := L1.out
  replace L2 := L2.out
  replace L3 := L3.out
  replace R1 := R1.out
  replace R2 := R2.out
  replace R3 := R3.out
  replace T1 := T1.out
  replace T2 := T2.out
  clear A1
  go_upto_region 7 with (fail)
  generalize (.agg #[.int .i64 row, .int .i64 col, .int .u8 rd, .bool kp, .bool wp, .bool og, .int .i64 a, .int .i64 b, .int .i64 c, .int .i64 d, .int .i64 l, .int .i64 r, .int .i64 s] : Value) = pv at U1 U2 U3 D1 D2 D3 L1 L2 L3 R1 R2 R3 T1 T2 LP LX UE DE LE RE TE ⊢
  generalize (.agg #[.int .i64 pt, .int .i64 pl, .int .i64 pb, .int .i64 pr, .int .i64 mt, .int .i64 ml, .int .i64 mb, .int .i64 mr] : Value) = xv at U1 U2 U3 D1 D2 D3 L1 L2 L3 R1 R2 R3 T1 T2 LP LX UE DE LE RE TE ⊢
  generalize (.agg #[.int .i64 u3, .int .i64 C, .int .u8 rd, .bool kp, .bool false, .bool og, .int .i64 a, .int .i64 b, .int .i64 c, .int .i64 d, .int .i64 l, .int .i64 r, .int .i64 s] : Value) = Uv at U1 U2 U3 D1 D2 D3 L1 L2 L3 R1 R2 R3 T1 T2 LP LX UE DE LE RE TE ⊢
  generalize (.agg #[.int .i64 d3, .int .i64 C, .int .u8 rd, .bool kp, .bool false, .bool og, .int .i64 a, .int .i64 b, .int .i64 c, .int .i64 d, .int .i64 l, .int .i64 r, .int .i64 s] : Value) = Dv at U1 U2 U3 D1 D2 D3 L1 L2 L3 R1 R2 R3 T1 T2 LP LX UE DE LE RE TE ⊢
  generalize (.agg #[.int .i64 P, .int .i64 l3, .int .u8 rd, .bool kp, .bool false, .bool og, .int .i64 a, .int .i64 b, .int .i64 c, .int .i64 d, .int .i64 l, .int .i64 r, .int .i64 s] : Value) = Lv at U1 U2 U3 D1 D2 D3 L1 L2 L3 R1 R2 R3 T1 T2 LP LX UE DE LE RE TE ⊢
  generalize (.agg #[.int .i64 P, .int .i64 r3, .int .u8 rd, .bool kp, .bool false, .bool og, .int .i64 a, .int .i64 b, .int .i64 c, .int .i64 d, .int .i64 l, .int .i64 r, .int .i64 s] : Value) = Rv at U1 U2 U3 D1 D2 D3 L1 L2 L3 R1 R2 R3 T1 T2 LP LX UE DE LE RE TE ⊢
  generalize (.agg #[.int .i64 u1, .int .i64 C, .int .u8 rd, .bool kp, .bool false, .bool og, .int .i64 a, .int .i64 b, .int .i64 c, .int .i64 d, .int .i64 l, .int .i64 r, .int .i64 s] : Value) = Um at U1 U2 U3 D1 D2 D3 L1 L2 L3 R1 R2 R3 T1 T2 LP LX UE DE LE RE TE ⊢
  generalize (.agg #[.int .i64 d1, .int .i64 C, .int .u8 rd, .bool kp, .bool false, .bool og, .int .i64 a, .int .i64 b, .int .i64 c, .int .i64 d, .int .i64 l, .int .i64 r, .int .i64 s] : Value) = Dm at U1 U2 U3 D1 D2 D3 L1 L2 L3 R1 R2 R3 T1 T2 LP LX UE DE LE RE TE ⊢
  generalize (.agg #[.int .i64 P, .int .i64 l1, .int .u8 rd, .bool kp, .bool false, .bool og, .int .i64 a, .int .i64 b, .int .i64 c, .int .i64 d, .int .i64 l, .int .i64 r, .int .i64 s] : Value) = Lm at U1 U2 U3 D1 D2 D3 L1 L2 L3 R1 R2 R3 T1 T2 LP LX UE DE LE RE TE ⊢
  generalize (.agg #[.int .i64 P, .int .i64 r1, .int .u8 rd, .bool kp, .bool false, .bool og, .int .i64 a, .int .i64 b, .int .i64 c, .int .i64 d, .int .i64 l, .int .i64 r, .int .i64 s] : Value) = Rm at U1 U2 U3 D1 D2 D3 L1 L2 L3 R1 R2 R3 T1 T2 LP LX UE DE LE RE TE ⊢
  generalize (.agg #[.int .i64 P, .int .i64 il, .int .u8 rd, .bool kp, .bool false, .bool og, .int .i64 a, .int .i64 b, .int .i64 c, .int .i64 d, .int .i64 l, .int .i64 r, .int .i64 s] : Value) = Tv at U1 U2 U3 D1 D2 D3 L1 L2 L3 R1 R2 R3 T1 T2 LP LX UE DE LE RE TE ⊢
  replace U1 := Lib.hid U1
  replace U2 := Lib.hid U2
  replace U3 := Lib.hid U3
  replace D1 := Lib.hid D1
  replace D2 := Lib.hid D2
  replace D3 := Lib.hid D3
  replace L1 := Lib.hid L1
  replace L2 := Lib.hid L2
  replace L3 := Lib.hid L3
  replace R1 := Lib.hid R1
  replace R2 := Lib.hid R2
  replace R3 := Lib.hid R3
  replace T1 := Lib.hid T1
  replace T2 := Lib.hid T2
  replace LP := Lib.hid LP
  replace LX := Lib.hid LX
  replace UE := Lib.hid UE
  replace DE := Lib.hid DE
  replace LE := Lib.hid LE
  replace RE := Lib.hid RE
  replace TE := Lib.hid TE
  try dsimp only [List.append]
  (refine wp_region_free (by kernel_rfl) (by kernel_rfl) ?_)
  repeat (first | (go_big_quiet_want; (first | refine quiet_load 33 _ pv rfl (fun w' hw' => by obtain ⟨x, rfl⟩ := hw'; exact LP.out x) ?_ | refine quiet_load 44 _ xv rfl (fun w' hw' => by obtain ⟨x, rfl⟩ := hw'; exact LX.out x) ?_); simp only [Act.put, List.setIfInBounds_toArray, List.set_cons_zero, List.set_cons_succ]; go_big_quiet_on) | (go_big_quiet_want; (first | refine quiet_bin .eql 33 _ _ _ _ rfl (UE.out _ _) ?_ | refine quiet_bin .eql 33 _ _ _ _ rfl (DE.out _ _) ?_ | refine quiet_bin .eql 33 _ _ _ _ rfl (LE.out _ _) ?_ | refine quiet_bin .eql 33 _ _ _ _ rfl (RE.out _ _) ?_ | refine quiet_bin .eql 33 _ _ _ _ rfl (TE.out _ _) ?_); simp only [Act.put, List.setIfInBounds_toArray, List.set_cons_zero, List.set_cons_succ]; go_big_quiet_on) | go_big_quiet_step (first | ((go_at_call 28; with_reducible exact Calls.free (U1.out _))) | ((go_at_call 28; with_reducible exact Calls.free (U2.out _))) | ((go_at_call 28; with_reducible exact Calls.free (U3.out _))) | ((go_at_call 29; with_reducible exact Calls.free (D1.out _))) | ((go_at_call 29; with_reducible exact Calls.free (D2.out _))) | ((go_at_call 29; with_reducible exact Calls.free (D3.out _))) | ((go_at_call 30; with_reducible exact Calls.free (L1.out _))) | ((go_at_call 30; with_reducible exact Calls.free (L2.out _))) | ((go_at_call 30; with_reducible exact Calls.free (L3.out _))) | ((go_at_call 31; with_reducible exact Calls.free (R1.out _))) | ((go_at_call 31; with_reducible exact Calls.free (R2.out _))) | ((go_at_call 31; with_reducible exact Calls.free (R3.out _))) | ((go_at_call 32; with_reducible exact Calls.free (T1.out _))) | ((go_at_call 32; with_reducible exact Calls.free (T2.out _)))))
  refine wpQuiet_nil ?_; rintro _ ⟨x4, rfl⟩
  go_wp2
  go_returns
  refine ⟨?_, ?_⟩
  · first | rfl | (refine ret_bool ?_; simp [*])
  · have hs := hBc.size
    (repeat (first | exact hBc | (with_reducible refine below_ext ?_ (by first | exact hs | (simp [go_sem]; done) | (simp [go_sem]; omega)) _) | (with_reducible refine Below.drew ?_)))
end Go.Proofs.Ytdlngbmgcedbpaa
