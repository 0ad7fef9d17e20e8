/- An act of both, by its kind. -/
import Derived.Test.YtdlngbmgcedbpaaCursQ
import Derived.Test.YtdlngbmgcedbpaaFrameCurs
import Derived.Test.YtdlngbmgcedbpaaAwake13
import Derived.Test.YtdlngbmgcedbpaaCursF2
import Derived.Test.YtdlngbmgcedbpaaBut
import Derived.Test.YtdlngbmgcedbpaaCursC
import Derived.Test.YtdlngbmgcedbpaaCursG
import Derived.Test.YtdlngbmgcedbpaaCursH
import Derived.Test.YtdlngbmgcedbpaaCursMUp
import Derived.Test.YtdlngbmgcedbpaaCursMDown
import Derived.Test.YtdlngbmgcedbpaaCursMLeft
import Derived.Test.YtdlngbmgcedbpaaCursMRight
import Derived.Deep.RegionHeld3

namespace Go.Proofs.Ytdlngbmgcedbpaa
open Go.ChangeShapes Go.WideShapes Go.ChangeAt Go.RowKit
set_option linter.unusedVariables false
set_option linter.unusedSimpArgs false

set_option maxRecDepth 100000 in
set_option maxHeartbeats 8000000 in
theorem do_3 (w : World) (row col row2 col2 rd : Int) (kp wp wp2 : Bool) (og : Bool) (a b c d l r s pt pl pb pr mt ml mb mr N M : Int) (hb : pb ≤ 2000) (hr : pr ≤ 2000) :
    Calls Try.prog 38 #[.agg #[.int .i64 row, .int .i64 col, .int .u8 rd, .bool kp, .bool wp, .bool og, .int .i64 a, .int .i64 b, .int .i64 c, .int .i64 d, .int .i64 l, .int .i64 r, .int .i64 s], .agg #[.int .i64 row2, .int .i64 col2, .int .u8 rd, .bool kp, .bool wp2, .bool og, .int .i64 a, .int .i64 b, .int .i64 c, .int .i64 d, .int .i64 l, .int .i64 r, .int .i64 s], .agg #[.int .i64 pt, .int .i64 pl, .int .i64 pb, .int .i64 pr, .int .i64 mt, .int .i64 ml, .int .i64 mb, .int .i64 mr], .agg #[.int .i64 3, .int .i64 N, .int .i64 M]] w (Gives w (.tuple #[.agg #[.int .i64 (clampI 0 (max 1 pb) row), .int .i64 (backI (clampI 0 (max 1 pr) col) N (inn pb pr mt ml mb mr).l), .int .u8 rd, .bool kp, .bool false, .bool og, .int .i64 a, .int .i64 b, .int .i64 c, .int .i64 d, .int .i64 l, .int .i64 r, .int .i64 s], .agg #[.int .i64 (clampI 0 (max 1 pb) row2), .int .i64 (upI (clampI 0 (max 1 pr) col2) N (inn pb pr mt ml mb mr).l), .int .u8 rd, .bool kp, .bool false, .bool og, .int .i64 a, .int .i64 b, .int .i64 c, .int .i64 d, .int .i64 l, .int .i64 r, .int .i64 s]])) := by
  have A := fun w' => left_c (row := row) (col := col) (wp := wp) (rd := rd) (kp := kp) (og := og) (a := a) (b := b) (c := c) (d := d) (l := l) (r := r) (s := s) (pt := pt) (pl := pl) (pb := pb) (pr := pr) (mt := mt) (ml := ml) (mb := mb) (mr := mr) hb hr N w'
  have Z := fun w' => move_left (row := row2) (col := col2) (wp := wp2) (rd := rd) (kp := kp) (og := og) (a := a) (b := b) (c := c) (d := d) (l := l) (r := r) (s := s) (pt := pt) (pl := pl) (pb := pb) (pr := pr) (mt := mt) (ml := ml) (mb := mb) (mr := mr) hb hr N w'
  generalize (upI (clampI 0 (max 1 pr) col2) N (inn pb pr mt ml mb mr).l) = y4 at A Z ⊢
  generalize (clampI 0 (max 1 pb) row2) = y3 at A Z ⊢
  generalize (backI (clampI 0 (max 1 pr) col) N (inn pb pr mt ml mb mr).l) = y1 at A Z ⊢
  generalize (clampI 0 (max 1 pb) row) = y0 at A Z ⊢
  replace A := Lib.hid A
  replace Z := Lib.hid Z
  clear hb hr
  go_enter Try.func38, Try.ntmps38
  go_upto_region 8 with (first | (go_at_call 21; ((with_reducible refine (frame_c _).mono ?_); rintro _ _ hgets; obtain ⟨rfl, x1, rfl⟩ := hgets.get; clear hgets)))
  generalize hW : (ext ((((((w.alloc (.cells #[.int .i64 row, .int .i64 col, .int .u8 rd, .bool kp, .bool wp, .bool og, .int .i64 a, .int .i64 b, .int .i64 c, .int .i64 d, .int .i64 l, .int .i64 r, .int .i64 s] 33)).alloc (.cells #[.int .i64 row2, .int .i64 col2, .int .u8 rd, .bool kp, .bool wp2, .bool og, .int .i64 a, .int .i64 b, .int .i64 c, .int .i64 d, .int .i64 l, .int .i64 r, .int .i64 s] 27)).alloc (.cells #[.int .i64 pt, .int .i64 pl, .int .i64 pb, .int .i64 pr, .int .i64 mt, .int .i64 ml, .int .i64 mb, .int .i64 mr] 42)).alloc (.cells #[.int .i64 3, .int .i64 N, .int .i64 M] 62)).alloc (.cells #[.int .i64 0, .int .i64 0, .int .u8 0, .bool false, .bool false, .bool false, .int .i64 0, .int .i64 0, .int .i64 0, .int .i64 0, .int .i64 0, .int .i64 0, .int .i64 0] 33)).alloc (.cells #[.int .i64 0, .int .i64 0, .int .u8 0, .bool false, .bool false, .bool false, .int .i64 0, .int .i64 0, .int .i64 0, .int .i64 0, .int .i64 0, .int .i64 0, .int .i64 0] 27)) x1).alloc (.cells #[.int .i64 pt, .int .i64 pl, .int .i64 pb, .int .i64 pr, .int .i64 mt, .int .i64 ml, .int .i64 mb, .int .i64 mr] 44) = W
  have hsz : W.heap.size = w.heap.size + 1 + 1 + 1 + 1 + 1 + 1 + x1.sz + 1 := by subst hW; simp [go_sem]
  have k0 : W.cell? ⟨w.heap.size, 0, none⟩ = some (.int .i64 row) := by subst hW; simp [go_sem]
  have k1 : W.cell? ⟨w.heap.size, 1, none⟩ = some (.int .i64 col) := by subst hW; simp [go_sem]
  have k2 : W.cell? ⟨w.heap.size, 2, none⟩ = some (.int .u8 rd) := by subst hW; simp [go_sem]
  have k3 : W.cell? ⟨w.heap.size, 3, none⟩ = some (.bool kp) := by subst hW; simp [go_sem]
  have k4 : W.cell? ⟨w.heap.size, 4, none⟩ = some (.bool wp) := by subst hW; simp [go_sem]
  have k5 : W.cell? ⟨w.heap.size, 5, none⟩ = some (.bool og) := by subst hW; simp [go_sem]
  have k6 : W.cell? ⟨w.heap.size, 6, none⟩ = some (.int .i64 a) := by subst hW; simp [go_sem]
  have k7 : W.cell? ⟨w.heap.size, 7, none⟩ = some (.int .i64 b) := by subst hW; simp [go_sem]
  have k8 : W.cell? ⟨w.heap.size, 8, none⟩ = some (.int .i64 c) := by subst hW; simp [go_sem]
  have k9 : W.cell? ⟨w.heap.size, 9, none⟩ = some (.int .i64 d) := by subst hW; simp [go_sem]
  have k10 : W.cell? ⟨w.heap.size, 10, none⟩ = some (.int .i64 l) := by subst hW; simp [go_sem]
  have k11 : W.cell? ⟨w.heap.size, 11, none⟩ = some (.int .i64 r) := by subst hW; simp [go_sem]
  have k12 : W.cell? ⟨w.heap.size, 12, none⟩ = some (.int .i64 s) := by subst hW; simp [go_sem]
  have k13 : W.cell? ⟨w.heap.size + 1, 0, none⟩ = some (.int .i64 row2) := by subst hW; simp [go_sem]
  have k14 : W.cell? ⟨w.heap.size + 1, 1, none⟩ = some (.int .i64 col2) := by subst hW; simp [go_sem]
  have k15 : W.cell? ⟨w.heap.size + 1, 2, none⟩ = some (.int .u8 rd) := by subst hW; simp [go_sem]
  have k16 : W.cell? ⟨w.heap.size + 1, 3, none⟩ = some (.bool kp) := by subst hW; simp [go_sem]
  have k17 : W.cell? ⟨w.heap.size + 1, 4, none⟩ = some (.bool wp2) := by subst hW; simp [go_sem]
  have k18 : W.cell? ⟨w.heap.size + 1, 5, none⟩ = some (.bool og) := by subst hW; simp [go_sem]
  have k19 : W.cell? ⟨w.heap.size + 1, 6, none⟩ = some (.int .i64 a) := by subst hW; simp [go_sem]
  have k20 : W.cell? ⟨w.heap.size + 1, 7, none⟩ = some (.int .i64 b) := by subst hW; simp [go_sem]
  have k21 : W.cell? ⟨w.heap.size + 1, 8, none⟩ = some (.int .i64 c) := by subst hW; simp [go_sem]
  have k22 : W.cell? ⟨w.heap.size + 1, 9, none⟩ = some (.int .i64 d) := by subst hW; simp [go_sem]
  have k23 : W.cell? ⟨w.heap.size + 1, 10, none⟩ = some (.int .i64 l) := by subst hW; simp [go_sem]
  have k24 : W.cell? ⟨w.heap.size + 1, 11, none⟩ = some (.int .i64 r) := by subst hW; simp [go_sem]
  have k25 : W.cell? ⟨w.heap.size + 1, 12, none⟩ = some (.int .i64 s) := by subst hW; simp [go_sem]
  have k26 : W.cell? ⟨w.heap.size + 1 + 1, 0, none⟩ = some (.int .i64 pt) := by subst hW; simp [go_sem]
  have k27 : W.cell? ⟨w.heap.size + 1 + 1, 1, none⟩ = some (.int .i64 pl) := by subst hW; simp [go_sem]
  have k28 : W.cell? ⟨w.heap.size + 1 + 1, 2, none⟩ = some (.int .i64 pb) := by subst hW; simp [go_sem]
  have k29 : W.cell? ⟨w.heap.size + 1 + 1, 3, none⟩ = some (.int .i64 pr) := by subst hW; simp [go_sem]
  have k30 : W.cell? ⟨w.heap.size + 1 + 1, 4, none⟩ = some (.int .i64 mt) := by subst hW; simp [go_sem]
  have k31 : W.cell? ⟨w.heap.size + 1 + 1, 5, none⟩ = some (.int .i64 ml) := by subst hW; simp [go_sem]
  have k32 : W.cell? ⟨w.heap.size + 1 + 1, 6, none⟩ = some (.int .i64 mb) := by subst hW; simp [go_sem]
  have k33 : W.cell? ⟨w.heap.size + 1 + 1, 7, none⟩ = some (.int .i64 mr) := by subst hW; simp [go_sem]
  have k34 : W.cell? ⟨w.heap.size + 1 + 1 + 1 + 1 + 1 + 1 + x1.sz, 0, none⟩ = some (.int .i64 pt) := by subst hW; simp [go_sem]
  have k35 : W.cell? ⟨w.heap.size + 1 + 1 + 1 + 1 + 1 + 1 + x1.sz, 1, none⟩ = some (.int .i64 pl) := by subst hW; simp [go_sem]
  have k36 : W.cell? ⟨w.heap.size + 1 + 1 + 1 + 1 + 1 + 1 + x1.sz, 2, none⟩ = some (.int .i64 pb) := by subst hW; simp [go_sem]
  have k37 : W.cell? ⟨w.heap.size + 1 + 1 + 1 + 1 + 1 + 1 + x1.sz, 3, none⟩ = some (.int .i64 pr) := by subst hW; simp [go_sem]
  have k38 : W.cell? ⟨w.heap.size + 1 + 1 + 1 + 1 + 1 + 1 + x1.sz, 4, none⟩ = some (.int .i64 mt) := by subst hW; simp [go_sem]
  have k39 : W.cell? ⟨w.heap.size + 1 + 1 + 1 + 1 + 1 + 1 + x1.sz, 5, none⟩ = some (.int .i64 ml) := by subst hW; simp [go_sem]
  have k40 : W.cell? ⟨w.heap.size + 1 + 1 + 1 + 1 + 1 + 1 + x1.sz, 6, none⟩ = some (.int .i64 mb) := by subst hW; simp [go_sem]
  have k41 : W.cell? ⟨w.heap.size + 1 + 1 + 1 + 1 + 1 + 1 + x1.sz, 7, none⟩ = some (.int .i64 mr) := by subst hW; simp [go_sem]
  have k42 : W.cell? ⟨w.heap.size + 1 + 1 + 1, 1, none⟩ = some (.int .i64 N) := by subst hW; simp [go_sem]
  have z0 : W.frozen? ⟨w.heap.size + 1 + 1 + 1 + 1, 0, none⟩ = false := by subst hW; simp [go_sem]
  have z1 : W.frozen? ⟨w.heap.size + 1 + 1 + 1 + 1, 1, none⟩ = false := by subst hW; simp [go_sem]
  have z2 : W.frozen? ⟨w.heap.size + 1 + 1 + 1 + 1, 2, none⟩ = false := by subst hW; simp [go_sem]
  have z3 : W.frozen? ⟨w.heap.size + 1 + 1 + 1 + 1, 3, none⟩ = false := by subst hW; simp [go_sem]
  have z4 : W.frozen? ⟨w.heap.size + 1 + 1 + 1 + 1, 4, none⟩ = false := by subst hW; simp [go_sem]
  have z5 : W.frozen? ⟨w.heap.size + 1 + 1 + 1 + 1, 5, none⟩ = false := by subst hW; simp [go_sem]
  have z6 : W.frozen? ⟨w.heap.size + 1 + 1 + 1 + 1, 6, none⟩ = false := by subst hW; simp [go_sem]
  have z7 : W.frozen? ⟨w.heap.size + 1 + 1 + 1 + 1, 7, none⟩ = false := by subst hW; simp [go_sem]
  have z8 : W.frozen? ⟨w.heap.size + 1 + 1 + 1 + 1, 8, none⟩ = false := by subst hW; simp [go_sem]
  have z9 : W.frozen? ⟨w.heap.size + 1 + 1 + 1 + 1, 9, none⟩ = false := by subst hW; simp [go_sem]
  have z10 : W.frozen? ⟨w.heap.size + 1 + 1 + 1 + 1, 10, none⟩ = false := by subst hW; simp [go_sem]
  have z11 : W.frozen? ⟨w.heap.size + 1 + 1 + 1 + 1, 11, none⟩ = false := by subst hW; simp [go_sem]
  have z12 : W.frozen? ⟨w.heap.size + 1 + 1 + 1 + 1, 12, none⟩ = false := by subst hW; simp [go_sem]
  have z13 : W.frozen? ⟨w.heap.size + 1 + 1 + 1 + 1 + 1, 0, none⟩ = false := by subst hW; simp [go_sem]
  have z14 : W.frozen? ⟨w.heap.size + 1 + 1 + 1 + 1 + 1, 1, none⟩ = false := by subst hW; simp [go_sem]
  have z15 : W.frozen? ⟨w.heap.size + 1 + 1 + 1 + 1 + 1, 2, none⟩ = false := by subst hW; simp [go_sem]
  have z16 : W.frozen? ⟨w.heap.size + 1 + 1 + 1 + 1 + 1, 3, none⟩ = false := by subst hW; simp [go_sem]
  have z17 : W.frozen? ⟨w.heap.size + 1 + 1 + 1 + 1 + 1, 4, none⟩ = false := by subst hW; simp [go_sem]
  have z18 : W.frozen? ⟨w.heap.size + 1 + 1 + 1 + 1 + 1, 5, none⟩ = false := by subst hW; simp [go_sem]
  have z19 : W.frozen? ⟨w.heap.size + 1 + 1 + 1 + 1 + 1, 6, none⟩ = false := by subst hW; simp [go_sem]
  have z20 : W.frozen? ⟨w.heap.size + 1 + 1 + 1 + 1 + 1, 7, none⟩ = false := by subst hW; simp [go_sem]
  have z21 : W.frozen? ⟨w.heap.size + 1 + 1 + 1 + 1 + 1, 8, none⟩ = false := by subst hW; simp [go_sem]
  have z22 : W.frozen? ⟨w.heap.size + 1 + 1 + 1 + 1 + 1, 9, none⟩ = false := by subst hW; simp [go_sem]
  have z23 : W.frozen? ⟨w.heap.size + 1 + 1 + 1 + 1 + 1, 10, none⟩ = false := by subst hW; simp [go_sem]
  have z24 : W.frozen? ⟨w.heap.size + 1 + 1 + 1 + 1 + 1, 11, none⟩ = false := by subst hW; simp [go_sem]
  have z25 : W.frozen? ⟨w.heap.size + 1 + 1 + 1 + 1 + 1, 12, none⟩ = false := by subst hW; simp [go_sem]
  have u0 : W.cell? ⟨w.heap.size + 1 + 1 + 1 + 1, 0, none⟩ = some (.int .i64 0) := by subst hW; simp [go_sem]
  have u1 : W.cell? ⟨w.heap.size + 1 + 1 + 1 + 1, 1, none⟩ = some (.int .i64 0) := by subst hW; simp [go_sem]
  have u2 : W.cell? ⟨w.heap.size + 1 + 1 + 1 + 1, 2, none⟩ = some (.int .u8 0) := by subst hW; simp [go_sem]
  have u3 : W.cell? ⟨w.heap.size + 1 + 1 + 1 + 1, 3, none⟩ = some (.bool false) := by subst hW; simp [go_sem]
  have u4 : W.cell? ⟨w.heap.size + 1 + 1 + 1 + 1, 4, none⟩ = some (.bool false) := by subst hW; simp [go_sem]
  have u5 : W.cell? ⟨w.heap.size + 1 + 1 + 1 + 1, 5, none⟩ = some (.bool false) := by subst hW; simp [go_sem]
  have u6 : W.cell? ⟨w.heap.size + 1 + 1 + 1 + 1, 6, none⟩ = some (.int .i64 0) := by subst hW; simp [go_sem]
  have u7 : W.cell? ⟨w.heap.size + 1 + 1 + 1 + 1, 7, none⟩ = some (.int .i64 0) := by subst hW; simp [go_sem]
  have u8 : W.cell? ⟨w.heap.size + 1 + 1 + 1 + 1, 8, none⟩ = some (.int .i64 0) := by subst hW; simp [go_sem]
  have u9 : W.cell? ⟨w.heap.size + 1 + 1 + 1 + 1, 9, none⟩ = some (.int .i64 0) := by subst hW; simp [go_sem]
  have u10 : W.cell? ⟨w.heap.size + 1 + 1 + 1 + 1, 10, none⟩ = some (.int .i64 0) := by subst hW; simp [go_sem]
  have u11 : W.cell? ⟨w.heap.size + 1 + 1 + 1 + 1, 11, none⟩ = some (.int .i64 0) := by subst hW; simp [go_sem]
  have u12 : W.cell? ⟨w.heap.size + 1 + 1 + 1 + 1, 12, none⟩ = some (.int .i64 0) := by subst hW; simp [go_sem]
  have u13 : W.cell? ⟨w.heap.size + 1 + 1 + 1 + 1 + 1, 0, none⟩ = some (.int .i64 0) := by subst hW; simp [go_sem]
  have u14 : W.cell? ⟨w.heap.size + 1 + 1 + 1 + 1 + 1, 1, none⟩ = some (.int .i64 0) := by subst hW; simp [go_sem]
  have u15 : W.cell? ⟨w.heap.size + 1 + 1 + 1 + 1 + 1, 2, none⟩ = some (.int .u8 0) := by subst hW; simp [go_sem]
  have u16 : W.cell? ⟨w.heap.size + 1 + 1 + 1 + 1 + 1, 3, none⟩ = some (.bool false) := by subst hW; simp [go_sem]
  have u17 : W.cell? ⟨w.heap.size + 1 + 1 + 1 + 1 + 1, 4, none⟩ = some (.bool false) := by subst hW; simp [go_sem]
  have u18 : W.cell? ⟨w.heap.size + 1 + 1 + 1 + 1 + 1, 5, none⟩ = some (.bool false) := by subst hW; simp [go_sem]
  have u19 : W.cell? ⟨w.heap.size + 1 + 1 + 1 + 1 + 1, 6, none⟩ = some (.int .i64 0) := by subst hW; simp [go_sem]
  have u20 : W.cell? ⟨w.heap.size + 1 + 1 + 1 + 1 + 1, 7, none⟩ = some (.int .i64 0) := by subst hW; simp [go_sem]
  have u21 : W.cell? ⟨w.heap.size + 1 + 1 + 1 + 1 + 1, 8, none⟩ = some (.int .i64 0) := by subst hW; simp [go_sem]
  have u22 : W.cell? ⟨w.heap.size + 1 + 1 + 1 + 1 + 1, 9, none⟩ = some (.int .i64 0) := by subst hW; simp [go_sem]
  have u23 : W.cell? ⟨w.heap.size + 1 + 1 + 1 + 1 + 1, 10, none⟩ = some (.int .i64 0) := by subst hW; simp [go_sem]
  have u24 : W.cell? ⟨w.heap.size + 1 + 1 + 1 + 1 + 1, 11, none⟩ = some (.int .i64 0) := by subst hW; simp [go_sem]
  have u25 : W.cell? ⟨w.heap.size + 1 + 1 + 1 + 1 + 1, 12, none⟩ = some (.int .i64 0) := by subst hW; simp [go_sem]
  have KS : ∀ w', But W (w.heap.size + 1 + 1 + 1 + 1) (w.heap.size + 1 + 1 + 1 + 1 + 1) w' → w'.cell? ⟨w.heap.size, 0, none⟩ = some (.int .i64 row) ∧ w'.cell? ⟨w.heap.size, 1, none⟩ = some (.int .i64 col) ∧ w'.cell? ⟨w.heap.size, 2, none⟩ = some (.int .u8 rd) ∧ w'.cell? ⟨w.heap.size, 3, none⟩ = some (.bool kp) ∧ w'.cell? ⟨w.heap.size, 4, none⟩ = some (.bool wp) ∧ w'.cell? ⟨w.heap.size, 5, none⟩ = some (.bool og) ∧ w'.cell? ⟨w.heap.size, 6, none⟩ = some (.int .i64 a) ∧ w'.cell? ⟨w.heap.size, 7, none⟩ = some (.int .i64 b) ∧ w'.cell? ⟨w.heap.size, 8, none⟩ = some (.int .i64 c) ∧ w'.cell? ⟨w.heap.size, 9, none⟩ = some (.int .i64 d) ∧ w'.cell? ⟨w.heap.size, 10, none⟩ = some (.int .i64 l) ∧ w'.cell? ⟨w.heap.size, 11, none⟩ = some (.int .i64 r) ∧ w'.cell? ⟨w.heap.size, 12, none⟩ = some (.int .i64 s) ∧ w'.cell? ⟨w.heap.size + 1, 0, none⟩ = some (.int .i64 row2) ∧ w'.cell? ⟨w.heap.size + 1, 1, none⟩ = some (.int .i64 col2) ∧ w'.cell? ⟨w.heap.size + 1, 2, none⟩ = some (.int .u8 rd) ∧ w'.cell? ⟨w.heap.size + 1, 3, none⟩ = some (.bool kp) ∧ w'.cell? ⟨w.heap.size + 1, 4, none⟩ = some (.bool wp2) ∧ w'.cell? ⟨w.heap.size + 1, 5, none⟩ = some (.bool og) ∧ w'.cell? ⟨w.heap.size + 1, 6, none⟩ = some (.int .i64 a) ∧ w'.cell? ⟨w.heap.size + 1, 7, none⟩ = some (.int .i64 b) ∧ w'.cell? ⟨w.heap.size + 1, 8, none⟩ = some (.int .i64 c) ∧ w'.cell? ⟨w.heap.size + 1, 9, none⟩ = some (.int .i64 d) ∧ w'.cell? ⟨w.heap.size + 1, 10, none⟩ = some (.int .i64 l) ∧ w'.cell? ⟨w.heap.size + 1, 11, none⟩ = some (.int .i64 r) ∧ w'.cell? ⟨w.heap.size + 1, 12, none⟩ = some (.int .i64 s) ∧ w'.cell? ⟨w.heap.size + 1 + 1, 0, none⟩ = some (.int .i64 pt) ∧ w'.cell? ⟨w.heap.size + 1 + 1, 1, none⟩ = some (.int .i64 pl) ∧ w'.cell? ⟨w.heap.size + 1 + 1, 2, none⟩ = some (.int .i64 pb) ∧ w'.cell? ⟨w.heap.size + 1 + 1, 3, none⟩ = some (.int .i64 pr) ∧ w'.cell? ⟨w.heap.size + 1 + 1, 4, none⟩ = some (.int .i64 mt) ∧ w'.cell? ⟨w.heap.size + 1 + 1, 5, none⟩ = some (.int .i64 ml) ∧ w'.cell? ⟨w.heap.size + 1 + 1, 6, none⟩ = some (.int .i64 mb) ∧ w'.cell? ⟨w.heap.size + 1 + 1, 7, none⟩ = some (.int .i64 mr) ∧ w'.cell? ⟨w.heap.size + 1 + 1 + 1 + 1 + 1 + 1 + x1.sz, 0, none⟩ = some (.int .i64 pt) ∧ w'.cell? ⟨w.heap.size + 1 + 1 + 1 + 1 + 1 + 1 + x1.sz, 1, none⟩ = some (.int .i64 pl) ∧ w'.cell? ⟨w.heap.size + 1 + 1 + 1 + 1 + 1 + 1 + x1.sz, 2, none⟩ = some (.int .i64 pb) ∧ w'.cell? ⟨w.heap.size + 1 + 1 + 1 + 1 + 1 + 1 + x1.sz, 3, none⟩ = some (.int .i64 pr) ∧ w'.cell? ⟨w.heap.size + 1 + 1 + 1 + 1 + 1 + 1 + x1.sz, 4, none⟩ = some (.int .i64 mt) ∧ w'.cell? ⟨w.heap.size + 1 + 1 + 1 + 1 + 1 + 1 + x1.sz, 5, none⟩ = some (.int .i64 ml) ∧ w'.cell? ⟨w.heap.size + 1 + 1 + 1 + 1 + 1 + 1 + x1.sz, 6, none⟩ = some (.int .i64 mb) ∧ w'.cell? ⟨w.heap.size + 1 + 1 + 1 + 1 + 1 + 1 + x1.sz, 7, none⟩ = some (.int .i64 mr) ∧ w'.cell? ⟨w.heap.size + 1 + 1 + 1, 1, none⟩ = some (.int .i64 N) := fun w' h => ⟨(h.cell 0 (by omega) (by omega) (by omega)).trans k0, (h.cell 1 (by omega) (by omega) (by omega)).trans k1, (h.cell 2 (by omega) (by omega) (by omega)).trans k2, (h.cell 3 (by omega) (by omega) (by omega)).trans k3, (h.cell 4 (by omega) (by omega) (by omega)).trans k4, (h.cell 5 (by omega) (by omega) (by omega)).trans k5, (h.cell 6 (by omega) (by omega) (by omega)).trans k6, (h.cell 7 (by omega) (by omega) (by omega)).trans k7, (h.cell 8 (by omega) (by omega) (by omega)).trans k8, (h.cell 9 (by omega) (by omega) (by omega)).trans k9, (h.cell 10 (by omega) (by omega) (by omega)).trans k10, (h.cell 11 (by omega) (by omega) (by omega)).trans k11, (h.cell 12 (by omega) (by omega) (by omega)).trans k12, (h.cell 0 (by omega) (by omega) (by omega)).trans k13, (h.cell 1 (by omega) (by omega) (by omega)).trans k14, (h.cell 2 (by omega) (by omega) (by omega)).trans k15, (h.cell 3 (by omega) (by omega) (by omega)).trans k16, (h.cell 4 (by omega) (by omega) (by omega)).trans k17, (h.cell 5 (by omega) (by omega) (by omega)).trans k18, (h.cell 6 (by omega) (by omega) (by omega)).trans k19, (h.cell 7 (by omega) (by omega) (by omega)).trans k20, (h.cell 8 (by omega) (by omega) (by omega)).trans k21, (h.cell 9 (by omega) (by omega) (by omega)).trans k22, (h.cell 10 (by omega) (by omega) (by omega)).trans k23, (h.cell 11 (by omega) (by omega) (by omega)).trans k24, (h.cell 12 (by omega) (by omega) (by omega)).trans k25, (h.cell 0 (by omega) (by omega) (by omega)).trans k26, (h.cell 1 (by omega) (by omega) (by omega)).trans k27, (h.cell 2 (by omega) (by omega) (by omega)).trans k28, (h.cell 3 (by omega) (by omega) (by omega)).trans k29, (h.cell 4 (by omega) (by omega) (by omega)).trans k30, (h.cell 5 (by omega) (by omega) (by omega)).trans k31, (h.cell 6 (by omega) (by omega) (by omega)).trans k32, (h.cell 7 (by omega) (by omega) (by omega)).trans k33, (h.cell 0 (by omega) (by omega) (by omega)).trans k34, (h.cell 1 (by omega) (by omega) (by omega)).trans k35, (h.cell 2 (by omega) (by omega) (by omega)).trans k36, (h.cell 3 (by omega) (by omega) (by omega)).trans k37, (h.cell 4 (by omega) (by omega) (by omega)).trans k38, (h.cell 5 (by omega) (by omega) (by omega)).trans k39, (h.cell 6 (by omega) (by omega) (by omega)).trans k40, (h.cell 7 (by omega) (by omega) (by omega)).trans k41, (h.cell 1 (by omega) (by omega) (by omega)).trans k42⟩
  go_region_held3 (fun w' => w'.cell? ⟨w.heap.size, 0, none⟩ = some (.int .i64 row) ∧ w'.cell? ⟨w.heap.size, 1, none⟩ = some (.int .i64 col) ∧ w'.cell? ⟨w.heap.size, 2, none⟩ = some (.int .u8 rd) ∧ w'.cell? ⟨w.heap.size, 3, none⟩ = some (.bool kp) ∧ w'.cell? ⟨w.heap.size, 4, none⟩ = some (.bool wp) ∧ w'.cell? ⟨w.heap.size, 5, none⟩ = some (.bool og) ∧ w'.cell? ⟨w.heap.size, 6, none⟩ = some (.int .i64 a) ∧ w'.cell? ⟨w.heap.size, 7, none⟩ = some (.int .i64 b) ∧ w'.cell? ⟨w.heap.size, 8, none⟩ = some (.int .i64 c) ∧ w'.cell? ⟨w.heap.size, 9, none⟩ = some (.int .i64 d) ∧ w'.cell? ⟨w.heap.size, 10, none⟩ = some (.int .i64 l) ∧ w'.cell? ⟨w.heap.size, 11, none⟩ = some (.int .i64 r) ∧ w'.cell? ⟨w.heap.size, 12, none⟩ = some (.int .i64 s) ∧ w'.cell? ⟨w.heap.size + 1, 0, none⟩ = some (.int .i64 row2) ∧ w'.cell? ⟨w.heap.size + 1, 1, none⟩ = some (.int .i64 col2) ∧ w'.cell? ⟨w.heap.size + 1, 2, none⟩ = some (.int .u8 rd) ∧ w'.cell? ⟨w.heap.size + 1, 3, none⟩ = some (.bool kp) ∧ w'.cell? ⟨w.heap.size + 1, 4, none⟩ = some (.bool wp2) ∧ w'.cell? ⟨w.heap.size + 1, 5, none⟩ = some (.bool og) ∧ w'.cell? ⟨w.heap.size + 1, 6, none⟩ = some (.int .i64 a) ∧ w'.cell? ⟨w.heap.size + 1, 7, none⟩ = some (.int .i64 b) ∧ w'.cell? ⟨w.heap.size + 1, 8, none⟩ = some (.int .i64 c) ∧ w'.cell? ⟨w.heap.size + 1, 9, none⟩ = some (.int .i64 d) ∧ w'.cell? ⟨w.heap.size + 1, 10, none⟩ = some (.int .i64 l) ∧ w'.cell? ⟨w.heap.size + 1, 11, none⟩ = some (.int .i64 r) ∧ w'.cell? ⟨w.heap.size + 1, 12, none⟩ = some (.int .i64 s) ∧ w'.cell? ⟨w.heap.size + 1 + 1, 0, none⟩ = some (.int .i64 pt) ∧ w'.cell? ⟨w.heap.size + 1 + 1, 1, none⟩ = some (.int .i64 pl) ∧ w'.cell? ⟨w.heap.size + 1 + 1, 2, none⟩ = some (.int .i64 pb) ∧ w'.cell? ⟨w.heap.size + 1 + 1, 3, none⟩ = some (.int .i64 pr) ∧ w'.cell? ⟨w.heap.size + 1 + 1, 4, none⟩ = some (.int .i64 mt) ∧ w'.cell? ⟨w.heap.size + 1 + 1, 5, none⟩ = some (.int .i64 ml) ∧ w'.cell? ⟨w.heap.size + 1 + 1, 6, none⟩ = some (.int .i64 mb) ∧ w'.cell? ⟨w.heap.size + 1 + 1, 7, none⟩ = some (.int .i64 mr) ∧ w'.cell? ⟨w.heap.size + 1 + 1 + 1 + 1 + 1 + 1 + x1.sz, 0, none⟩ = some (.int .i64 pt) ∧ w'.cell? ⟨w.heap.size + 1 + 1 + 1 + 1 + 1 + 1 + x1.sz, 1, none⟩ = some (.int .i64 pl) ∧ w'.cell? ⟨w.heap.size + 1 + 1 + 1 + 1 + 1 + 1 + x1.sz, 2, none⟩ = some (.int .i64 pb) ∧ w'.cell? ⟨w.heap.size + 1 + 1 + 1 + 1 + 1 + 1 + x1.sz, 3, none⟩ = some (.int .i64 pr) ∧ w'.cell? ⟨w.heap.size + 1 + 1 + 1 + 1 + 1 + 1 + x1.sz, 4, none⟩ = some (.int .i64 mt) ∧ w'.cell? ⟨w.heap.size + 1 + 1 + 1 + 1 + 1 + 1 + x1.sz, 5, none⟩ = some (.int .i64 ml) ∧ w'.cell? ⟨w.heap.size + 1 + 1 + 1 + 1 + 1 + 1 + x1.sz, 6, none⟩ = some (.int .i64 mb) ∧ w'.cell? ⟨w.heap.size + 1 + 1 + 1 + 1 + 1 + 1 + x1.sz, 7, none⟩ = some (.int .i64 mr) ∧ w'.cell? ⟨w.heap.size + 1 + 1 + 1, 1, none⟩ = some (.int .i64 N)) (exact KS _ (by repeat (first | (with_reducible exact But.refl _ _ _) | (with_reducible refine But.ext ?_ _) | (with_reducible refine But.drew ?_) | (with_reducible refine But.setL ?_ _ _) | (with_reducible refine But.setR ?_ _ _)))) ((first
    | (go_at_call 30; ((with_reducible refine (A.out _).mono ?_); rintro _ _ hgets; obtain ⟨rfl, _, rfl⟩ := hgets.get; clear hgets))
    | (go_at_call 91; ((with_reducible refine (Z.out _).mono ?_); rintro _ _ hgets; obtain ⟨rfl, _, rfl⟩ := hgets.get; clear hgets))))
  all_goals clear z0 u0 z1 u1 z2 u2 z3 u3 z4 u4 z5 u5 z6 u6 z7 u7 z8 u8 z9 u9 z10 u10 z11 u11 z12 u12 z13 u13 z14 u14 z15 u15 z16 u16 z17 u17 z18 u18 z19 u19 z20 u20 z21 u21 z22 u22 z23 u23 z24 u24 z25 u25
  all_goals clear KS hsz k0 k1 k2 k3 k4 k5 k6 k7 k8 k9 k10 k11 k12 k13 k14 k15 k16 k17 k18 k19 k20 k21 k22 k23 k24 k25 k26 k27 k28 k29 k30 k31 k32 k33 k34 k35 k36 k37 k38 k39 k40 k41 k42
  all_goals subst hW
  all_goals go_wp2
  all_goals go_returns
  all_goals exact ⟨rfl, by (repeat' (first | (with_reducible exact Below.refl _ _) | (with_reducible refine Below.alloc ?_ ?_ _) | (with_reducible refine below_ext ?_ ?_ _) | (with_reducible refine Below.drew ?_) | (with_reducible refine below_drewN ?_ _) | (with_reducible refine Below.setCell ?_ ?_ _) | go_size | (simp only [go_sem]; omega) | (simp [go_sem]; done) | (simp [go_sem]; omega)))⟩
set_option maxRecDepth 100000 in
set_option maxHeartbeats 8000000 in
theorem do_4 (w : World) (row col row2 col2 rd : Int) (kp wp wp2 : Bool) (og : Bool) (a b c d l r s pt pl pb pr mt ml mb mr N M : Int) (hb : pb ≤ 2000) (hr : pr ≤ 2000) :
    Calls Try.prog 38 #[.agg #[.int .i64 row, .int .i64 col, .int .u8 rd, .bool kp, .bool wp, .bool og, .int .i64 a, .int .i64 b, .int .i64 c, .int .i64 d, .int .i64 l, .int .i64 r, .int .i64 s], .agg #[.int .i64 row2, .int .i64 col2, .int .u8 rd, .bool kp, .bool wp2, .bool og, .int .i64 a, .int .i64 b, .int .i64 c, .int .i64 d, .int .i64 l, .int .i64 r, .int .i64 s], .agg #[.int .i64 pt, .int .i64 pl, .int .i64 pb, .int .i64 pr, .int .i64 mt, .int .i64 ml, .int .i64 mb, .int .i64 mr], .agg #[.int .i64 4, .int .i64 N, .int .i64 M]] w (Gives w (.tuple #[.agg #[.int .i64 (clampI 0 (max 1 pb) row), .int .i64 (forthI (clampI 0 (max 1 pr) col) N ((inn pb pr mt ml mb mr).r - 1) ((max 1 pr) - 1)), .int .u8 rd, .bool kp, .bool false, .bool og, .int .i64 a, .int .i64 b, .int .i64 c, .int .i64 d, .int .i64 l, .int .i64 r, .int .i64 s], .agg #[.int .i64 (clampI 0 (max 1 pb) row2), .int .i64 (downI (clampI 0 (max 1 pr) col2) N ((inn pb pr mt ml mb mr).r - 1) ((max 1 pr) - 1)), .int .u8 rd, .bool kp, .bool false, .bool og, .int .i64 a, .int .i64 b, .int .i64 c, .int .i64 d, .int .i64 l, .int .i64 r, .int .i64 s]])) := by
  have A := fun w' => right_c (row := row) (col := col) (wp := wp) (rd := rd) (kp := kp) (og := og) (a := a) (b := b) (c := c) (d := d) (l := l) (r := r) (s := s) (pt := pt) (pl := pl) (pb := pb) (pr := pr) (mt := mt) (ml := ml) (mb := mb) (mr := mr) hb hr N w'
  have Z := fun w' => move_right (row := row2) (col := col2) (wp := wp2) (rd := rd) (kp := kp) (og := og) (a := a) (b := b) (c := c) (d := d) (l := l) (r := r) (s := s) (pt := pt) (pl := pl) (pb := pb) (pr := pr) (mt := mt) (ml := ml) (mb := mb) (mr := mr) hb hr N w'
  generalize (downI (clampI 0 (max 1 pr) col2) N ((inn pb pr mt ml mb mr).r - 1) ((max 1 pr) - 1)) = y4 at A Z ⊢
  generalize (clampI 0 (max 1 pb) row2) = y3 at A Z ⊢
  generalize (forthI (clampI 0 (max 1 pr) col) N ((inn pb pr mt ml mb mr).r - 1) ((max 1 pr) - 1)) = y1 at A Z ⊢
  generalize (clampI 0 (max 1 pb) row) = y0 at A Z ⊢
  replace A := Lib.hid A
  replace Z := Lib.hid Z
  clear hb hr
  go_enter Try.func38, Try.ntmps38
  go_upto_region 10 with (first | (go_at_call 21; ((with_reducible refine (frame_c _).mono ?_); rintro _ _ hgets; obtain ⟨rfl, x1, rfl⟩ := hgets.get; clear hgets)))
  generalize hW : (ext ((((((w.alloc (.cells #[.int .i64 row, .int .i64 col, .int .u8 rd, .bool kp, .bool wp, .bool og, .int .i64 a, .int .i64 b, .int .i64 c, .int .i64 d, .int .i64 l, .int .i64 r, .int .i64 s] 33)).alloc (.cells #[.int .i64 row2, .int .i64 col2, .int .u8 rd, .bool kp, .bool wp2, .bool og, .int .i64 a, .int .i64 b, .int .i64 c, .int .i64 d, .int .i64 l, .int .i64 r, .int .i64 s] 27)).alloc (.cells #[.int .i64 pt, .int .i64 pl, .int .i64 pb, .int .i64 pr, .int .i64 mt, .int .i64 ml, .int .i64 mb, .int .i64 mr] 42)).alloc (.cells #[.int .i64 4, .int .i64 N, .int .i64 M] 62)).alloc (.cells #[.int .i64 0, .int .i64 0, .int .u8 0, .bool false, .bool false, .bool false, .int .i64 0, .int .i64 0, .int .i64 0, .int .i64 0, .int .i64 0, .int .i64 0, .int .i64 0] 33)).alloc (.cells #[.int .i64 0, .int .i64 0, .int .u8 0, .bool false, .bool false, .bool false, .int .i64 0, .int .i64 0, .int .i64 0, .int .i64 0, .int .i64 0, .int .i64 0, .int .i64 0] 27)) x1).alloc (.cells #[.int .i64 pt, .int .i64 pl, .int .i64 pb, .int .i64 pr, .int .i64 mt, .int .i64 ml, .int .i64 mb, .int .i64 mr] 44) = W
  have hsz : W.heap.size = w.heap.size + 1 + 1 + 1 + 1 + 1 + 1 + x1.sz + 1 := by subst hW; simp [go_sem]
  have k0 : W.cell? ⟨w.heap.size, 0, none⟩ = some (.int .i64 row) := by subst hW; simp [go_sem]
  have k1 : W.cell? ⟨w.heap.size, 1, none⟩ = some (.int .i64 col) := by subst hW; simp [go_sem]
  have k2 : W.cell? ⟨w.heap.size, 2, none⟩ = some (.int .u8 rd) := by subst hW; simp [go_sem]
  have k3 : W.cell? ⟨w.heap.size, 3, none⟩ = some (.bool kp) := by subst hW; simp [go_sem]
  have k4 : W.cell? ⟨w.heap.size, 4, none⟩ = some (.bool wp) := by subst hW; simp [go_sem]
  have k5 : W.cell? ⟨w.heap.size, 5, none⟩ = some (.bool og) := by subst hW; simp [go_sem]
  have k6 : W.cell? ⟨w.heap.size, 6, none⟩ = some (.int .i64 a) := by subst hW; simp [go_sem]
  have k7 : W.cell? ⟨w.heap.size, 7, none⟩ = some (.int .i64 b) := by subst hW; simp [go_sem]
  have k8 : W.cell? ⟨w.heap.size, 8, none⟩ = some (.int .i64 c) := by subst hW; simp [go_sem]
  have k9 : W.cell? ⟨w.heap.size, 9, none⟩ = some (.int .i64 d) := by subst hW; simp [go_sem]
  have k10 : W.cell? ⟨w.heap.size, 10, none⟩ = some (.int .i64 l) := by subst hW; simp [go_sem]
  have k11 : W.cell? ⟨w.heap.size, 11, none⟩ = some (.int .i64 r) := by subst hW; simp [go_sem]
  have k12 : W.cell? ⟨w.heap.size, 12, none⟩ = some (.int .i64 s) := by subst hW; simp [go_sem]
  have k13 : W.cell? ⟨w.heap.size + 1, 0, none⟩ = some (.int .i64 row2) := by subst hW; simp [go_sem]
  have k14 : W.cell? ⟨w.heap.size + 1, 1, none⟩ = some (.int .i64 col2) := by subst hW; simp [go_sem]
  have k15 : W.cell? ⟨w.heap.size + 1, 2, none⟩ = some (.int .u8 rd) := by subst hW; simp [go_sem]
  have k16 : W.cell? ⟨w.heap.size + 1, 3, none⟩ = some (.bool kp) := by subst hW; simp [go_sem]
  have k17 : W.cell? ⟨w.heap.size + 1, 4, none⟩ = some (.bool wp2) := by subst hW; simp [go_sem]
  have k18 : W.cell? ⟨w.heap.size + 1, 5, none⟩ = some (.bool og) := by subst hW; simp [go_sem]
  have k19 : W.cell? ⟨w.heap.size + 1, 6, none⟩ = some (.int .i64 a) := by subst hW; simp [go_sem]
  have k20 : W.cell? ⟨w.heap.size + 1, 7, none⟩ = some (.int .i64 b) := by subst hW; simp [go_sem]
  have k21 : W.cell? ⟨w.heap.size + 1, 8, none⟩ = some (.int .i64 c) := by subst hW; simp [go_sem]
  have k22 : W.cell? ⟨w.heap.size + 1, 9, none⟩ = some (.int .i64 d) := by subst hW; simp [go_sem]
  have k23 : W.cell? ⟨w.heap.size + 1, 10, none⟩ = some (.int .i64 l) := by subst hW; simp [go_sem]
  have k24 : W.cell? ⟨w.heap.size + 1, 11, none⟩ = some (.int .i64 r) := by subst hW; simp [go_sem]
  have k25 : W.cell? ⟨w.heap.size + 1, 12, none⟩ = some (.int .i64 s) := by subst hW; simp [go_sem]
  have k26 : W.cell? ⟨w.heap.size + 1 + 1, 0, none⟩ = some (.int .i64 pt) := by subst hW; simp [go_sem]
  have k27 : W.cell? ⟨w.heap.size + 1 + 1, 1, none⟩ = some (.int .i64 pl) := by subst hW; simp [go_sem]
  have k28 : W.cell? ⟨w.heap.size + 1 + 1, 2, none⟩ = some (.int .i64 pb) := by subst hW; simp [go_sem]
  have k29 : W.cell? ⟨w.heap.size + 1 + 1, 3, none⟩ = some (.int .i64 pr) := by subst hW; simp [go_sem]
  have k30 : W.cell? ⟨w.heap.size + 1 + 1, 4, none⟩ = some (.int .i64 mt) := by subst hW; simp [go_sem]
  have k31 : W.cell? ⟨w.heap.size + 1 + 1, 5, none⟩ = some (.int .i64 ml) := by subst hW; simp [go_sem]
  have k32 : W.cell? ⟨w.heap.size + 1 + 1, 6, none⟩ = some (.int .i64 mb) := by subst hW; simp [go_sem]
  have k33 : W.cell? ⟨w.heap.size + 1 + 1, 7, none⟩ = some (.int .i64 mr) := by subst hW; simp [go_sem]
  have k34 : W.cell? ⟨w.heap.size + 1 + 1 + 1 + 1 + 1 + 1 + x1.sz, 0, none⟩ = some (.int .i64 pt) := by subst hW; simp [go_sem]
  have k35 : W.cell? ⟨w.heap.size + 1 + 1 + 1 + 1 + 1 + 1 + x1.sz, 1, none⟩ = some (.int .i64 pl) := by subst hW; simp [go_sem]
  have k36 : W.cell? ⟨w.heap.size + 1 + 1 + 1 + 1 + 1 + 1 + x1.sz, 2, none⟩ = some (.int .i64 pb) := by subst hW; simp [go_sem]
  have k37 : W.cell? ⟨w.heap.size + 1 + 1 + 1 + 1 + 1 + 1 + x1.sz, 3, none⟩ = some (.int .i64 pr) := by subst hW; simp [go_sem]
  have k38 : W.cell? ⟨w.heap.size + 1 + 1 + 1 + 1 + 1 + 1 + x1.sz, 4, none⟩ = some (.int .i64 mt) := by subst hW; simp [go_sem]
  have k39 : W.cell? ⟨w.heap.size + 1 + 1 + 1 + 1 + 1 + 1 + x1.sz, 5, none⟩ = some (.int .i64 ml) := by subst hW; simp [go_sem]
  have k40 : W.cell? ⟨w.heap.size + 1 + 1 + 1 + 1 + 1 + 1 + x1.sz, 6, none⟩ = some (.int .i64 mb) := by subst hW; simp [go_sem]
  have k41 : W.cell? ⟨w.heap.size + 1 + 1 + 1 + 1 + 1 + 1 + x1.sz, 7, none⟩ = some (.int .i64 mr) := by subst hW; simp [go_sem]
  have k42 : W.cell? ⟨w.heap.size + 1 + 1 + 1, 1, none⟩ = some (.int .i64 N) := by subst hW; simp [go_sem]
  have z0 : W.frozen? ⟨w.heap.size + 1 + 1 + 1 + 1, 0, none⟩ = false := by subst hW; simp [go_sem]
  have z1 : W.frozen? ⟨w.heap.size + 1 + 1 + 1 + 1, 1, none⟩ = false := by subst hW; simp [go_sem]
  have z2 : W.frozen? ⟨w.heap.size + 1 + 1 + 1 + 1, 2, none⟩ = false := by subst hW; simp [go_sem]
  have z3 : W.frozen? ⟨w.heap.size + 1 + 1 + 1 + 1, 3, none⟩ = false := by subst hW; simp [go_sem]
  have z4 : W.frozen? ⟨w.heap.size + 1 + 1 + 1 + 1, 4, none⟩ = false := by subst hW; simp [go_sem]
  have z5 : W.frozen? ⟨w.heap.size + 1 + 1 + 1 + 1, 5, none⟩ = false := by subst hW; simp [go_sem]
  have z6 : W.frozen? ⟨w.heap.size + 1 + 1 + 1 + 1, 6, none⟩ = false := by subst hW; simp [go_sem]
  have z7 : W.frozen? ⟨w.heap.size + 1 + 1 + 1 + 1, 7, none⟩ = false := by subst hW; simp [go_sem]
  have z8 : W.frozen? ⟨w.heap.size + 1 + 1 + 1 + 1, 8, none⟩ = false := by subst hW; simp [go_sem]
  have z9 : W.frozen? ⟨w.heap.size + 1 + 1 + 1 + 1, 9, none⟩ = false := by subst hW; simp [go_sem]
  have z10 : W.frozen? ⟨w.heap.size + 1 + 1 + 1 + 1, 10, none⟩ = false := by subst hW; simp [go_sem]
  have z11 : W.frozen? ⟨w.heap.size + 1 + 1 + 1 + 1, 11, none⟩ = false := by subst hW; simp [go_sem]
  have z12 : W.frozen? ⟨w.heap.size + 1 + 1 + 1 + 1, 12, none⟩ = false := by subst hW; simp [go_sem]
  have z13 : W.frozen? ⟨w.heap.size + 1 + 1 + 1 + 1 + 1, 0, none⟩ = false := by subst hW; simp [go_sem]
  have z14 : W.frozen? ⟨w.heap.size + 1 + 1 + 1 + 1 + 1, 1, none⟩ = false := by subst hW; simp [go_sem]
  have z15 : W.frozen? ⟨w.heap.size + 1 + 1 + 1 + 1 + 1, 2, none⟩ = false := by subst hW; simp [go_sem]
  have z16 : W.frozen? ⟨w.heap.size + 1 + 1 + 1 + 1 + 1, 3, none⟩ = false := by subst hW; simp [go_sem]
  have z17 : W.frozen? ⟨w.heap.size + 1 + 1 + 1 + 1 + 1, 4, none⟩ = false := by subst hW; simp [go_sem]
  have z18 : W.frozen? ⟨w.heap.size + 1 + 1 + 1 + 1 + 1, 5, none⟩ = false := by subst hW; simp [go_sem]
  have z19 : W.frozen? ⟨w.heap.size + 1 + 1 + 1 + 1 + 1, 6, none⟩ = false := by subst hW; simp [go_sem]
  have z20 : W.frozen? ⟨w.heap.size + 1 + 1 + 1 + 1 + 1, 7, none⟩ = false := by subst hW; simp [go_sem]
  have z21 : W.frozen? ⟨w.heap.size + 1 + 1 + 1 + 1 + 1, 8, none⟩ = false := by subst hW; simp [go_sem]
  have z22 : W.frozen? ⟨w.heap.size + 1 + 1 + 1 + 1 + 1, 9, none⟩ = false := by subst hW; simp [go_sem]
  have z23 : W.frozen? ⟨w.heap.size + 1 + 1 + 1 + 1 + 1, 10, none⟩ = false := by subst hW; simp [go_sem]
  have z24 : W.frozen? ⟨w.heap.size + 1 + 1 + 1 + 1 + 1, 11, none⟩ = false := by subst hW; simp [go_sem]
  have z25 : W.frozen? ⟨w.heap.size + 1 + 1 + 1 + 1 + 1, 12, none⟩ = false := by subst hW; simp [go_sem]
  have u0 : W.cell? ⟨w.heap.size + 1 + 1 + 1 + 1, 0, none⟩ = some (.int .i64 0) := by subst hW; simp [go_sem]
  have u1 : W.cell? ⟨w.heap.size + 1 + 1 + 1 + 1, 1, none⟩ = some (.int .i64 0) := by subst hW; simp [go_sem]
  have u2 : W.cell? ⟨w.heap.size + 1 + 1 + 1 + 1, 2, none⟩ = some (.int .u8 0) := by subst hW; simp [go_sem]
  have u3 : W.cell? ⟨w.heap.size + 1 + 1 + 1 + 1, 3, none⟩ = some (.bool false) := by subst hW; simp [go_sem]
  have u4 : W.cell? ⟨w.heap.size + 1 + 1 + 1 + 1, 4, none⟩ = some (.bool false) := by subst hW; simp [go_sem]
  have u5 : W.cell? ⟨w.heap.size + 1 + 1 + 1 + 1, 5, none⟩ = some (.bool false) := by subst hW; simp [go_sem]
  have u6 : W.cell? ⟨w.heap.size + 1 + 1 + 1 + 1, 6, none⟩ = some (.int .i64 0) := by subst hW; simp [go_sem]
  have u7 : W.cell? ⟨w.heap.size + 1 + 1 + 1 + 1, 7, none⟩ = some (.int .i64 0) := by subst hW; simp [go_sem]
  have u8 : W.cell? ⟨w.heap.size + 1 + 1 + 1 + 1, 8, none⟩ = some (.int .i64 0) := by subst hW; simp [go_sem]
  have u9 : W.cell? ⟨w.heap.size + 1 + 1 + 1 + 1, 9, none⟩ = some (.int .i64 0) := by subst hW; simp [go_sem]
  have u10 : W.cell? ⟨w.heap.size + 1 + 1 + 1 + 1, 10, none⟩ = some (.int .i64 0) := by subst hW; simp [go_sem]
  have u11 : W.cell? ⟨w.heap.size + 1 + 1 + 1 + 1, 11, none⟩ = some (.int .i64 0) := by subst hW; simp [go_sem]
  have u12 : W.cell? ⟨w.heap.size + 1 + 1 + 1 + 1, 12, none⟩ = some (.int .i64 0) := by subst hW; simp [go_sem]
  have u13 : W.cell? ⟨w.heap.size + 1 + 1 + 1 + 1 + 1, 0, none⟩ = some (.int .i64 0) := by subst hW; simp [go_sem]
  have u14 : W.cell? ⟨w.heap.size + 1 + 1 + 1 + 1 + 1, 1, none⟩ = some (.int .i64 0) := by subst hW; simp [go_sem]
  have u15 : W.cell? ⟨w.heap.size + 1 + 1 + 1 + 1 + 1, 2, none⟩ = some (.int .u8 0) := by subst hW; simp [go_sem]
  have u16 : W.cell? ⟨w.heap.size + 1 + 1 + 1 + 1 + 1, 3, none⟩ = some (.bool false) := by subst hW; simp [go_sem]
  have u17 : W.cell? ⟨w.heap.size + 1 + 1 + 1 + 1 + 1, 4, none⟩ = some (.bool false) := by subst hW; simp [go_sem]
  have u18 : W.cell? ⟨w.heap.size + 1 + 1 + 1 + 1 + 1, 5, none⟩ = some (.bool false) := by subst hW; simp [go_sem]
  have u19 : W.cell? ⟨w.heap.size + 1 + 1 + 1 + 1 + 1, 6, none⟩ = some (.int .i64 0) := by subst hW; simp [go_sem]
  have u20 : W.cell? ⟨w.heap.size + 1 + 1 + 1 + 1 + 1, 7, none⟩ = some (.int .i64 0) := by subst hW; simp [go_sem]
  have u21 : W.cell? ⟨w.heap.size + 1 + 1 + 1 + 1 + 1, 8, none⟩ = some (.int .i64 0) := by subst hW; simp [go_sem]
  have u22 : W.cell? ⟨w.heap.size + 1 + 1 + 1 + 1 + 1, 9, none⟩ = some (.int .i64 0) := by subst hW; simp [go_sem]
  have u23 : W.cell? ⟨w.heap.size + 1 + 1 + 1 + 1 + 1, 10, none⟩ = some (.int .i64 0) := by subst hW; simp [go_sem]
  have u24 : W.cell? ⟨w.heap.size + 1 + 1 + 1 + 1 + 1, 11, none⟩ = some (.int .i64 0) := by subst hW; simp [go_sem]
  have u25 : W.cell? ⟨w.heap.size + 1 + 1 + 1 + 1 + 1, 12, none⟩ = some (.int .i64 0) := by subst hW; simp [go_sem]
  have KS : ∀ w', But W (w.heap.size + 1 + 1 + 1 + 1) (w.heap.size + 1 + 1 + 1 + 1 + 1) w' → w'.cell? ⟨w.heap.size, 0, none⟩ = some (.int .i64 row) ∧ w'.cell? ⟨w.heap.size, 1, none⟩ = some (.int .i64 col) ∧ w'.cell? ⟨w.heap.size, 2, none⟩ = some (.int .u8 rd) ∧ w'.cell? ⟨w.heap.size, 3, none⟩ = some (.bool kp) ∧ w'.cell? ⟨w.heap.size, 4, none⟩ = some (.bool wp) ∧ w'.cell? ⟨w.heap.size, 5, none⟩ = some (.bool og) ∧ w'.cell? ⟨w.heap.size, 6, none⟩ = some (.int .i64 a) ∧ w'.cell? ⟨w.heap.size, 7, none⟩ = some (.int .i64 b) ∧ w'.cell? ⟨w.heap.size, 8, none⟩ = some (.int .i64 c) ∧ w'.cell? ⟨w.heap.size, 9, none⟩ = some (.int .i64 d) ∧ w'.cell? ⟨w.heap.size, 10, none⟩ = some (.int .i64 l) ∧ w'.cell? ⟨w.heap.size, 11, none⟩ = some (.int .i64 r) ∧ w'.cell? ⟨w.heap.size, 12, none⟩ = some (.int .i64 s) ∧ w'.cell? ⟨w.heap.size + 1, 0, none⟩ = some (.int .i64 row2) ∧ w'.cell? ⟨w.heap.size + 1, 1, none⟩ = some (.int .i64 col2) ∧ w'.cell? ⟨w.heap.size + 1, 2, none⟩ = some (.int .u8 rd) ∧ w'.cell? ⟨w.heap.size + 1, 3, none⟩ = some (.bool kp) ∧ w'.cell? ⟨w.heap.size + 1, 4, none⟩ = some (.bool wp2) ∧ w'.cell? ⟨w.heap.size + 1, 5, none⟩ = some (.bool og) ∧ w'.cell? ⟨w.heap.size + 1, 6, none⟩ = some (.int .i64 a) ∧ w'.cell? ⟨w.heap.size + 1, 7, none⟩ = some (.int .i64 b) ∧ w'.cell? ⟨w.heap.size + 1, 8, none⟩ = some (.int .i64 c) ∧ w'.cell? ⟨w.heap.size + 1, 9, none⟩ = some (.int .i64 d) ∧ w'.cell? ⟨w.heap.size + 1, 10, none⟩ = some (.int .i64 l) ∧ w'.cell? ⟨w.heap.size + 1, 11, none⟩ = some (.int .i64 r) ∧ w'.cell? ⟨w.heap.size + 1, 12, none⟩ = some (.int .i64 s) ∧ w'.cell? ⟨w.heap.size + 1 + 1, 0, none⟩ = some (.int .i64 pt) ∧ w'.cell? ⟨w.heap.size + 1 + 1, 1, none⟩ = some (.int .i64 pl) ∧ w'.cell? ⟨w.heap.size + 1 + 1, 2, none⟩ = some (.int .i64 pb) ∧ w'.cell? ⟨w.heap.size + 1 + 1, 3, none⟩ = some (.int .i64 pr) ∧ w'.cell? ⟨w.heap.size + 1 + 1, 4, none⟩ = some (.int .i64 mt) ∧ w'.cell? ⟨w.heap.size + 1 + 1, 5, none⟩ = some (.int .i64 ml) ∧ w'.cell? ⟨w.heap.size + 1 + 1, 6, none⟩ = some (.int .i64 mb) ∧ w'.cell? ⟨w.heap.size + 1 + 1, 7, none⟩ = some (.int .i64 mr) ∧ w'.cell? ⟨w.heap.size + 1 + 1 + 1 + 1 + 1 + 1 + x1.sz, 0, none⟩ = some (.int .i64 pt) ∧ w'.cell? ⟨w.heap.size + 1 + 1 + 1 + 1 + 1 + 1 + x1.sz, 1, none⟩ = some (.int .i64 pl) ∧ w'.cell? ⟨w.heap.size + 1 + 1 + 1 + 1 + 1 + 1 + x1.sz, 2, none⟩ = some (.int .i64 pb) ∧ w'.cell? ⟨w.heap.size + 1 + 1 + 1 + 1 + 1 + 1 + x1.sz, 3, none⟩ = some (.int .i64 pr) ∧ w'.cell? ⟨w.heap.size + 1 + 1 + 1 + 1 + 1 + 1 + x1.sz, 4, none⟩ = some (.int .i64 mt) ∧ w'.cell? ⟨w.heap.size + 1 + 1 + 1 + 1 + 1 + 1 + x1.sz, 5, none⟩ = some (.int .i64 ml) ∧ w'.cell? ⟨w.heap.size + 1 + 1 + 1 + 1 + 1 + 1 + x1.sz, 6, none⟩ = some (.int .i64 mb) ∧ w'.cell? ⟨w.heap.size + 1 + 1 + 1 + 1 + 1 + 1 + x1.sz, 7, none⟩ = some (.int .i64 mr) ∧ w'.cell? ⟨w.heap.size + 1 + 1 + 1, 1, none⟩ = some (.int .i64 N) := fun w' h => ⟨(h.cell 0 (by omega) (by omega) (by omega)).trans k0, (h.cell 1 (by omega) (by omega) (by omega)).trans k1, (h.cell 2 (by omega) (by omega) (by omega)).trans k2, (h.cell 3 (by omega) (by omega) (by omega)).trans k3, (h.cell 4 (by omega) (by omega) (by omega)).trans k4, (h.cell 5 (by omega) (by omega) (by omega)).trans k5, (h.cell 6 (by omega) (by omega) (by omega)).trans k6, (h.cell 7 (by omega) (by omega) (by omega)).trans k7, (h.cell 8 (by omega) (by omega) (by omega)).trans k8, (h.cell 9 (by omega) (by omega) (by omega)).trans k9, (h.cell 10 (by omega) (by omega) (by omega)).trans k10, (h.cell 11 (by omega) (by omega) (by omega)).trans k11, (h.cell 12 (by omega) (by omega) (by omega)).trans k12, (h.cell 0 (by omega) (by omega) (by omega)).trans k13, (h.cell 1 (by omega) (by omega) (by omega)).trans k14, (h.cell 2 (by omega) (by omega) (by omega)).trans k15, (h.cell 3 (by omega) (by omega) (by omega)).trans k16, (h.cell 4 (by omega) (by omega) (by omega)).trans k17, (h.cell 5 (by omega) (by omega) (by omega)).trans k18, (h.cell 6 (by omega) (by omega) (by omega)).trans k19, (h.cell 7 (by omega) (by omega) (by omega)).trans k20, (h.cell 8 (by omega) (by omega) (by omega)).trans k21, (h.cell 9 (by omega) (by omega) (by omega)).trans k22, (h.cell 10 (by omega) (by omega) (by omega)).trans k23, (h.cell 11 (by omega) (by omega) (by omega)).trans k24, (h.cell 12 (by omega) (by omega) (by omega)).trans k25, (h.cell 0 (by omega) (by omega) (by omega)).trans k26, (h.cell 1 (by omega) (by omega) (by omega)).trans k27, (h.cell 2 (by omega) (by omega) (by omega)).trans k28, (h.cell 3 (by omega) (by omega) (by omega)).trans k29, (h.cell 4 (by omega) (by omega) (by omega)).trans k30, (h.cell 5 (by omega) (by omega) (by omega)).trans k31, (h.cell 6 (by omega) (by omega) (by omega)).trans k32, (h.cell 7 (by omega) (by omega) (by omega)).trans k33, (h.cell 0 (by omega) (by omega) (by omega)).trans k34, (h.cell 1 (by omega) (by omega) (by omega)).trans k35, (h.cell 2 (by omega) (by omega) (by omega)).trans k36, (h.cell 3 (by omega) (by omega) (by omega)).trans k37, (h.cell 4 (by omega) (by omega) (by omega)).trans k38, (h.cell 5 (by omega) (by omega) (by omega)).trans k39, (h.cell 6 (by omega) (by omega) (by omega)).trans k40, (h.cell 7 (by omega) (by omega) (by omega)).trans k41, (h.cell 1 (by omega) (by omega) (by omega)).trans k42⟩
  go_region_held3 (fun w' => w'.cell? ⟨w.heap.size, 0, none⟩ = some (.int .i64 row) ∧ w'.cell? ⟨w.heap.size, 1, none⟩ = some (.int .i64 col) ∧ w'.cell? ⟨w.heap.size, 2, none⟩ = some (.int .u8 rd) ∧ w'.cell? ⟨w.heap.size, 3, none⟩ = some (.bool kp) ∧ w'.cell? ⟨w.heap.size, 4, none⟩ = some (.bool wp) ∧ w'.cell? ⟨w.heap.size, 5, none⟩ = some (.bool og) ∧ w'.cell? ⟨w.heap.size, 6, none⟩ = some (.int .i64 a) ∧ w'.cell? ⟨w.heap.size, 7, none⟩ = some (.int .i64 b) ∧ w'.cell? ⟨w.heap.size, 8, none⟩ = some (.int .i64 c) ∧ w'.cell? ⟨w.heap.size, 9, none⟩ = some (.int .i64 d) ∧ w'.cell? ⟨w.heap.size, 10, none⟩ = some (.int .i64 l) ∧ w'.cell? ⟨w.heap.size, 11, none⟩ = some (.int .i64 r) ∧ w'.cell? ⟨w.heap.size, 12, none⟩ = some (.int .i64 s) ∧ w'.cell? ⟨w.heap.size + 1, 0, none⟩ = some (.int .i64 row2) ∧ w'.cell? ⟨w.heap.size + 1, 1, none⟩ = some (.int .i64 col2) ∧ w'.cell? ⟨w.heap.size + 1, 2, none⟩ = some (.int .u8 rd) ∧ w'.cell? ⟨w.heap.size + 1, 3, none⟩ = some (.bool kp) ∧ w'.cell? ⟨w.heap.size + 1, 4, none⟩ = some (.bool wp2) ∧ w'.cell? ⟨w.heap.size + 1, 5, none⟩ = some (.bool og) ∧ w'.cell? ⟨w.heap.size + 1, 6, none⟩ = some (.int .i64 a) ∧ w'.cell? ⟨w.heap.size + 1, 7, none⟩ = some (.int .i64 b) ∧ w'.cell? ⟨w.heap.size + 1, 8, none⟩ = some (.int .i64 c) ∧ w'.cell? ⟨w.heap.size + 1, 9, none⟩ = some (.int .i64 d) ∧ w'.cell? ⟨w.heap.size + 1, 10, none⟩ = some (.int .i64 l) ∧ w'.cell? ⟨w.heap.size + 1, 11, none⟩ = some (.int .i64 r) ∧ w'.cell? ⟨w.heap.size + 1, 12, none⟩ = some (.int .i64 s) ∧ w'.cell? ⟨w.heap.size + 1 + 1, 0, none⟩ = some (.int .i64 pt) ∧ w'.cell? ⟨w.heap.size + 1 + 1, 1, none⟩ = some (.int .i64 pl) ∧ w'.cell? ⟨w.heap.size + 1 + 1, 2, none⟩ = some (.int .i64 pb) ∧ w'.cell? ⟨w.heap.size + 1 + 1, 3, none⟩ = some (.int .i64 pr) ∧ w'.cell? ⟨w.heap.size + 1 + 1, 4, none⟩ = some (.int .i64 mt) ∧ w'.cell? ⟨w.heap.size + 1 + 1, 5, none⟩ = some (.int .i64 ml) ∧ w'.cell? ⟨w.heap.size + 1 + 1, 6, none⟩ = some (.int .i64 mb) ∧ w'.cell? ⟨w.heap.size + 1 + 1, 7, none⟩ = some (.int .i64 mr) ∧ w'.cell? ⟨w.heap.size + 1 + 1 + 1 + 1 + 1 + 1 + x1.sz, 0, none⟩ = some (.int .i64 pt) ∧ w'.cell? ⟨w.heap.size + 1 + 1 + 1 + 1 + 1 + 1 + x1.sz, 1, none⟩ = some (.int .i64 pl) ∧ w'.cell? ⟨w.heap.size + 1 + 1 + 1 + 1 + 1 + 1 + x1.sz, 2, none⟩ = some (.int .i64 pb) ∧ w'.cell? ⟨w.heap.size + 1 + 1 + 1 + 1 + 1 + 1 + x1.sz, 3, none⟩ = some (.int .i64 pr) ∧ w'.cell? ⟨w.heap.size + 1 + 1 + 1 + 1 + 1 + 1 + x1.sz, 4, none⟩ = some (.int .i64 mt) ∧ w'.cell? ⟨w.heap.size + 1 + 1 + 1 + 1 + 1 + 1 + x1.sz, 5, none⟩ = some (.int .i64 ml) ∧ w'.cell? ⟨w.heap.size + 1 + 1 + 1 + 1 + 1 + 1 + x1.sz, 6, none⟩ = some (.int .i64 mb) ∧ w'.cell? ⟨w.heap.size + 1 + 1 + 1 + 1 + 1 + 1 + x1.sz, 7, none⟩ = some (.int .i64 mr) ∧ w'.cell? ⟨w.heap.size + 1 + 1 + 1, 1, none⟩ = some (.int .i64 N)) (exact KS _ (by repeat (first | (with_reducible exact But.refl _ _ _) | (with_reducible refine But.ext ?_ _) | (with_reducible refine But.drew ?_) | (with_reducible refine But.setL ?_ _ _) | (with_reducible refine But.setR ?_ _ _)))) ((first
    | (go_at_call 31; ((with_reducible refine (A.out _).mono ?_); rintro _ _ hgets; obtain ⟨rfl, _, rfl⟩ := hgets.get; clear hgets))
    | (go_at_call 91; ((with_reducible refine (Z.out _).mono ?_); rintro _ _ hgets; obtain ⟨rfl, _, rfl⟩ := hgets.get; clear hgets))))
  all_goals clear z0 u0 z1 u1 z2 u2 z3 u3 z4 u4 z5 u5 z6 u6 z7 u7 z8 u8 z9 u9 z10 u10 z11 u11 z12 u12 z13 u13 z14 u14 z15 u15 z16 u16 z17 u17 z18 u18 z19 u19 z20 u20 z21 u21 z22 u22 z23 u23 z24 u24 z25 u25
  all_goals clear KS hsz k0 k1 k2 k3 k4 k5 k6 k7 k8 k9 k10 k11 k12 k13 k14 k15 k16 k17 k18 k19 k20 k21 k22 k23 k24 k25 k26 k27 k28 k29 k30 k31 k32 k33 k34 k35 k36 k37 k38 k39 k40 k41 k42
  all_goals subst hW
  all_goals go_wp2
  all_goals go_returns
  all_goals exact ⟨rfl, by (repeat' (first | (with_reducible exact Below.refl _ _) | (with_reducible refine Below.alloc ?_ ?_ _) | (with_reducible refine below_ext ?_ ?_ _) | (with_reducible refine Below.drew ?_) | (with_reducible refine below_drewN ?_ _) | (with_reducible refine Below.setCell ?_ ?_ _) | go_size | (simp only [go_sem]; omega) | (simp [go_sem]; done) | (simp [go_sem]; omega)))⟩
end Go.Proofs.Ytdlngbmgcedbpaa
