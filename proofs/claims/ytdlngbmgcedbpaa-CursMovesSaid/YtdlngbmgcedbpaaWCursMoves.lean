/- What the law CursMoves comes to: the walk. -/
import Derived.Test.YtdlngbmgcedbpaaCursQ
import Derived.Test.YtdlngbmgcedbpaaFrameCurs
import Derived.Test.YtdlngbmgcedbpaaAwake13
import Derived.Test.YtdlngbmgcedbpaaCursF2
import Derived.Test.YtdlngbmgcedbpaaCursMv
import Derived.Test.YtdlngbmgcedbpaaCurSt
import Derived.Test.YtdlngbmgcedbpaaFrameActs
import Derived.Test.YtdlngbmgcedbpaaRegionMid

namespace Go.Proofs.Ytdlngbmgcedbpaa
open Go.ChangeShapes Go.WideShapes Go.ChangeAt Go.RowKit
set_option linter.unusedVariables false
set_option linter.unusedSimpArgs false
attribute [local go_sem ↓] cur_same_eql cur_same_neq cuc_same_eql cuc_same_neq st_same_eql box_same_eql box_same_neq

set_option maxRecDepth 100000 in
set_option maxHeartbeats 8000000 in
theorem CursMoves_in (w : World) (row col rd : Int) (kp wp og : Bool) (a b c d l r s : Int) (pt pl pb pr mt ml mb mr : Int) (A : Option Addr) (cc : Nat) (xs : List Ac) (hx : Rd encA 3 w A xs) (hn : xs.length ≤ 9223372036854775807) (hok : ∀ x ∈ xs, x.ok) (hb : pb ≤ 2000) (hr : pr ≤ 2000) :
    Calls Try.prog 6 #[.agg #[.int .i64 row, .int .i64 col, .int .u8 rd, .bool kp, .bool wp, .bool og, .int .i64 a, .int .i64 b, .int .i64 c, .int .i64 d, .int .i64 l, .int .i64 r, .int .i64 s], .agg #[.int .i64 pt, .int .i64 pl, .int .i64 pb, .int .i64 pr, .int .i64 mt, .int .i64 ml, .int .i64 mb, .int .i64 mr], .slice A xs.length cc] w (Gives w (.bool true)) := by
  have X := Lib.hid hx
  have OK := Lib.hid hok
  clear hx hok
  have SM := Lib.hid (show ∀ w', Calls Try.prog 20 #[.agg #[.int .i64 pt, .int .i64 pl, .int .i64 pb, .int .i64 pr, .int .i64 mt, .int .i64 ml, .int .i64 mb, .int .i64 mr]] w' (Gives w' (.bool true)) from fun w' => by have := small_c (pt := pt) (pl := pl) (pb := pb) (pr := pr) (mt := mt) (ml := ml) (mb := mb) (mr := mr) w'; simpa [hb, hr] using this)
  have DO := Lib.hid (fun row col wp K N M w' (hN : N ≤ 9223372036854775807) => do_all w' row col row col rd kp wp wp og a b c d l r s pt pl pb pr mt ml mb mr K N M hb hr hN)
  have WH := Lib.hid (fun w' => whole_f (pt := pt) (pl := pl) (pb := pb) (pr := pr) (mt := mt) (ml := ml) (mb := mb) (mr := mr) w')
  have WR := Lib.hid (fun w' => whole_fr (pt := pt) (pl := pl) (pb := pb) (pr := pr) (mt := mt) (ml := ml) (mb := mb) (mr := mr) hb hr w')
  have IN := Lib.hid (fun w' => inner_f (pt := pt) (pl := pl) (pb := pb) (pr := pr) (mt := mt) (ml := ml) (mb := mb) (mr := mr) hb hr w')
  have IR := Lib.hid (fun w' => inner_fr (pt := pt) (pl := pl) (pb := pb) (pr := pr) (mt := mt) (ml := ml) (mb := mb) (mr := mr) hb hr w')
  have AT := Lib.hid (fun w' => area_t (pt := pt) (pl := pl) (pb := pb) (pr := pr) (mt := mt) (ml := ml) (mb := mb) (mr := mr) hb hr w')
  have AF := Lib.hid (fun w' => area_f (pt := pt) (pl := pl) (pb := pb) (pr := pr) (mt := mt) (ml := ml) (mb := mb) (mr := mr) hb hr w')
  have SI := Lib.hid (fun w' => inside_c (row := row) (col := col) (wp := wp) (rd := rd) (kp := kp) (og := og) (a := a) (b := b) (c := c) (d := d) (l := l) (r := r) (s := s) (pt := pt) (pl := pl) (pb := pb) (pr := pr) (mt := mt) (ml := ml) (mb := mb) (mr := mr) hb hr w')
  have SR := Lib.hid (fun w' => inside_r (row := row) (col := col) (wp := wp) (rd := rd) (kp := kp) (og := og) (a := a) (b := b) (c := c) (d := d) (l := l) (r := r) (s := s) (pt := pt) (pl := pl) (pb := pb) (pr := pr) (mt := mt) (ml := ml) (mb := mb) (mr := mr) hb hr w')
  clear hb hr
  go_enter Try.func6, Try.ntmps6
  go_upto_region 6 with (first | (go_at_call 15; ((with_reducible refine (awake13 _).mono ?_); rintro _ _ hgets; obtain ⟨rfl, x1, rfl⟩ := hgets.get; clear hgets)) | (go_at_call 20; ((with_reducible refine (SM.out _).mono ?_); rintro _ _ hgets; obtain ⟨rfl, x2, rfl⟩ := hgets.get; clear hgets)) | (go_at_call 21; ((with_reducible refine (frame_c _).mono ?_); rintro _ _ hgets; obtain ⟨rfl, x3, rfl⟩ := hgets.get; clear hgets)))
  generalize hW : (ext (ext (ext ((w.alloc (.cells #[.int .i64 row, .int .i64 col, .int .u8 rd, .bool kp, .bool wp, .bool og, .int .i64 a, .int .i64 b, .int .i64 c, .int .i64 d, .int .i64 l, .int .i64 r, .int .i64 s] 27)).alloc (.cells #[.int .i64 pt, .int .i64 pl, .int .i64 pb, .int .i64 pr, .int .i64 mt, .int .i64 ml, .int .i64 mb, .int .i64 mr] 42)) x1) x2) x3).alloc (.cells #[.int .i64 pt, .int .i64 pl, .int .i64 pb, .int .i64 pr, .int .i64 mt, .int .i64 ml, .int .i64 mb, .int .i64 mr] 44) = W
  have hsz : W.heap.size = w.heap.size + 1 + 1 + x1.sz + x2.sz + x3.sz + 1 := by subst hW; simp [go_sem]
  have k0 : W.cell? ⟨w.heap.size, 0, none⟩ = some (.int .i64 row) := by subst hW; simp [go_sem]
  have k1 : W.cell? ⟨w.heap.size, 1, none⟩ = some (.int .i64 col) := by subst hW; simp [go_sem]
  have k2 : W.cell? ⟨w.heap.size, 2, none⟩ = some (.int .u8 rd) := by subst hW; simp [go_sem]
  have k3 : W.cell? ⟨w.heap.size, 3, none⟩ = some (.bool kp) := by subst hW; simp [go_sem]
  have k4 : W.cell? ⟨w.heap.size, 4, none⟩ = some (.bool wp) := by subst hW; simp [go_sem]
  have k5 : W.cell? ⟨w.heap.size, 5, none⟩ = some (.bool og) := by subst hW; simp [go_sem]
  have k6 : W.cell? ⟨w.heap.size, 6, none⟩ = some (.int .i64 a) := by subst hW; simp [go_sem]
  have k7 : W.cell? ⟨w.heap.size, 7, none⟩ = some (.int .i64 b) := by subst hW; simp [go_sem]
  have k8 : W.cell? ⟨w.heap.size, 8, none⟩ = some (.int .i64 c) := by subst hW; simp [go_sem]
  have k9 : W.cell? ⟨w.heap.size, 9, none⟩ = some (.int .i64 d) := by subst hW; simp [go_sem]
  have k10 : W.cell? ⟨w.heap.size, 10, none⟩ = some (.int .i64 l) := by subst hW; simp [go_sem]
  have k11 : W.cell? ⟨w.heap.size, 11, none⟩ = some (.int .i64 r) := by subst hW; simp [go_sem]
  have k12 : W.cell? ⟨w.heap.size, 12, none⟩ = some (.int .i64 s) := by subst hW; simp [go_sem]
  have k13 : W.cell? ⟨w.heap.size + 1, 0, none⟩ = some (.int .i64 pt) := by subst hW; simp [go_sem]
  have k14 : W.cell? ⟨w.heap.size + 1, 1, none⟩ = some (.int .i64 pl) := by subst hW; simp [go_sem]
  have k15 : W.cell? ⟨w.heap.size + 1, 2, none⟩ = some (.int .i64 pb) := by subst hW; simp [go_sem]
  have k16 : W.cell? ⟨w.heap.size + 1, 3, none⟩ = some (.int .i64 pr) := by subst hW; simp [go_sem]
  have k17 : W.cell? ⟨w.heap.size + 1, 4, none⟩ = some (.int .i64 mt) := by subst hW; simp [go_sem]
  have k18 : W.cell? ⟨w.heap.size + 1, 5, none⟩ = some (.int .i64 ml) := by subst hW; simp [go_sem]
  have k19 : W.cell? ⟨w.heap.size + 1, 6, none⟩ = some (.int .i64 mb) := by subst hW; simp [go_sem]
  have k20 : W.cell? ⟨w.heap.size + 1, 7, none⟩ = some (.int .i64 mr) := by subst hW; simp [go_sem]
  have k21 : W.cell? ⟨w.heap.size + 1 + 1 + x1.sz + x2.sz + x3.sz, 0, none⟩ = some (.int .i64 pt) := by subst hW; simp [go_sem]
  have k22 : W.cell? ⟨w.heap.size + 1 + 1 + x1.sz + x2.sz + x3.sz, 1, none⟩ = some (.int .i64 pl) := by subst hW; simp [go_sem]
  have k23 : W.cell? ⟨w.heap.size + 1 + 1 + x1.sz + x2.sz + x3.sz, 2, none⟩ = some (.int .i64 pb) := by subst hW; simp [go_sem]
  have k24 : W.cell? ⟨w.heap.size + 1 + 1 + x1.sz + x2.sz + x3.sz, 3, none⟩ = some (.int .i64 pr) := by subst hW; simp [go_sem]
  have k25 : W.cell? ⟨w.heap.size + 1 + 1 + x1.sz + x2.sz + x3.sz, 4, none⟩ = some (.int .i64 mt) := by subst hW; simp [go_sem]
  have k26 : W.cell? ⟨w.heap.size + 1 + 1 + x1.sz + x2.sz + x3.sz, 5, none⟩ = some (.int .i64 ml) := by subst hW; simp [go_sem]
  have k27 : W.cell? ⟨w.heap.size + 1 + 1 + x1.sz + x2.sz + x3.sz, 6, none⟩ = some (.int .i64 mb) := by subst hW; simp [go_sem]
  have k28 : W.cell? ⟨w.heap.size + 1 + 1 + x1.sz + x2.sz + x3.sz, 7, none⟩ = some (.int .i64 mr) := by subst hW; simp [go_sem]
  (refine wp_region_free (by kernel_rfl) (by kernel_rfl) ?_)
  repeat (go_big_quiet_step (first | ((go_at_call 33; with_reducible exact Calls.free (WH.out _))) | ((go_at_call 34; with_reducible exact Calls.free (WR.out _))) | ((go_at_call 35; with_reducible exact Calls.free (IN.out _))) | ((go_at_call 36; with_reducible exact Calls.free (IR.out _))) | ((go_at_call 25; with_reducible exact Calls.free (AT.out _))) | ((go_at_call 25; with_reducible exact Calls.free (AF.out _))) | ((go_at_call 16; with_reducible exact Calls.free (own_c _))) | ((go_at_call 37; with_reducible exact Calls.free (SI.out _))) | ((go_at_call 27; with_reducible exact Calls.free (SR.out _)))))
  refine wpQuiet_nil ?_; rintro _ ⟨x4, rfl⟩
  clear hsz k0 k1 k2 k3 k4 k5 k6 k7 k8 k9 k10 k11 k12 k13 k14 k15 k16 k17 k18 k19 k20 k21 k22 k23 k24 k25 k26 k27 k28
  subst hW
  go_upto_region 9 with (first | (go_at_call 16; ((with_reducible refine (own_c _).mono ?_); rintro _ _ hgets; obtain ⟨rfl, x5, rfl⟩ := hgets.get; clear hgets)))
  have ebp : ∃ bp, bp = w.heap.size + 1 + 1 + x1.sz + x2.sz + x3.sz + 1 + x4.sz + x5.sz := ⟨_, rfl⟩
  obtain ⟨bp, hbp⟩ := ebp
  have eW : ∃ W0, W0 = (ext (ext ((ext (ext (ext ((w.alloc (.cells #[.int .i64 row, .int .i64 col, .int .u8 rd, .bool kp, .bool wp, .bool og, .int .i64 a, .int .i64 b, .int .i64 c, .int .i64 d, .int .i64 l, .int .i64 r, .int .i64 s] 27)).alloc (.cells #[.int .i64 pt, .int .i64 pl, .int .i64 pb, .int .i64 pr, .int .i64 mt, .int .i64 ml, .int .i64 mb, .int .i64 mr] 42)) x1) x2) x3).alloc (.cells #[.int .i64 pt, .int .i64 pl, .int .i64 pb, .int .i64 pr, .int .i64 mt, .int .i64 ml, .int .i64 mb, .int .i64 mr] 44)) x4) x5).alloc (.cells #[.int .i64 row, .int .i64 col, .int .u8 rd, .bool kp, .bool wp, .bool og, .int .i64 a, .int .i64 b, .int .i64 c, .int .i64 d, .int .i64 l, .int .i64 r, .int .i64 s] 33) := ⟨_, rfl⟩
  obtain ⟨W0, hW0⟩ := eW
  have ST : CurSt w W0 bp row col rd kp wp og row col wp a b c d l r s pt pl pb pr mt ml mb mr := by
    subst hW0 hbp
    exact ⟨by (repeat' (first | (with_reducible exact Below.refl _ _) | (with_reducible refine Below.alloc ?_ ?_ _) | (with_reducible refine below_ext ?_ ?_ _) | (with_reducible refine Below.drew ?_) | (with_reducible refine below_drewN ?_ _) | (with_reducible refine Below.setCell ?_ ?_ _) | go_size | (simp only [go_sem]; omega) | (simp [go_sem]; done) | (simp [go_sem]; omega))), by omega, (by first | (simp [go_sem]; done) | (simp [go_sem]; omega)), (fun j v hv => by
      match j, hv with
      | 0, hv => injection hv with hv; subst hv; simp [go_sem]
      | 1, hv => injection hv with hv; subst hv; simp [go_sem]
      | 2, hv => injection hv with hv; subst hv; simp [go_sem]
      | 3, hv => injection hv with hv; subst hv; simp [go_sem]
      | 4, hv => injection hv with hv; subst hv; simp [go_sem]
      | 5, hv => injection hv with hv; subst hv; simp [go_sem]
      | 6, hv => injection hv with hv; subst hv; simp [go_sem]
      | 7, hv => injection hv with hv; subst hv; simp [go_sem]
      | 8, hv => injection hv with hv; subst hv; simp [go_sem]
      | 9, hv => injection hv with hv; subst hv; simp [go_sem]
      | 10, hv => injection hv with hv; subst hv; simp [go_sem]
      | 11, hv => injection hv with hv; subst hv; simp [go_sem]
      | 12, hv => injection hv with hv; subst hv; simp [go_sem]
      | _ + 13, hv => cases hv), (fun j v hv => by
      match j, hv with
      | 0, hv => injection hv with hv; subst hv; simp [go_sem]
      | 1, hv => injection hv with hv; subst hv; simp [go_sem]
      | 2, hv => injection hv with hv; subst hv; simp [go_sem]
      | 3, hv => injection hv with hv; subst hv; simp [go_sem]
      | 4, hv => injection hv with hv; subst hv; simp [go_sem]
      | 5, hv => injection hv with hv; subst hv; simp [go_sem]
      | 6, hv => injection hv with hv; subst hv; simp [go_sem]
      | 7, hv => injection hv with hv; subst hv; simp [go_sem]
      | 8, hv => injection hv with hv; subst hv; simp [go_sem]
      | 9, hv => injection hv with hv; subst hv; simp [go_sem]
      | 10, hv => injection hv with hv; subst hv; simp [go_sem]
      | 11, hv => injection hv with hv; subst hv; simp [go_sem]
      | 12, hv => injection hv with hv; subst hv; simp [go_sem]
      | _ + 13, hv => cases hv), (fun j v hv => by
      match j, hv with
      | 0, hv => injection hv with hv; subst hv; simp [go_sem]
      | 1, hv => injection hv with hv; subst hv; simp [go_sem]
      | 2, hv => injection hv with hv; subst hv; simp [go_sem]
      | 3, hv => injection hv with hv; subst hv; simp [go_sem]
      | 4, hv => injection hv with hv; subst hv; simp [go_sem]
      | 5, hv => injection hv with hv; subst hv; simp [go_sem]
      | 6, hv => injection hv with hv; subst hv; simp [go_sem]
      | 7, hv => injection hv with hv; subst hv; simp [go_sem]
      | _ + 8, hv => cases hv), (fun j hj => by
      match j, hj with
      | 0, _ => exact ⟨by simp [go_sem], by simp [go_sem]⟩
      | 1, _ => exact ⟨by simp [go_sem], by simp [go_sem]⟩
      | 2, _ => exact ⟨by simp [go_sem], by simp [go_sem]⟩
      | 3, _ => exact ⟨by simp [go_sem], by simp [go_sem]⟩
      | 4, _ => exact ⟨by simp [go_sem], by simp [go_sem]⟩
      | 5, _ => exact ⟨by simp [go_sem], by simp [go_sem]⟩
      | 6, _ => exact ⟨by simp [go_sem], by simp [go_sem]⟩
      | 7, _ => exact ⟨by simp [go_sem], by simp [go_sem]⟩
      | 8, _ => exact ⟨by simp [go_sem], by simp [go_sem]⟩
      | 9, _ => exact ⟨by simp [go_sem], by simp [go_sem]⟩
      | 10, _ => exact ⟨by simp [go_sem], by simp [go_sem]⟩
      | 11, _ => exact ⟨by simp [go_sem], by simp [go_sem]⟩
      | 12, _ => exact ⟨by simp [go_sem], by simp [go_sem]⟩
      | _ + 13, hj => omega), (fun j hj => by
      match j, hj with
      | 0, _ => exact ⟨by simp [go_sem], by simp [go_sem]⟩
      | 1, _ => exact ⟨by simp [go_sem], by simp [go_sem]⟩
      | 2, _ => exact ⟨by simp [go_sem], by simp [go_sem]⟩
      | 3, _ => exact ⟨by simp [go_sem], by simp [go_sem]⟩
      | 4, _ => exact ⟨by simp [go_sem], by simp [go_sem]⟩
      | 5, _ => exact ⟨by simp [go_sem], by simp [go_sem]⟩
      | 6, _ => exact ⟨by simp [go_sem], by simp [go_sem]⟩
      | 7, _ => exact ⟨by simp [go_sem], by simp [go_sem]⟩
      | 8, _ => exact ⟨by simp [go_sem], by simp [go_sem]⟩
      | 9, _ => exact ⟨by simp [go_sem], by simp [go_sem]⟩
      | 10, _ => exact ⟨by simp [go_sem], by simp [go_sem]⟩
      | 11, _ => exact ⟨by simp [go_sem], by simp [go_sem]⟩
      | 12, _ => exact ⟨by simp [go_sem], by simp [go_sem]⟩
      | _ + 13, hj => omega)⟩
  rw [← hbp, ← hW0]
  clear hbp hW0
  replace ST := Lib.hid ST
  go_wp2
  go_loopw [9] (fun iv wr => ∃ (j : Nat) (row' col' : Int) (wp' : Bool), j ≤ xs.length ∧ iv = .int .i64 j ∧ Hid (CurSt w wr bp row' col' rd kp wp' og row' col' wp' a b c d l r s pt pl pb pr mt ml mb mr)) (fun iv _ => xs.length - (intOf iv).toNat)
  case atStart => exact ⟨0, row, col, wp, by omega, rfl, ST⟩
  case round =>
    clear ST
    obtain ⟨j, row', col', wp', hj, rfl, ST⟩ := hrel
    by_cases h1 : j < xs.length
    · by_cases h2 : j < 20
      · obtain ⟨b1, o1, rfl, hb1, d0, d1, d2⟩ := X.out.act h1
        have hN := OK.out xs[j] (List.getElem_mem h1)
        generalize xs[j] = q at d0 d1 d2 hN
        obtain ⟨K, N, M⟩ := q
        simp only at d0 d1 d2
        have D := Lib.hid (fun w' => DO.out row' col' wp' K N M w' hN)
        generalize mvR K N M (max 1 pb) (max 1 pr) (inn pb pr mt ml mb mr) og row' = R at D
        generalize mvC K N M (max 1 pb) (max 1 pr) (inn pb pr mt ml mb mr) og col' = C at D
        generalize mvW K N col' wp' = V at D
        clear hN
        replace d0 := (ST.out.bel.cell (p := ⟨b1, o1 + j * 3, none⟩) hb1).trans d0
        replace d1 := (ST.out.bel.cell (p := ⟨b1, o1 + j * 3 + 1, none⟩) hb1).trans d1
        replace d2 := (ST.out.bel.cell (p := ⟨b1, o1 + j * 3 + 2, none⟩) hb1).trans d2
        have c0 : wr.cell? ⟨w.heap.size, 0, none⟩ = some (.int .i64 row') := ST.out.C 0 _ rfl
        have c1 : wr.cell? ⟨w.heap.size, 1, none⟩ = some (.int .i64 col') := ST.out.C 1 _ rfl
        have c2 : wr.cell? ⟨w.heap.size, 2, none⟩ = some (.int .u8 rd) := ST.out.C 2 _ rfl
        have c3 : wr.cell? ⟨w.heap.size, 3, none⟩ = some (.bool kp) := ST.out.C 3 _ rfl
        have c4 : wr.cell? ⟨w.heap.size, 4, none⟩ = some (.bool wp') := ST.out.C 4 _ rfl
        have c5 : wr.cell? ⟨w.heap.size, 5, none⟩ = some (.bool og) := ST.out.C 5 _ rfl
        have c6 : wr.cell? ⟨w.heap.size, 6, none⟩ = some (.int .i64 a) := ST.out.C 6 _ rfl
        have c7 : wr.cell? ⟨w.heap.size, 7, none⟩ = some (.int .i64 b) := ST.out.C 7 _ rfl
        have c8 : wr.cell? ⟨w.heap.size, 8, none⟩ = some (.int .i64 c) := ST.out.C 8 _ rfl
        have c9 : wr.cell? ⟨w.heap.size, 9, none⟩ = some (.int .i64 d) := ST.out.C 9 _ rfl
        have c10 : wr.cell? ⟨w.heap.size, 10, none⟩ = some (.int .i64 l) := ST.out.C 10 _ rfl
        have c11 : wr.cell? ⟨w.heap.size, 11, none⟩ = some (.int .i64 r) := ST.out.C 11 _ rfl
        have c12 : wr.cell? ⟨w.heap.size, 12, none⟩ = some (.int .i64 s) := ST.out.C 12 _ rfl
        have p0 : wr.cell? ⟨bp, 0, none⟩ = some (.int .i64 row') := ST.out.P 0 _ rfl
        have p1 : wr.cell? ⟨bp, 1, none⟩ = some (.int .i64 col') := ST.out.P 1 _ rfl
        have p2 : wr.cell? ⟨bp, 2, none⟩ = some (.int .u8 rd) := ST.out.P 2 _ rfl
        have p3 : wr.cell? ⟨bp, 3, none⟩ = some (.bool kp) := ST.out.P 3 _ rfl
        have p4 : wr.cell? ⟨bp, 4, none⟩ = some (.bool wp') := ST.out.P 4 _ rfl
        have p5 : wr.cell? ⟨bp, 5, none⟩ = some (.bool og) := ST.out.P 5 _ rfl
        have p6 : wr.cell? ⟨bp, 6, none⟩ = some (.int .i64 a) := ST.out.P 6 _ rfl
        have p7 : wr.cell? ⟨bp, 7, none⟩ = some (.int .i64 b) := ST.out.P 7 _ rfl
        have p8 : wr.cell? ⟨bp, 8, none⟩ = some (.int .i64 c) := ST.out.P 8 _ rfl
        have p9 : wr.cell? ⟨bp, 9, none⟩ = some (.int .i64 d) := ST.out.P 9 _ rfl
        have p10 : wr.cell? ⟨bp, 10, none⟩ = some (.int .i64 l) := ST.out.P 10 _ rfl
        have p11 : wr.cell? ⟨bp, 11, none⟩ = some (.int .i64 r) := ST.out.P 11 _ rfl
        have p12 : wr.cell? ⟨bp, 12, none⟩ = some (.int .i64 s) := ST.out.P 12 _ rfl
        have f0 : wr.cell? ⟨w.heap.size + 1, 0, none⟩ = some (.int .i64 pt) := ST.out.F 0 _ rfl
        have f1 : wr.cell? ⟨w.heap.size + 1, 1, none⟩ = some (.int .i64 pl) := ST.out.F 1 _ rfl
        have f2 : wr.cell? ⟨w.heap.size + 1, 2, none⟩ = some (.int .i64 pb) := ST.out.F 2 _ rfl
        have f3 : wr.cell? ⟨w.heap.size + 1, 3, none⟩ = some (.int .i64 pr) := ST.out.F 3 _ rfl
        have f4 : wr.cell? ⟨w.heap.size + 1, 4, none⟩ = some (.int .i64 mt) := ST.out.F 4 _ rfl
        have f5 : wr.cell? ⟨w.heap.size + 1, 5, none⟩ = some (.int .i64 ml) := ST.out.F 5 _ rfl
        have f6 : wr.cell? ⟨w.heap.size + 1, 6, none⟩ = some (.int .i64 mb) := ST.out.F 6 _ rfl
        have f7 : wr.cell? ⟨w.heap.size + 1, 7, none⟩ = some (.int .i64 mr) := ST.out.F 7 _ rfl
        have y0 : wr.frozen? ⟨w.heap.size, 0, none⟩ = false := (ST.out.TC 0 (by omega)).2
        have y1 : wr.frozen? ⟨w.heap.size, 1, none⟩ = false := (ST.out.TC 1 (by omega)).2
        have y2 : wr.frozen? ⟨w.heap.size, 2, none⟩ = false := (ST.out.TC 2 (by omega)).2
        have y3 : wr.frozen? ⟨w.heap.size, 3, none⟩ = false := (ST.out.TC 3 (by omega)).2
        have y4 : wr.frozen? ⟨w.heap.size, 4, none⟩ = false := (ST.out.TC 4 (by omega)).2
        have y5 : wr.frozen? ⟨w.heap.size, 5, none⟩ = false := (ST.out.TC 5 (by omega)).2
        have y6 : wr.frozen? ⟨w.heap.size, 6, none⟩ = false := (ST.out.TC 6 (by omega)).2
        have y7 : wr.frozen? ⟨w.heap.size, 7, none⟩ = false := (ST.out.TC 7 (by omega)).2
        have y8 : wr.frozen? ⟨w.heap.size, 8, none⟩ = false := (ST.out.TC 8 (by omega)).2
        have y9 : wr.frozen? ⟨w.heap.size, 9, none⟩ = false := (ST.out.TC 9 (by omega)).2
        have y10 : wr.frozen? ⟨w.heap.size, 10, none⟩ = false := (ST.out.TC 10 (by omega)).2
        have y11 : wr.frozen? ⟨w.heap.size, 11, none⟩ = false := (ST.out.TC 11 (by omega)).2
        have y12 : wr.frozen? ⟨w.heap.size, 12, none⟩ = false := (ST.out.TC 12 (by omega)).2
        have z0 : wr.frozen? ⟨bp, 0, none⟩ = false := (ST.out.TP 0 (by omega)).2
        have z1 : wr.frozen? ⟨bp, 1, none⟩ = false := (ST.out.TP 1 (by omega)).2
        have z2 : wr.frozen? ⟨bp, 2, none⟩ = false := (ST.out.TP 2 (by omega)).2
        have z3 : wr.frozen? ⟨bp, 3, none⟩ = false := (ST.out.TP 3 (by omega)).2
        have z4 : wr.frozen? ⟨bp, 4, none⟩ = false := (ST.out.TP 4 (by omega)).2
        have z5 : wr.frozen? ⟨bp, 5, none⟩ = false := (ST.out.TP 5 (by omega)).2
        have z6 : wr.frozen? ⟨bp, 6, none⟩ = false := (ST.out.TP 6 (by omega)).2
        have z7 : wr.frozen? ⟨bp, 7, none⟩ = false := (ST.out.TP 7 (by omega)).2
        have z8 : wr.frozen? ⟨bp, 8, none⟩ = false := (ST.out.TP 8 (by omega)).2
        have z9 : wr.frozen? ⟨bp, 9, none⟩ = false := (ST.out.TP 9 (by omega)).2
        have z10 : wr.frozen? ⟨bp, 10, none⟩ = false := (ST.out.TP 10 (by omega)).2
        have z11 : wr.frozen? ⟨bp, 11, none⟩ = false := (ST.out.TP 11 (by omega)).2
        have z12 : wr.frozen? ⟨bp, 12, none⟩ = false := (ST.out.TP 12 (by omega)).2
        have hp := ST.out.hp
        have hp2 := ST.out.hp2
        have hs0 := ST.out.bel.size
        have i1 : (j : Int) < (xs.length : Int) := by omega
        have i0 : (0 : Int) ≤ (j : Int) := by omega
        have hb2 : b1 < wr.heap.size := by omega
        have hs1 : w.heap.size < wr.heap.size := by omega
        have hs2 : w.heap.size + 1 < wr.heap.size := by omega
        go_upto_region 12 with (fail)
        (refine wp_region_mid 9 11 (by kernel_rfl) (by kernel_rfl) (fun _ _ _ _ _ h => h) ?_; simp only [Nat.reduceSub, List.take_succ_cons, List.take_zero, List.drop_succ_cons, List.drop_zero])
        repeat (go_big_quiet_step (first | ((go_at_call 38; with_reducible exact Calls.free (D.out _)))))
        refine wpQuiet_nil ?_
        rintro _ ⟨x7, rfl⟩
        repeat (go_big_quiet_step (fail))
        refine wpQuiet_nil ?_
        go_upto_region 13 with (fail)
        replace ST : CurSt w (ext (((((((((((((((((((((((((((wr).setCell ⟨bp, 0, none⟩ (.int .i64 R)).setCell ⟨bp, 1, none⟩ (.int .i64 C)).setCell ⟨bp, 2, none⟩ (.int .u8 rd)).setCell ⟨bp, 3, none⟩ (.bool kp)).setCell ⟨bp, 4, none⟩ (.bool V)).setCell ⟨bp, 5, none⟩ (.bool og)).setCell ⟨bp, 6, none⟩ (.int .i64 a)).setCell ⟨bp, 7, none⟩ (.int .i64 b)).setCell ⟨bp, 8, none⟩ (.int .i64 c)).setCell ⟨bp, 9, none⟩ (.int .i64 d)).setCell ⟨bp, 10, none⟩ (.int .i64 l)).setCell ⟨bp, 11, none⟩ (.int .i64 r)).setCell ⟨bp, 12, none⟩ (.int .i64 s)).setCell ⟨w.heap.size, 0, none⟩ (.int .i64 R)).setCell ⟨w.heap.size, 1, none⟩ (.int .i64 C)).setCell ⟨w.heap.size, 2, none⟩ (.int .u8 rd)).setCell ⟨w.heap.size, 3, none⟩ (.bool kp)).setCell ⟨w.heap.size, 4, none⟩ (.bool V)).setCell ⟨w.heap.size, 5, none⟩ (.bool og)).setCell ⟨w.heap.size, 6, none⟩ (.int .i64 a)).setCell ⟨w.heap.size, 7, none⟩ (.int .i64 b)).setCell ⟨w.heap.size, 8, none⟩ (.int .i64 c)).setCell ⟨w.heap.size, 9, none⟩ (.int .i64 d)).setCell ⟨w.heap.size, 10, none⟩ (.int .i64 l)).setCell ⟨w.heap.size, 11, none⟩ (.int .i64 r)).setCell ⟨w.heap.size, 12, none⟩ (.int .i64 s)) x7) bp R C rd kp V og R C V a b c d l r s pt pl pb pr mt ml mb mr := ((ST.out.stepP R C V).stepC R C V).ext x7
        generalize hW5 : (ext (((((((((((((((((((((((((((wr).setCell ⟨bp, 0, none⟩ (.int .i64 R)).setCell ⟨bp, 1, none⟩ (.int .i64 C)).setCell ⟨bp, 2, none⟩ (.int .u8 rd)).setCell ⟨bp, 3, none⟩ (.bool kp)).setCell ⟨bp, 4, none⟩ (.bool V)).setCell ⟨bp, 5, none⟩ (.bool og)).setCell ⟨bp, 6, none⟩ (.int .i64 a)).setCell ⟨bp, 7, none⟩ (.int .i64 b)).setCell ⟨bp, 8, none⟩ (.int .i64 c)).setCell ⟨bp, 9, none⟩ (.int .i64 d)).setCell ⟨bp, 10, none⟩ (.int .i64 l)).setCell ⟨bp, 11, none⟩ (.int .i64 r)).setCell ⟨bp, 12, none⟩ (.int .i64 s)).setCell ⟨w.heap.size, 0, none⟩ (.int .i64 R)).setCell ⟨w.heap.size, 1, none⟩ (.int .i64 C)).setCell ⟨w.heap.size, 2, none⟩ (.int .u8 rd)).setCell ⟨w.heap.size, 3, none⟩ (.bool kp)).setCell ⟨w.heap.size, 4, none⟩ (.bool V)).setCell ⟨w.heap.size, 5, none⟩ (.bool og)).setCell ⟨w.heap.size, 6, none⟩ (.int .i64 a)).setCell ⟨w.heap.size, 7, none⟩ (.int .i64 b)).setCell ⟨w.heap.size, 8, none⟩ (.int .i64 c)).setCell ⟨w.heap.size, 9, none⟩ (.int .i64 d)).setCell ⟨w.heap.size, 10, none⟩ (.int .i64 l)).setCell ⟨w.heap.size, 11, none⟩ (.int .i64 r)).setCell ⟨w.heap.size, 12, none⟩ (.int .i64 s)) x7) = W5 at ST ⊢
        clear hW5 d0 d1 d2 hb1 hb2 hs0 hs1 hs2 hp hp2 i0 i1 c0 c1 c2 c3 c4 c5 c6 c7 c8 c9 c10 c11 c12 p0 p1 p2 p3 p4 p5 p6 p7 p8 p9 p10 p11 p12 f0 f1 f2 f3 f4 f5 f6 f7 y0 y1 y2 y3 y4 y5 y6 y7 y8 y9 y10 y11 y12 z0 z1 z2 z3 z4 z5 z6 z7 z8 z9 z10 z11 z12
        replace ST := Lib.hid ST
        have l1 := ST.out.hp
        have l2 := ST.out.hp2
        have l3 : w.heap.size < W5.heap.size := by omega
        have g0 : W5.cell? ⟨bp, 0, none⟩ = some (.int .i64 R) := ST.out.P 0 _ rfl
        have g1 : W5.cell? ⟨bp, 1, none⟩ = some (.int .i64 C) := ST.out.P 1 _ rfl
        have g2 : W5.cell? ⟨bp, 2, none⟩ = some (.int .u8 rd) := ST.out.P 2 _ rfl
        have g3 : W5.cell? ⟨bp, 3, none⟩ = some (.bool kp) := ST.out.P 3 _ rfl
        have g4 : W5.cell? ⟨bp, 4, none⟩ = some (.bool V) := ST.out.P 4 _ rfl
        have g5 : W5.cell? ⟨bp, 5, none⟩ = some (.bool og) := ST.out.P 5 _ rfl
        have g6 : W5.cell? ⟨bp, 6, none⟩ = some (.int .i64 a) := ST.out.P 6 _ rfl
        have g7 : W5.cell? ⟨bp, 7, none⟩ = some (.int .i64 b) := ST.out.P 7 _ rfl
        have g8 : W5.cell? ⟨bp, 8, none⟩ = some (.int .i64 c) := ST.out.P 8 _ rfl
        have g9 : W5.cell? ⟨bp, 9, none⟩ = some (.int .i64 d) := ST.out.P 9 _ rfl
        have g10 : W5.cell? ⟨bp, 10, none⟩ = some (.int .i64 l) := ST.out.P 10 _ rfl
        have g11 : W5.cell? ⟨bp, 11, none⟩ = some (.int .i64 r) := ST.out.P 11 _ rfl
        have g12 : W5.cell? ⟨bp, 12, none⟩ = some (.int .i64 s) := ST.out.P 12 _ rfl
        have e0 : W5.cell? ⟨w.heap.size, 0, none⟩ = some (.int .i64 R) := ST.out.C 0 _ rfl
        have e1 : W5.cell? ⟨w.heap.size, 1, none⟩ = some (.int .i64 C) := ST.out.C 1 _ rfl
        have e2 : W5.cell? ⟨w.heap.size, 2, none⟩ = some (.int .u8 rd) := ST.out.C 2 _ rfl
        have e3 : W5.cell? ⟨w.heap.size, 3, none⟩ = some (.bool kp) := ST.out.C 3 _ rfl
        have e4 : W5.cell? ⟨w.heap.size, 4, none⟩ = some (.bool V) := ST.out.C 4 _ rfl
        have e5 : W5.cell? ⟨w.heap.size, 5, none⟩ = some (.bool og) := ST.out.C 5 _ rfl
        have e6 : W5.cell? ⟨w.heap.size, 6, none⟩ = some (.int .i64 a) := ST.out.C 6 _ rfl
        have e7 : W5.cell? ⟨w.heap.size, 7, none⟩ = some (.int .i64 b) := ST.out.C 7 _ rfl
        have e8 : W5.cell? ⟨w.heap.size, 8, none⟩ = some (.int .i64 c) := ST.out.C 8 _ rfl
        have e9 : W5.cell? ⟨w.heap.size, 9, none⟩ = some (.int .i64 d) := ST.out.C 9 _ rfl
        have e10 : W5.cell? ⟨w.heap.size, 10, none⟩ = some (.int .i64 l) := ST.out.C 10 _ rfl
        have e11 : W5.cell? ⟨w.heap.size, 11, none⟩ = some (.int .i64 r) := ST.out.C 11 _ rfl
        have e12 : W5.cell? ⟨w.heap.size, 12, none⟩ = some (.int .i64 s) := ST.out.C 12 _ rfl
        (refine wp_region_free (by kernel_rfl) (by kernel_rfl) ?_)
        repeat (go_big_quiet_step (first | ((go_at_call 18; with_reducible exact Calls.free (told_c _)))))
        refine wpQuiet_nil ?_; rintro _ ⟨x8, rfl⟩
        go_wp2
        go_roundw
        case rel => exact ⟨j + 1, R, C, V, by omega, by go_num, Lib.hid (ST.out.ext x8)⟩
        case measure => simp [intOf]; omega
      · go_wp2_with (first | (go_at_call 39; ((with_reducible refine (new_c _).mono ?_); rintro _ _ hgets; obtain ⟨rfl, _, rfl⟩ := hgets.get; clear hgets)) | (go_at_call 18; ((with_reducible refine (told_c _).mono ?_); rintro _ _ hgets; obtain ⟨rfl, _, rfl⟩ := hgets.get; clear hgets)) | (go_at_call 40; ((with_reducible refine (new_r _).mono ?_); rintro _ _ hgets; obtain ⟨rfl, _, rfl⟩ := hgets.get; clear hgets)))
        go_returns
        refine ⟨rfl, ?_⟩
        have bel := ST.out.bel
        have hs := bel.size
        (repeat (first | exact bel | (with_reducible refine below_ext ?_ (by first | exact hs | (simp [go_sem]; done) | (simp [go_sem]; omega)) _) | (with_reducible refine Below.drew ?_)))
    · go_wp2_with (first | (go_at_call 39; ((with_reducible refine (new_c _).mono ?_); rintro _ _ hgets; obtain ⟨rfl, _, rfl⟩ := hgets.get; clear hgets)) | (go_at_call 18; ((with_reducible refine (told_c _).mono ?_); rintro _ _ hgets; obtain ⟨rfl, _, rfl⟩ := hgets.get; clear hgets)) | (go_at_call 40; ((with_reducible refine (new_r _).mono ?_); rintro _ _ hgets; obtain ⟨rfl, _, rfl⟩ := hgets.get; clear hgets)))
      go_returns
      refine ⟨rfl, ?_⟩
      have bel := ST.out.bel
      have hs := bel.size
      (repeat (first | exact bel | (with_reducible refine below_ext ?_ (by first | exact hs | (simp [go_sem]; done) | (simp [go_sem]; omega)) _) | (with_reducible refine Below.drew ?_)))
end Go.Proofs.Ytdlngbmgcedbpaa
