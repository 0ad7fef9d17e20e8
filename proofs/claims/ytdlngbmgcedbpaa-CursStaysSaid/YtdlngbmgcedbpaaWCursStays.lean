/- What the law CursStays comes to: the walk. -/
import Derived.Test.YtdlngbmgcedbpaaCursQ
import Derived.Test.YtdlngbmgcedbpaaFrameCurs
import Derived.Test.YtdlngbmgcedbpaaAwake13
import Derived.Test.YtdlngbmgcedbpaaCursF2
import Derived.Test.YtdlngbmgcedbpaaCursMv
import Derived.Test.YtdlngbmgcedbpaaCursSl
import Derived.Test.YtdlngbmgcedbpaaCurSx
import Derived.Test.YtdlngbmgcedbpaaFrameActs
import Derived.Test.YtdlngbmgcedbpaaCursG

namespace Go.Proofs.Ytdlngbmgcedbpaa
open Go.ChangeShapes Go.WideShapes Go.ChangeAt Go.RowKit
set_option linter.unusedVariables false
set_option linter.unusedSimpArgs false
attribute [local go_sem ↓] cur_same_eql cur_same_neq cuc_same_eql cuc_same_neq st_same_eql box_same_eql box_same_neq

set_option maxRecDepth 100000 in
set_option maxHeartbeats 8000000 in
theorem CursStays_in (w : World) (row col rd : Int) (kp wp og : Bool) (a b c d l r s : Int) (pt pl pb pr mt ml mb mr : Int) (A : Option Addr) (cc : Nat) (xs : List Ac) (hx : Rd encA 3 w A xs) (hn : xs.length ≤ 9223372036854775807) (hok : ∀ x ∈ xs, x.ok) (hb : pb ≤ 2000) (hr : pr ≤ 2000) :
    Calls Try.prog 7 #[.agg #[.int .i64 row, .int .i64 col, .int .u8 rd, .bool kp, .bool wp, .bool og, .int .i64 a, .int .i64 b, .int .i64 c, .int .i64 d, .int .i64 l, .int .i64 r, .int .i64 s], .agg #[.int .i64 pt, .int .i64 pl, .int .i64 pb, .int .i64 pr, .int .i64 mt, .int .i64 ml, .int .i64 mb, .int .i64 mr], .slice A xs.length cc] w (Gives w (.bool true)) := by
  have X := Lib.hid hx
  have OK := Lib.hid hok
  clear hx hok
  have SM := Lib.hid (show ∀ w', Calls Try.prog 20 #[.agg #[.int .i64 pt, .int .i64 pl, .int .i64 pb, .int .i64 pr, .int .i64 mt, .int .i64 ml, .int .i64 mb, .int .i64 mr]] w' (Gives w' (.bool true)) from fun w' => by have := small_c (pt := pt) (pl := pl) (pb := pb) (pr := pr) (mt := mt) (ml := ml) (mb := mb) (mr := mr) w'; simpa [hb, hr] using this)
  have DO := Lib.hid (fun row2 col2 wp2 K N M w' (hN : N ≤ 9223372036854775807) => do_all w' row2 col2 row col rd kp wp2 wp og a b c d l r s pt pl pb pr mt ml mb mr K N M hb hr hN)
  have WR := Lib.hid (fun w' => whole_fr (pt := pt) (pl := pl) (pb := pb) (pr := pr) (mt := mt) (ml := ml) (mb := mb) (mr := mr) hb hr w')
  have ON := Lib.hid (fun w' => on_r (row := row) (col := col) (wp := wp) (rd := rd) (kp := kp) (og := og) (a := a) (b := b) (c := c) (d := d) (l := l) (r := r) (s := s) (pt := pt) (pl := pl) (pb := pb) (pr := pr) (mt := mt) (ml := ml) (mb := mb) (mr := mr) hb hr w')
  have SI := Lib.hid (fun row2 col2 wp2 w' => inside_c (row := row2) (col := col2) (wp := wp2) (rd := rd) (kp := kp) (og := og) (a := a) (b := b) (c := c) (d := d) (l := l) (r := r) (s := s) (pt := pt) (pl := pl) (pb := pb) (pr := pr) (mt := mt) (ml := ml) (mb := mb) (mr := mr) hb hr w')
  have b0 : 1 ≤ max 1 pb ∧ max 1 pb ≤ 2000 := by omega
  have r0 : 1 ≤ max 1 pr ∧ max 1 pr ≤ 2000 := by omega
  have ib := inn_bd pb pr mt ml mb mr
  generalize clampI 0 (max 1 pb) row = row0 at ON
  generalize clampI 0 (max 1 pr) col = col0 at ON
  generalize inn pb pr mt ml mb mr = I at DO SI ib
  generalize max 1 pb = B at DO WR SI ib b0
  generalize max 1 pr = Q at DO WR SI ib r0
  have MO := Lib.hid (fun (K N M : Int) (og : Bool) (row col : Int) (hK : 1 ≤ K ∧ K ≤ 8) => mv_on (N := N) (M := M) (og := og) (row := row) (col := col) hK ib b0.1 r0.1)
  have MI := Lib.hid (fun (K N M : Int) (og : Bool) (row col : Int) (hK : 1 ≤ K ∧ K ≤ 4 ∨ K = 8) => mv_ins (N := N) (M := M) (og := og) (row := row) (col := col) hK ib b0.1 r0.1)
  have MT := Lib.hid (fun (K N M : Int) (row col : Int) (hK : 5 ≤ K ∧ K ≤ 7) => mv_to (N := N) (M := M) (row := row) (col := col) hK ib)
  clear hb hr ib b0 r0
  go_enter Try.func7, Try.ntmps7
  go_upto_region 7 with (first | (go_at_call 15; ((with_reducible refine (awake13 _).mono ?_); rintro _ _ hgets; obtain ⟨rfl, x1, rfl⟩ := hgets.get; clear hgets)) | (go_at_call 20; ((with_reducible refine (SM.out _).mono ?_); rintro _ _ hgets; obtain ⟨rfl, x2, rfl⟩ := hgets.get; clear hgets)) | (go_at_call 21; ((with_reducible refine (frame_c _).mono ?_); rintro _ _ hgets; obtain ⟨rfl, x3, rfl⟩ := hgets.get; clear hgets)) | (go_at_call 41; ((with_reducible refine (ON.out _).mono ?_); rintro _ _ hgets; obtain ⟨rfl, x4, rfl⟩ := hgets.get; clear hgets)) | (go_at_call 16; ((with_reducible refine (own_c _).mono ?_); rintro _ _ hgets; obtain ⟨rfl, x5, rfl⟩ := hgets.get; clear hgets)))
  have ebx : ∃ bx, bx = w.heap.size + 1 + 1 + x1.sz + x2.sz + x3.sz := ⟨_, rfl⟩
  obtain ⟨bx, hbx⟩ := ebx
  have ebp : ∃ bp, bp = w.heap.size + 1 + 1 + x1.sz + x2.sz + x3.sz + 1 + x4.sz + x5.sz := ⟨_, rfl⟩
  obtain ⟨bp, hbp⟩ := ebp
  have eW : ∃ W0, W0 = (ext (ext ((ext (ext (ext ((w.alloc (.cells #[.int .i64 row, .int .i64 col, .int .u8 rd, .bool kp, .bool wp, .bool og, .int .i64 a, .int .i64 b, .int .i64 c, .int .i64 d, .int .i64 l, .int .i64 r, .int .i64 s] 27)).alloc (.cells #[.int .i64 pt, .int .i64 pl, .int .i64 pb, .int .i64 pr, .int .i64 mt, .int .i64 ml, .int .i64 mb, .int .i64 mr] 42)) x1) x2) x3).alloc (.cells #[.int .i64 pt, .int .i64 pl, .int .i64 pb, .int .i64 pr, .int .i64 mt, .int .i64 ml, .int .i64 mb, .int .i64 mr] 44)) x4) x5).alloc (.cells #[.int .i64 row0, .int .i64 col0, .int .u8 rd, .bool kp, .bool false, .bool og, .int .i64 a, .int .i64 b, .int .i64 c, .int .i64 d, .int .i64 l, .int .i64 r, .int .i64 s] 33) := ⟨_, rfl⟩
  obtain ⟨W0, hW0⟩ := eW
  have ST : CurSx w W0 bp bx row col rd kp wp og row0 col0 false a b c d l r s pt pl pb pr mt ml mb mr := by
    subst hW0 hbp hbx
    exact ⟨⟨by (repeat' (first | (with_reducible exact Below.refl _ _) | (with_reducible refine Below.alloc ?_ ?_ _) | (with_reducible refine below_ext ?_ ?_ _) | (with_reducible refine Below.drew ?_) | (with_reducible refine below_drewN ?_ _) | (with_reducible refine Below.setCell ?_ ?_ _) | go_size | (simp only [go_sem]; omega) | (simp [go_sem]; done) | (simp [go_sem]; omega))), by omega, (by first | (simp [go_sem]; done) | (simp [go_sem]; omega)), (fun j v hv => by
      match j, hv with
      | 0, hv => injection hv with hv; subst hv; simp [go_sem]
      | 1, hv => injection hv with hv; subst hv; simp [go_sem]
      | 2, hv => injection hv with hv; subst hv; simp [go_sem]
      | 3, hv => injection hv with hv; subst hv; simp [go_sem]
      | 4, hv => injection hv with hv; subst hv; simp [go_sem]
      | 5, hv => injection hv with hv; subst hv; simp [go_sem]
      | 6, hv => injection hv with hv; subst hv; simp [go_sem]
      | 7, hv => injection hv with hv; subst hv; simp [go_sem]
      | 8, hv => injection hv with hv; subst hv; simp [go_sem]
      | 9, hv => injection hv with hv; subst hv; simp [go_sem]
      | 10, hv => injection hv with hv; subst hv; simp [go_sem]
      | 11, hv => injection hv with hv; subst hv; simp [go_sem]
      | 12, hv => injection hv with hv; subst hv; simp [go_sem]
      | _ + 13, hv => cases hv), (fun j v hv => by
      match j, hv with
      | 0, hv => injection hv with hv; subst hv; simp [go_sem]
      | 1, hv => injection hv with hv; subst hv; simp [go_sem]
      | 2, hv => injection hv with hv; subst hv; simp [go_sem]
      | 3, hv => injection hv with hv; subst hv; simp [go_sem]
      | 4, hv => injection hv with hv; subst hv; simp [go_sem]
      | 5, hv => injection hv with hv; subst hv; simp [go_sem]
      | 6, hv => injection hv with hv; subst hv; simp [go_sem]
      | 7, hv => injection hv with hv; subst hv; simp [go_sem]
      | 8, hv => injection hv with hv; subst hv; simp [go_sem]
      | 9, hv => injection hv with hv; subst hv; simp [go_sem]
      | 10, hv => injection hv with hv; subst hv; simp [go_sem]
      | 11, hv => injection hv with hv; subst hv; simp [go_sem]
      | 12, hv => injection hv with hv; subst hv; simp [go_sem]
      | _ + 13, hv => cases hv), (fun j v hv => by
      match j, hv with
      | 0, hv => injection hv with hv; subst hv; simp [go_sem]
      | 1, hv => injection hv with hv; subst hv; simp [go_sem]
      | 2, hv => injection hv with hv; subst hv; simp [go_sem]
      | 3, hv => injection hv with hv; subst hv; simp [go_sem]
      | 4, hv => injection hv with hv; subst hv; simp [go_sem]
      | 5, hv => injection hv with hv; subst hv; simp [go_sem]
      | 6, hv => injection hv with hv; subst hv; simp [go_sem]
      | 7, hv => injection hv with hv; subst hv; simp [go_sem]
      | _ + 8, hv => cases hv), (fun j hj => by
      match j, hj with
      | 0, _ => exact ⟨by simp [go_sem], by simp [go_sem]⟩
      | 1, _ => exact ⟨by simp [go_sem], by simp [go_sem]⟩
      | 2, _ => exact ⟨by simp [go_sem], by simp [go_sem]⟩
      | 3, _ => exact ⟨by simp [go_sem], by simp [go_sem]⟩
      | 4, _ => exact ⟨by simp [go_sem], by simp [go_sem]⟩
      | 5, _ => exact ⟨by simp [go_sem], by simp [go_sem]⟩
      | 6, _ => exact ⟨by simp [go_sem], by simp [go_sem]⟩
      | 7, _ => exact ⟨by simp [go_sem], by simp [go_sem]⟩
      | 8, _ => exact ⟨by simp [go_sem], by simp [go_sem]⟩
      | 9, _ => exact ⟨by simp [go_sem], by simp [go_sem]⟩
      | 10, _ => exact ⟨by simp [go_sem], by simp [go_sem]⟩
      | 11, _ => exact ⟨by simp [go_sem], by simp [go_sem]⟩
      | 12, _ => exact ⟨by simp [go_sem], by simp [go_sem]⟩
      | _ + 13, hj => omega), (fun j hj => by
      match j, hj with
      | 0, _ => exact ⟨by simp [go_sem], by simp [go_sem]⟩
      | 1, _ => exact ⟨by simp [go_sem], by simp [go_sem]⟩
      | 2, _ => exact ⟨by simp [go_sem], by simp [go_sem]⟩
      | 3, _ => exact ⟨by simp [go_sem], by simp [go_sem]⟩
      | 4, _ => exact ⟨by simp [go_sem], by simp [go_sem]⟩
      | 5, _ => exact ⟨by simp [go_sem], by simp [go_sem]⟩
      | 6, _ => exact ⟨by simp [go_sem], by simp [go_sem]⟩
      | 7, _ => exact ⟨by simp [go_sem], by simp [go_sem]⟩
      | 8, _ => exact ⟨by simp [go_sem], by simp [go_sem]⟩
      | 9, _ => exact ⟨by simp [go_sem], by simp [go_sem]⟩
      | 10, _ => exact ⟨by simp [go_sem], by simp [go_sem]⟩
      | 11, _ => exact ⟨by simp [go_sem], by simp [go_sem]⟩
      | 12, _ => exact ⟨by simp [go_sem], by simp [go_sem]⟩
      | _ + 13, hj => omega)⟩, (fun j v hv => by
      match j, hv with
      | 0, hv => injection hv with hv; subst hv; simp [go_sem]
      | 1, hv => injection hv with hv; subst hv; simp [go_sem]
      | 2, hv => injection hv with hv; subst hv; simp [go_sem]
      | 3, hv => injection hv with hv; subst hv; simp [go_sem]
      | 4, hv => injection hv with hv; subst hv; simp [go_sem]
      | 5, hv => injection hv with hv; subst hv; simp [go_sem]
      | 6, hv => injection hv with hv; subst hv; simp [go_sem]
      | 7, hv => injection hv with hv; subst hv; simp [go_sem]
      | _ + 8, hv => cases hv), (by first | (simp [go_sem]; done) | (simp [go_sem]; omega)), by omega⟩
  rw [← hbp, ← hbx, ← hW0]
  clear hbp hW0 hbx ON
  replace ST := Lib.hid ST
  go_wp2
  go_loopw [9] (fun iv wr => ∃ (j : Nat) (row' col' : Int) (wp' : Bool), j ≤ xs.length ∧ iv = .int .i64 j ∧ Hid (CurSx w wr bp bx row col rd kp wp og row' col' wp' a b c d l r s pt pl pb pr mt ml mb mr)) (fun iv _ => xs.length - (intOf iv).toNat)
  case atStart => exact ⟨0, row0, col0, false, by omega, rfl, ST⟩
  case round =>
    clear ST
    obtain ⟨j, row', col', wp', hj, rfl, ST⟩ := hrel
    by_cases h1 : j < xs.length
    · by_cases h2 : j < 30
      · obtain ⟨b1, o1, rfl, hb1, d0, d1, d2⟩ := X.out.act h1
        have hN := OK.out xs[j] (List.getElem_mem h1)
        generalize xs[j] = q at d0 d1 d2 hN
        obtain ⟨K, N, M⟩ := q
        simp only at d0 d1 d2
        replace d0 := (ST.out.st.bel.cell (p := ⟨b1, o1 + j * 3, none⟩) hb1).trans d0
        replace d1 := (ST.out.st.bel.cell (p := ⟨b1, o1 + j * 3 + 1, none⟩) hb1).trans d1
        replace d2 := (ST.out.st.bel.cell (p := ⟨b1, o1 + j * 3 + 2, none⟩) hb1).trans d2
        have hs0 := ST.out.st.bel.size
        have i1 : (j : Int) < (xs.length : Int) := by omega
        have i0 : (0 : Int) ≤ (j : Int) := by omega
        have hb2 : b1 < wr.heap.size := by omega
        go_upto_region 11 with (fail)
        have SA := Lib.hid (ST.out.alloc (.cells #[.int .i64 K, .int .i64 N, .int .i64 M] 62))
        have ba : ∃ ba, ba = wr.heap.size := ⟨_, rfl⟩
        obtain ⟨ba, hba⟩ := ba
        have a0 : (wr.alloc (.cells #[.int .i64 K, .int .i64 N, .int .i64 M] 62)).cell? ⟨wr.heap.size, 0, none⟩ = some (.int .i64 K) := by simp [go_sem]
        have a1 : (wr.alloc (.cells #[.int .i64 K, .int .i64 N, .int .i64 M] 62)).cell? ⟨wr.heap.size, 1, none⟩ = some (.int .i64 N) := by simp [go_sem]
        have a2 : (wr.alloc (.cells #[.int .i64 K, .int .i64 N, .int .i64 M] 62)).cell? ⟨wr.heap.size, 2, none⟩ = some (.int .i64 M) := by simp [go_sem]
        have la : wr.heap.size < (wr.alloc (.cells #[.int .i64 K, .int .i64 N, .int .i64 M] 62)).heap.size := by simp [go_sem]
        have na : ¬ wr.heap.size = bp := by have := ST.out.st.hp2; omega
        generalize hWa : wr.alloc (.cells #[.int .i64 K, .int .i64 N, .int .i64 M] 62) = Wa at SA a0 a1 a2 la ⊢
        rw [← hba] at a0 a1 a2 la na ⊢
        clear hWa hba ST d0 d1 d2 hb1 hb2 hs0 i0 i1
        by_cases hk1 : K < 1
        · have q1 : decide (K < 1) = true := by simpa using hk1
          clear hk1
          go_wp2
          go_roundw
          case rel => exact ⟨j + 1, row', col', wp', by omega, by go_num, SA⟩
          case measure => simp [intOf]; omega
        by_cases hk8 : 8 < K
        · have q1 : decide (K < 1) = false := by simpa using hk1
          have q2 : decide (8 < K) = true := by simpa using hk8
          clear hk1 hk8
          go_wp2
          go_roundw
          case rel => exact ⟨j + 1, row', col', wp', by omega, by go_num, SA⟩
          case measure => simp [intOf]; omega
        have q1 : decide (K < 1) = false := by simpa using hk1
        have q2 : decide (8 < K) = false := by simpa using hk8
        have D := Lib.hid (fun w' => DO.out row' col' wp' K N M w' hN)
        have on1 := MO.out K N M og row' col' (by omega)
        have S0 := Lib.hid (SI.out row' col' wp')
        have in1 : (1 ≤ K ∧ K ≤ 4 ∨ K = 8) → inB I.t I.l I.b I.r (clampI 0 B row') (clampI 0 Q col') = true → inB I.t I.l I.b I.r (mvR K N M B Q I og row') (mvC K N M B Q I og col') = true := fun h => MI.out K N M og row' col' h
        have in2 : (5 ≤ K ∧ K ≤ 7) → og = true → inB I.t I.l I.b I.r (mvR K N M B Q I og row') (mvC K N M B Q I og col') = true := fun h e => by subst e; exact MT.out K N M row' col' h
        rw [mvW_in (by omega)] at D
        have S1 := SI.out (mvR K N M B Q I og row') (mvC K N M B Q I og col') false
        rw [(clampI_in 0 B _ (by omega)).2.2 on1.1.1 (by omega), (clampI_in 0 Q _ (by omega)).2.2 on1.2.1 (by omega)] at S1
        replace S1 := Lib.hid S1
        generalize inB I.t I.l I.b I.r (clampI 0 B row') (clampI 0 Q col') = w0 at S0 in1
        generalize inB I.t I.l I.b I.r (mvR K N M B Q I og row') (mvC K N M B Q I og col') = w1 at S1 in1 in2
        generalize mvR K N M B Q I og row' = R at D S1 on1
        generalize mvC K N M B Q I og col' = C at D S1 on1
        have INR := Lib.hid (fun w' => in_r 0 0 B Q R C w')
        rw [show inB 0 0 B Q R C = true by simp only [inB, Bool.and_eq_true, decide_eq_true_eq]; omega] at INR
        generalize hcn : mvW K N col wp = Vn at D
        generalize mvR K N M B Q I og row = Rn at D
        generalize mvC K N M B Q I og col = Cn at D
        clear hcn on1 hN
        have hway : (decide (5 ≤ K) = false ∧ w0 = false) ∨ (decide (5 ≤ K) = false ∧ w0 = true ∧ w1 = true) ∨ (decide (5 ≤ K) = true ∧ decide (K ≤ 7) = false ∧ w0 = false) ∨ (decide (5 ≤ K) = true ∧ decide (K ≤ 7) = false ∧ w0 = true ∧ w1 = true) ∨ (decide (5 ≤ K) = true ∧ decide (K ≤ 7) = true ∧ og = false) ∨ (decide (5 ≤ K) = true ∧ decide (K ≤ 7) = true ∧ og = true ∧ w1 = true) := by
          by_cases h5 : 5 ≤ K
          · by_cases h7 : K ≤ 7
            · cases og
              · exact .inr (.inr (.inr (.inr (.inl ⟨by simpa using h5, by simpa using h7, rfl⟩))))
              · exact .inr (.inr (.inr (.inr (.inr ⟨by simpa using h5, by simpa using h7, rfl, in2 ⟨h5, h7⟩ rfl⟩))))
            · cases w0
              · exact .inr (.inr (.inl ⟨by simpa using h5, by simpa using h7, rfl⟩))
              · exact .inr (.inr (.inr (.inl ⟨by simpa using h5, by simpa using h7, rfl, in1 (by omega) rfl⟩)))
          · cases w0
            · exact .inl ⟨by simpa using h5, rfl⟩
            · exact .inr (.inl ⟨by simpa using h5, rfl, in1 (by omega) rfl⟩)
        replace hway := Lib.hid hway
        clear in1 in2 hk1 hk8
        have c0 : Wa.cell? ⟨w.heap.size, 0, none⟩ = some (.int .i64 row) := SA.out.st.C 0 _ rfl
        have c1 : Wa.cell? ⟨w.heap.size, 1, none⟩ = some (.int .i64 col) := SA.out.st.C 1 _ rfl
        have c2 : Wa.cell? ⟨w.heap.size, 2, none⟩ = some (.int .u8 rd) := SA.out.st.C 2 _ rfl
        have c3 : Wa.cell? ⟨w.heap.size, 3, none⟩ = some (.bool kp) := SA.out.st.C 3 _ rfl
        have c4 : Wa.cell? ⟨w.heap.size, 4, none⟩ = some (.bool wp) := SA.out.st.C 4 _ rfl
        have c5 : Wa.cell? ⟨w.heap.size, 5, none⟩ = some (.bool og) := SA.out.st.C 5 _ rfl
        have c6 : Wa.cell? ⟨w.heap.size, 6, none⟩ = some (.int .i64 a) := SA.out.st.C 6 _ rfl
        have c7 : Wa.cell? ⟨w.heap.size, 7, none⟩ = some (.int .i64 b) := SA.out.st.C 7 _ rfl
        have c8 : Wa.cell? ⟨w.heap.size, 8, none⟩ = some (.int .i64 c) := SA.out.st.C 8 _ rfl
        have c9 : Wa.cell? ⟨w.heap.size, 9, none⟩ = some (.int .i64 d) := SA.out.st.C 9 _ rfl
        have c10 : Wa.cell? ⟨w.heap.size, 10, none⟩ = some (.int .i64 l) := SA.out.st.C 10 _ rfl
        have c11 : Wa.cell? ⟨w.heap.size, 11, none⟩ = some (.int .i64 r) := SA.out.st.C 11 _ rfl
        have c12 : Wa.cell? ⟨w.heap.size, 12, none⟩ = some (.int .i64 s) := SA.out.st.C 12 _ rfl
        have p0 : Wa.cell? ⟨bp, 0, none⟩ = some (.int .i64 row') := SA.out.st.P 0 _ rfl
        have p1 : Wa.cell? ⟨bp, 1, none⟩ = some (.int .i64 col') := SA.out.st.P 1 _ rfl
        have p2 : Wa.cell? ⟨bp, 2, none⟩ = some (.int .u8 rd) := SA.out.st.P 2 _ rfl
        have p3 : Wa.cell? ⟨bp, 3, none⟩ = some (.bool kp) := SA.out.st.P 3 _ rfl
        have p4 : Wa.cell? ⟨bp, 4, none⟩ = some (.bool wp') := SA.out.st.P 4 _ rfl
        have p5 : Wa.cell? ⟨bp, 5, none⟩ = some (.bool og) := SA.out.st.P 5 _ rfl
        have p6 : Wa.cell? ⟨bp, 6, none⟩ = some (.int .i64 a) := SA.out.st.P 6 _ rfl
        have p7 : Wa.cell? ⟨bp, 7, none⟩ = some (.int .i64 b) := SA.out.st.P 7 _ rfl
        have p8 : Wa.cell? ⟨bp, 8, none⟩ = some (.int .i64 c) := SA.out.st.P 8 _ rfl
        have p9 : Wa.cell? ⟨bp, 9, none⟩ = some (.int .i64 d) := SA.out.st.P 9 _ rfl
        have p10 : Wa.cell? ⟨bp, 10, none⟩ = some (.int .i64 l) := SA.out.st.P 10 _ rfl
        have p11 : Wa.cell? ⟨bp, 11, none⟩ = some (.int .i64 r) := SA.out.st.P 11 _ rfl
        have p12 : Wa.cell? ⟨bp, 12, none⟩ = some (.int .i64 s) := SA.out.st.P 12 _ rfl
        have f0 : Wa.cell? ⟨w.heap.size + 1, 0, none⟩ = some (.int .i64 pt) := SA.out.st.F 0 _ rfl
        have f1 : Wa.cell? ⟨w.heap.size + 1, 1, none⟩ = some (.int .i64 pl) := SA.out.st.F 1 _ rfl
        have f2 : Wa.cell? ⟨w.heap.size + 1, 2, none⟩ = some (.int .i64 pb) := SA.out.st.F 2 _ rfl
        have f3 : Wa.cell? ⟨w.heap.size + 1, 3, none⟩ = some (.int .i64 pr) := SA.out.st.F 3 _ rfl
        have f4 : Wa.cell? ⟨w.heap.size + 1, 4, none⟩ = some (.int .i64 mt) := SA.out.st.F 4 _ rfl
        have f5 : Wa.cell? ⟨w.heap.size + 1, 5, none⟩ = some (.int .i64 ml) := SA.out.st.F 5 _ rfl
        have f6 : Wa.cell? ⟨w.heap.size + 1, 6, none⟩ = some (.int .i64 mb) := SA.out.st.F 6 _ rfl
        have f7 : Wa.cell? ⟨w.heap.size + 1, 7, none⟩ = some (.int .i64 mr) := SA.out.st.F 7 _ rfl
        have m0 : Wa.cell? ⟨bx, 0, none⟩ = some (.int .i64 pt) := SA.out.X 0 _ rfl
        have m1 : Wa.cell? ⟨bx, 1, none⟩ = some (.int .i64 pl) := SA.out.X 1 _ rfl
        have m2 : Wa.cell? ⟨bx, 2, none⟩ = some (.int .i64 pb) := SA.out.X 2 _ rfl
        have m3 : Wa.cell? ⟨bx, 3, none⟩ = some (.int .i64 pr) := SA.out.X 3 _ rfl
        have m4 : Wa.cell? ⟨bx, 4, none⟩ = some (.int .i64 mt) := SA.out.X 4 _ rfl
        have m5 : Wa.cell? ⟨bx, 5, none⟩ = some (.int .i64 ml) := SA.out.X 5 _ rfl
        have m6 : Wa.cell? ⟨bx, 6, none⟩ = some (.int .i64 mb) := SA.out.X 6 _ rfl
        have m7 : Wa.cell? ⟨bx, 7, none⟩ = some (.int .i64 mr) := SA.out.X 7 _ rfl
        have z0 : Wa.frozen? ⟨bp, 0, none⟩ = false := (SA.out.st.TP 0 (by omega)).2
        have z1 : Wa.frozen? ⟨bp, 1, none⟩ = false := (SA.out.st.TP 1 (by omega)).2
        have z2 : Wa.frozen? ⟨bp, 2, none⟩ = false := (SA.out.st.TP 2 (by omega)).2
        have z3 : Wa.frozen? ⟨bp, 3, none⟩ = false := (SA.out.st.TP 3 (by omega)).2
        have z4 : Wa.frozen? ⟨bp, 4, none⟩ = false := (SA.out.st.TP 4 (by omega)).2
        have z5 : Wa.frozen? ⟨bp, 5, none⟩ = false := (SA.out.st.TP 5 (by omega)).2
        have z6 : Wa.frozen? ⟨bp, 6, none⟩ = false := (SA.out.st.TP 6 (by omega)).2
        have z7 : Wa.frozen? ⟨bp, 7, none⟩ = false := (SA.out.st.TP 7 (by omega)).2
        have z8 : Wa.frozen? ⟨bp, 8, none⟩ = false := (SA.out.st.TP 8 (by omega)).2
        have z9 : Wa.frozen? ⟨bp, 9, none⟩ = false := (SA.out.st.TP 9 (by omega)).2
        have z10 : Wa.frozen? ⟨bp, 10, none⟩ = false := (SA.out.st.TP 10 (by omega)).2
        have z11 : Wa.frozen? ⟨bp, 11, none⟩ = false := (SA.out.st.TP 11 (by omega)).2
        have z12 : Wa.frozen? ⟨bp, 12, none⟩ = false := (SA.out.st.TP 12 (by omega)).2
        have hp := SA.out.st.hp
        have hp2 := SA.out.st.hp2
        have lx := SA.out.lt
        have hs1 : w.heap.size < Wa.heap.size := by omega
        have hs2 : w.heap.size + 1 < Wa.heap.size := by omega
        go_upto_region 14 with (first | (go_at_call 37; ((with_reducible refine (S0.out _).mono ?_); rintro _ _ hgets; obtain ⟨rfl, x7, rfl⟩ := hgets.get; clear hgets)) | (go_at_call 38; ((with_reducible refine (D.out _).mono ?_); rintro _ _ hgets; obtain ⟨rfl, x8, rfl⟩ := hgets.get; clear hgets)))
        have SB : CurSx w (ext (ext ((((((((((((((Wa).setCell ⟨bp, 0, none⟩ (.int .i64 R)).setCell ⟨bp, 1, none⟩ (.int .i64 C)).setCell ⟨bp, 2, none⟩ (.int .u8 rd)).setCell ⟨bp, 3, none⟩ (.bool kp)).setCell ⟨bp, 4, none⟩ (.bool false)).setCell ⟨bp, 5, none⟩ (.bool og)).setCell ⟨bp, 6, none⟩ (.int .i64 a)).setCell ⟨bp, 7, none⟩ (.int .i64 b)).setCell ⟨bp, 8, none⟩ (.int .i64 c)).setCell ⟨bp, 9, none⟩ (.int .i64 d)).setCell ⟨bp, 10, none⟩ (.int .i64 l)).setCell ⟨bp, 11, none⟩ (.int .i64 r)).setCell ⟨bp, 12, none⟩ (.int .i64 s)) x7) x8) bp bx row col rd kp wp og R C false a b c d l r s pt pl pb pr mt ml mb mr := ((SA.out.stepP R C false).ext x7).ext x8
        have A0 : (ext (ext ((((((((((((((Wa).setCell ⟨bp, 0, none⟩ (.int .i64 R)).setCell ⟨bp, 1, none⟩ (.int .i64 C)).setCell ⟨bp, 2, none⟩ (.int .u8 rd)).setCell ⟨bp, 3, none⟩ (.bool kp)).setCell ⟨bp, 4, none⟩ (.bool false)).setCell ⟨bp, 5, none⟩ (.bool og)).setCell ⟨bp, 6, none⟩ (.int .i64 a)).setCell ⟨bp, 7, none⟩ (.int .i64 b)).setCell ⟨bp, 8, none⟩ (.int .i64 c)).setCell ⟨bp, 9, none⟩ (.int .i64 d)).setCell ⟨bp, 10, none⟩ (.int .i64 l)).setCell ⟨bp, 11, none⟩ (.int .i64 r)).setCell ⟨bp, 12, none⟩ (.int .i64 s)) x7) x8).cell? ⟨ba, 0, none⟩ = some (.int .i64 K) := (cell_ext _ x8 _ _ (by rw [size_ext]; exact Nat.lt_of_lt_of_le (Nat.lt_of_lt_of_le la (Nat.le_of_eq (setCells_size Wa bp [.int .i64 R, .int .i64 C, .int .u8 rd, .bool kp, .bool false, .bool og, .int .i64 a, .int .i64 b, .int .i64 c, .int .i64 d, .int .i64 l, .int .i64 r, .int .i64 s] 0 Wa).symm)) (Nat.le_add_right _ _))).trans ((cell_ext _ x7 _ _ (Nat.lt_of_lt_of_le la (Nat.le_of_eq (setCells_size Wa bp [.int .i64 R, .int .i64 C, .int .u8 rd, .bool kp, .bool false, .bool og, .int .i64 a, .int .i64 b, .int .i64 c, .int .i64 d, .int .i64 l, .int .i64 r, .int .i64 s] 0 Wa).symm))).trans ((World.cell?_setCells_out bp [.int .i64 R, .int .i64 C, .int .u8 rd, .bool kp, .bool false, .bool og, .int .i64 a, .int .i64 b, .int .i64 c, .int .i64 d, .int .i64 l, .int .i64 r, .int .i64 s] 0 Wa ⟨ba, 0, none⟩ (fun h => absurd h na)).trans a0))
        have LA : ba < (ext (ext ((((((((((((((Wa).setCell ⟨bp, 0, none⟩ (.int .i64 R)).setCell ⟨bp, 1, none⟩ (.int .i64 C)).setCell ⟨bp, 2, none⟩ (.int .u8 rd)).setCell ⟨bp, 3, none⟩ (.bool kp)).setCell ⟨bp, 4, none⟩ (.bool false)).setCell ⟨bp, 5, none⟩ (.bool og)).setCell ⟨bp, 6, none⟩ (.int .i64 a)).setCell ⟨bp, 7, none⟩ (.int .i64 b)).setCell ⟨bp, 8, none⟩ (.int .i64 c)).setCell ⟨bp, 9, none⟩ (.int .i64 d)).setCell ⟨bp, 10, none⟩ (.int .i64 l)).setCell ⟨bp, 11, none⟩ (.int .i64 r)).setCell ⟨bp, 12, none⟩ (.int .i64 s)) x7) x8).heap.size := by
          rw [size_ext, size_ext]
          exact Nat.lt_of_lt_of_le la (Nat.le_trans (Nat.le_of_eq (setCells_size Wa bp [.int .i64 R, .int .i64 C, .int .u8 rd, .bool kp, .bool false, .bool og, .int .i64 a, .int .i64 b, .int .i64 c, .int .i64 d, .int .i64 l, .int .i64 r, .int .i64 s] 0 Wa).symm) (Nat.le_trans (Nat.le_add_right _ _) (Nat.le_add_right _ _)))
        generalize hW6 : (ext (ext ((((((((((((((Wa).setCell ⟨bp, 0, none⟩ (.int .i64 R)).setCell ⟨bp, 1, none⟩ (.int .i64 C)).setCell ⟨bp, 2, none⟩ (.int .u8 rd)).setCell ⟨bp, 3, none⟩ (.bool kp)).setCell ⟨bp, 4, none⟩ (.bool false)).setCell ⟨bp, 5, none⟩ (.bool og)).setCell ⟨bp, 6, none⟩ (.int .i64 a)).setCell ⟨bp, 7, none⟩ (.int .i64 b)).setCell ⟨bp, 8, none⟩ (.int .i64 c)).setCell ⟨bp, 9, none⟩ (.int .i64 d)).setCell ⟨bp, 10, none⟩ (.int .i64 l)).setCell ⟨bp, 11, none⟩ (.int .i64 r)).setCell ⟨bp, 12, none⟩ (.int .i64 s)) x7) x8) = W6 at SB A0 LA ⊢
        clear hW6 SA a0 a1 a2 la na hp hp2 lx hs1 hs2 c0 c1 c2 c3 c4 c5 c6 c7 c8 c9 c10 c11 c12 p0 p1 p2 p3 p4 p5 p6 p7 p8 p9 p10 p11 p12 z0 z1 z2 z3 z4 z5 z6 z7 z8 z9 z10 z11 z12 f0 f1 f2 f3 f4 f5 f6 f7 m0 m1 m2 m3 m4 m5 m6 m7 S0 D
        replace SB := Lib.hid SB
        have p0 : W6.cell? ⟨bp, 0, none⟩ = some (.int .i64 R) := SB.out.st.P 0 _ rfl
        have p1 : W6.cell? ⟨bp, 1, none⟩ = some (.int .i64 C) := SB.out.st.P 1 _ rfl
        have p2 : W6.cell? ⟨bp, 2, none⟩ = some (.int .u8 rd) := SB.out.st.P 2 _ rfl
        have p3 : W6.cell? ⟨bp, 3, none⟩ = some (.bool kp) := SB.out.st.P 3 _ rfl
        have p4 : W6.cell? ⟨bp, 4, none⟩ = some (.bool false) := SB.out.st.P 4 _ rfl
        have p5 : W6.cell? ⟨bp, 5, none⟩ = some (.bool og) := SB.out.st.P 5 _ rfl
        have p6 : W6.cell? ⟨bp, 6, none⟩ = some (.int .i64 a) := SB.out.st.P 6 _ rfl
        have p7 : W6.cell? ⟨bp, 7, none⟩ = some (.int .i64 b) := SB.out.st.P 7 _ rfl
        have p8 : W6.cell? ⟨bp, 8, none⟩ = some (.int .i64 c) := SB.out.st.P 8 _ rfl
        have p9 : W6.cell? ⟨bp, 9, none⟩ = some (.int .i64 d) := SB.out.st.P 9 _ rfl
        have p10 : W6.cell? ⟨bp, 10, none⟩ = some (.int .i64 l) := SB.out.st.P 10 _ rfl
        have p11 : W6.cell? ⟨bp, 11, none⟩ = some (.int .i64 r) := SB.out.st.P 11 _ rfl
        have p12 : W6.cell? ⟨bp, 12, none⟩ = some (.int .i64 s) := SB.out.st.P 12 _ rfl
        have f0 : W6.cell? ⟨w.heap.size + 1, 0, none⟩ = some (.int .i64 pt) := SB.out.st.F 0 _ rfl
        have f1 : W6.cell? ⟨w.heap.size + 1, 1, none⟩ = some (.int .i64 pl) := SB.out.st.F 1 _ rfl
        have f2 : W6.cell? ⟨w.heap.size + 1, 2, none⟩ = some (.int .i64 pb) := SB.out.st.F 2 _ rfl
        have f3 : W6.cell? ⟨w.heap.size + 1, 3, none⟩ = some (.int .i64 pr) := SB.out.st.F 3 _ rfl
        have f4 : W6.cell? ⟨w.heap.size + 1, 4, none⟩ = some (.int .i64 mt) := SB.out.st.F 4 _ rfl
        have f5 : W6.cell? ⟨w.heap.size + 1, 5, none⟩ = some (.int .i64 ml) := SB.out.st.F 5 _ rfl
        have f6 : W6.cell? ⟨w.heap.size + 1, 6, none⟩ = some (.int .i64 mb) := SB.out.st.F 6 _ rfl
        have f7 : W6.cell? ⟨w.heap.size + 1, 7, none⟩ = some (.int .i64 mr) := SB.out.st.F 7 _ rfl
        have m0 : W6.cell? ⟨bx, 0, none⟩ = some (.int .i64 pt) := SB.out.X 0 _ rfl
        have m1 : W6.cell? ⟨bx, 1, none⟩ = some (.int .i64 pl) := SB.out.X 1 _ rfl
        have m2 : W6.cell? ⟨bx, 2, none⟩ = some (.int .i64 pb) := SB.out.X 2 _ rfl
        have m3 : W6.cell? ⟨bx, 3, none⟩ = some (.int .i64 pr) := SB.out.X 3 _ rfl
        have m4 : W6.cell? ⟨bx, 4, none⟩ = some (.int .i64 mt) := SB.out.X 4 _ rfl
        have m5 : W6.cell? ⟨bx, 5, none⟩ = some (.int .i64 ml) := SB.out.X 5 _ rfl
        have m6 : W6.cell? ⟨bx, 6, none⟩ = some (.int .i64 mb) := SB.out.X 6 _ rfl
        have m7 : W6.cell? ⟨bx, 7, none⟩ = some (.int .i64 mr) := SB.out.X 7 _ rfl
        have hp := SB.out.st.hp
        have hp2 := SB.out.st.hp2
        have lx := SB.out.lt
        have hs2 : w.heap.size + 1 < W6.heap.size := by omega
        (refine wp_region_free (by kernel_rfl) (by kernel_rfl) ?_)
        repeat (go_big_quiet_step (first | ((go_at_call 34; with_reducible exact Calls.free (WR.out _))) | ((go_at_call 42; with_reducible exact Calls.free (INR.out _)))))
        refine wpQuiet_nil ?_; rintro _ ⟨x9, rfl⟩
        rcases hway.out with ⟨q5, rfl⟩ | ⟨q5, rfl, rfl⟩ | ⟨q5, q7, rfl⟩ | ⟨q5, q7, rfl, rfl⟩ | ⟨q5, q7, rfl⟩ | ⟨q5, q7, rfl, rfl⟩
        all_goals
          go_wp2_with (first | (go_at_call 37; ((with_reducible refine (S1.out _).mono ?_); rintro _ _ hgets; obtain ⟨rfl, x10, rfl⟩ := hgets.get; clear hgets)))
          go_roundw
          case rel => exact ⟨j + 1, R, C, false, by omega, by go_num, Lib.hid (by repeat (first | exact SB.out | (with_reducible refine CurSx.ext ?_ _)))⟩
          case measure => simp [intOf]; omega
      · go_wp2
        go_returns
        refine ⟨rfl, ?_⟩
        have bel := ST.out.st.bel
        have hs := bel.size
        (repeat (first | exact bel | (with_reducible refine below_ext ?_ (by first | exact hs | (simp [go_sem]; done) | (simp [go_sem]; omega)) _) | (with_reducible refine Below.drew ?_)))
    · go_wp2
      go_returns
      refine ⟨rfl, ?_⟩
      have bel := ST.out.st.bel
      have hs := bel.size
      (repeat (first | exact bel | (with_reducible refine below_ext ?_ (by first | exact hs | (simp [go_sem]; done) | (simp [go_sem]; omega)) _) | (with_reducible refine Below.drew ?_)))
end Go.Proofs.Ytdlngbmgcedbpaa
