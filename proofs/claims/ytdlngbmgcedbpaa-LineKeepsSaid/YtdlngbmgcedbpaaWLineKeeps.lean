/- LineKeeps: the walk. -/
import Derived.Test.YtdlngbmgcedbpaaKeeps
namespace Go.Proofs.Ytdlngbmgcedbpaa
open Go.RowKit
set_option linter.unusedVariables false
set_option linter.unusedSimpArgs false

/-- the row that Spare made -/
def sRow (S : Nat) (xs : List Cl) : RowD := ⟨some (S, 0), xs.length + 9, xs.length + 9⟩
theorem rows_info : (Try.prog.info? 68).map (fun i => (i.zero, i.size, i.bytes)) = some (some (.slice none 0 0), 1, 24) := by kernel_rfl
theorem row_of_spare {w wx : World} {S : Nat} {xs : List Cl} (h : Own encC 3 87 w.heap.size wx (.slice (some ⟨S, 0, none⟩) (xs.length + 9) (xs.length + 9)) (spare xs)) : (sRow S xs).Live w.heap.size wx := by
  rcases h.2 with ⟨e, _⟩ | ⟨g, cap, cur, e, hB, hg, h1, h2, h3, h4⟩
  · cases e
  · injection e with e1 e2 e3
    injection e1 with e1
    injection e1 with e1
    subst e1 e3
    refine ⟨Nat.le_refl _, (fun e => by cases e), fun g' off e => ?_⟩
    injection e with e
    injection e with e1 e2
    subst e1 e2
    exact ⟨hB, cur, hg, by simp only [sRow]; omega⟩
-- DEF
def KeepsI (S0 S1 S2 S3 S4 S5 S6 S7 S8 S9 S10 S11 S12 S13 S14 S15 S16 S17 S18 S19 S20 S21 S22 S23 S24 S25 S26 LI FA0 FA1 FA2 FV0 FV1 FV2 MI : Value) (wb : World) (L : Nat → Bool) (a : Act) (w : World) : Prop :=
  ∃ (R : Nat → RowD) (Z : Nat → Int) (V60 V77 : Value), a = { tmps := #[S0, S1, S2, S3, S4, S5, S6, S7, S8, S9, S10, S11, S12, S13, S14, S15, S16, S17, S18, S19, S20, S21, S22, S23, S24, S25, S26, bif L 0 then LI else undef, bif L 1 then FA0 else undef, bif L 2 then FV0 else undef, bif L 3 then FA1 else undef, bif L 4 then FV1 else undef, bif L 5 then FA2 else undef, bif L 6 then FV2 else undef, bif L 7 then (.agg #[(R 7).v, .int .i64 (Z 7)]) else undef, bif L 8 then LI else undef, bif L 9 then FA0 else undef, bif L 10 then FV0 else undef, bif L 11 then FA1 else undef, bif L 12 then FV1 else undef, bif L 13 then FA2 else undef, bif L 14 then FV2 else undef, bif L 15 then (.agg #[(R 15).v, .int .i64 (Z 15)]) else undef, bif L 16 then LI else undef, bif L 17 then FA0 else undef, bif L 18 then FV0 else undef, bif L 19 then FA1 else undef, bif L 20 then FV1 else undef, bif L 21 then (.agg #[(R 21).v, .int .i64 (Z 21)]) else undef, bif L 22 then LI else undef, bif L 23 then FA0 else undef, bif L 24 then FV0 else undef, bif L 25 then FA1 else undef, bif L 26 then FV1 else undef, bif L 27 then (.agg #[(R 27).v, .int .i64 (Z 27)]) else undef, bif L 28 then LI else undef, bif L 29 then FA0 else undef, bif L 30 then FV0 else undef, bif L 31 then FA1 else undef, bif L 32 then FV1 else undef, bif L 33 then V60 else undef, bif L 34 then (.agg #[(R 34).v, .int .i64 (Z 34)]) else undef, bif L 35 then LI else undef, bif L 36 then FA0 else undef, bif L 37 then FV0 else undef, bif L 38 then FA1 else undef, bif L 39 then FV1 else undef, bif L 40 then MI else undef, bif L 41 then (.agg #[(R 41).v, .int .i64 (Z 41)]) else undef, bif L 42 then LI else undef, bif L 43 then FA1 else undef, bif L 44 then FV1 else undef, bif L 45 then (.agg #[(R 45).v, .int .i64 (Z 45)]) else undef, bif L 46 then LI else undef, bif L 47 then (.agg #[(R 47).v, .int .i64 (Z 47)]) else undef, bif L 48 then LI else undef, bif L 49 then (.agg #[(R 49).v, .int .i64 (Z 49)]) else undef, bif L 50 then V77 else undef, bif L 51 then (.int .i64 9) else undef, bif L 52 then (.int .i64 0) else undef, undef, undef, undef, undef, undef, undef, undef, undef, undef, undef, undef, undef, undef, undef, undef, undef, undef, undef, undef, undef, undef, undef, undef, undef, undef, undef, undef, undef, undef, undef, undef], defers := [] } ∧ Below wb.heap.size wb w ∧ KF wb.heap.size R Z V60 V77 L w
theorem below_succ {p : Nat → Prop} {n : Nat} (h : ∀ i, i < n → p i) (hn : p n) : ∀ i, i < n + 1 → p i := fun i hi => by
  rcases Nat.lt_or_ge i n with h1 | h1
  · exact h i h1
  · obtain rfl : i = n := by omega
    exact hn
def NineAt (wb : World) (s : Value) (wx : World) : Prop := ∃ (H : Nat) (R : Nat → RowD) (Z : Nat → Int), s = .slice (some ⟨H, 0, none⟩) 9 9 ∧ wx.heap[H]? = some (.cells (nine R Z) 70 (0, 0)) ∧ Many wb.heap.size wx isC R ∧ Below wb.heap.size wb wx
theorem ins_len9 (xs : List Cl) (f t n : Int) : (insR xs f t (clampN n (cutR xs f t).length)).length = xs.length := by
  rw [ins_mov]; unfold movR; rw [updR_len]
theorem del_len9 (xs : List Cl) (f t n : Int) : (delR xs f t (clampN n (cutR xs f t).length)).length = xs.length := by
  rw [del_mov]; unfold movR; rw [updR_len]
-- DEFEND
-- DEF13
def Keeps13I (T0 T1 T2 T3 T4 T5 T6 T7 T9 T10 T11 T12 T13 T14 T15 T16 T17 T18 T19 T20 T21 T22 T23 T24 T25 T26 T27 T28 T29 T30 T31 T32 T33 T34 T35 T36 T37 T38 T39 T40 T41 T42 T43 T44 T45 T46 T47 T48 T49 T50 T51 T52 T53 T54 T55 T56 T57 T58 T59 T60 T61 T62 T63 T64 T65 T66 T67 T68 T69 T70 T71 T72 T73 T74 T75 T76 T77 T78 T79 T80 T81 T82 T83 T84 T85 T86 T87 T88 LST LV P0 VF P1 VT : Value) (base : Nat) (wc wz : World) (ten : List RowD) (L : Nat → Bool) (a : Act) (w : World) : Prop :=
  ∃ (q : Nat → RowD) (V102 V103 : Value), a = { tmps := #[T0, T1, T2, T3, T4, T5, T6, T7, bif L 15 then V103 else LST, T9, T10, T11, T12, T13, T14, T15, T16, T17, T18, T19, T20, T21, T22, T23, T24, T25, T26, T27, T28, T29, T30, T31, T32, T33, T34, T35, T36, T37, T38, T39, T40, T41, T42, T43, T44, T45, T46, T47, T48, T49, T50, T51, T52, T53, T54, T55, T56, T57, T58, T59, T60, T61, T62, T63, T64, T65, T66, T67, T68, T69, T70, T71, T72, T73, T74, T75, T76, T77, T78, T79, T80, T81, T82, T83, T84, T85, T86, T87, T88, bif L 0 then LST else undef, bif L 1 then LV else undef, bif L 2 then P0 else undef, bif L 3 then VF else undef, bif L 4 then P1 else undef, bif L 5 then VT else undef, bif L 6 then (q 6).v else undef, bif L 7 then LV else undef, bif L 8 then P0 else undef, bif L 9 then VF else undef, bif L 10 then P1 else undef, bif L 11 then VT else undef, bif L 12 then (q 12).v else undef, bif L 13 then V102 else undef, bif L 14 then V103 else undef, undef, undef, undef, undef, undef, undef, undef], defers := [] } ∧ K13 base wc wz ten q V102 V103 L w
-- DEF13END
theorem spare_take (xs : List Cl) : (spare xs).take xs.length = xs := by
  apply List.ext_getElem?
  intro i
  rcases Nat.lt_or_ge i xs.length with h | h
  · rw [List.getElem?_take_of_lt h]
    simp only [spare, List.getElem?_map]
    rw [List.getElem?_range (by omega)]
    simp [spAt, h]
  · rw [List.getElem?_eq_none (by simp; omega), List.getElem?_eq_none h]
/-- what the law keeps in memory from its first region that draws on -/
structure KeepsQ (w wx : World) (A : Option Addr) (xs : List Cl) (f t n : Int) (S HL HG : Nat) : Prop where
  below : Below w.heap.size w wx
  s0 : wx.cell? ⟨w.heap.size, 0, none⟩ = some (.int .i64 f)
  s1 : wx.cell? ⟨w.heap.size, 1, none⟩ = some (.int .i64 t)
  s2 : wx.cell? ⟨w.heap.size, 2, none⟩ = some (.int .i64 n)
  l0 : wx.cell? ⟨HL, 0, none⟩ = some (.slice (some ⟨S, 0, none⟩) xs.length (xs.length + 9))
  l1 : wx.cell? ⟨HL, 1, none⟩ = some (.int .i64 0)
  lt : w.heap.size < wx.heap.size
  hl : HL < wx.heap.size
  row : Rd encC 3 wx A xs
  own : Own encC 3 87 w.heap.size wx (.slice (some ⟨S, 0, none⟩) (xs.length + 9) (xs.length + 9)) (spare xs)
  lst : Own encR 1 68 w.heap.size wx (.slice (some ⟨HG, 0, none⟩) 1 1) [sRow S xs]
theorem KeepsQ.grow {w wx wy : World} {A : Option Addr} {xs : List Cl} {f t n : Int} {S HL HG : Nat} (h : KeepsQ w wx A xs f t n S HL HG) (hb : Below wx.heap.size wx wy) : KeepsQ w wy A xs f t n S HL HG :=
  ⟨h.below.trans (hb.mono h.below.size), (hb.cell (p := ⟨_, _, none⟩) h.lt).trans h.s0, (hb.cell (p := ⟨_, _, none⟩) h.lt).trans h.s1, (hb.cell (p := ⟨_, _, none⟩) h.lt).trans h.s2,
    (hb.cell (p := ⟨_, _, none⟩) h.hl).trans h.l0, (hb.cell (p := ⟨_, _, none⟩) h.hl).trans h.l1, Nat.lt_of_lt_of_le h.lt hb.size, Nat.lt_of_lt_of_le h.hl hb.size, h.row.below hb, h.own.below hb, h.lst.below hb⟩
theorem KeepsQ.rd {w wx : World} {A : Option Addr} {xs : List Cl} {f t n : Int} {S HL HG : Nat} (h : KeepsQ w wx A xs f t n S HL HG) : Rd encC 3 wx (some ⟨S, 0, none⟩) xs := by
  have := (h.own.rd encC_len).take xs.length
  rwa [spare_take] at this

set_option maxRecDepth 100000 in
set_option maxHeartbeats 8000000 in
theorem LineKeeps_walk (w : World) (A : Option Addr) (C : Nat) (xs0 : List Cl) (rd : Rd encC 3 w A xs0) (lc : xs0.length ≤ C) (cm : C ≤ maxLen) (hok : ∀ y ∈ xs0, y.ok) (_re : C * 8 ≤ 140737488351232)
    (f t n : Int) (hf : (Lit.int .i64 f).wf = true) (ht : (Lit.int .i64 t).wf = true) (hn : (Lit.int .i64 n).wf = true) :
    Calls Try.prog 14 #[.slice A xs0.length C, .agg #[.int .i64 f, .int .i64 t, .int .i64 n]] w (Gives w (.bool true)) := by
  have hf2 := (bounds_i64 hf).2
  have ht2 := bounds_i64 ht
  have hn2 := bounds_i64 hn
  have X := Lib.hid rd
  have hx : (xs0.take 200).length ≤ 200 := by simp; omega
  have hokx : ∀ y ∈ xs0.take 200, y.ok := fun y hy => hok y (List.mem_of_mem_take hy)
  have hokx := Lib.hid hokx
  have lcH := Lib.hid lc
  have cmH := Lib.hid (show C ≤ 9223372036854775807 by simpa only [maxLen] using cm)
  clear rd hok hf ht hn cm
  go_enter Try.func14, Try.ntmps14
  go_upto_if 15 with (first
    | (go_at_call 43; ((with_reducible refine (awake_3 _).mono ?_); rintro _ _ hgets; obtain ⟨rfl, x0, rfl⟩ := hgets.get; clear hgets)))
  have hcm := cmH.out
  go_cut [0] from 16 to 17 (fun s wx => wx = ext (w.alloc (.cells #[.int .i64 f, .int .i64 t, .int .i64 n] 72)) x0 ∧ ∃ c, s = .slice A (xs0.take 200).length c)
  case first =>
    by_cases h200 : 200 < xs0.length
    · go_wp2
      go_meet
      exact ⟨rfl, C, by rw [List.length_take, Nat.min_eq_left (by omega)]⟩
    · go_wp2
      go_meet
      exact ⟨rfl, C, by rw [List.take_of_length_le (by omega)]⟩
  obtain ⟨rfl, c0, rfl⟩ := hcut
  have X2 := Lib.hid (X.out.take 200)
  clear X lcH cmH hcm lc
  generalize xs0.take 200 = xs at *
  have hx := Lib.hid hx
  go_upto_region 8 with (first
    | (go_at_call 74
       (with_reducible refine (spare_c A c0 xs _ (by repeat (first | exact X2.out | exact X2 | refine Rd.ext ?_ _ | refine Rd.alloc ?_ _ | refine Rd.drew ?_)) (by have := hx.out; omega)).mono ?_)
       rintro _ _ ⟨x1, rfl, rfl, hO1⟩
       have hS := Lib.hid hO1
       clear hO1))
  have hQ : KeepsQ w (((ext (ext (w.alloc (Obj.cells #[Value.int IntKind.i64 f, Value.int IntKind.i64 t, Value.int IntKind.i64 n] 72)) x0) x1).alloc
      (Obj.cells #[Value.slice (some { block := w.heap.size + 1 + x0.sz, off := 0 }) xs.length (xs.length + 9), Value.int IntKind.i64 0] 70)).alloc
      (Obj.cells #[Value.slice (some { block := w.heap.size + 1 + x0.sz, off := 0 }) (xs.length + 9) (xs.length + 9)] 68)) A xs f t n (w.heap.size + 1 + x0.sz) (w.heap.size + 1 + x0.sz + x1.sz) (w.heap.size + 1 + x0.sz + x1.sz + 1) := by
    have hS' := hS.out
    have hsz : (ext (w.alloc (Obj.cells #[Value.int IntKind.i64 f, Value.int IntKind.i64 t, Value.int IntKind.i64 n] 72)) x0).heap.size = w.heap.size + 1 + x0.sz := by simp [go_sem]
    rw [hsz] at hS'
    refine ⟨by (repeat' (first | (with_reducible exact Below.refl _ _) | (with_reducible refine Below.alloc ?_ ?_ _) | (with_reducible refine below_ext ?_ ?_ _) | (with_reducible refine Below.drew ?_) | (with_reducible refine below_drewN ?_ _) | (with_reducible refine Below.setCell ?_ ?_ _) | go_size | (simp only [go_sem]; omega) | (simp [go_sem]; done) | (simp [go_sem]; omega))), by simp [go_sem], by simp [go_sem], by simp [go_sem], by simp [go_sem], by simp [go_sem], by first | (simp [go_sem]; done) | (simp [go_sem]; omega), by first | (simp [go_sem]; done) | (simp [go_sem]; omega), (by repeat (first | exact X2.out | exact X2 | refine Rd.ext ?_ _ | refine Rd.alloc ?_ _ | refine Rd.drew ?_)), ?_, ?_⟩
    · exact ((hS'.mono (by omega)).alloc _).alloc _
    · exact Own.new encR_len (by simp [go_sem]) rfl _ rfl (by first | (simp [go_sem]; done) | (simp [go_sem]; omega)) (by simp [maxLen])
  clear hS X2
  generalize (((ext (ext (w.alloc (Obj.cells #[Value.int IntKind.i64 f, Value.int IntKind.i64 t, Value.int IntKind.i64 n] 72)) x0) x1).alloc
      (Obj.cells #[Value.slice (some { block := w.heap.size + 1 + x0.sz, off := 0 }) xs.length (xs.length + 9), Value.int IntKind.i64 0] 70)).alloc
      (Obj.cells #[Value.slice (some { block := w.heap.size + 1 + x0.sz, off := 0 }) (xs.length + 9) (xs.length + 9)] 68)) = w1 at hQ ⊢
  generalize w.heap.size + 1 + x0.sz + x1.sz + 1 = HG at hQ ⊢
  generalize w.heap.size + 1 + x0.sz + x1.sz = HL at hQ ⊢
  generalize w.heap.size + 1 + x0.sz = S at hQ ⊢
  replace hf2 := Lib.hid hf2
-- CON
  have IC := Lib.hid (fun w' (h : Rd encC 3 w' (some ⟨S, 0, none⟩) xs) => show Calls Try.prog 52 #[lineV (some ⟨S, 0, none⟩) xs.length (xs.length + 9) 0, .int .i64 f, .int .i64 t, .int .i64 n] w' (NewR w') from (insert_l (some ⟨S, 0, none⟩) (xs.length + 9) 0 xs f t n w' h (by simp) (by have := hx.out; omega) hf2.out).mono fun _ _ h => newR_of h (by have := hx.out; first | omega | (rw [ins_len9]; omega) | (rw [del_len9]; omega) | (rw [eachR_len]; omega) | (rw [layR_len]; omega) | (rw [resR_len]; unfold newN; omega)))
  have DC := Lib.hid (fun w' (h : Rd encC 3 w' (some ⟨S, 0, none⟩) xs) => show Calls Try.prog 53 #[lineV (some ⟨S, 0, none⟩) xs.length (xs.length + 9) 0, .int .i64 f, .int .i64 t, .int .i64 n] w' (NewR w') from (delete_l (some ⟨S, 0, none⟩) (xs.length + 9) 0 xs f t n w' h (by simp) (by have := hx.out; omega) hf2.out).mono fun _ _ h => newR_of h (by have := hx.out; first | omega | (rw [ins_len9]; omega) | (rw [del_len9]; omega) | (rw [eachR_len]; omega) | (rw [layR_len]; omega) | (rw [resR_len]; unfold newN; omega)))
  have EC := Lib.hid (fun w' (h : Rd encC 3 w' (some ⟨S, 0, none⟩) xs) => show Calls Try.prog 69 #[lineV (some ⟨S, 0, none⟩) xs.length (xs.length + 9) 0, .int .i64 f, .int .i64 t] w' (NewR w') from (erase_l (some ⟨S, 0, none⟩) (xs.length + 9) 0 xs f t w' h (by simp) (by have := hx.out; omega) hf2.out).mono fun _ _ h => newR_of h (by have := hx.out; first | omega | (rw [ins_len9]; omega) | (rw [del_len9]; omega) | (rw [eachR_len]; omega) | (rw [layR_len]; omega) | (rw [resR_len]; unfold newN; omega)))
  have CC := Lib.hid (fun w' (h : Rd encC 3 w' (some ⟨S, 0, none⟩) xs) => show Calls Try.prog 70 #[lineV (some ⟨S, 0, none⟩) xs.length (xs.length + 9) 0, .int .i64 f, .int .i64 t] w' (NewR w') from (clean_l (some ⟨S, 0, none⟩) (xs.length + 9) 0 xs f t w' h (by simp) (by have := hx.out; omega) hf2.out).mono fun _ _ h => newR_of h (by have := hx.out; first | omega | (rw [ins_len9]; omega) | (rw [del_len9]; omega) | (rw [eachR_len]; omega) | (rw [layR_len]; omega) | (rw [resR_len]; unfold newN; omega)))
  have LC := Lib.hid (fun w' (h : Rd encC 3 w' (some ⟨S, 0, none⟩) xs) => show Calls Try.prog 46 #[lineV (some ⟨S, 0, none⟩) xs.length (xs.length + 9) 0, .int .i64 f, .int .i64 t, .slice (some ⟨S, 0, none⟩) xs.length (xs.length + 9)] w' (NewR w') from (lay_l (some ⟨S, 0, none⟩) (xs.length + 9) 0 xs f t (some ⟨S, 0, none⟩) (xs.length + 9) xs w' h (by simp) (by have := hx.out; omega) hf2.out h).mono fun _ _ h => newR_of h (by have := hx.out; first | omega | (rw [ins_len9]; omega) | (rw [del_len9]; omega) | (rw [eachR_len]; omega) | (rw [layR_len]; omega) | (rw [resR_len]; unfold newN; omega)))
  have RC := Lib.hid (fun w' (h : Rd encC 3 w' (some ⟨S, 0, none⟩) xs) => show Calls Try.prog 60 #[lineV (some ⟨S, 0, none⟩) xs.length (xs.length + 9) 0, .int .i64 t] w' (NewR w') from (resize_l (some ⟨S, 0, none⟩) (xs.length + 9) 0 t xs w' h).mono fun _ _ h => newR_of h (by have := hx.out; first | omega | (rw [ins_len9]; omega) | (rw [del_len9]; omega) | (rw [eachR_len]; omega) | (rw [layR_len]; omega) | (rw [resR_len]; unfold newN; omega)))
  have SC := Lib.hid (fun w' (h : Rd encC 3 w' (some ⟨S, 0, none⟩) xs) => show Calls Try.prog 61 #[lineV (some ⟨S, 0, none⟩) xs.length (xs.length + 9) 0, .int .i64 1] w' (NewR w') from (sized_l (some ⟨S, 0, none⟩) (xs.length + 9) 0 1 xs w' h (by simp) (by have := hx.out; omega) (by have := hx.out; simp only [maxLen]; omega)).mono fun _ _ h => newR_of h (by have := hx.out; first | omega | (rw [ins_len9]; omega) | (rw [del_len9]; omega) | (rw [eachR_len]; omega) | (rw [layR_len]; omega) | (rw [resR_len]; unfold newN; omega)))
  have PC := Lib.hid (fun w' (h : Rd encC 3 w' (some ⟨S, 0, none⟩) xs) => show Calls Try.prog 67 #[lineV (some ⟨S, 0, none⟩) xs.length (xs.length + 9) 0] w' (NewR w') from (copy_l (some ⟨S, 0, none⟩) (xs.length + 9) 0 xs w' h (by simp) (by have := hx.out; omega) (by have := hx.out; simp only [maxLen]; omega)).mono fun _ _ h => newR_of h (by have := hx.out; first | omega | (rw [ins_len9]; omega) | (rw [del_len9]; omega) | (rw [eachR_len]; omega) | (rw [layR_len]; omega) | (rw [resR_len]; unfold newN; omega)))
  have HC := Lib.hid (fun w' (h : Rd encC 3 w' (some ⟨S, 0, none⟩) xs) (H : Nat) (h2 : Ints w' (some ⟨H, 0, none⟩) [1]) => show Calls Try.prog 71 #[lineV (some ⟨S, 0, none⟩) xs.length (xs.length + 9) 0, .int .i64 f, .int .i64 t, .slice (some ⟨H, 0, none⟩) 1 1] w' (NewR w') from (change_l (some ⟨S, 0, none⟩) (xs.length + 9) 0 xs f t (some ⟨H, 0, none⟩) 1 [1] w' h (by simp) (by have := hx.out; omega) hf2.out hokx.out h2 (by simp)).mono fun _ _ h => newR_of h (by have := hx.out; rw [eachR_len]; omega))
-- CONEND
  have XS := Lib.hid hQ.rd
  obtain ⟨hba, s0, s1, s2, l0, l1, hz0, hz, hrow, hown, hlst⟩ := hQ
  go_cut [77, 78, 79] from 27 to 79 (fun s s8 s9 wx => NineAt w1 s wx ∧ s8 = .int .i64 9 ∧ s9 = .int .i64 0)
  case first =>
    generalize w = w0 at *
-- REGION
    refine wp_region_inv (by kernel_rfl) (by kernel_rfl) (KeepsI (.slice A xs.length c0) (.agg #[.int .i64 f, .int .i64 t, .int .i64 n]) undef (.pointer (some ⟨w0.heap.size, 0, none⟩)) (.bool false) (.slice (some ⟨S, 0, none⟩) xs.length (xs.length + 9)) (.slice (some ⟨S, 0, none⟩) (xs.length + 9) (xs.length + 9)) (.pointer (some ⟨HL, 0, none⟩)) (.slice (some ⟨HG, 0, none⟩) 1 1) undef undef (.bool true) (.bool false) (.slice A xs0.length C) (.int .i64 xs0.length) (.bool (decide ((200 : Int) < (xs0.length : Int)))) u16 u17 (.tuple #[(.slice (some ⟨S, 0, none⟩) xs.length (xs.length + 9)), (.slice (some ⟨S, 0, none⟩) (xs.length + 9) (xs.length + 9))]) (.slice A xs.length c0) (.tuple #[(.slice (some ⟨S, 0, none⟩) xs.length (xs.length + 9)), (.slice (some ⟨S, 0, none⟩) (xs.length + 9) (xs.length + 9))]) (.slice (some ⟨S, 0, none⟩) xs.length (xs.length + 9)) (.slice (some ⟨S, 0, none⟩) (xs.length + 9) (xs.length + 9)) (.slice (some ⟨S, 0, none⟩) xs.length (xs.length + 9)) (.agg #[(.slice (some ⟨S, 0, none⟩) xs.length (xs.length + 9)), .int .i64 0]) (.slice (some ⟨S, 0, none⟩) (xs.length + 9) (xs.length + 9)) (.slice (some ⟨HG, 0, none⟩) 1 1) (.agg #[.slice (some ⟨S, 0, none⟩) xs.length (xs.length + 9), .int .i64 0]) (.pointer (some ⟨w0.heap.size, 0, none⟩)) (.pointer (some ⟨w0.heap.size, 1, none⟩)) (.pointer (some ⟨w0.heap.size, 2, none⟩)) (.int .i64 f) (.int .i64 t) (.int .i64 n) (.slice (some ⟨S, 0, none⟩) xs.length (xs.length + 9)) w1) ?h0 ?hs ?he
    case h0 => exact ⟨fun _ => ⟨none, 0, 0⟩, fun _ => 0, undef, undef, rfl, (Below.refl _ _).drew, KF.start _ _⟩
    case hs =>
      show ∀ i, i < 53 → _
      refine below_succ ?_ ?_
      rotate_left
      · intro L a w hI hL hd
        obtain ⟨R, Z, V60, V77, ha, hB, F⟩ := hI
        subst ha
        refine wpOp_at _ rfl fun K hK => ?_
        go_simp
        exact hK _ _ ⟨R, Z, V60, V77, rfl, hB, F.pure 52 (by decide) (by decide) (by decide)⟩
      refine below_succ ?_ ?_
      rotate_left
      · intro L a w hI hL hd
        obtain ⟨R, Z, V60, V77, ha, hB, F⟩ := hI
        have e50 := hd 50 (List.elem_iff.1 (by kernel_rfl))
        obtain ⟨-, H7, e77, -⟩ := F.f50 e50
        subst e77
        simp only [e50, cond_true] at ha
        subst ha
        refine wpOp_at _ rfl fun K hK => ?_
        go_simp
        exact hK _ _ ⟨R, Z, V60, _, by simp only [e50, Nat.reduceBEq, Bool.false_or, Bool.true_or, Bool.or_true, BEq.rfl, cond_true, cond_false, Act.put, List.setIfInBounds_toArray, List.set_cons_succ, List.set_cons_zero, upd], hB, F.pure 51 (by decide) (by decide) (by decide)⟩
      refine below_succ ?_ ?_
      rotate_left
      · intro L a w hI hL hd
        obtain ⟨R, Z, V60, V77, ha, hB, F⟩ := hI
        have e7 := hd 7 (List.elem_iff.1 (by kernel_rfl))
        have e15 := hd 15 (List.elem_iff.1 (by kernel_rfl))
        have e21 := hd 21 (List.elem_iff.1 (by kernel_rfl))
        have e27 := hd 27 (List.elem_iff.1 (by kernel_rfl))
        have e34 := hd 34 (List.elem_iff.1 (by kernel_rfl))
        have e41 := hd 41 (List.elem_iff.1 (by kernel_rfl))
        have e45 := hd 45 (List.elem_iff.1 (by kernel_rfl))
        have e47 := hd 47 (List.elem_iff.1 (by kernel_rfl))
        have e49 := hd 49 (List.elem_iff.1 (by kernel_rfl))
        simp only [e7, e15, e21, e27, e34, e41, e45, e47, e49, cond_true] at ha
        subst ha
        refine wpOp_at _ rfl fun K hK => ?_
        go_simp
        have hb : Below w.heap.size w (w.alloc (.cells (nine R Z) 70)) := (Below.refl _ _).alloc (Nat.le_refl _) _
        exact hK _ _ ⟨R, Z, V60, .slice (some ⟨w.heap.size, 0, none⟩) 9 9, by simp only [hL, e7, e15, e21, e27, e34, e41, e45, e47, e49, Nat.reduceBEq, Bool.false_or, Bool.true_or, Bool.or_true, BEq.rfl, cond_true, cond_false, Act.put, List.setIfInBounds_toArray, List.set_cons_succ, List.set_cons_zero, upd], hB.trans (hb.mono hB.size), F.lits hb (fun j hj => by simp [isC] at hj; rcases hj with rfl | rfl | rfl | rfl | rfl | rfl | rfl | rfl | rfl <;> assumption) (heap_alloc_new w _)⟩
      refine below_succ ?_ ?_
      rotate_left
      · intro L a w hI hL hd
        obtain ⟨R, Z, V60, V77, ha, hB, F⟩ := hI
        have e48 := hd 48 (List.elem_iff.1 (by kernel_rfl))
        simp only [e48, cond_true] at ha
        subst ha
        refine wpOp_at _ rfl fun K hK => ?_
        go_simp
        go_at_call 67
        refine (PC.out _ (XS.out.below hB)).mono ?_
        rintro _ _ ⟨r, z, x, rfl, rfl, hr, hn9⟩
        dsimp only
        have hb : Below w.heap.size w (ext w x) := below_of_ext w x
        exact hK _ _ ⟨upd R 49 r, upd Z 49 z, V60, V77, by simp only [hL, e48, Nat.reduceBEq, Bool.false_or, Bool.true_or, Bool.or_true, BEq.rfl, cond_true, cond_false, Act.put, List.setIfInBounds_toArray, List.set_cons_succ, List.set_cons_zero, upd], hB.trans (hb.mono hB.size), F.call 49 z (by decide) hL hB.size hb hr hn9⟩
      refine below_succ ?_ ?_
      rotate_left
      · intro L a w hI hL hd
        obtain ⟨R, Z, V60, V77, ha, hB, F⟩ := hI
        have l0' := (hB.cell (p := ⟨HL, 0, none⟩) hz).trans l0
        have l1' := (hB.cell (p := ⟨HL, 1, none⟩) hz).trans l1
        subst ha
        refine wpOp_at _ rfl fun K hK => ?_
        go_simp
        exact hK _ _ ⟨R, Z, V60, V77, rfl, hB, F.pure 48 (by decide) (by decide) (by decide)⟩
      refine below_succ ?_ ?_
      rotate_left
      · intro L a w hI hL hd
        obtain ⟨R, Z, V60, V77, ha, hB, F⟩ := hI
        have e46 := hd 46 (List.elem_iff.1 (by kernel_rfl))
        simp only [e46, cond_true] at ha
        subst ha
        refine wpOp_at _ rfl fun K hK => ?_
        go_simp
        go_at_call 61
        refine (SC.out _ (XS.out.below hB)).mono ?_
        rintro _ _ ⟨r, z, x, rfl, rfl, hr, hn9⟩
        dsimp only
        have hb : Below w.heap.size w (ext w x) := below_of_ext w x
        exact hK _ _ ⟨upd R 47 r, upd Z 47 z, V60, V77, by simp only [hL, e46, Nat.reduceBEq, Bool.false_or, Bool.true_or, Bool.or_true, BEq.rfl, cond_true, cond_false, Act.put, List.setIfInBounds_toArray, List.set_cons_succ, List.set_cons_zero, upd], hB.trans (hb.mono hB.size), F.call 47 z (by decide) hL hB.size hb hr hn9⟩
      refine below_succ ?_ ?_
      rotate_left
      · intro L a w hI hL hd
        obtain ⟨R, Z, V60, V77, ha, hB, F⟩ := hI
        have l0' := (hB.cell (p := ⟨HL, 0, none⟩) hz).trans l0
        have l1' := (hB.cell (p := ⟨HL, 1, none⟩) hz).trans l1
        subst ha
        refine wpOp_at _ rfl fun K hK => ?_
        go_simp
        exact hK _ _ ⟨R, Z, V60, V77, rfl, hB, F.pure 46 (by decide) (by decide) (by decide)⟩
      refine below_succ ?_ ?_
      rotate_left
      · intro L a w hI hL hd
        obtain ⟨R, Z, V60, V77, ha, hB, F⟩ := hI
        have e44 := hd 44 (List.elem_iff.1 (by kernel_rfl))
        have e42 := hd 42 (List.elem_iff.1 (by kernel_rfl))
        simp only [e44, e42, cond_true] at ha
        subst ha
        refine wpOp_at _ rfl fun K hK => ?_
        go_simp
        go_at_call 60
        refine (RC.out _ (XS.out.below hB)).mono ?_
        rintro _ _ ⟨r, z, x, rfl, rfl, hr, hn9⟩
        dsimp only
        have hb : Below w.heap.size w (ext w x) := below_of_ext w x
        exact hK _ _ ⟨upd R 45 r, upd Z 45 z, V60, V77, by simp only [hL, e44, e42, Nat.reduceBEq, Bool.false_or, Bool.true_or, Bool.or_true, BEq.rfl, cond_true, cond_false, Act.put, List.setIfInBounds_toArray, List.set_cons_succ, List.set_cons_zero, upd], hB.trans (hb.mono hB.size), F.call 45 z (by decide) hL hB.size hb hr hn9⟩
      refine below_succ ?_ ?_
      rotate_left
      · intro L a w hI hL hd
        obtain ⟨R, Z, V60, V77, ha, hB, F⟩ := hI
        have s' := (hB.cell (p := ⟨w0.heap.size, 1, none⟩) hz0).trans s1
        have e := hd 43 (List.elem_iff.1 (by kernel_rfl))
        simp only [e, cond_true] at ha
        subst ha
        refine wpOp_at _ rfl fun K hK => ?_
        go_simp
        exact hK _ _ ⟨R, Z, V60, V77, by simp only [e, Nat.reduceBEq, Bool.false_or, Bool.true_or, Bool.or_true, BEq.rfl, cond_true, cond_false, Act.put, List.setIfInBounds_toArray, List.set_cons_succ, List.set_cons_zero, upd], hB, F.pure 44 (by decide) (by decide) (by decide)⟩
      refine below_succ ?_ ?_
      rotate_left
      · intro L a w hI hL hd
        obtain ⟨R, Z, V60, V77, ha, hB, F⟩ := hI
        subst ha
        refine wpOp_at _ rfl fun K hK => ?_
        go_simp
        exact hK _ _ ⟨R, Z, V60, V77, rfl, hB, F.pure 43 (by decide) (by decide) (by decide)⟩
      refine below_succ ?_ ?_
      rotate_left
      · intro L a w hI hL hd
        obtain ⟨R, Z, V60, V77, ha, hB, F⟩ := hI
        have l0' := (hB.cell (p := ⟨HL, 0, none⟩) hz).trans l0
        have l1' := (hB.cell (p := ⟨HL, 1, none⟩) hz).trans l1
        subst ha
        refine wpOp_at _ rfl fun K hK => ?_
        go_simp
        exact hK _ _ ⟨R, Z, V60, V77, rfl, hB, F.pure 42 (by decide) (by decide) (by decide)⟩
      refine below_succ ?_ ?_
      rotate_left
      · intro L a w hI hL hd
        obtain ⟨R, Z, V60, V77, ha, hB, F⟩ := hI
        have e40 := hd 40 (List.elem_iff.1 (by kernel_rfl))
        have e39 := hd 39 (List.elem_iff.1 (by kernel_rfl))
        have e37 := hd 37 (List.elem_iff.1 (by kernel_rfl))
        have e35 := hd 35 (List.elem_iff.1 (by kernel_rfl))
        simp only [e40, e39, e37, e35, cond_true] at ha
        subst ha
        refine wpOp_at _ rfl fun K hK => ?_
        go_simp
        go_at_call 46
        refine (LC.out _ (XS.out.below hB)).mono ?_
        rintro _ _ ⟨r, z, x, rfl, rfl, hr, hn9⟩
        dsimp only
        have hb : Below w.heap.size w (ext w x) := below_of_ext w x
        exact hK _ _ ⟨upd R 41 r, upd Z 41 z, V60, V77, by simp only [hL, e40, e39, e37, e35, Nat.reduceBEq, Bool.false_or, Bool.true_or, Bool.or_true, BEq.rfl, cond_true, cond_false, Act.put, List.setIfInBounds_toArray, List.set_cons_succ, List.set_cons_zero, upd], hB.trans (hb.mono hB.size), F.call 41 z (by decide) hL hB.size hb hr hn9⟩
      refine below_succ ?_ ?_
      rotate_left
      · intro L a w hI hL hd
        obtain ⟨R, Z, V60, V77, ha, hB, F⟩ := hI
        subst ha
        refine wpOp_at _ rfl fun K hK => ?_
        go_simp
        exact hK _ _ ⟨R, Z, V60, V77, rfl, hB, F.pure 40 (by decide) (by decide) (by decide)⟩
      refine below_succ ?_ ?_
      rotate_left
      · intro L a w hI hL hd
        obtain ⟨R, Z, V60, V77, ha, hB, F⟩ := hI
        have s' := (hB.cell (p := ⟨w0.heap.size, 1, none⟩) hz0).trans s1
        have e := hd 38 (List.elem_iff.1 (by kernel_rfl))
        simp only [e, cond_true] at ha
        subst ha
        refine wpOp_at _ rfl fun K hK => ?_
        go_simp
        exact hK _ _ ⟨R, Z, V60, V77, by simp only [e, Nat.reduceBEq, Bool.false_or, Bool.true_or, Bool.or_true, BEq.rfl, cond_true, cond_false, Act.put, List.setIfInBounds_toArray, List.set_cons_succ, List.set_cons_zero, upd], hB, F.pure 39 (by decide) (by decide) (by decide)⟩
      refine below_succ ?_ ?_
      rotate_left
      · intro L a w hI hL hd
        obtain ⟨R, Z, V60, V77, ha, hB, F⟩ := hI
        subst ha
        refine wpOp_at _ rfl fun K hK => ?_
        go_simp
        exact hK _ _ ⟨R, Z, V60, V77, rfl, hB, F.pure 38 (by decide) (by decide) (by decide)⟩
      refine below_succ ?_ ?_
      rotate_left
      · intro L a w hI hL hd
        obtain ⟨R, Z, V60, V77, ha, hB, F⟩ := hI
        have s' := (hB.cell (p := ⟨w0.heap.size, 0, none⟩) hz0).trans s0
        have e := hd 36 (List.elem_iff.1 (by kernel_rfl))
        simp only [e, cond_true] at ha
        subst ha
        refine wpOp_at _ rfl fun K hK => ?_
        go_simp
        exact hK _ _ ⟨R, Z, V60, V77, by simp only [e, Nat.reduceBEq, Bool.false_or, Bool.true_or, Bool.or_true, BEq.rfl, cond_true, cond_false, Act.put, List.setIfInBounds_toArray, List.set_cons_succ, List.set_cons_zero, upd], hB, F.pure 37 (by decide) (by decide) (by decide)⟩
      refine below_succ ?_ ?_
      rotate_left
      · intro L a w hI hL hd
        obtain ⟨R, Z, V60, V77, ha, hB, F⟩ := hI
        subst ha
        refine wpOp_at _ rfl fun K hK => ?_
        go_simp
        exact hK _ _ ⟨R, Z, V60, V77, rfl, hB, F.pure 36 (by decide) (by decide) (by decide)⟩
      refine below_succ ?_ ?_
      rotate_left
      · intro L a w hI hL hd
        obtain ⟨R, Z, V60, V77, ha, hB, F⟩ := hI
        have l0' := (hB.cell (p := ⟨HL, 0, none⟩) hz).trans l0
        have l1' := (hB.cell (p := ⟨HL, 1, none⟩) hz).trans l1
        subst ha
        refine wpOp_at _ rfl fun K hK => ?_
        go_simp
        exact hK _ _ ⟨R, Z, V60, V77, rfl, hB, F.pure 35 (by decide) (by decide) (by decide)⟩
      refine below_succ ?_ ?_
      rotate_left
      · intro L a w hI hL hd
        obtain ⟨R, Z, V60, V77, ha, hB, F⟩ := hI
        have e33 := hd 33 (List.elem_iff.1 (by kernel_rfl))
        have e32 := hd 32 (List.elem_iff.1 (by kernel_rfl))
        have e30 := hd 30 (List.elem_iff.1 (by kernel_rfl))
        have e28 := hd 28 (List.elem_iff.1 (by kernel_rfl))
        obtain ⟨H6, e60, hi6⟩ := F.f33 e33
        subst e60
        simp only [e33, e32, e30, e28, cond_true] at ha
        subst ha
        refine wpOp_at _ rfl fun K hK => ?_
        go_simp
        go_at_call 71
        refine (HC.out _ (XS.out.below hB) _ hi6).mono ?_
        rintro _ _ ⟨r, z, x, rfl, rfl, hr, hn9⟩
        dsimp only
        have hb : Below w.heap.size w (ext w x) := below_of_ext w x
        exact hK _ _ ⟨upd R 34 r, upd Z 34 z, (.slice (some ⟨H6, 0, none⟩) 1 1), V77, by simp only [hL, e33, e32, e30, e28, Nat.reduceBEq, Bool.false_or, Bool.true_or, Bool.or_true, BEq.rfl, cond_true, cond_false, Act.put, List.setIfInBounds_toArray, List.set_cons_succ, List.set_cons_zero, upd], hB.trans (hb.mono hB.size), F.call 34 z (by decide) hL hB.size hb hr hn9⟩
      refine below_succ ?_ ?_
      rotate_left
      · intro L a w hI hL hd
        obtain ⟨R, Z, V60, V77, ha, hB, F⟩ := hI
        subst ha
        refine wpOp_at _ rfl fun K hK => ?_
        go_simp
        have hb : Below w.heap.size w (w.alloc (.cells #[.int .i64 1] 3)) := (Below.refl _ _).alloc (Nat.le_refl _) _
        exact hK _ _ ⟨R, Z, .slice (some ⟨w.heap.size, 0, none⟩) 1 1, V77, by simp only [hL, Nat.reduceBEq, Bool.false_or, Bool.true_or, Bool.or_true, BEq.rfl, cond_true, cond_false, Act.put, List.setIfInBounds_toArray, List.set_cons_succ, List.set_cons_zero, upd], hB.trans (hb.mono hB.size), F.nums hb ((Own.new (B := 0) (e := 3) (encI_len .i64) rfl rfl _ rfl (Nat.zero_le _) (by simp [maxLen])).rd (encI_len .i64))⟩
      refine below_succ ?_ ?_
      rotate_left
      · intro L a w hI hL hd
        obtain ⟨R, Z, V60, V77, ha, hB, F⟩ := hI
        have s' := (hB.cell (p := ⟨w0.heap.size, 1, none⟩) hz0).trans s1
        have e := hd 31 (List.elem_iff.1 (by kernel_rfl))
        simp only [e, cond_true] at ha
        subst ha
        refine wpOp_at _ rfl fun K hK => ?_
        go_simp
        exact hK _ _ ⟨R, Z, V60, V77, by simp only [e, Nat.reduceBEq, Bool.false_or, Bool.true_or, Bool.or_true, BEq.rfl, cond_true, cond_false, Act.put, List.setIfInBounds_toArray, List.set_cons_succ, List.set_cons_zero, upd], hB, F.pure 32 (by decide) (by decide) (by decide)⟩
      refine below_succ ?_ ?_
      rotate_left
      · intro L a w hI hL hd
        obtain ⟨R, Z, V60, V77, ha, hB, F⟩ := hI
        subst ha
        refine wpOp_at _ rfl fun K hK => ?_
        go_simp
        exact hK _ _ ⟨R, Z, V60, V77, rfl, hB, F.pure 31 (by decide) (by decide) (by decide)⟩
      refine below_succ ?_ ?_
      rotate_left
      · intro L a w hI hL hd
        obtain ⟨R, Z, V60, V77, ha, hB, F⟩ := hI
        have s' := (hB.cell (p := ⟨w0.heap.size, 0, none⟩) hz0).trans s0
        have e := hd 29 (List.elem_iff.1 (by kernel_rfl))
        simp only [e, cond_true] at ha
        subst ha
        refine wpOp_at _ rfl fun K hK => ?_
        go_simp
        exact hK _ _ ⟨R, Z, V60, V77, by simp only [e, Nat.reduceBEq, Bool.false_or, Bool.true_or, Bool.or_true, BEq.rfl, cond_true, cond_false, Act.put, List.setIfInBounds_toArray, List.set_cons_succ, List.set_cons_zero, upd], hB, F.pure 30 (by decide) (by decide) (by decide)⟩
      refine below_succ ?_ ?_
      rotate_left
      · intro L a w hI hL hd
        obtain ⟨R, Z, V60, V77, ha, hB, F⟩ := hI
        subst ha
        refine wpOp_at _ rfl fun K hK => ?_
        go_simp
        exact hK _ _ ⟨R, Z, V60, V77, rfl, hB, F.pure 29 (by decide) (by decide) (by decide)⟩
      refine below_succ ?_ ?_
      rotate_left
      · intro L a w hI hL hd
        obtain ⟨R, Z, V60, V77, ha, hB, F⟩ := hI
        have l0' := (hB.cell (p := ⟨HL, 0, none⟩) hz).trans l0
        have l1' := (hB.cell (p := ⟨HL, 1, none⟩) hz).trans l1
        subst ha
        refine wpOp_at _ rfl fun K hK => ?_
        go_simp
        exact hK _ _ ⟨R, Z, V60, V77, rfl, hB, F.pure 28 (by decide) (by decide) (by decide)⟩
      refine below_succ ?_ ?_
      rotate_left
      · intro L a w hI hL hd
        obtain ⟨R, Z, V60, V77, ha, hB, F⟩ := hI
        have e26 := hd 26 (List.elem_iff.1 (by kernel_rfl))
        have e24 := hd 24 (List.elem_iff.1 (by kernel_rfl))
        have e22 := hd 22 (List.elem_iff.1 (by kernel_rfl))
        simp only [e26, e24, e22, cond_true] at ha
        subst ha
        refine wpOp_at _ rfl fun K hK => ?_
        go_simp
        go_at_call 70
        refine (CC.out _ (XS.out.below hB)).mono ?_
        rintro _ _ ⟨r, z, x, rfl, rfl, hr, hn9⟩
        dsimp only
        have hb : Below w.heap.size w (ext w x) := below_of_ext w x
        exact hK _ _ ⟨upd R 27 r, upd Z 27 z, V60, V77, by simp only [hL, e26, e24, e22, Nat.reduceBEq, Bool.false_or, Bool.true_or, Bool.or_true, BEq.rfl, cond_true, cond_false, Act.put, List.setIfInBounds_toArray, List.set_cons_succ, List.set_cons_zero, upd], hB.trans (hb.mono hB.size), F.call 27 z (by decide) hL hB.size hb hr hn9⟩
      refine below_succ ?_ ?_
      rotate_left
      · intro L a w hI hL hd
        obtain ⟨R, Z, V60, V77, ha, hB, F⟩ := hI
        have s' := (hB.cell (p := ⟨w0.heap.size, 1, none⟩) hz0).trans s1
        have e := hd 25 (List.elem_iff.1 (by kernel_rfl))
        simp only [e, cond_true] at ha
        subst ha
        refine wpOp_at _ rfl fun K hK => ?_
        go_simp
        exact hK _ _ ⟨R, Z, V60, V77, by simp only [e, Nat.reduceBEq, Bool.false_or, Bool.true_or, Bool.or_true, BEq.rfl, cond_true, cond_false, Act.put, List.setIfInBounds_toArray, List.set_cons_succ, List.set_cons_zero, upd], hB, F.pure 26 (by decide) (by decide) (by decide)⟩
      refine below_succ ?_ ?_
      rotate_left
      · intro L a w hI hL hd
        obtain ⟨R, Z, V60, V77, ha, hB, F⟩ := hI
        subst ha
        refine wpOp_at _ rfl fun K hK => ?_
        go_simp
        exact hK _ _ ⟨R, Z, V60, V77, rfl, hB, F.pure 25 (by decide) (by decide) (by decide)⟩
      refine below_succ ?_ ?_
      rotate_left
      · intro L a w hI hL hd
        obtain ⟨R, Z, V60, V77, ha, hB, F⟩ := hI
        have s' := (hB.cell (p := ⟨w0.heap.size, 0, none⟩) hz0).trans s0
        have e := hd 23 (List.elem_iff.1 (by kernel_rfl))
        simp only [e, cond_true] at ha
        subst ha
        refine wpOp_at _ rfl fun K hK => ?_
        go_simp
        exact hK _ _ ⟨R, Z, V60, V77, by simp only [e, Nat.reduceBEq, Bool.false_or, Bool.true_or, Bool.or_true, BEq.rfl, cond_true, cond_false, Act.put, List.setIfInBounds_toArray, List.set_cons_succ, List.set_cons_zero, upd], hB, F.pure 24 (by decide) (by decide) (by decide)⟩
      refine below_succ ?_ ?_
      rotate_left
      · intro L a w hI hL hd
        obtain ⟨R, Z, V60, V77, ha, hB, F⟩ := hI
        subst ha
        refine wpOp_at _ rfl fun K hK => ?_
        go_simp
        exact hK _ _ ⟨R, Z, V60, V77, rfl, hB, F.pure 23 (by decide) (by decide) (by decide)⟩
      refine below_succ ?_ ?_
      rotate_left
      · intro L a w hI hL hd
        obtain ⟨R, Z, V60, V77, ha, hB, F⟩ := hI
        have l0' := (hB.cell (p := ⟨HL, 0, none⟩) hz).trans l0
        have l1' := (hB.cell (p := ⟨HL, 1, none⟩) hz).trans l1
        subst ha
        refine wpOp_at _ rfl fun K hK => ?_
        go_simp
        exact hK _ _ ⟨R, Z, V60, V77, rfl, hB, F.pure 22 (by decide) (by decide) (by decide)⟩
      refine below_succ ?_ ?_
      rotate_left
      · intro L a w hI hL hd
        obtain ⟨R, Z, V60, V77, ha, hB, F⟩ := hI
        have e20 := hd 20 (List.elem_iff.1 (by kernel_rfl))
        have e18 := hd 18 (List.elem_iff.1 (by kernel_rfl))
        have e16 := hd 16 (List.elem_iff.1 (by kernel_rfl))
        simp only [e20, e18, e16, cond_true] at ha
        subst ha
        refine wpOp_at _ rfl fun K hK => ?_
        go_simp
        go_at_call 69
        refine (EC.out _ (XS.out.below hB)).mono ?_
        rintro _ _ ⟨r, z, x, rfl, rfl, hr, hn9⟩
        dsimp only
        have hb : Below w.heap.size w (ext w x) := below_of_ext w x
        exact hK _ _ ⟨upd R 21 r, upd Z 21 z, V60, V77, by simp only [hL, e20, e18, e16, Nat.reduceBEq, Bool.false_or, Bool.true_or, Bool.or_true, BEq.rfl, cond_true, cond_false, Act.put, List.setIfInBounds_toArray, List.set_cons_succ, List.set_cons_zero, upd], hB.trans (hb.mono hB.size), F.call 21 z (by decide) hL hB.size hb hr hn9⟩
      refine below_succ ?_ ?_
      rotate_left
      · intro L a w hI hL hd
        obtain ⟨R, Z, V60, V77, ha, hB, F⟩ := hI
        have s' := (hB.cell (p := ⟨w0.heap.size, 1, none⟩) hz0).trans s1
        have e := hd 19 (List.elem_iff.1 (by kernel_rfl))
        simp only [e, cond_true] at ha
        subst ha
        refine wpOp_at _ rfl fun K hK => ?_
        go_simp
        exact hK _ _ ⟨R, Z, V60, V77, by simp only [e, Nat.reduceBEq, Bool.false_or, Bool.true_or, Bool.or_true, BEq.rfl, cond_true, cond_false, Act.put, List.setIfInBounds_toArray, List.set_cons_succ, List.set_cons_zero, upd], hB, F.pure 20 (by decide) (by decide) (by decide)⟩
      refine below_succ ?_ ?_
      rotate_left
      · intro L a w hI hL hd
        obtain ⟨R, Z, V60, V77, ha, hB, F⟩ := hI
        subst ha
        refine wpOp_at _ rfl fun K hK => ?_
        go_simp
        exact hK _ _ ⟨R, Z, V60, V77, rfl, hB, F.pure 19 (by decide) (by decide) (by decide)⟩
      refine below_succ ?_ ?_
      rotate_left
      · intro L a w hI hL hd
        obtain ⟨R, Z, V60, V77, ha, hB, F⟩ := hI
        have s' := (hB.cell (p := ⟨w0.heap.size, 0, none⟩) hz0).trans s0
        have e := hd 17 (List.elem_iff.1 (by kernel_rfl))
        simp only [e, cond_true] at ha
        subst ha
        refine wpOp_at _ rfl fun K hK => ?_
        go_simp
        exact hK _ _ ⟨R, Z, V60, V77, by simp only [e, Nat.reduceBEq, Bool.false_or, Bool.true_or, Bool.or_true, BEq.rfl, cond_true, cond_false, Act.put, List.setIfInBounds_toArray, List.set_cons_succ, List.set_cons_zero, upd], hB, F.pure 18 (by decide) (by decide) (by decide)⟩
      refine below_succ ?_ ?_
      rotate_left
      · intro L a w hI hL hd
        obtain ⟨R, Z, V60, V77, ha, hB, F⟩ := hI
        subst ha
        refine wpOp_at _ rfl fun K hK => ?_
        go_simp
        exact hK _ _ ⟨R, Z, V60, V77, rfl, hB, F.pure 17 (by decide) (by decide) (by decide)⟩
      refine below_succ ?_ ?_
      rotate_left
      · intro L a w hI hL hd
        obtain ⟨R, Z, V60, V77, ha, hB, F⟩ := hI
        have l0' := (hB.cell (p := ⟨HL, 0, none⟩) hz).trans l0
        have l1' := (hB.cell (p := ⟨HL, 1, none⟩) hz).trans l1
        subst ha
        refine wpOp_at _ rfl fun K hK => ?_
        go_simp
        exact hK _ _ ⟨R, Z, V60, V77, rfl, hB, F.pure 16 (by decide) (by decide) (by decide)⟩
      refine below_succ ?_ ?_
      rotate_left
      · intro L a w hI hL hd
        obtain ⟨R, Z, V60, V77, ha, hB, F⟩ := hI
        have e14 := hd 14 (List.elem_iff.1 (by kernel_rfl))
        have e12 := hd 12 (List.elem_iff.1 (by kernel_rfl))
        have e10 := hd 10 (List.elem_iff.1 (by kernel_rfl))
        have e8 := hd 8 (List.elem_iff.1 (by kernel_rfl))
        simp only [e14, e12, e10, e8, cond_true] at ha
        subst ha
        refine wpOp_at _ rfl fun K hK => ?_
        go_simp
        go_at_call 53
        refine (DC.out _ (XS.out.below hB)).mono ?_
        rintro _ _ ⟨r, z, x, rfl, rfl, hr, hn9⟩
        dsimp only
        have hb : Below w.heap.size w (ext w x) := below_of_ext w x
        exact hK _ _ ⟨upd R 15 r, upd Z 15 z, V60, V77, by simp only [hL, e14, e12, e10, e8, Nat.reduceBEq, Bool.false_or, Bool.true_or, Bool.or_true, BEq.rfl, cond_true, cond_false, Act.put, List.setIfInBounds_toArray, List.set_cons_succ, List.set_cons_zero, upd], hB.trans (hb.mono hB.size), F.call 15 z (by decide) hL hB.size hb hr hn9⟩
      refine below_succ ?_ ?_
      rotate_left
      · intro L a w hI hL hd
        obtain ⟨R, Z, V60, V77, ha, hB, F⟩ := hI
        have s' := (hB.cell (p := ⟨w0.heap.size, 2, none⟩) hz0).trans s2
        have e := hd 13 (List.elem_iff.1 (by kernel_rfl))
        simp only [e, cond_true] at ha
        subst ha
        refine wpOp_at _ rfl fun K hK => ?_
        go_simp
        exact hK _ _ ⟨R, Z, V60, V77, by simp only [e, Nat.reduceBEq, Bool.false_or, Bool.true_or, Bool.or_true, BEq.rfl, cond_true, cond_false, Act.put, List.setIfInBounds_toArray, List.set_cons_succ, List.set_cons_zero, upd], hB, F.pure 14 (by decide) (by decide) (by decide)⟩
      refine below_succ ?_ ?_
      rotate_left
      · intro L a w hI hL hd
        obtain ⟨R, Z, V60, V77, ha, hB, F⟩ := hI
        subst ha
        refine wpOp_at _ rfl fun K hK => ?_
        go_simp
        exact hK _ _ ⟨R, Z, V60, V77, rfl, hB, F.pure 13 (by decide) (by decide) (by decide)⟩
      refine below_succ ?_ ?_
      rotate_left
      · intro L a w hI hL hd
        obtain ⟨R, Z, V60, V77, ha, hB, F⟩ := hI
        have s' := (hB.cell (p := ⟨w0.heap.size, 1, none⟩) hz0).trans s1
        have e := hd 11 (List.elem_iff.1 (by kernel_rfl))
        simp only [e, cond_true] at ha
        subst ha
        refine wpOp_at _ rfl fun K hK => ?_
        go_simp
        exact hK _ _ ⟨R, Z, V60, V77, by simp only [e, Nat.reduceBEq, Bool.false_or, Bool.true_or, Bool.or_true, BEq.rfl, cond_true, cond_false, Act.put, List.setIfInBounds_toArray, List.set_cons_succ, List.set_cons_zero, upd], hB, F.pure 12 (by decide) (by decide) (by decide)⟩
      refine below_succ ?_ ?_
      rotate_left
      · intro L a w hI hL hd
        obtain ⟨R, Z, V60, V77, ha, hB, F⟩ := hI
        subst ha
        refine wpOp_at _ rfl fun K hK => ?_
        go_simp
        exact hK _ _ ⟨R, Z, V60, V77, rfl, hB, F.pure 11 (by decide) (by decide) (by decide)⟩
      refine below_succ ?_ ?_
      rotate_left
      · intro L a w hI hL hd
        obtain ⟨R, Z, V60, V77, ha, hB, F⟩ := hI
        have s' := (hB.cell (p := ⟨w0.heap.size, 0, none⟩) hz0).trans s0
        have e := hd 9 (List.elem_iff.1 (by kernel_rfl))
        simp only [e, cond_true] at ha
        subst ha
        refine wpOp_at _ rfl fun K hK => ?_
        go_simp
        exact hK _ _ ⟨R, Z, V60, V77, by simp only [e, Nat.reduceBEq, Bool.false_or, Bool.true_or, Bool.or_true, BEq.rfl, cond_true, cond_false, Act.put, List.setIfInBounds_toArray, List.set_cons_succ, List.set_cons_zero, upd], hB, F.pure 10 (by decide) (by decide) (by decide)⟩
      refine below_succ ?_ ?_
      rotate_left
      · intro L a w hI hL hd
        obtain ⟨R, Z, V60, V77, ha, hB, F⟩ := hI
        subst ha
        refine wpOp_at _ rfl fun K hK => ?_
        go_simp
        exact hK _ _ ⟨R, Z, V60, V77, rfl, hB, F.pure 9 (by decide) (by decide) (by decide)⟩
      refine below_succ ?_ ?_
      rotate_left
      · intro L a w hI hL hd
        obtain ⟨R, Z, V60, V77, ha, hB, F⟩ := hI
        have l0' := (hB.cell (p := ⟨HL, 0, none⟩) hz).trans l0
        have l1' := (hB.cell (p := ⟨HL, 1, none⟩) hz).trans l1
        subst ha
        refine wpOp_at _ rfl fun K hK => ?_
        go_simp
        exact hK _ _ ⟨R, Z, V60, V77, rfl, hB, F.pure 8 (by decide) (by decide) (by decide)⟩
      refine below_succ ?_ ?_
      rotate_left
      · intro L a w hI hL hd
        obtain ⟨R, Z, V60, V77, ha, hB, F⟩ := hI
        have e6 := hd 6 (List.elem_iff.1 (by kernel_rfl))
        have e4 := hd 4 (List.elem_iff.1 (by kernel_rfl))
        have e2 := hd 2 (List.elem_iff.1 (by kernel_rfl))
        have e0 := hd 0 (List.elem_iff.1 (by kernel_rfl))
        simp only [e6, e4, e2, e0, cond_true] at ha
        subst ha
        refine wpOp_at _ rfl fun K hK => ?_
        go_simp
        go_at_call 52
        refine (IC.out _ (XS.out.below hB)).mono ?_
        rintro _ _ ⟨r, z, x, rfl, rfl, hr, hn9⟩
        dsimp only
        have hb : Below w.heap.size w (ext w x) := below_of_ext w x
        exact hK _ _ ⟨upd R 7 r, upd Z 7 z, V60, V77, by simp only [hL, e6, e4, e2, e0, Nat.reduceBEq, Bool.false_or, Bool.true_or, Bool.or_true, BEq.rfl, cond_true, cond_false, Act.put, List.setIfInBounds_toArray, List.set_cons_succ, List.set_cons_zero, upd], hB.trans (hb.mono hB.size), F.call 7 z (by decide) hL hB.size hb hr hn9⟩
      refine below_succ ?_ ?_
      rotate_left
      · intro L a w hI hL hd
        obtain ⟨R, Z, V60, V77, ha, hB, F⟩ := hI
        have s' := (hB.cell (p := ⟨w0.heap.size, 2, none⟩) hz0).trans s2
        have e := hd 5 (List.elem_iff.1 (by kernel_rfl))
        simp only [e, cond_true] at ha
        subst ha
        refine wpOp_at _ rfl fun K hK => ?_
        go_simp
        exact hK _ _ ⟨R, Z, V60, V77, by simp only [e, Nat.reduceBEq, Bool.false_or, Bool.true_or, Bool.or_true, BEq.rfl, cond_true, cond_false, Act.put, List.setIfInBounds_toArray, List.set_cons_succ, List.set_cons_zero, upd], hB, F.pure 6 (by decide) (by decide) (by decide)⟩
      refine below_succ ?_ ?_
      rotate_left
      · intro L a w hI hL hd
        obtain ⟨R, Z, V60, V77, ha, hB, F⟩ := hI
        subst ha
        refine wpOp_at _ rfl fun K hK => ?_
        go_simp
        exact hK _ _ ⟨R, Z, V60, V77, rfl, hB, F.pure 5 (by decide) (by decide) (by decide)⟩
      refine below_succ ?_ ?_
      rotate_left
      · intro L a w hI hL hd
        obtain ⟨R, Z, V60, V77, ha, hB, F⟩ := hI
        have s' := (hB.cell (p := ⟨w0.heap.size, 1, none⟩) hz0).trans s1
        have e := hd 3 (List.elem_iff.1 (by kernel_rfl))
        simp only [e, cond_true] at ha
        subst ha
        refine wpOp_at _ rfl fun K hK => ?_
        go_simp
        exact hK _ _ ⟨R, Z, V60, V77, by simp only [e, Nat.reduceBEq, Bool.false_or, Bool.true_or, Bool.or_true, BEq.rfl, cond_true, cond_false, Act.put, List.setIfInBounds_toArray, List.set_cons_succ, List.set_cons_zero, upd], hB, F.pure 4 (by decide) (by decide) (by decide)⟩
      refine below_succ ?_ ?_
      rotate_left
      · intro L a w hI hL hd
        obtain ⟨R, Z, V60, V77, ha, hB, F⟩ := hI
        subst ha
        refine wpOp_at _ rfl fun K hK => ?_
        go_simp
        exact hK _ _ ⟨R, Z, V60, V77, rfl, hB, F.pure 3 (by decide) (by decide) (by decide)⟩
      refine below_succ ?_ ?_
      rotate_left
      · intro L a w hI hL hd
        obtain ⟨R, Z, V60, V77, ha, hB, F⟩ := hI
        have s' := (hB.cell (p := ⟨w0.heap.size, 0, none⟩) hz0).trans s0
        have e := hd 1 (List.elem_iff.1 (by kernel_rfl))
        simp only [e, cond_true] at ha
        subst ha
        refine wpOp_at _ rfl fun K hK => ?_
        go_simp
        exact hK _ _ ⟨R, Z, V60, V77, by simp only [e, Nat.reduceBEq, Bool.false_or, Bool.true_or, Bool.or_true, BEq.rfl, cond_true, cond_false, Act.put, List.setIfInBounds_toArray, List.set_cons_succ, List.set_cons_zero, upd], hB, F.pure 2 (by decide) (by decide) (by decide)⟩
      refine below_succ ?_ ?_
      rotate_left
      · intro L a w hI hL hd
        obtain ⟨R, Z, V60, V77, ha, hB, F⟩ := hI
        subst ha
        refine wpOp_at _ rfl fun K hK => ?_
        go_simp
        exact hK _ _ ⟨R, Z, V60, V77, rfl, hB, F.pure 1 (by decide) (by decide) (by decide)⟩
      refine below_succ ?_ ?_
      rotate_left
      · intro L a w hI hL hd
        obtain ⟨R, Z, V60, V77, ha, hB, F⟩ := hI
        have l0' := (hB.cell (p := ⟨HL, 0, none⟩) hz).trans l0
        have l1' := (hB.cell (p := ⟨HL, 1, none⟩) hz).trans l1
        subst ha
        refine wpOp_at _ rfl fun K hK => ?_
        go_simp
        exact hK _ _ ⟨R, Z, V60, V77, rfl, hB, F.pure 0 (by decide) (by decide) (by decide)⟩
      exact fun i hi => absurd hi (Nat.not_lt_zero i)
    case he =>
      intro L a w hall hI
      obtain ⟨R, Z, V60, V77, ha, hB, F⟩ := hI
      have a50 := hall 50 (by decide)
      have a51 := hall 51 (by decide)
      have a52 := hall 52 (by decide)
      obtain ⟨hc, H, e77, hH⟩ := F.f50 a50
      subst e77
      have hm := F.m
      rw [show (fun j => isC j && L j) = isC from funext fun j => by
        cases hj : isC j with
        | false => rfl
        | true => simp [hc j hj]] at hm
      simp only [a50, a51, a52, cond_true] at ha
      subst ha
      go_wp2
      go_meet
      exact ⟨⟨H, R, Z, rfl, hH, hm, hB⟩, rfl, rfl⟩
-- REGIONEND
  obtain ⟨⟨H, R0, Z, rfl, hH, hM, hB1⟩, rfl, rfl⟩ := hcut
  have hQ := KeepsQ.grow ⟨hba, s0, s1, s2, l0, l1, hz0, hz, hrow, hown, hlst⟩ hB1
  have hS1 := hown.lt S rfl
  have hw1 := hba.size
  clear hba s0 s1 s2 l0 l1 hz0 hz hrow hown hlst IC DC EC CC LC RC SC PC HC XS
  have hT := Lib.hid (rows_ten (r0 := sRow S xs) hM hw1 ((row_of_spare hQ.own)) (fun g o e => by cases e; exact hS1.2))
  clear hM
  replace hH := Lib.hid hH
  replace hQ := Lib.hid hQ
  replace hB1 := Lib.hid hB1
  clear hw1 hS1
  go_wp2
  go_loopw [8, 79] (fun lv iv wr => ∃ (j : Nat) (A' : Option Addr) (c' : Nat), j ≤ 9 ∧ iv = .int .i64 j ∧ lv = .slice A' (j + 1) c' ∧ Below wc.heap.size wc wr ∧ Hid (Own encR 1 68 w.heap.size wr (.slice A' (j + 1) c') (sRow S xs :: (nineR R0).take j)) ∧ Hid (j = 0 → A' = some ⟨HG, 0, none⟩ ∧ c' = 1) ∧ Hid (0 < j → Own encR 1 68 wc.heap.size wr (.slice A' (j + 1) c') (sRow S xs :: (nineR R0).take j))) (fun lv iv _ => 9 - (intOf iv).toNat)
  case atStart => exact ⟨0, _, _, by omega, rfl, rfl, Below.refl _ _, hQ.out.lst, fun _ => ⟨rfl, rfl⟩, fun h => absurd h (by omega)⟩
  case round =>
    obtain ⟨j, A', c', hj, rfl, rfl, hB, hO, hZ, hP⟩ := hrel
    by_cases hlt : j < 9
    · obtain ⟨r, z, h1, h2, h3⟩ := nine_at R0 Z j hlt
      have hHr := (hB.block H (heap_lt hH.out)).trans hH.out
      have hHs := heap_lt hHr
      have d0 : wr.cell? ⟨H, j * 2, none⟩ = some r.v := by rw [cell_of_blk hHr]; exact h2
      have d1 : wr.cell? ⟨H, j * 2 + 1, none⟩ = some (.int .i64 z) := by rw [cell_of_blk hHr]; exact h3
      have h1 := Lib.hid h1
      have hHr := Lib.hid hHr
      clear h2 h3
      simp only [RowD.v] at d0
      have hBh := Lib.hid hB
      clear hB
      have hj1 := Lib.hid (show (nineR R0).take j ++ [r] = (nineR R0).take (j + 1) by rw [List.take_add_one, h1.out]; rfl)
      have hl := Lib.hid (show (sRow S xs :: (nineR R0).take (j + 1)).length = j + 1 + 1 by simp [nineR_len]; omega)
      have hww := Lib.hid hQ.out.below.size
      rcases Nat.eq_zero_or_pos j with h0 | h0
      · subst h0
        obtain ⟨rfl, rfl⟩ := hZ.out rfl
        obtain ⟨inf, hi, hzr, hsize, hby⟩ := info_parts rows_info
        have hi := Lib.hid hi
        have hzr := Lib.hid hzr
        have hsize := Lib.hid hsize
        have hby := Lib.hid hby
        go_wp2_with (first
          | (at_builtin
             refine wpList_append_grows _ rfl (.tmp 83) (.tmp 86) _ rfl 68 inf _ 1 24 Try.underlying103 hi.out hzr.out hsize.out hby.out rfl (by omega) (some ⟨HG, 0, none⟩) 1 1 [(sRow S xs).v] rfl (fun h => by cases h) rfl ?_ _ 1 1 [r.v] rfl rfl ?_ (encR_one r) (by omega) (by simp [maxLen]) (by omega) ?_
             · intro b hb
               cases hb
               intro q u hq
               exact (hO.out.below (show Below wr.heap.size wr _ by (repeat' (first | (with_reducible exact Below.refl _ _) | (with_reducible refine Below.alloc ?_ ?_ _) | (with_reducible refine below_ext ?_ ?_ _) | (with_reducible refine Below.drew ?_) | (with_reducible refine below_drewN ?_ _) | (with_reducible refine Below.setCell ?_ ?_ _) | go_size | (simp only [go_sem]; omega) | (simp [go_sem]; done) | (simp [go_sem]; omega))))).cells (g := HG) rfl q u hq
             · intro q u hq
               exact (Own.new (B := 0) (e := 68) (xs := [r]) encR_len (by simp [go_sem]) rfl _ rfl (Nat.zero_le _) (by simp [maxLen])).cells rfl q u hq
             intro v' w' hown2 hgr
             have hO2 := Lib.hid (show Own encR 1 68 _ w' v' [sRow S xs, r] from hown2)
             obtain ⟨A2, c2, hv2, _, _⟩ := hO2.out.form
             subst hv2
             have hBn := Lib.hid (show Below wr.heap.size wr w' from Below.grown (by (repeat' (first | (with_reducible exact Below.refl _ _) | (with_reducible refine Below.alloc ?_ ?_ _) | (with_reducible refine below_ext ?_ ?_ _) | (with_reducible refine Below.drew ?_) | (with_reducible refine below_drewN ?_ _) | (with_reducible refine Below.setCell ?_ ?_ _) | go_size | (simp only [go_sem]; omega) | (simp [go_sem]; done) | (simp [go_sem]; omega)))) hgr (by simp [go_sem]) (fun k hk => by cases hk))
             clear hgr hown2))
        go_wp2_with fail
        have hO3 := hO2.out
        rw [show [sRow S xs, r] = sRow S xs :: (nineR R0).take (0 + 1) by rw [← hj1.out]; rfl] at hO3
        exact ⟨⟨0 + 1, A2, c2, by omega, by go_num, rfl, hBh.out.trans (hBn.out.mono hBh.out.size), hO3.mono (by have := hBh.out.size; have := hww.out; simp [go_sem]; omega), fun h => absurd h (by omega), fun _ => hO3.mono (by have := hBh.out.size; simp [go_sem]; omega)⟩, by simp [intOf]⟩
      · go_wp2_with (first
          | (at_builtin
             refine append_rd (U := wc) (.tmp 83) (.tmp 86) _ 68 _ 24 rfl rfl Try.underlying103 rows_info rfl (by omega) encR_len encR_one (sRow S xs :: (nineR R0).take j) [r] _ _ _ rfl rfl ?_ ((hP.out h0).below ?_) ?_ ?_ ?_ ?_
             · exact hBh.out.trans (Below.mono (by (repeat' (first | (with_reducible exact Below.refl _ _) | (with_reducible refine Below.alloc ?_ ?_ _) | (with_reducible refine below_ext ?_ ?_ _) | (with_reducible refine Below.drew ?_) | (with_reducible refine below_drewN ?_ _) | (with_reducible refine Below.setCell ?_ ?_ _) | go_size | (simp only [go_sem]; omega) | (simp [go_sem]; done) | (simp [go_sem]; omega)))) hBh.out.size)
             · (repeat' (first | (with_reducible exact Below.refl _ _) | (with_reducible refine Below.alloc ?_ ?_ _) | (with_reducible refine below_ext ?_ ?_ _) | (with_reducible refine Below.drew ?_) | (with_reducible refine below_drewN ?_ _) | (with_reducible refine Below.setCell ?_ ?_ _) | go_size | (simp only [go_sem]; omega) | (simp [go_sem]; done) | (simp [go_sem]; omega)))
             · exact (Own.new (B := 0) (e := 68) (xs := [r]) encR_len (by simp [go_sem]) rfl _ rfl (Nat.zero_le _) (by simp [maxLen])).rd encR_len
             · simp [maxLen, nineR_len]; omega
             · simp [nineR_len]; omega
             intro A2 c2 x3 zs hz hO2
             obtain rfl : zs = sRow S xs :: (nineR R0).take (j + 1) := by rw [hz, ← hj1.out]; rfl
             rw [hl.out] at hO2
             have hO2 := Lib.hid hO2
             clear hz))
        go_wp2_with fail
        exact ⟨⟨j + 1, A2, c2, by omega, by go_num, by simp only [nineR_len, List.length_cons, List.length_take]; rw [Nat.min_eq_left (by omega)], below_of_ext _ _, hO2.out.mono hww.out, fun h => absurd h (by omega), fun _ => hO2.out⟩, by simp [intOf]; omega⟩
    · obtain rfl : j = 9 := by omega
      rw [List.take_of_length_le (by rw [nineR_len]; exact Nat.le_refl _)] at hO
      have hQc := hQ
      have hcz := hB
      have hQ := Lib.hid (hQ.out.grow hB)
      have hT := Lib.hid (And.intro (hT.out.1.below hB) hT.out.2)
      have hO9 := hP.out (by omega)
      rw [List.take_of_length_le (by rw [nineR_len]; exact Nat.le_refl _)] at hO9
      have hO9 := Lib.hid hO9
      clear hB hB1 hH hO hP hZ
      generalize wr = wz at *
      have CU := Lib.hid (fun w' (h : Rd encC 3 w' (some ⟨S, 0, none⟩) xs) => show Calls Try.prog 47 #[lineV (some ⟨S, 0, none⟩) xs.length (xs.length + 9) 0, .int .i64 f, .int .i64 t] w' (CutR w') from (cut_l (some ⟨S, 0, none⟩) (xs.length + 9) 0 xs f t w' h (by simp) (by have := hx.out; omega) hf2.out).mono fun _ _ h => cutR_of h (by have := hx.out; omega))
      have XS := Lib.hid hQ.out.rd
      have hbz := hQ.out.below.size
      clear hQ
      obtain ⟨-, s0, s1, -, l0, l1, hzc0, hzc, -, -, -⟩ := hQc.out
-- R13
      go_upto_region 13 with (fail)
      generalize w = w0 at *
      generalize Value.slice A' (9 + 1) c' = LST at hO9 ⊢
      generalize Value.int .i64 ((9 : Nat) : Int) = V79
      refine wp_region_inv (by kernel_rfl) (by kernel_rfl) (Keeps13I _ _ _ _ _ _ _ _ _ _ _ _ _ _ _ _ _ _ _ _ _ _ _ _ _ _ _ _ _ _ _ _ _ _ _ _ _ _ _ _ _ _ _ _ _ _ _ _ _ _ _ _ _ _ _ _ _ _ _ _ _ _ _ _ _ _ _ _ _ _ _ _ _ _ _ _ _ _ _ _ _ _ _ _ _ _ _ _ LST (.agg #[.slice (some ⟨S, 0, none⟩) xs.length (xs.length + 9), .int .i64 0]) (.pointer (some ⟨w0.heap.size, 0, none⟩)) (.int .i64 f) (.pointer (some ⟨w0.heap.size, 1, none⟩)) (.int .i64 t) w0.heap.size wc wz (sRow S xs :: nineR R0)) ⟨fun _ => ⟨none, 0, 0⟩, undef, undef, rfl, K13.start _ _ _ _ _ hcz⟩ ?hs ?he
      case hs =>
        show ∀ i, i < 16 → _
        refine below_succ ?_ ?_
        rotate_left
        · intro L a w hI hL hd
          obtain ⟨q, V102, V103, ha, F⟩ := hI
          have e14 := hd 14 (List.elem_iff.1 (by kernel_rfl))
          simp only [e14, cond_true] at ha
          subst ha
          refine wpOp_at _ rfl fun K hK => ?_
          go_simp
          exact hK _ _ ⟨q, V102, _, by simp only [hL, e14, Nat.reduceAdd, Nat.reduceBEq, Bool.false_or, Bool.true_or, Bool.or_true, BEq.rfl, cond_true, cond_false, Act.put, List.setIfInBounds_toArray, List.set_cons_succ, List.set_cons_zero, upd], F.fin e14⟩
        refine below_succ ?_ ?_
        rotate_left
        · intro L a w hI hL hd
          obtain ⟨q, V102, V103, ha, F⟩ := hI
          have e0 := hd 0 (List.elem_iff.1 (by kernel_rfl))
          have e13 := hd 13 (List.elem_iff.1 (by kernel_rfl))
          have e15 := F.no15 hL
          simp only [e0, e13, e15, cond_true, cond_false] at ha
          obtain ⟨hBz, hm⟩ := F.pre hL
          obtain ⟨e6, e12, hH⟩ := F.f13 e13
          obtain ⟨H2, rfl, hr2⟩ := hH hL
          subst ha
          refine wpOp_at _ rfl fun K hK => ?_
          refine step_append_far (U := wc) (.tmp 89) (.tmp 102) 103 68 _ 24 rfl rfl Try.underlying103 rows_info rfl (by omega) encR_len encR_one (sRow S xs :: nineR R0) [q 6, q 12] _ _ 2 rfl rfl F.bc (hO9.out.below (hBz)) hr2 (by simp [maxLen, nineR_len]) (by simp [nineR_len]) ?_
          intro A2 c2 x3 zs hz hO2 hF hG
          subst hz
          exact hK _ _ ⟨q, _, _, (by dsimp only [Act.put]; simp only [hL, e0, e13, e15, Nat.reduceAdd, Nat.reduceBEq, Bool.false_or, Bool.true_or, Bool.or_true, BEq.rfl, cond_true, cond_false, Act.put, List.setIfInBounds_toArray, List.set_cons_succ, List.set_cons_zero, upd]; rfl), F.app hL e0 e13 hT.out.1 hbz (hO9.out.below hBz) (below_of_ext _ _) hO2 hG⟩
        refine below_succ ?_ ?_
        rotate_left
        · intro L a w hI hL hd
          obtain ⟨q, V102, V103, ha, F⟩ := hI
          have e6 := hd 6 (List.elem_iff.1 (by kernel_rfl))
          have e12 := hd 12 (List.elem_iff.1 (by kernel_rfl))
          simp only [e6, e12, cond_true] at ha
          subst ha
          refine wpOp_at _ rfl fun K hK => ?_
          go_simp
          have hb : Below w.heap.size w (w.alloc (.cells #[(q 6).v, (q 12).v] 68)) := (Below.refl _ _).alloc (Nat.le_refl _) _
          exact hK _ _ ⟨q, .slice (some ⟨w.heap.size, 0, none⟩) 2 2, V103, by simp only [hL, e6, e12, Nat.reduceAdd, Nat.reduceBEq, Bool.false_or, Bool.true_or, Bool.or_true, BEq.rfl, cond_true, cond_false, Act.put, List.setIfInBounds_toArray, List.set_cons_succ, List.set_cons_zero, upd], F.lits hL e6 e12 hb ((Own.new (B := 0) (e := 68) (xs := [q 6, q 12]) encR_len (by simp [go_sem]) rfl _ rfl (Nat.zero_le _) (by simp [maxLen])).rd encR_len)⟩
        refine below_succ ?_ ?_
        rotate_left
        · intro L a w hI hL hd
          obtain ⟨q, V102, V103, ha, F⟩ := hI
          have e7 := hd 7 (List.elem_iff.1 (by kernel_rfl))
          have e9 := hd 9 (List.elem_iff.1 (by kernel_rfl))
          have e11 := hd 11 (List.elem_iff.1 (by kernel_rfl))
          simp only [e7, e9, e11, cond_true] at ha
          subst ha
          refine wpOp_at _ rfl fun K hK => ?_
          obtain ⟨hBz, hm⟩ := F.pre (F.no14 (F.no13 (.inr hL)))
          go_simp
          go_at_call 47
          refine (CU.out _ (XS.out.below hBz)).mono ?_
          rintro _ _ ⟨r, x, rfl, rfl, hr, hn9⟩
          dsimp only
          have hb : Below w.heap.size w (ext w x) := below_of_ext w x
          exact hK _ _ ⟨upd q 12 r, V102, V103, by simp only [hL, e7, e9, e11, Nat.reduceAdd, Nat.reduceBEq, Bool.false_or, Bool.true_or, Bool.or_true, BEq.rfl, cond_true, cond_false, Act.put, List.setIfInBounds_toArray, List.set_cons_succ, List.set_cons_zero, upd], F.call hcz 12 (by decide) hL hb hr hn9⟩
        refine below_succ ?_ ?_
        rotate_left
        · intro L a w hI hL hd
          obtain ⟨q, V102, V103, ha, F⟩ := hI
          have e10 := hd 10 (List.elem_iff.1 (by kernel_rfl))
          have s' := (F.bc.cell (p := ⟨w0.heap.size, 1, none⟩) hzc0).trans s1
          simp only [e10, cond_true] at ha
          subst ha
          refine wpOp_at _ rfl fun K hK => ?_
          go_simp
          exact hK _ _ ⟨q, V102, V103, by simp only [hL, e10, Nat.reduceAdd, Nat.reduceBEq, Bool.false_or, Bool.true_or, Bool.or_true, BEq.rfl, cond_true, cond_false, Act.put, List.setIfInBounds_toArray, List.set_cons_succ, List.set_cons_zero, upd], F.pure 11 (by decide) (by decide) (by decide) (by decide) (by decide)⟩
        refine below_succ ?_ ?_
        rotate_left
        · intro L a w hI hL hd
          obtain ⟨q, V102, V103, ha, F⟩ := hI
          subst ha
          refine wpOp_at _ rfl fun K hK => ?_
          go_simp
          exact hK _ _ ⟨q, V102, V103, rfl, F.pure 10 (by decide) (by decide) (by decide) (by decide) (by decide)⟩
        refine below_succ ?_ ?_
        rotate_left
        · intro L a w hI hL hd
          obtain ⟨q, V102, V103, ha, F⟩ := hI
          have e8 := hd 8 (List.elem_iff.1 (by kernel_rfl))
          have s' := (F.bc.cell (p := ⟨w0.heap.size, 0, none⟩) hzc0).trans s0
          simp only [e8, cond_true] at ha
          subst ha
          refine wpOp_at _ rfl fun K hK => ?_
          go_simp
          exact hK _ _ ⟨q, V102, V103, by simp only [hL, e8, Nat.reduceAdd, Nat.reduceBEq, Bool.false_or, Bool.true_or, Bool.or_true, BEq.rfl, cond_true, cond_false, Act.put, List.setIfInBounds_toArray, List.set_cons_succ, List.set_cons_zero, upd], F.pure 9 (by decide) (by decide) (by decide) (by decide) (by decide)⟩
        refine below_succ ?_ ?_
        rotate_left
        · intro L a w hI hL hd
          obtain ⟨q, V102, V103, ha, F⟩ := hI
          subst ha
          refine wpOp_at _ rfl fun K hK => ?_
          go_simp
          exact hK _ _ ⟨q, V102, V103, rfl, F.pure 8 (by decide) (by decide) (by decide) (by decide) (by decide)⟩
        refine below_succ ?_ ?_
        rotate_left
        · intro L a w hI hL hd
          obtain ⟨q, V102, V103, ha, F⟩ := hI
          have l0' := (F.bc.cell (p := ⟨HL, 0, none⟩) hzc).trans l0
          have l1' := (F.bc.cell (p := ⟨HL, 1, none⟩) hzc).trans l1
          subst ha
          refine wpOp_at _ rfl fun K hK => ?_
          go_simp
          exact hK _ _ ⟨q, V102, V103, rfl, F.pure 7 (by decide) (by decide) (by decide) (by decide) (by decide)⟩
        refine below_succ ?_ ?_
        rotate_left
        · intro L a w hI hL hd
          obtain ⟨q, V102, V103, ha, F⟩ := hI
          have e1 := hd 1 (List.elem_iff.1 (by kernel_rfl))
          have e3 := hd 3 (List.elem_iff.1 (by kernel_rfl))
          have e5 := hd 5 (List.elem_iff.1 (by kernel_rfl))
          simp only [e1, e3, e5, cond_true] at ha
          subst ha
          refine wpOp_at _ rfl fun K hK => ?_
          obtain ⟨hBz, hm⟩ := F.pre (F.no14 (F.no13 (.inl hL)))
          go_simp
          go_at_call 47
          refine (CU.out _ (XS.out.below hBz)).mono ?_
          rintro _ _ ⟨r, x, rfl, rfl, hr, hn9⟩
          dsimp only
          have hb : Below w.heap.size w (ext w x) := below_of_ext w x
          exact hK _ _ ⟨upd q 6 r, V102, V103, by simp only [hL, e1, e3, e5, Nat.reduceAdd, Nat.reduceBEq, Bool.false_or, Bool.true_or, Bool.or_true, BEq.rfl, cond_true, cond_false, Act.put, List.setIfInBounds_toArray, List.set_cons_succ, List.set_cons_zero, upd], F.call hcz 6 (by decide) hL hb hr hn9⟩
        refine below_succ ?_ ?_
        rotate_left
        · intro L a w hI hL hd
          obtain ⟨q, V102, V103, ha, F⟩ := hI
          have e4 := hd 4 (List.elem_iff.1 (by kernel_rfl))
          have s' := (F.bc.cell (p := ⟨w0.heap.size, 1, none⟩) hzc0).trans s1
          simp only [e4, cond_true] at ha
          subst ha
          refine wpOp_at _ rfl fun K hK => ?_
          go_simp
          exact hK _ _ ⟨q, V102, V103, by simp only [hL, e4, Nat.reduceAdd, Nat.reduceBEq, Bool.false_or, Bool.true_or, Bool.or_true, BEq.rfl, cond_true, cond_false, Act.put, List.setIfInBounds_toArray, List.set_cons_succ, List.set_cons_zero, upd], F.pure 5 (by decide) (by decide) (by decide) (by decide) (by decide)⟩
        refine below_succ ?_ ?_
        rotate_left
        · intro L a w hI hL hd
          obtain ⟨q, V102, V103, ha, F⟩ := hI
          subst ha
          refine wpOp_at _ rfl fun K hK => ?_
          go_simp
          exact hK _ _ ⟨q, V102, V103, rfl, F.pure 4 (by decide) (by decide) (by decide) (by decide) (by decide)⟩
        refine below_succ ?_ ?_
        rotate_left
        · intro L a w hI hL hd
          obtain ⟨q, V102, V103, ha, F⟩ := hI
          have e2 := hd 2 (List.elem_iff.1 (by kernel_rfl))
          have s' := (F.bc.cell (p := ⟨w0.heap.size, 0, none⟩) hzc0).trans s0
          simp only [e2, cond_true] at ha
          subst ha
          refine wpOp_at _ rfl fun K hK => ?_
          go_simp
          exact hK _ _ ⟨q, V102, V103, by simp only [hL, e2, Nat.reduceAdd, Nat.reduceBEq, Bool.false_or, Bool.true_or, Bool.or_true, BEq.rfl, cond_true, cond_false, Act.put, List.setIfInBounds_toArray, List.set_cons_succ, List.set_cons_zero, upd], F.pure 3 (by decide) (by decide) (by decide) (by decide) (by decide)⟩
        refine below_succ ?_ ?_
        rotate_left
        · intro L a w hI hL hd
          obtain ⟨q, V102, V103, ha, F⟩ := hI
          subst ha
          refine wpOp_at _ rfl fun K hK => ?_
          go_simp
          exact hK _ _ ⟨q, V102, V103, rfl, F.pure 2 (by decide) (by decide) (by decide) (by decide) (by decide)⟩
        refine below_succ ?_ ?_
        rotate_left
        · intro L a w hI hL hd
          obtain ⟨q, V102, V103, ha, F⟩ := hI
          have l0' := (F.bc.cell (p := ⟨HL, 0, none⟩) hzc).trans l0
          have l1' := (F.bc.cell (p := ⟨HL, 1, none⟩) hzc).trans l1
          subst ha
          refine wpOp_at _ rfl fun K hK => ?_
          go_simp
          exact hK _ _ ⟨q, V102, V103, rfl, F.pure 1 (by decide) (by decide) (by decide) (by decide) (by decide)⟩
        refine below_succ ?_ ?_
        rotate_left
        · intro L a w hI hL hd
          obtain ⟨q, V102, V103, ha, F⟩ := hI
          have e15 := F.no15' hL
          simp only [e15, cond_true, cond_false] at ha
          subst ha
          refine wpOp_at _ rfl fun K hK => ?_
          go_simp
          exact hK _ _ ⟨q, V102, V103, by simp only [hL, e15, Nat.reduceAdd, Nat.reduceBEq, Bool.false_or, Bool.true_or, Bool.or_true, BEq.rfl, cond_true, cond_false, Act.put, List.setIfInBounds_toArray, List.set_cons_succ, List.set_cons_zero, upd], F.pure 0 (by decide) (by decide) (by decide) (by decide) (by decide)⟩
        exact fun i hi => absurd hi (Nat.not_lt_zero i)
      case he =>
        intro L a w hall hI
        obtain ⟨q, V102, V103, ha, F⟩ := hI
        have a14 := hall 14 (by decide)
        have a15 := hall 15 (by decide)
        obtain ⟨-, -, A2, c2, rfl, hO2, hR2, hn6, hn12⟩ := F.f14 a14
        have hbc := F.bc
        simp only [a15, cond_true] at ha
        subst ha
        clear F hall
        have hlen : (sRow S xs :: nineR R0 ++ [q 6, q 12]).length ≤ 20 := by simp [nineR_len]
        have hne : sRow S xs :: nineR R0 ++ [q 6, q 12] ≠ [] := by simp
        have hrn : ∀ r ∈ sRow S xs :: nineR R0 ++ [q 6, q 12], r.n ≤ 9000 := by
          intro r hr
          simp only [List.mem_append, List.mem_cons, List.not_mem_nil, or_false] at hr
          rcases hr with (rfl | hr) | rfl | rfl
          · have := hx.out; simp only [sRow]; omega
          · exact hT.out.2 r hr
          · exact hn6
          · exact hn12
        obtain ⟨G, rfl, hL2, hG2⟩ := list_at hO2 hne
        have hQ9 := hQc.out.grow hbc
        have hxr := Lib.hid hQ9.row
        have hsr := Lib.hid (hQ9.own.rd encC_len)
        have hbe := hQ9.below
        have hlt9 := hO2.lt G rfl
        clear hO2 hQ9 hne hn6 hn12
        generalize sRow S xs :: nineR R0 ++ [q 6, q 12] = rows at *
        have hAp := Lib.hid (And.intro hlen (And.intro hrn (And.intro hL2 (And.intro hR2 (And.intro hG2 hlt9)))))
        have hsl := Lib.hid (spare_len xs)
        clear hlen hrn hL2 hR2 hG2 hlt9
        replace hbe := Lib.hid hbe
        clear hT hbz hO9 hzc0 hzc hQc s0 s1 l0 l1 XS CU hbc hcz
        go_wp2_with (first
          | (go_at_call 75
             (with_reducible refine (kept_c (some ⟨S, 0, none⟩) A (xs.length + 9) c0 xs _ (by repeat (first | exact hsr.out | exact hsr | refine Rd.ext ?_ _ | refine Rd.alloc ?_ _ | refine Rd.drew ?_)) (by repeat (first | exact hxr.out | exact hxr | refine Rd.ext ?_ _ | refine Rd.alloc ?_ _ | refine Rd.drew ?_)) (by have := hx.out; omega)).mono ?_)
             rintro _ _ hgets
             obtain ⟨rfl, y1, rfl⟩ := hgets.get
             clear hgets)
          | (go_at_call 76
             (with_reducible refine (apart_x (base := w0.heap.size) _ hAp.out.2.2.1 hAp.out.2.2.2.1 hAp.out.2.2.2.2.1 hbe.out.size hAp.out.2.2.2.2.2.2 hAp.out.1 hAp.out.2.1 _).mono ?_)
             rintro _ w9 ⟨rfl, hb9⟩
             replace hb9 := Lib.hid hb9))
        go_ret
        exact ⟨rfl, hbe.out.trans (Below.trans ((below_of_ext _ _).mono hbe.out.size) hb9.out)⟩
-- R13END
end Go.Proofs.Ytdlngbmgcedbpaa
