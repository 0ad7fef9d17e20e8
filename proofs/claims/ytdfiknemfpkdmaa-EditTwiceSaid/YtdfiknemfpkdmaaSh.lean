/- phosphorlaw14.Sheet: the walk.  -/
import Derived.Test.YtdfiknemfpkdmaaShA
import Derived.IntWalk
namespace Go.Proofs.Ytdfiknemfpkdmaa
open Go.RowKit
set_option linter.unusedVariables false
set_option linter.unusedSimpArgs false

def SheetR (b : BgD) (w : World) (e : Ending) (w' : World) : Prop := ∃ p F A c, e = .returned (.tuple #[.pointer (some ⟨p, 0, none⟩), .agg #[.slice A (begM b) c, .int .i64 (begN b), .int .i64 b.cu.row, .int .i64 b.cu.col, .int .u8 b.cu.rd, .bool b.cu.kp, .bool b.cu.wp, .bool b.cu.og, .int .i64 b.cu.a, .int .i64 b.cu.b, .int .i64 b.cu.c, .int .i64 b.cu.d, .int .i64 b.cu.l, .int .i64 b.cu.r, .int .i64 b.cu.s, .int .i64 b.m.t, .int .i64 b.m.l, .int .i64 b.m.b, .int .i64 b.m.r]]) ∧
  Below w.heap.size w w' ∧ PageAt w' F p (begS b) ∧ RefAt w' (fun x => F x ∨ x < w.heap.size) (.agg #[.slice A (begM b) c, .int .i64 (begN b)]) (begS b) ∧ ∀ x, F x → w.heap.size ≤ x
set_option maxRecDepth 100000 in
set_option maxHeartbeats 16000000 in
theorem sheet_c (b : BgD) (w : World) (h : b.Ok w) : Calls Try.prog 9 #[b.v] w (SheetR b w) := by
  obtain ⟨hm1, hm2, hm⟩ := begM_in b
  obtain ⟨hn1, hn2, hn⟩ := begN_in b
  have hmS := Lib.hid (rfl : begM b = begM b)
  obtain ⟨rows, cols, sa, sc, ss, ta, tc, ts, ⟨row, col, rd, kp, wp, og, a, b', c, d, l, r, s⟩, ⟨mt, ml, mb, mr⟩⟩ := b
  generalize hB : (⟨rows, cols, sa, sc, ss, ta, tc, ts, ⟨row, col, rd, kp, wp, og, a, b', c, d, l, r, s⟩, ⟨mt, ml, mb, mr⟩⟩ : BgD) = B at *
  have hBv : B.v = .agg #[.int .i64 rows, .int .i64 cols, .slice sa ss.length sc, .slice ta ts.length tc, .int .i64 row, .int .i64 col, .int .u8 rd, .bool kp, .bool wp, .bool og, .int .i64 a, .int .i64 b', .int .i64 c, .int .i64 d, .int .i64 l, .int .i64 r, .int .i64 s, .int .i64 mt, .int .i64 ml, .int .i64 mb, .int .i64 mr] := by subst hB; rfl
  have hBr : B.rows = rows := by subst hB; rfl
  have hBc : B.cols = cols := by subst hB; rfl
  have hBa : B.cells.toArray = #[.int .i64 rows, .int .i64 cols, .slice sa ss.length sc, .slice ta ts.length tc, .int .i64 row, .int .i64 col, .int .u8 rd, .bool kp, .bool wp, .bool og, .int .i64 a, .int .i64 b', .int .i64 c, .int .i64 d, .int .i64 l, .int .i64 r, .int .i64 s, .int .i64 mt, .int .i64 ml, .int .i64 mb, .int .i64 mr] := by subst hB; rfl
  have hBt : B.ts = ts := by subst hB; rfl
  have hBs : B.ss = ss := by subst hB; rfl
  have hBcu : SheetR B w = fun e w' => ∃ p F A k, e = .returned (.tuple #[.pointer (some ⟨p, 0, none⟩), .agg #[.slice A (begM B) k, .int .i64 (begN B), .int .i64 row, .int .i64 col, .int .u8 rd, .bool kp, .bool wp, .bool og, .int .i64 a, .int .i64 b', .int .i64 c, .int .i64 d, .int .i64 l, .int .i64 r, .int .i64 s, .int .i64 mt, .int .i64 ml, .int .i64 mb, .int .i64 mr]]) ∧ Below w.heap.size w w' ∧ PageAt w' F p (begS B) ∧ RefAt w' (fun x => F x ∨ x < w.heap.size) (.agg #[.slice A (begM B) k, .int .i64 (begN B)]) (begS B) ∧ ∀ x, F x → w.heap.size ≤ x := by subst hB; rfl
  have hall := Lib.hid (begJ_all B)
  have hOS := Lib.hid h.ss
  have hOT := Lib.hid h.ts
  have hts := Lib.hid h.to'
  have hsl := h.sl
  have hsm := h.sm
  have htl := h.tl
  have htm := h.tm
  simp only [maxLen] at hsm htm
  rw [hBv]
  rw [hBr] at hm
  rw [hBc] at hn
  have CM := Lib.hid (fun w' => (by have := clamp_l rows 1 8 w'; rwa [hm] at this : Calls Try.prog 20 #[.int .i64 rows, .int .i64 1, .int .i64 8] w' (Gives w' (.int .i64 (begM B)))))
  have CN := Lib.hid (fun w' => (by have := clamp_l cols 1 9 w'; rwa [hn] at this : Calls Try.prog 20 #[.int .i64 cols, .int .i64 1, .int .i64 9] w' (Gives w' (.int .i64 (begN B)))))
  have hz : resizeS ⟨[], 0⟩ (begM B) (begN B) = begJ B.ts B.ss (begM B) (begN B) 0 := (begJ_zero (by unfold dimN; omega) (by unfold dimN; omega)).symm
  have NR := Lib.hid (fun w' => (by have := refnew_c (begM B) (begN B) w'; rwa [hz] at this : Calls Try.prog 31 #[.int .i64 (begM B), .int .i64 (begN B)] w' (NewRef (begJ B.ts B.ss (begM B) (begN B) 0) w')))
  rw [hBt, hBs] at NR hall
  have hsa : B.sa = sa := by subst hB; rfl
  have hta : B.ta = ta := by subst hB; rfl
  have hsc : B.sc = sc := by subst hB; rfl
  have htc : B.tc = tc := by subst hB; rfl
  rw [hBs, hsa] at hOS
  rw [hBt, hta] at hOT
  rw [hBt] at hts
  rw [hBs, hsc] at hsl
  rw [hBt, htc] at htl
  rw [hsc] at hsm
  rw [htc] at htm
  rw [hBcu]
  have hBT := Lib.hid hBt
  have hBS := Lib.hid hBs
  have hBA := Lib.hid hBa
  clear hm hn hz hBt hBs hBa hB hBv hBr hBc hBcu hsa hta hsc htc h hmS
  go_enter Try.func9, Try.ntmps9
  go_upto_region 1 with fail
  go_cut [4] (fun v wr => ∃ (HW L0 c0 : Nat) (rows1 : List RowM), v = .pointer (some ⟨HW, 0, none⟩) ∧ Hid (Bg w wr wr.heap.size w.heap.size (w.heap.size + 1) HW B L0 c0 (.slice (some ⟨L0, 0, none⟩) (begM B) c0) rows1 rows1 0 (begJ ts ss (begM B) (begN B) 0)))
  case first =>
   as_aux_lemma =>
    go_region_held3 (fun w' => w'.cell? ⟨w.heap.size, 0, none⟩ = some (.int .i64 rows) ∧ w'.cell? ⟨w.heap.size, 1, none⟩ = some (.int .i64 cols)) ((refine ⟨?_, ?_⟩ <;> simp [go_sem])) ((first
      | (go_at_call 20; ((with_reducible refine (CM.out _).mono ?_); rintro _ _ hgets; obtain ⟨rfl, x1, rfl⟩ := hgets.get; clear hgets))
      | (go_at_call 20; ((with_reducible refine (CN.out _).mono ?_); rintro _ _ hgets; obtain ⟨rfl, x2, rfl⟩ := hgets.get; clear hgets))
      | ((go_at_call 31); (with_reducible refine (NR.out _).mono ?_); (rintro _ _ hp); (obtain ⟨L0, c0, rows1, x3, rfl, rfl, hl1, hv1, hf1⟩ := hp.some begJ_len hm1); clear hp; (replace hl1 := Lib.hid hl1); (replace hv1 := Lib.hid hv1); (replace hf1 := Lib.hid hf1))))
    all_goals
      go_wp2
      refine Met.intro ?_
      go_step
      (repeat apply Exists.intro)
      refine ⟨?_, rfl⟩
      refine ⟨_, L0, c0, rows1, rfl, Lib.hid ?_⟩
      have hf2 : ∀ x, foot (.slice (some ⟨L0, 0, none⟩) (begM B) c0) rows1 x → w.heap.size ≤ x := fun x hx => by have := hf1.out x hx; simp at this; omega
      refine Bg.start ?_ ?_ hBA.out ?_ ?_ ?_ hv1.out hf2 (by omega) (by omega) ?_ (by omega) ?_ ?_
      · (repeat' (first | (with_reducible exact Below.refl _ _) | (with_reducible refine Below.alloc ?_ ?_ _) | (with_reducible refine below_ext ?_ ?_ _) | (with_reducible refine Below.drew ?_) | (with_reducible refine below_drewN ?_ _) | (with_reducible refine Below.setCell ?_ ?_ _) | go_size | (simp only [go_sem]; omega) | (simp [go_sem]; done) | (simp [go_sem]; omega)))
      · (repeat (first | ((with_reducible refine heap_at _ _ ?_); (focus (first | rfl | (simp [go_sem]; done) | (simp [go_sem]; omega)))) | ((with_reducible refine (heap_old _ _ ?_).trans ?_); (focus (first | (simp [go_sem]; done) | (simp [go_sem]; omega)))) | ((with_reducible refine (block_ext _ _ ?_).trans ?_); (focus (first | (simp [go_sem]; done) | (simp [go_sem]; omega)))) | ((with_reducible refine (heap_drew _ _).trans ?_))))
      · unfold zero14; (repeat (first | ((with_reducible refine heap_at _ _ ?_); (focus (first | rfl | (simp [go_sem]; done) | (simp [go_sem]; omega)))) | ((with_reducible refine (heap_old _ _ ?_).trans ?_); (focus (first | (simp [go_sem]; done) | (simp [go_sem]; omega)))) | ((with_reducible refine (block_ext _ _ ?_).trans ?_); (focus (first | (simp [go_sem]; done) | (simp [go_sem]; omega)))) | ((with_reducible refine (heap_drew _ _).trans ?_))))
      · (repeat (first | ((with_reducible refine heap_at _ _ ?_); (focus (first | rfl | (simp [go_sem]; done) | (simp [go_sem]; omega)))) | ((with_reducible refine (heap_old _ _ ?_).trans ?_); (focus (first | (simp [go_sem]; done) | (simp [go_sem]; omega)))) | ((with_reducible refine (block_ext _ _ ?_).trans ?_); (focus (first | (simp [go_sem]; done) | (simp [go_sem]; omega)))) | ((with_reducible refine (heap_drew _ _).trans ?_))))
      · first | ((refine hl1.out.grow ?_); (focus ((repeat' (first | (with_reducible exact Below.refl _ _) | (with_reducible refine Below.alloc ?_ ?_ _) | (with_reducible refine below_ext ?_ ?_ _) | (with_reducible refine Below.drew ?_) | (with_reducible refine below_drewN ?_ _) | (with_reducible refine Below.setCell ?_ ?_ _) | go_size | (simp only [go_sem]; omega) | (simp [go_sem]; done) | (simp [go_sem]; omega))); done))) | ((refine lns_var (H := w.heap.size + 1 + 1 + x1.sz + x2.sz) (v0 := .slice (some ⟨L0, 0, none⟩) (begM B) c0) (v1 := .int .i64 (begJ ts ss (begM B) (begN B) 0).cols) hl1.out (fun x hx => ?_) ?_); (focus (have := hf1.out x hx; simp at this; omega)); (focus (simp [go_sem]; done))) | ((refine lns_var (H := w.heap.size + 1 + 1 + x1.sz) (v0 := .slice (some ⟨L0, 0, none⟩) (begM B) c0) (v1 := .int .i64 (begJ ts ss (begM B) (begN B) 0).cols) hl1.out (fun x hx => ?_) ?_); (focus (have := hf1.out x hx; simp at this; omega)); (focus (simp [go_sem]; done))) | ((refine lns_var (H := w.heap.size + 1 + 1) (v0 := .slice (some ⟨L0, 0, none⟩) (begM B) c0) (v1 := .int .i64 (begJ ts ss (begM B) (begN B) 0).cols) hl1.out (fun x hx => ?_) ?_); (focus (have := hf1.out x hx; simp at this; omega)); (focus (simp [go_sem]; done)))
      · simp [go_sem]; try omega
      · simp [go_sem]; try omega
      · simp [go_sem]; try omega
  obtain ⟨HW, L0, c0, rows1, rfl, hBg⟩ := hcut
  have q0 : wc.cell? ⟨HW, 0, none⟩ = some (.slice (some ⟨L0, 0, none⟩) (begM B) c0) := by rw [cell_in hBg.out.hw]; rfl
  have ql := heap_in hBg.out.hw
  go_wp2_with fail
  go_loopw [22] (fun iv wr => ∃ (i L' c' : Nat) (rows0 rows' : List RowM), i ≤ begM B ∧ iv = .int .i64 i ∧ Hid (Bg w wr wr.heap.size w.heap.size (w.heap.size + 1) HW B L0 c0 (.slice (some ⟨L', 0, none⟩) (begM B) c') rows0 rows' i (begJ ts ss (begM B) (begN B) i))) (fun iv _ => begM B - (intOf iv).toNat)
  case atStart => exact ⟨0, L0, c0, rows1, rows1, by omega, rfl, hBg⟩
  case round =>
    clear hBg q0 ql
    obtain ⟨i, L', c', rows0, rows', hi, rfl, hG⟩ := hrel
    obtain ⟨Wa, hWa⟩ : ∃ Wa, Wa = wr := ⟨_, rfl⟩
    subst hWa
    by_cases hlt : i < begM B
    · obtain ⟨⟨g, k, xs, z⟩, hr0, hrv⟩ := hG.out.fresh i (Nat.le_refl _) hlt
      simp only [RowM.val, Prod.mk.injEq] at hrv
      obtain ⟨rfl, rfl⟩ := hrv
      obtain ⟨d0, d1, _, dl⟩ := hG.out.l0.slot hr0
      obtain ⟨kc1, kc2⟩ := (hG.out.l0.row _ (List.mem_of_getElem? hr0)).cap
      simp only [RowM.sl, List.length_replicate] at d0 d1 kc1 kc2
      have e1 : decide ((i : Int) < (begM B : Int)) = true := decide_eq_true (by omega)
      have p1 : 0 ≤ (i : Int) * (begN B : Int) := Int.mul_nonneg (by omega) (by omega)
      have p2 : (i : Int) * (begN B : Int) ≤ 72 := by
        have := Nat.mul_le_mul (show i ≤ 8 by omega) hn2
        rw [← Int.natCast_mul]
        omega
      have hmx : k ≤ 9223372036854775807 := by simp only [maxLen] at kc2; omega
      clear kc2
      have hGw := hG.out.below.size
      have hNl := hG.out.lt
      go_wp2_with fail
      go_loopw [30] (fun kv wv => ∃ (kk : Nat) (r0s r1s : List RowM) (v : List Cl × Int), kk ≤ begN B ∧ kv = .int .i64 kk ∧ Hid (Bg w wv Wa.heap.size w.heap.size (w.heap.size + 1) HW B L0 c0 (.slice (some ⟨L', 0, none⟩) (begM B) c') r0s r1s (i + 1) (setRowS (begJ ts ss (begM B) (begN B) i) i v)) ∧ Hid (r0s[i]? = some ⟨g, k, xsK ts (begN B) i kk, 0⟩) ∧ Hid (v.1.length = begN B ∧ ∀ y ∈ v.1, y.ok) ∧ Hid (wv.heap[Wa.heap.size]? = some (.cells #[.slice (some ⟨g, 0, none⟩) (begN B) k, .int .i64 0] 54 (0, 0)))) (fun kv _ => begN B - (intOf kv).toNat)
      case atStart =>
        refine ⟨0, rows0, rows', (List.replicate (begN B) erC, 0), by omega, rfl, Lib.hid ?_, Lib.hid ?_, Lib.hid ?_, Lib.hid ?_⟩
        · rw [beg_self hlt]
          refine (hG.out.grow ?_).le (by omega)
          (repeat' (first | (with_reducible exact Below.refl _ _) | (with_reducible refine Below.alloc ?_ ?_ _) | (with_reducible refine below_ext ?_ ?_ _) | (with_reducible refine Below.drew ?_) | (with_reducible refine below_drewN ?_ _) | (with_reducible refine Below.setCell ?_ ?_ _) | go_size | (simp only [go_sem]; omega) | (simp [go_sem]; done) | (simp [go_sem]; omega)))
        · rw [xsK_zero]; exact hr0
        · exact ⟨by simp, fun y hy => by rw [List.eq_of_mem_replicate hy]; exact erC_ok⟩
        · (repeat (first | ((with_reducible refine heap_at _ _ ?_); (focus (first | rfl | (simp [go_sem]; done) | (simp [go_sem]; omega)))) | ((with_reducible refine (heap_old _ _ ?_).trans ?_); (focus (first | (simp [go_sem]; done) | (simp [go_sem]; omega)))) | ((with_reducible refine (block_ext _ _ ?_).trans ?_); (focus (first | (simp [go_sem]; done) | (simp [go_sem]; omega)))) | ((with_reducible refine (heap_drew _ _).trans ?_))))
      case round =>
        obtain ⟨kk, r0s, r1s, v, hk, rfl, hB1, hr1, hv, hl⟩ := hrel
        have w1 : wr.cell? ⟨HW, 1, none⟩ = some (.int .i64 (begN B)) := by rw [cell_in hB1.out.hw]; rfl
        have b3 : wr.cell? ⟨w.heap.size, 3, none⟩ = some (.slice ta ts.length tc) := by rw [cell_in hB1.out.hb, hBA.out]; rfl
        have l0c : wr.cell? ⟨Wa.heap.size, 0, none⟩ = some (.slice (some ⟨g, 0, none⟩) (begN B) k) := by rw [cell_in hl.out]; rfl
        have wl := heap_in hB1.out.hw
        have bl := heap_in hB1.out.hb
        have ll := heap_in hl.out
        by_cases hkn : kk < begN B
        · have e2 : decide ((kk : Int) < (begN B : Int)) = true := decide_eq_true (by omega)
          have t1 : ((i : Int) * (begN B : Int) + kk).toNat = i * begN B + kk := by rw [← Int.natCast_mul]; omega
          by_cases hq : i * begN B + kk < ts.length
          · as_aux_lemma =>
            have e5 : decide ((i : Int) * (begN B : Int) + kk < ts.length) = true := decide_eq_true (by rw [← Int.natCast_mul]; omega)
            obtain ⟨tb, to', rfl, tl, tcell⟩ := rune_cell (hOT.out.below hB1.out.below) hq
            go_wp2_with fail
            have p3 : 0 ≤ (i : Int) * (begN B : Int) + kk := by omega
            have p4 : (i : Int) * (begN B : Int) + kk < ts.length := by rw [← Int.natCast_mul]; omega
            have gcell := (hB1.out.l0.row _ (List.mem_of_getElem? hr1.out))
            obtain ⟨g', eg, _, gl, f0, f1, f2, ff⟩ := own_at gcell kk (by simp only; rw [xsK_len]; exact hkn)
            injection eg with eg
            injection eg with eg
            subst eg
            clear gcell
            (refine wp_region_F (S := (fun w' => w'.cell? ⟨Wa.heap.size, 0, none⟩ = some (.slice (some ⟨g, 0, none⟩) (begN B) k) ∧ w'.cell? ⟨w.heap.size, 3, none⟩ = some (.slice (some ⟨tb, to', none⟩) ts.length tc) ∧ w'.cell? ⟨tb, to' + (i * begN B + kk), none⟩ = some (.int .i32 ts[i * begN B + kk]))) 16 [false, false, false, false, false, false, false, false, false, false, false, false, false, false, false, false, false] rfl rfl (by kernel_rfl) ?_ (fun hHeld => ?_); (focus ((try dsimp only); (refine ⟨?_, ?_, ?_⟩ <;> simp [go_sem, l0c, b3, tcell, ll, bl, tl]); done)))
            ((refine AtF.take (oi := ?_) (v := ?_) 0 ?_ ?_ ?_ ?_ (Or.inl ⟨?_, ?_⟩) (by assumption) ?_; rotate_left 2; rfl; kernel_rfl; kernel_rfl; exact (fun _ _ _ h => h); rfl; (focus (intro w hSw; (try dsimp only at hSw); go_simp; (try with_reducible rfl); done)); (try simp only [Act.put, List.setIfInBounds_toArray, List.set_cons_zero, List.set_cons_succ])); (refine AtF.take (oi := ?_) (v := ?_) 1 ?_ ?_ ?_ ?_ (Or.inl ⟨?_, ?_⟩) (by assumption) ?_; rotate_left 2; rfl; kernel_rfl; kernel_rfl; exact (fun _ _ _ h => h); rfl; (focus (intro w hSw; (try dsimp only at hSw); go_simp; (try with_reducible rfl); done)); (try simp only [Act.put, List.setIfInBounds_toArray, List.set_cons_zero, List.set_cons_succ])); (refine AtF.take (oi := ?_) (v := ?_) 2 ?_ ?_ ?_ ?_ (Or.inl ⟨?_, ?_⟩) (by assumption) ?_; rotate_left 2; rfl; kernel_rfl; kernel_rfl; exact (fun _ _ _ h => h); rfl; (focus (intro w hSw; (try dsimp only at hSw); go_simp; (try with_reducible rfl); done)); (try simp only [Act.put, List.setIfInBounds_toArray, List.set_cons_zero, List.set_cons_succ])); (refine AtF.take (oi := ?_) (v := ?_) 3 ?_ ?_ ?_ ?_ (Or.inl ⟨?_, ?_⟩) (by assumption) ?_; rotate_left 2; rfl; kernel_rfl; kernel_rfl; exact (fun _ _ _ h => h); rfl; (focus (intro w hSw; (try dsimp only at hSw); go_simp; (try with_reducible rfl); done)); (try simp only [Act.put, List.setIfInBounds_toArray, List.set_cons_zero, List.set_cons_succ])); (refine AtF.take (oi := ?_) (v := ?_) 4 ?_ ?_ ?_ ?_ (Or.inl ⟨?_, ?_⟩) (by assumption) ?_; rotate_left 2; rfl; kernel_rfl; kernel_rfl; exact (fun _ _ _ h => h); rfl; (focus (intro w hSw; (try dsimp only at hSw); go_simp; (try with_reducible rfl); done)); (try simp only [Act.put, List.setIfInBounds_toArray, List.set_cons_zero, List.set_cons_succ])); (refine AtF.take (oi := ?_) (v := ?_) 5 ?_ ?_ ?_ ?_ (Or.inl ⟨?_, ?_⟩) (by assumption) ?_; rotate_left 2; rfl; kernel_rfl; kernel_rfl; exact (fun _ _ _ h => h); rfl; (focus (intro w hSw; (try dsimp only at hSw); go_simp; (try with_reducible rfl); done)); (try simp only [Act.put, List.setIfInBounds_toArray, List.set_cons_zero, List.set_cons_succ])); (refine AtF.take (oi := ?_) (v := ?_) 6 ?_ ?_ ?_ ?_ (Or.inl ⟨?_, ?_⟩) (by assumption) ?_; rotate_left 2; rfl; kernel_rfl; kernel_rfl; exact (fun _ _ _ h => h); rfl; (focus (intro w hSw; (try dsimp only at hSw); go_simp; (try with_reducible rfl); done)); (try simp only [Act.put, List.setIfInBounds_toArray, List.set_cons_zero, List.set_cons_succ])); (refine AtF.take (oi := ?_) (v := ?_) 7 ?_ ?_ ?_ ?_ (Or.inl ⟨?_, ?_⟩) (by assumption) ?_; rotate_left 2; rfl; kernel_rfl; kernel_rfl; exact (fun _ _ _ h => h); rfl; (focus (intro w hSw; (try dsimp only at hSw); go_simp; (try with_reducible rfl); done)); (try simp only [Act.put, List.setIfInBounds_toArray, List.set_cons_zero, List.set_cons_succ])); (refine AtF.take (oi := ?_) (v := ?_) 8 ?_ ?_ ?_ ?_ (Or.inl ⟨?_, ?_⟩) (by assumption) ?_; rotate_left 2; rfl; kernel_rfl; kernel_rfl; exact (fun _ _ _ h => h); rfl; (focus (intro w hSw; (try dsimp only at hSw); go_simp; (try with_reducible rfl); done)); (try simp only [Act.put, List.setIfInBounds_toArray, List.set_cons_zero, List.set_cons_succ])); (refine AtF.take (oi := ?_) (v := ?_) 9 ?_ ?_ ?_ ?_ (Or.inl ⟨?_, ?_⟩) (by assumption) ?_; rotate_left 2; rfl; kernel_rfl; kernel_rfl; exact (fun _ _ _ h => h); rfl; (focus (intro w hSw; (try dsimp only at hSw); go_simp; (try with_reducible rfl); done)); (try simp only [Act.put, List.setIfInBounds_toArray, List.set_cons_zero, List.set_cons_succ])); (refine AtF.take (oi := ?_) (v := ?_) 10 ?_ ?_ ?_ ?_ (Or.inl ⟨?_, ?_⟩) (by assumption) ?_; rotate_left 2; rfl; kernel_rfl; kernel_rfl; exact (fun _ _ _ h => h); rfl; (focus (intro w hSw; (try dsimp only at hSw); go_simp; (try with_reducible rfl); done)); (try simp only [Act.put, List.setIfInBounds_toArray, List.set_cons_zero, List.set_cons_succ])); (refine AtF.take (oi := ?_) (v := ?_) 11 ?_ ?_ ?_ ?_ (Or.inl ⟨?_, ?_⟩) (by assumption) ?_; rotate_left 2; rfl; kernel_rfl; kernel_rfl; exact (fun _ _ _ h => h); rfl; (focus (intro w hSw; (try dsimp only at hSw); go_simp; (try with_reducible rfl); done)); (try simp only [Act.put, List.setIfInBounds_toArray, List.set_cons_zero, List.set_cons_succ])); (refine AtF.take (oi := ?_) (v := ?_) 12 ?_ ?_ ?_ ?_ (Or.inl ⟨?_, ?_⟩) (by assumption) ?_; rotate_left 2; rfl; kernel_rfl; kernel_rfl; exact (fun _ _ _ h => h); rfl; (focus (intro w hSw; (try dsimp only at hSw); go_simp; (try with_reducible rfl); done)); (try simp only [Act.put, List.setIfInBounds_toArray, List.set_cons_zero, List.set_cons_succ])); (refine AtF.take (oi := ?_) (v := ?_) 13 ?_ ?_ ?_ ?_ (Or.inl ⟨?_, ?_⟩) (by assumption) ?_; rotate_left 2; rfl; kernel_rfl; kernel_rfl; exact (fun _ _ _ h => h); rfl; (focus (intro w hSw; (try dsimp only at hSw); go_simp; (try with_reducible rfl); done)); (try simp only [Act.put, List.setIfInBounds_toArray, List.set_cons_zero, List.set_cons_succ])); (refine AtF.take (oi := ?_) (v := ?_) 14 ?_ ?_ ?_ ?_ (Or.inl ⟨?_, ?_⟩) (by assumption) ?_; rotate_left 2; rfl; kernel_rfl; kernel_rfl; exact (fun _ _ _ h => h); rfl; (focus (intro w hSw; (try dsimp only at hSw); go_simp; (try with_reducible rfl); done)); (try simp only [Act.put, List.setIfInBounds_toArray, List.set_cons_zero, List.set_cons_succ])); (refine AtF.take (oi := ?_) (v := ?_) 15 ?_ ?_ ?_ ?_ (Or.inl ⟨?_, ?_⟩) (by assumption) ?_; rotate_left 2; rfl; kernel_rfl; kernel_rfl; exact (fun _ _ _ h => h); rfl; (focus (intro w hSw; (try dsimp only at hSw); go_simp; (try with_reducible rfl); done)); (try simp only [Act.put, List.setIfInBounds_toArray, List.set_cons_zero, List.set_cons_succ])))
            (refine AtF.last (oi := ?_) ?_ ?_ (fun K hK => ?_); rotate_left 1; rfl; kernel_rfl; go_simp; skip; refine hK.out _ _ ?_; clear hK K; (try simp only [Act.put, List.setIfInBounds_toArray, List.set_cons_zero, List.set_cons_succ]))
            clear hHeld
            have u3 : IntKind.u8.wrap (((i : Int) * (begN B : Int) + kk).tmod 3) = (((i * begN B + kk) % 3 : Nat) : Int) := by
              rw [← Int.natCast_mul, ← Int.natCast_add]
              generalize i * begN B + kk = q
              rw [Int.tmod_eq_emod_of_nonneg (by omega), IntWalk.u8_in _ (by omega)]
              omega
            have u5 : ((((i : Int) * (begN B : Int) + kk).tmod 5) == 0) = ((i * begN B + kk) % 5 == 0) := by
              rw [← Int.natCast_mul, ← Int.natCast_add]
              generalize i * begN B + kk = q
              rw [Int.tmod_eq_emod_of_nonneg (by omega), Bool.eq_iff_iff]
              simp only [beq_iff_eq]
              omega
            rw [u3, u5]
            obtain ⟨W3, hW3⟩ : ∃ W3, W3 = ((wr.setCell ⟨g, kk * 3, none⟩ (.int .i32 ts[i * begN B + kk])).setCell ⟨g, kk * 3 + 1, none⟩ (.int .u8 ((i * begN B + kk) % 3 : Nat))).setCell ⟨g, kk * 3 + 2, none⟩ (.bool ((i * begN B + kk) % 5 == 0)) := ⟨_, rfl⟩
            have hBN := hB1.out.put begJ_len hlt hv.out hr1.out ⟨xsK_len, xsK_ok hts.out⟩ (k := kk) (by simp only; rw [xsK_len]; exact hkn) ⟨ts[i * begN B + kk], ((i * begN B + kk) % 3 : Nat), (i * begN B + kk) % 5 == 0⟩ ⟨hts.out _ (List.getElem_mem hq), by simp only; omega, by simp only; omega⟩
            simp only at hBN
            rw [← hW3] at hBN ⊢
            obtain ⟨rN, v2, hv2, hB2⟩ := hBN
            have hg0 := (hB1.out.new0 g (.inr ⟨_, List.mem_of_getElem? hr1.out, rfl⟩)).2
            have hlN := Lib.hid (show W3.heap[Wa.heap.size]? = some (.cells #[.slice (some ⟨g, 0, none⟩) (begN B) k, .int .i64 0] 54 (0, 0)) by
              rw [hW3, Below.heap_setCell _ _ _ _ (by simp only; omega), Below.heap_setCell _ _ _ _ (by simp only; omega), Below.heap_setCell _ _ _ _ (by simp only; omega)]
              exact hl.out)
            rw [xsK_step hkn hq] at hB2
            have hsl := (List.getElem?_eq_some_iff.1 hr1.out).1
            replace hB2 := Lib.hid (hB2.grow (show Below W3.heap.size W3 W3.drew by (repeat' (first | (with_reducible exact Below.refl _ _) | (with_reducible refine Below.alloc ?_ ?_ _) | (with_reducible refine below_ext ?_ ?_ _) | (with_reducible refine Below.drew ?_) | (with_reducible refine below_drewN ?_ _) | (with_reducible refine Below.setCell ?_ ?_ _) | go_size | (simp only [go_sem]; omega) | (simp [go_sem]; done) | (simp [go_sem]; omega)))))
            replace hv2 := Lib.hid hv2
            clear hW3 u3 u5 f0 f1 f2 ff
            go_wp2_with fail
            exact ⟨⟨kk + 1, _, rN, v2, by omega, by go_num, hB2, Lib.hid (by rw [List.getElem?_set_self hsl]), hv2, hlN⟩, by simp [intOf]; omega⟩
          · have e5 : decide ((i : Int) * (begN B : Int) + kk < ts.length) = false := decide_eq_false (by rw [← Int.natCast_mul]; omega)
            go_wp2_with fail
            exact ⟨⟨kk + 1, r0s, r1s, v, by omega, by go_num, hB1, Lib.hid (by rw [xsK_skip hq]; exact hr1.out), hv, hl⟩, by simp [intOf]; omega⟩
        · as_aux_lemma =>
          obtain rfl : kk = begN B := by omega
          have e2 : decide ((begN B : Int) < (begN B : Int)) = false := by simp
          have b2 : wr.cell? ⟨w.heap.size, 2, none⟩ = some (.slice sa ss.length sc) := by rw [cell_in hB1.out.hb, hBA.out]; rfl
          have l1c : wr.cell? ⟨Wa.heap.size, 1, none⟩ = some (.int .i64 0) := by rw [cell_in hl.out]; rfl
          have lf := frozen_in (q := 1) hl.out
          have hsz0 : ¬ i < ss.length → begZ ss i = 0 := fun h => by unfold begZ; rw [dif_neg h]
          go_upto_if 65 with fail
          go_cut [] (fun wq => ∃ zz : Int, Hid (Bg w wq Wa.heap.size w.heap.size (w.heap.size + 1) HW B L0 c0 (.slice (some ⟨L', 0, none⟩) (begM B) c') r0s r1s (i + 1) (setRowS (begJ ts ss (begM B) (begN B) i) i v)) ∧ Hid (wq.heap[Wa.heap.size]? = some (.cells #[.slice (some ⟨g, 0, none⟩) (begN B) k, .int .i64 zz] 54 (0, 0))) ∧ Hid (sizeI zz = begZ ss i))
          case first =>
           as_aux_lemma =>
            by_cases his : i < ss.length
            · have e3 : decide (i < ss.length) = true := decide_eq_true his
              obtain ⟨sb, so, rfl, sl, scell⟩ := Ints.cell (hOS.out.below hB1.out.below) his
              have CZ := Lib.hid (fun w' => clamp_l ss[i] 0 3 w')
              have hz3 := Lib.hid (show sizeI (clampR ss[i] 0 3) = begZ ss i by
                have := clampR_in ss[i] (show (0 : Int) ≤ 3 by omega)
                unfold begZ sizeI
                rw [dif_pos his, if_neg (by omega)])
              generalize clampR ss[i] 0 3 = zz at CZ hz3
              go_wp2_with (go_at_call 20; ((with_reducible refine (CZ.out _).mono ?_); rintro _ _ hgets; obtain ⟨rfl, x5, rfl⟩ := hgets.get; clear hgets))
              refine Met.intro ?_
              go_step
              (repeat apply Exists.intro)
              refine ⟨⟨zz, Lib.hid ((hB1.out.var (H := Wa.heap.size) ((Keep.refl (· = Wa.heap.size) wr).set (p := ⟨Wa.heap.size, 1, none⟩) (.inl rfl) (.int .i64 zz)) (Nat.le_refl _)).grow (below_of_ext _ x5)), Lib.hid ?_, hz3⟩, rfl⟩
              refine (block_ext _ _ (by simp; omega)).trans ?_
              simp [World.setCell, Array.getElem?_modify, hl.out]
            · have e3 : decide (i < ss.length) = false := decide_eq_false his
              go_wp2_with fail
              refine Met.intro ?_
              go_step
              (repeat apply Exists.intro)
              exact ⟨⟨0, hB1, hl, Lib.hid (by rw [hsz0 his]; rfl)⟩, rfl⟩
          obtain ⟨zz, hB3, hl3, hz3⟩ := hcut
          have v0 : wc.cell? ⟨HW, 0, none⟩ = some (.slice (some ⟨L', 0, none⟩) (begM B) c') := by rw [cell_in hB3.out.hw]; rfl
          have v1 : wc.cell? ⟨HW, 1, none⟩ = some (.int .i64 (begN B)) := by rw [cell_in hB3.out.hw]; rfl
          have vf0 := frozen_in (q := 0) hB3.out.hw
          have vf1 := frozen_in (q := 1) hB3.out.hw
          have m0 : wc.cell? ⟨Wa.heap.size, 0, none⟩ = some (.slice (some ⟨g, 0, none⟩) (begN B) k) := by rw [cell_in hl3.out]; rfl
          have m1 : wc.cell? ⟨Wa.heap.size, 1, none⟩ = some (.int .i64 zz) := by rw [cell_in hl3.out]; rfl
          have vl := heap_in hB3.out.hw
          have ml' := heap_in hl3.out
          have okJ : (setRowS (begJ ts ss (begM B) (begN B) i) i v).Ok := setRowS_ok (begJ_ok hts.out (by omega) (by omega)) i hv.out.1 hv.out.2
          have hrr : RowM.At wc ⟨g, k, xsK ts (begN B) i (begN B), 0⟩ := hB3.out.l0.row _ (List.mem_of_getElem? hr1.out)
          have RS := Lib.hid (fun w' (hb : Below wc.heap.size wc w') => (by
            have h1 := refset_c (.agg #[.slice (some ⟨L', 0, none⟩) (begM B) c', .int .i64 (begN B)]) i (some ⟨g, 0, none⟩) k (xsK ts (begN B) i (begN B)) zz (RefV.grow ⟨_, r1s, rfl, hB3.out.l1, hB3.out.val⟩ hb) okJ (hrr.rd.below hb) (by rw [xsK_len]; omega)
            rw [beg_set hlt (begRow_len _ _ _ _) hz3.out, xsK_len] at h1
            exact h1 : Calls Try.prog 32 #[.agg #[.slice (some ⟨L', 0, none⟩) (begM B) c', .int .i64 (begN B)], .int .i64 i, .agg #[.slice (some ⟨g, 0, none⟩) (begN B) k, .int .i64 zz]] w' (NewRef (begJ ts ss (begM B) (begN B) (i + 1)) w')))
          clear w1 b3 l0c wl bl ll b2 l1c lf hsz0 okJ hrr hB1 hl e1 e2
          go_wp2_with ((go_at_call 32); (with_reducible refine (RS.out _ (by (repeat' (first | (with_reducible exact Below.refl _ _) | (with_reducible refine Below.alloc ?_ ?_ _) | (with_reducible refine below_ext ?_ ?_ _) | (with_reducible refine Below.drew ?_) | (with_reducible refine below_drewN ?_ _) | (with_reducible refine Below.setCell ?_ ?_ _) | go_size | (simp only [go_sem]; omega) | (simp [go_sem]; done) | (simp [go_sem]; omega))))).mono ?_); (rintro _ _ hp); (obtain ⟨L5, c5, rows5, x5, rfl, rfl, hl5, hv5, hf5⟩ := hp.some begJ_len hm1); clear hp; (replace hl5 := Lib.hid hl5); (replace hv5 := Lib.hid hv5); (replace hf5 := Lib.hid hf5))
          have hN := hB3.out.next hl5.out hv5.out hf5.out
          rw [setCell_ext wc x5 HW 0 _ vl, setCell_ext _ x5 HW 1 _ (by simpa using vl)] at hN
          exact ⟨⟨i + 1, L5, c5, r0s, rows5, by omega, by go_num, Lib.hid hN⟩, by simp [intOf]; omega⟩
    · as_aux_lemma =>
      obtain rfl : i = begM B := by omega
      have e1 : decide ((begM B : Int) < (begM B : Int)) = false := by simp
      rw [hall.out] at hG
      have v0 : Wa.cell? ⟨HW, 0, none⟩ = some (.slice (some ⟨L', 0, none⟩) (begM B) c') := by rw [cell_in hG.out.hw]; rfl
      have v1 : Wa.cell? ⟨HW, 1, none⟩ = some (.int .i64 (begN B)) := by rw [cell_in hG.out.hw]; rfl
      have vl := heap_in hG.out.hw
      have NP := Lib.hid (fun w' => (by have := new_p (begM B) (begN B) w'; rwa [← begJ_zero (ts := ts) (ss := ss) (m := begM B) (n := begN B) (by unfold dimN; omega) (by unfold dimN; omega)] at this : Calls Try.prog 21 #[.int .i64 (begM B), .int .i64 (begN B)] w' (NewPg (begJ ts ss (begM B) (begN B) 0) w')))
      clear hi hlt
      go_upto_region 17 with ((go_at_call 21); (with_reducible refine (NP.out _).mono ?_); (rintro _ _ ⟨p, F, x6, rfl, rfl, hFg, hPg⟩); (replace hFg := Lib.hid hFg); (replace hPg := Lib.hid hPg))
      have hGp := hG.out.grow (below_of_ext Wa x6)
      obtain ⟨Wp, hWp⟩ : ∃ Wp, Wp = ext Wa x6 := ⟨_, rfl⟩
      rw [← hWp] at hGp hPg ⊢
      replace hGp := Lib.hid hGp
      clear hG hWp v0 v1 vl
      have v0 : Wp.cell? ⟨HW, 0, none⟩ = some (.slice (some ⟨L', 0, none⟩) (begM B) c') := by rw [cell_in hGp.out.hw]; rfl
      have vl := heap_in hGp.out.hw
      go_wp2_with fail
      go_loopw [87] (fun iv wv => ∃ j : Nat, j ≤ begM B ∧ iv = .int .i64 j ∧ Hid (Did F p (begJ ts ss (begM B) (begN B) j) Wp wv)) (fun iv _ => begM B - (intOf iv).toNat)
      case atStart => exact ⟨0, by omega, rfl, Lib.hid (Did.refl hPg.out)⟩
      case round =>
        clear v0 vl
        obtain ⟨j, hj, rfl, hD⟩ := hrel
        have hGj := hGp.out.keepF hD.out.1 hFg.out
        by_cases hjm : j < begM B
        · have e1 : decide ((j : Int) < (begM B : Int)) = true := decide_eq_true (by omega)
          obtain ⟨⟨g, k, xs, z⟩, hr, hrv⟩ := hGj.row (begS_row hjm)
          rw [hBT.out, hBS.out] at hrv
          obtain ⟨d0, d1, _, dl⟩ := hGj.l1.slot hr
          have hrr : RowM.At wr ⟨g, k, xs, z⟩ := hGj.l1.row _ (List.mem_of_getElem? hr)
          have okJ := begJ_ok (ts := ts) (ss := ss) (m := begM B) (n := begN B) (j := j) hts.out (by omega) (by omega)
          have kc := hrr.cap
          have hxz : (begRow ts ss (begN B) j).1 = xs ∧ (begRow ts ss (begN B) j).2 = z := by rw [← hrv]; exact ⟨rfl, rfl⟩
          have SL := Lib.hid (fun w' (hb : Below wr.heap.size wr w') => (by
            have h1 := setline_p (hD.out.2.grow hb) okJ j (some ⟨g, 0, none⟩) k z xs (hrr.rd.below hb)
            rw [← hxz.1, ← hxz.2, beg_set2 hjm, hxz.1, hxz.2] at h1
            exact h1 : Calls Try.prog 33 #[.pointer (some ⟨p, 0, none⟩), .int .i64 j, lineV (some ⟨g, 0, none⟩) xs.length k z] w' (fun e w2 => e = .returned (.tuple #[]) ∧ Did (more F Wp wr) p (begJ ts ss (begM B) (begN B) (j + 1)) w' w2)))
          simp only [RowM.sl] at d0 d1 kc
          simp only [maxLen] at kc
          obtain ⟨kc1, kc2⟩ := kc
          have PL := Lib.hid hD.out.2.lt
          have hFl := Lib.hid hPg.out.lt
          clear hxz hrv hrr hGj
          go_wp2_with ((go_at_call 33); (with_reducible refine (SL.out _ (by (repeat' (first | (with_reducible exact Below.refl _ _) | (with_reducible refine Below.alloc ?_ ?_ _) | (with_reducible refine below_ext ?_ ?_ _) | (with_reducible refine Below.drew ?_) | (with_reducible refine below_drewN ?_ _) | (with_reducible refine Below.setCell ?_ ?_ _) | go_size | (simp only [go_sem]; omega) | (simp [go_sem]; done) | (simp [go_sem]; omega))))).mono ?_); (rintro _ W5 ⟨rfl, hD5⟩); (replace hD5 := Lib.hid (Did.back hD5 (show Below wr.heap.size wr _ by (repeat' (first | (with_reducible exact Below.refl _ _) | (with_reducible refine Below.alloc ?_ ?_ _) | (with_reducible refine below_ext ?_ ?_ _) | (with_reducible refine Below.drew ?_) | (with_reducible refine below_drewN ?_ _) | (with_reducible refine Below.setCell ?_ ?_ _) | go_size | (simp only [go_sem]; omega) | (simp [go_sem]; done) | (simp [go_sem]; omega)))) PL.out)))
          exact ⟨⟨j + 1, by omega, by go_num, Lib.hid (hD.out.trans hD5.out hFl.out)⟩, by simp [intOf]; omega⟩
        · as_aux_lemma =>
          obtain rfl : j = begM B := by omega
          have e1 : decide ((begM B : Int) < (begM B : Int)) = false := by simp
          rw [hall.out] at hD
          have v0 : wr.cell? ⟨HW, 0, none⟩ = some (.slice (some ⟨L', 0, none⟩) (begM B) c') := by rw [cell_in hGj.hw]; rfl
          have v1 : wr.cell? ⟨HW, 1, none⟩ = some (.int .i64 (begN B)) := by rw [cell_in hGj.hw]; rfl
          have vl := heap_in hGj.hw
          have bl := heap_in hGj.hb
          have rg1 : wr.rangeAt w.heap.size 4 [.int .i64 row, .int .i64 col, .int .u8 rd, .bool kp, .bool wp, .bool og, .int .i64 a, .int .i64 b', .int .i64 c, .int .i64 d, .int .i64 l, .int .i64 r, .int .i64 s] := range_blk hGj.hb 4 _ (by rw [hBA.out]; rfl)
          have rg2 : wr.rangeAt w.heap.size 17 [.int .i64 mt, .int .i64 ml, .int .i64 mb, .int .i64 mr] := range_blk hGj.hb 17 _ (by rw [hBA.out]; rfl)
          go_upto_region 22 with fail
          (refine wp_region_F (S := (fun w' => w'.cell? ⟨HW, 0, none⟩ = some (.slice (some ⟨L', 0, none⟩) (begM B) c') ∧ w'.cell? ⟨HW, 1, none⟩ = some (.int .i64 (begN B)) ∧ w'.rangeAt w.heap.size 4 [.int .i64 row, .int .i64 col, .int .u8 rd, .bool kp, .bool wp, .bool og, .int .i64 a, .int .i64 b', .int .i64 c, .int .i64 d, .int .i64 l, .int .i64 r, .int .i64 s] ∧ w'.rangeAt w.heap.size 17 [.int .i64 mt, .int .i64 ml, .int .i64 mb, .int .i64 mr])) 8 [false, false, false, false, false, false, false, false, false] rfl rfl (by kernel_rfl) ?_ (fun hHeld => ?_); (focus ((try dsimp only); (exact ⟨by simp [go_sem, v0, vl], by simp [go_sem, v1, vl], rg1, rg2⟩); done)))
          ((refine AtF.take (oi := ?_) (v := ?_) 0 ?_ ?_ ?_ ?_ (Or.inl ⟨?_, ?_⟩) (by assumption) ?_; rotate_left 2; rfl; kernel_rfl; kernel_rfl; exact (fun _ _ _ h => h); rfl; (focus (intro w hSw; (try dsimp only at hSw); go_simp; (try with_reducible rfl); done)); (try simp only [Act.put, List.setIfInBounds_toArray, List.set_cons_zero, List.set_cons_succ])); (refine AtF.take (oi := ?_) (v := ?_) 1 ?_ ?_ ?_ ?_ (Or.inl ⟨?_, ?_⟩) (by assumption) ?_; rotate_left 2; rfl; kernel_rfl; kernel_rfl; exact (fun _ _ _ h => h); rfl; (focus (intro w hSw; (try dsimp only at hSw); go_simp; (try with_reducible rfl); done)); (try simp only [Act.put, List.setIfInBounds_toArray, List.set_cons_zero, List.set_cons_succ])); (refine AtF.take (oi := ?_) (v := ?_) 2 ?_ ?_ ?_ ?_ (Or.inl ⟨?_, ?_⟩) (by assumption) ?_; rotate_left 2; rfl; kernel_rfl; kernel_rfl; exact (fun _ _ _ h => h); rfl; (focus (intro w hSw; (try dsimp only at hSw); go_simp; (try with_reducible rfl); done)); (try simp only [Act.put, List.setIfInBounds_toArray, List.set_cons_zero, List.set_cons_succ])))
          (refine AtF.take (oi := ?_) (v := .agg #[.int .i64 row, .int .i64 col, .int .u8 rd, .bool kp, .bool wp, .bool og, .int .i64 a, .int .i64 b', .int .i64 c, .int .i64 d, .int .i64 l, .int .i64 r, .int .i64 s]) 3 ?_ ?_ ?_ ?_ ?_ (by assumption) ?_; rotate_left 1; rfl; kernel_rfl; kernel_rfl; exact (fun _ _ _ h => h); (focus ((refine yieldsIf_load_mid rfl 29 (.tmp 99) rfl w.heap.size 4 rfl [.int .i64 row, .int .i64 col, .int .u8 rd, .bool kp, .bool wp, .bool og, .int .i64 a, .int .i64 b', .int .i64 c, .int .i64 d, .int .i64 l, .int .i64 r, .int .i64 s] _ (fun w' hS => hS.2.2.1) Try.underlying29 rfl (by kernel_rfl)); done)); (try simp only [Act.put, List.setIfInBounds_toArray, List.set_cons_zero, List.set_cons_succ]))
          ((refine AtF.take (oi := ?_) (v := ?_) 4 ?_ ?_ ?_ ?_ (Or.inl ⟨?_, ?_⟩) (by assumption) ?_; rotate_left 2; rfl; kernel_rfl; kernel_rfl; exact (fun _ _ _ h => h); rfl; (focus (intro w hSw; (try dsimp only at hSw); go_simp; (try with_reducible rfl); done)); (try simp only [Act.put, List.setIfInBounds_toArray, List.set_cons_zero, List.set_cons_succ])))
          (refine AtF.take (oi := ?_) (v := .agg #[.int .i64 mt, .int .i64 ml, .int .i64 mb, .int .i64 mr]) 5 ?_ ?_ ?_ ?_ ?_ (by assumption) ?_; rotate_left 1; rfl; kernel_rfl; kernel_rfl; exact (fun _ _ _ h => h); (focus ((refine yieldsIf_load_mid rfl 31 (.tmp 101) rfl w.heap.size 17 rfl [.int .i64 mt, .int .i64 ml, .int .i64 mb, .int .i64 mr] _ (fun w' hS => hS.2.2.2) Try.underlying31 rfl (by kernel_rfl)); done)); (try simp only [Act.put, List.setIfInBounds_toArray, List.set_cons_zero, List.set_cons_succ]))
          (refine AtF.take (oi := ?_) (v := .agg #[.slice (some ⟨L', 0, none⟩) (begM B) c', .int .i64 (begN B), .int .i64 row, .int .i64 col, .int .u8 rd, .bool kp, .bool wp, .bool og, .int .i64 a, .int .i64 b', .int .i64 c, .int .i64 d, .int .i64 l, .int .i64 r, .int .i64 s, .int .i64 mt, .int .i64 ml, .int .i64 mb, .int .i64 mr]) 6 ?_ ?_ ?_ ?_ ?_ (by assumption) ?_; rotate_left 1; rfl; kernel_rfl; kernel_rfl; exact (fun _ _ _ h => h); (focus ((refine yieldsIf_build rfl 42 #[(0, .tmp 98), (1, .tmp 100), (2, .tmp 102)] rfl _ #[(0, .agg #[.slice (some ⟨L', 0, none⟩) (begM B) c', .int .i64 (begN B)]), (1, .agg #[.int .i64 row, .int .i64 col, .int .u8 rd, .bool kp, .bool wp, .bool og, .int .i64 a, .int .i64 b', .int .i64 c, .int .i64 d, .int .i64 l, .int .i64 r, .int .i64 s]), (2, .agg #[.int .i64 mt, .int .i64 ml, .int .i64 mb, .int .i64 mr])] (by kernel_rfl) (fun w' => ?_); exact sheet_build _ _ _ _ _ _ _ _ _ _ _ _ _ _ _ _ _ _ _ w'); done)); (try simp only [Act.put, List.setIfInBounds_toArray, List.set_cons_zero, List.set_cons_succ]))
          ((refine AtF.take (oi := ?_) (v := ?_) 7 ?_ ?_ ?_ ?_ (Or.inl ⟨?_, ?_⟩) (by assumption) ?_; rotate_left 2; rfl; kernel_rfl; kernel_rfl; exact (fun _ _ _ h => h); rfl; (focus (intro w hSw; (try dsimp only at hSw); go_simp; (try with_reducible rfl); done)); (try simp only [Act.put, List.setIfInBounds_toArray, List.set_cons_zero, List.set_cons_succ])))
          obtain ⟨W4, e4, k4, c4⟩ := store_all (show wr.drew.heap[w.heap.size + 1]? = _ from hGj.hr) [.slice (some ⟨L', 0, none⟩) (begM B) c', .int .i64 (begN B), .int .i64 row, .int .i64 col, .int .u8 rd, .bool kp, .bool wp, .bool og, .int .i64 a, .int .i64 b', .int .i64 c, .int .i64 d, .int .i64 l, .int .i64 r, .int .i64 s, .int .i64 mt, .int .i64 ml, .int .i64 mb, .int .i64 mr] rfl
          (refine AtF.last (oi := ?_) ?_ ?_ (fun K hK => ?_); rotate_left 1; rfl; kernel_rfl; refine step_do rfl ?_; (refine wp_store_mid 42 (.tmp 3) (.tmp 103) rfl (w.heap.size + 1) 0 #[.slice (some ⟨L', 0, none⟩) (begM B) c', .int .i64 (begN B), .int .i64 row, .int .i64 col, .int .u8 rd, .bool kp, .bool wp, .bool og, .int .i64 a, .int .i64 b', .int .i64 c, .int .i64 d, .int .i64 l, .int .i64 r, .int .i64 s, .int .i64 mt, .int .i64 ml, .int .i64 mb, .int .i64 mr] rfl rfl (there_blk (show wr.drew.heap[w.heap.size + 1]? = _ from hGj.hr) (Nat.le_refl _)) (by kernel_rfl) (all_one _ rfl) ?_); rw [show wr.drew.setCells (w.heap.size + 1) 0 (#[.slice (some ⟨L', 0, none⟩) (begM B) c', .int .i64 (begN B), .int .i64 row, .int .i64 col, .int .u8 rd, .bool kp, .bool wp, .bool og, .int .i64 a, .int .i64 b', .int .i64 c, .int .i64 d, .int .i64 l, .int .i64 r, .int .i64 s, .int .i64 mt, .int .i64 ml, .int .i64 mb, .int .i64 mr] : Array Value).toList = W4 from e4]; refine hK.out _ _ ?_; clear hK K; (try simp only [Act.put, List.setIfInBounds_toArray, List.set_cons_zero, List.set_cons_succ]))
          clear hHeld
          have hlt := hGj.lt
          have hFN : ∀ x, more F Wp wr x → Wa.heap.size ≤ x := fun x hx => hx.elim (hFg.out x) (fun e => Nat.le_trans hGp.out.nle e.1)
          have kd : Keep (· = w.heap.size + 1) wr W4 := (Keep.of_below (F := (· = w.heap.size + 1)) (show Below wr.heap.size wr wr.drew by (repeat' (first | (with_reducible exact Below.refl _ _) | (with_reducible refine Below.alloc ?_ ?_ _) | (with_reducible refine below_ext ?_ ?_ _) | (with_reducible refine Below.drew ?_) | (with_reducible refine below_drewN ?_ _) | (with_reducible refine Below.setCell ?_ ?_ _) | go_size | (simp only [go_sem]; omega) | (simp [go_sem]; done) | (simp [go_sem]; omega))))).trans k4 (fun x hx => .inl hx)
          have hP4 := hD.out.2.keep kd (fun x hx e => by have := hFN x hx; omega)
          have hR4 : RefAt W4 (fun x => more F Wp wr x ∨ x < w.heap.size) (.agg #[.slice (some ⟨L', 0, none⟩) (begM B) c', .int .i64 (begN B)]) (begS B) :=
            ⟨_, rows', rfl, hGj.l1.keep kd (fun x hx => hGj.l1.off hGj.hr (by decide) (by decide) x hx), hGj.val, fun x hx e => by
              have := hGj.new1 x hx
              rcases e with e | e
              · have := hFN x e; omega
              · omega⟩
          have hB4 : Below w.heap.size w W4 := hGj.below.trans (kd.below (B := w.heap.size) (fun x e => by omega) hGj.below.size)
          have FN := Lib.hid (And.intro hB4 (And.intro hP4 (And.intro hR4 (fun x (hx : more F Wp wr x) => (show w.heap.size ≤ x by have := hFN x hx; omega)))))
          have LV := run_loadVar_mid (P := Try.prog) W4 (w.heap.size + 1) 0 42 [.slice (some ⟨L', 0, none⟩) (begM B) c', .int .i64 (begN B), .int .i64 row, .int .i64 col, .int .u8 rd, .bool kp, .bool wp, .bool og, .int .i64 a, .int .i64 b', .int .i64 c, .int .i64 d, .int .i64 l, .int .i64 r, .int .i64 s, .int .i64 mt, .int .i64 ml, .int .i64 mb, .int .i64 mr] _ (range_blk c4 0 _ rfl) Try.underlying42 rfl (by kernel_rfl)
          clear hP4 hR4 hB4 hGj hD c4 k4 kd hlt e4 hFN v0 v1 rg1 rg2
          replace LV := Lib.hid LV
          go_wp2_with fail
          refine bodyPost_ret (v := .tuple #[.pointer (some ⟨p, 0, none⟩), .agg #[.slice (some ⟨L', 0, none⟩) (begM B) c', .int .i64 (begN B), .int .i64 row, .int .i64 col, .int .u8 rd, .bool kp, .bool wp, .bool og, .int .i64 a, .int .i64 b', .int .i64 c, .int .i64 d, .int .i64 l, .int .i64 r, .int .i64 s, .int .i64 mt, .int .i64 ml, .int .i64 mb, .int .i64 mr]]) ?_ rfl ?_
          · have LV' := LV.out
            simp [results, Try.f9, asAddr, LV']
          · exact ⟨_, _, _, _, rfl, FN.out⟩
end Go.Proofs.Ytdfiknemfpkdmaa
