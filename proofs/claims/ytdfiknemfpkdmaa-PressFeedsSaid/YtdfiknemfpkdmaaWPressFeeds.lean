/- PressFeeds: the walk.  -/
import Derived.Test.YtdfiknemfpkdmaaPrH
import Derived.Test.YtdfiknemfpkdmaaSh
import Derived.Test.YtdfiknemfpkdmaaPgIs
namespace Go.Proofs.Ytdfiknemfpkdmaa
open Go.RowKit
set_option linter.unusedVariables false
set_option linter.unusedSimpArgs false

set_option maxRecDepth 100000 in
set_option maxHeartbeats 32000000 in
theorem PressFeeds_walk (w : World) (b : BgD) (hb : b.Ok w) (n : Int) (wn : (Lit.int .i64 n).wf = true) : Calls Try.prog 6 #[b.v, .int .i64 n] w (fun e w' => e = .returned (.bool true) ∧ Below w.heap.size w w') := by
  show Calls Try.prog 6 #[.agg #[.int .i64 b.rows, .int .i64 b.cols, .slice b.sa b.ss.length b.sc, .slice b.ta b.ts.length b.tc, .int .i64 b.cu.row, .int .i64 b.cu.col, .int .u8 b.cu.rd, .bool b.cu.kp, .bool b.cu.wp, .bool b.cu.og, .int .i64 b.cu.a, .int .i64 b.cu.b, .int .i64 b.cu.c, .int .i64 b.cu.d, .int .i64 b.cu.l, .int .i64 b.cu.r, .int .i64 b.cu.s, .int .i64 b.m.t, .int .i64 b.m.l, .int .i64 b.m.b, .int .i64 b.m.r], .int .i64 n] w (fun e w' => e = .returned (.bool true) ∧ Below w.heap.size w w')
  obtain ⟨b', hb'⟩ : ∃ b' : BgD, b' = { b with ss := [], sa := none, sc := 0, m := m0 } := ⟨_, rfl⟩
  have ok' : b'.Ok w := by
    rw [hb']
    exact { hb with ss := fun h => absurd h (by simp), sl := by simp, sm := by simp [maxLen], sn := fun _ => rfl }
  have SH : Hid (∀ w', Below w.heap.size w w' → Calls Try.prog 9 #[.agg #[.int .i64 b.rows, .int .i64 b.cols, .slice none 0 0, .slice b.ta b.ts.length b.tc, .int .i64 b.cu.row, .int .i64 b.cu.col, .int .u8 b.cu.rd, .bool b.cu.kp, .bool b.cu.wp, .bool b.cu.og, .int .i64 b.cu.a, .int .i64 b.cu.b, .int .i64 b.cu.c, .int .i64 b.cu.d, .int .i64 b.cu.l, .int .i64 b.cu.r, .int .i64 b.cu.s, .int .i64 0, .int .i64 0, .int .i64 0, .int .i64 0]] w' (fun e w2 => ∃ p F A c, e = .returned (.tuple #[.pointer (some ⟨p, 0, none⟩), .agg #[.slice A (begM b') c, .int .i64 (begN b'), .int .i64 b.cu.row, .int .i64 b.cu.col, .int .u8 b.cu.rd, .bool b.cu.kp, .bool b.cu.wp, .bool b.cu.og, .int .i64 b.cu.a, .int .i64 b.cu.b, .int .i64 b.cu.c, .int .i64 b.cu.d, .int .i64 b.cu.l, .int .i64 b.cu.r, .int .i64 b.cu.s, .int .i64 0, .int .i64 0, .int .i64 0, .int .i64 0]]) ∧ Below w'.heap.size w' w2 ∧ PageAt w2 F p (begS b') ∧ RefAt w2 (fun x => F x ∨ x < w'.heap.size) (.agg #[.slice A (begM b') c, .int .i64 (begN b')]) (begS b') ∧ ∀ x, F x → w'.heap.size ≤ x)) :=
    Lib.hid (fun w' h => by
      have := sheet_c b' w' (ok'.below h)
      rw [hb'] at this ⊢
      exact this)
  have okS := begS_ok ok'
  have okZ : (begS b').One := begS_one (by rw [hb'])
  have hSm : (begS b').rows.length = begM b' := by simp [begS]
  have hSn : (begS b').cols = begN b' := rfl
  have hm := begM_in b'
  have hn := begN_in b'
  have AW := Lib.hid awake_14
  clear hb hb' ok' wn
  go_enter Try.func6, Try.ntmps6
  go_upto_region 4 with (go_at_call 19; ((with_reducible refine (AW.out _).mono ?_); rintro _ _ hgets; obtain ⟨rfl, x1, rfl⟩ := hgets.get; clear hgets))
  go_upto_region 5 with (first
    | (refine wpList_load_mid rfl 33 (.tmp 2) rfl w.heap.size 0 rfl [.int .i64 b.rows, .int .i64 b.cols, .slice none 0 0, .slice b.ta b.ts.length b.tc, .int .i64 b.cu.row, .int .i64 b.cu.col, .int .u8 b.cu.rd, .bool b.cu.kp, .bool b.cu.wp, .bool b.cu.og, .int .i64 b.cu.a, .int .i64 b.cu.b, .int .i64 b.cu.c, .int .i64 b.cu.d, .int .i64 b.cu.l, .int .i64 b.cu.r, .int .i64 b.cu.s, .int .i64 0, .int .i64 0, .int .i64 0, .int .i64 0] _ (range_blk (by (repeat (first | ((with_reducible refine heap_at _ _ ?_); (focus (first | rfl | (simp [go_sem]; done) | (simp [go_sem]; omega)))) | ((with_reducible refine (heap_old _ _ ?_).trans ?_); (focus (first | (simp [go_sem]; done) | (simp [go_sem]; omega)))) | ((with_reducible refine (block_ext _ _ ?_).trans ?_); (focus (first | (simp [go_sem]; done) | (simp [go_sem]; omega)))) | ((with_reducible refine (heap_drew _ _).trans ?_))))) 0 _ rfl) Try.underlying33 rfl (by kernel_rfl) ?_)
    | ((go_at_call 9); (with_reducible refine (SH.out _ (by (repeat' (first | (with_reducible exact Below.refl _ _) | (with_reducible refine Below.alloc ?_ ?_ _) | (with_reducible refine below_ext ?_ ?_ _) | (with_reducible refine Below.drew ?_) | (with_reducible refine below_drewN ?_ _) | (with_reducible refine Below.setCell ?_ ?_ _) | go_size | (simp only [go_sem]; omega) | (simp [go_sem]; done) | (simp [go_sem]; omega))))).mono ?_); (rintro _ W1 ⟨p, F, A, c, rfl, hB1, hP, hR, hF⟩); (replace hB1 := Lib.hid hB1); (replace hP := Lib.hid hP); (replace hR := Lib.hid hR); (replace hF := Lib.hid hF))
    | (refine wpList_store_mid rfl 42 (.tmp 6) (.tmp 19) rfl W1.heap.size 0 #[.slice A (begM b') c, .int .i64 (begN b'), .int .i64 b.cu.row, .int .i64 b.cu.col, .int .u8 b.cu.rd, .bool b.cu.kp, .bool b.cu.wp, .bool b.cu.og, .int .i64 b.cu.a, .int .i64 b.cu.b, .int .i64 b.cu.c, .int .i64 b.cu.d, .int .i64 b.cu.l, .int .i64 b.cu.r, .int .i64 b.cu.s, .int .i64 0, .int .i64 0, .int .i64 0, .int .i64 0] rfl rfl (there_blk (heap_at W1 (.cells zero14 42) rfl) (Nat.le_refl _)) (by kernel_rfl) (all_one _ rfl) ?_))
  obtain ⟨W2, e2, hg2, c2⟩ := store_new W1 zero14 42 [.slice A (begM b') c, .int .i64 (begN b'), .int .i64 b.cu.row, .int .i64 b.cu.col, .int .u8 b.cu.rd, .bool b.cu.kp, .bool b.cu.wp, .bool b.cu.og, .int .i64 b.cu.a, .int .i64 b.cu.b, .int .i64 b.cu.c, .int .i64 b.cu.d, .int .i64 b.cu.l, .int .i64 b.cu.r, .int .i64 b.cu.s, .int .i64 0, .int .i64 0, .int .i64 0, .int .i64 0] rfl
  rw [e2]
  simp only [Act.put]
  generalize begS b' = S at *
  obtain ⟨HS, hHS⟩ : ∃ HS, HS = W1.heap.size := ⟨_, rfl⟩
  rw [← hHS] at c2 ⊢
  generalize begM b' = m at *
  generalize begN b' = nn at *
  have hszF : ∀ q, F q → w.heap.size + 1 ≤ q ∧ q < HS := fun q f => ⟨by have := hF.out q f; simp at this; omega, by have := hP.out.lt q f; omega⟩
  have hBW : Below w.heap.size w W1 := (show Below w.heap.size w (ext (w.alloc (.cells #[.int .i64 b.rows, .int .i64 b.cols, .slice none 0 0, .slice b.ta b.ts.length b.tc, .int .i64 b.cu.row, .int .i64 b.cu.col, .int .u8 b.cu.rd, .bool b.cu.kp, .bool b.cu.wp, .bool b.cu.og, .int .i64 b.cu.a, .int .i64 b.cu.b, .int .i64 b.cu.c, .int .i64 b.cu.d, .int .i64 b.cu.l, .int .i64 b.cu.r, .int .i64 b.cu.s, .int .i64 0, .int .i64 0, .int .i64 0, .int .i64 0] 33)) x1) by (repeat' (first | (with_reducible exact Below.refl _ _) | (with_reducible refine Below.alloc ?_ ?_ _) | (with_reducible refine below_ext ?_ ?_ _) | (with_reducible refine Below.drew ?_) | (with_reducible refine below_drewN ?_ _) | (with_reducible refine Below.setCell ?_ ?_ _) | go_size | (simp only [go_sem]; omega) | (simp [go_sem]; done) | (simp [go_sem]; omega)))).trans (hB1.out.mono (by simp; omega))
  have hBw : Below w.heap.size w W2 := hBW.trans (hg2.mono hBW.size)
  have hP2 := hP.out.grow hg2
  have hR2 := (hR.out.grow hg2)
  have hR3 : RefAt W2 F (.agg #[.slice A m c, .int .i64 nn]) S := hR2.mono (fun q _ hq => .inl hq)
  clear hB1 hP hR hF SH AW hg2 hBW hR2
  have hHl : HS < W2.heap.size := heap_in c2
  replace hHS := Lib.hid hHS
  obtain ⟨hm1, hm2, -⟩ := hm
  obtain ⟨hn1, hn2, -⟩ := hn
  have hP2l := hP2.lt
  have RW := Lib.hid (fun w' (h : Below W2.heap.size W2 w') => rows_p (hP2.grow h))
  rw [hSm] at RW
  have CL := Lib.hid (fun w' => clamp_l n 0 20 w')
  have hN := clampR_in n (show (0 : Int) ≤ 20 by omega)
  generalize clampR n 0 20 = N at CL hN
  obtain ⟨hN0, hN1⟩ := hN
  have CN := Lib.hid (fun w' => new_c w')
  replace hP2 := Lib.hid hP2
  replace hR3 := Lib.hid hR3
  replace hBw := Lib.hid hBw
  replace c2 := Lib.hid c2
  go_wp2_with (first
    | (go_at_call 16; ((with_reducible refine (RW.out _ (by (repeat' (first | (with_reducible exact Below.refl _ _) | (with_reducible refine Below.alloc ?_ ?_ _) | (with_reducible refine below_ext ?_ ?_ _) | (with_reducible refine Below.drew ?_) | (with_reducible refine below_drewN ?_ _) | (with_reducible refine Below.setCell ?_ ?_ _) | go_size | (simp only [go_sem]; omega) | (simp [go_sem]; done) | (simp [go_sem]; omega))))).mono ?_); rintro _ _ hgets; obtain ⟨rfl, x3, rfl⟩ := hgets.get; clear hgets))
    | (go_at_call 20; ((with_reducible refine (CL.out _).mono ?_); rintro _ _ hgets; obtain ⟨rfl, x4, rfl⟩ := hgets.get; clear hgets))
    | (go_at_call 23; ((with_reducible refine (CN.out _).mono ?_); rintro _ _ hgets; obtain ⟨rfl, x5, rfl⟩ := hgets.get; clear hgets)))
  obtain ⟨g, hg⟩ : ∃ g, g = W2.heap.size + x3.sz + x4.sz + x5.sz := ⟨_, rfl⟩
  have hgl : W2.heap.size ≤ g := by omega
  have ST : FdSt W2 F p g (feedT S 0) (feedY m 0) ((ext (ext (ext W2 x3) x4) x5).alloc (.cells #[.int .i64 0, .int .i64 0, .int .u8 0, .bool false, .bool false, .bool false, .int .i64 1, .int .i64 1, .int .i64 4, .int .i64 4, .int .i64 0, .int .i64 2, .int .i64 0] 49)) := by
    refine ⟨Keep.of_below (by (repeat' (first | (with_reducible exact Below.refl _ _) | (with_reducible refine Below.alloc ?_ ?_ _) | (with_reducible refine below_ext ?_ ?_ _) | (with_reducible refine Below.drew ?_) | (with_reducible refine below_drewN ?_ _) | (with_reducible refine Below.setCell ?_ ?_ _) | go_size | (simp only [go_sem]; omega) | (simp [go_sem]; done) | (simp [go_sem]; omega)))), ⟨F, ?_, fun q hq => .inl hq⟩, ?_, hgl, hP2l⟩
    · rw [feedT_zero okS]
      exact hP2.out.grow (by (repeat' (first | (with_reducible exact Below.refl _ _) | (with_reducible refine Below.alloc ?_ ?_ _) | (with_reducible refine below_ext ?_ ?_ _) | (with_reducible refine Below.drew ?_) | (with_reducible refine below_drewN ?_ _) | (with_reducible refine Below.setCell ?_ ?_ _) | go_size | (simp only [go_sem]; omega) | (simp [go_sem]; done) | (simp [go_sem]; omega))))
    · have e : feedY m 0 = cuN := by unfold feedY; rw [show min ((0 : Nat) : Int) ((m : Int) - 1) = 0 by omega]; rfl
      rw [e, hg]
      exact (heap_at _ _ (by simp [go_sem])).trans rfl
  rw [← hg]
  replace hg := Lib.hid hg
  replace ST := Lib.hid ST
  clear RW CL CN
  go_loopw [9] (fun i wr => ∃ k : Nat, (k : Int) ≤ N ∧ i = .int .i64 k ∧ Hid (FdSt W2 F p g (feedT S k) (feedY m k) wr)) (fun i _ => N.toNat - (intOf i).toNat)
  case atStart => exact ⟨0, by omega, rfl, ST⟩
  case round =>
    obtain ⟨k, hk, rfl, G⟩ := hrel
    by_cases hlt : (k : Int) < N
    · have IX := Lib.hid (fun w' (hb' : Below wr.heap.size wr w') => (G.out.grow hb').index okS okZ hSm)
      have hrow : (feedY m (k + 1)).row = min ((k : Int) + 1) ((m : Int) - 1) := by show min (((k + 1 : Nat)) : Int) _ = _; omega
      have hcol : (feedY m (k + 1)).col = 0 := rfl
      generalize hze : feedY m (k + 1) = z at IX hrow hcol
      replace hze := Lib.hid hze
      go_upto_region 12 with (first
        | (refine wpList_load_mid rfl 49 (.tmp 8) rfl g 0 rfl (cuL (feedY m k)) _ (range_blk G.out.cur 0 _ rfl) Try.underlying49 rfl (by kernel_rfl) ?_)
        | ((go_at_call 24); (with_reducible refine (IX.out _ (by (repeat' (first | (with_reducible exact Below.refl _ _) | (with_reducible refine Below.alloc ?_ ?_ _) | (with_reducible refine below_ext ?_ ?_ _) | (with_reducible refine Below.drew ?_) | (with_reducible refine below_drewN ?_ _) | (with_reducible refine Below.setCell ?_ ?_ _) | go_size | (simp only [go_sem]; omega) | (simp [go_sem]; done) | (simp [go_sem]; omega))))).mono ?_); (rintro _ W3 ⟨rfl, G3⟩); replace G3 := Lib.hid G3)
        | (refine wpList_store_mid rfl 49 (.tmp 8) (.tmp 33) rfl g 0 (cuL z).toArray rfl rfl (there_any G3.out.cur (by simp)) (by kernel_rfl) (all_one _ rfl) ?_))
      obtain ⟨W4, e4, G4⟩ := G3.out.set z
      rw [e4]
      simp only [Act.put]
      have q0 : W4.cell? ⟨g, 0, none⟩ = some (.int .i64 (min ((k : Int) + 1) ((m : Int) - 1))) := by rw [cell_in G4.cur, ← hrow]; rfl
      have q1 : W4.cell? ⟨g, 1, none⟩ = some (.int .i64 0) := by rw [cell_in G4.cur, ← hcol]; rfl
      replace G4 := Lib.hid G4
      clear G3 e4 G IX hrow
      go_wp2
      go_roundw
      case rel => exact ⟨k + 1, by omega, by go_num, by rw [hze.out]; exact G4⟩
      case measure => simp [intOf]; omega
    · obtain rfl : (k : Int) = N := by omega
      obtain ⟨F', hp1, hp2⟩ := G.out.foot
      have hnF : ¬ F HS := fun hf => by have := (hszF _ hf).2; omega
      have cS := (G.out.keep.block HS hHl hnF).trans c2.out
      have rgS : wr.rangeAt HS 0 [.slice A m c, .int .i64 nn] := range_blk cS 0 _ rfl
      have hHr : HS < wr.heap.size := heap_in cS
      have hU := (hR3.out.keep G.out.keep).v
      have RB := Lib.hid (fun w' (hb' : Below wr.heap.size wr w') => refbox_c _ S w' (hU.grow hb'))
      have RS : Hid (∀ (w' : World), Below wr.heap.size wr w' → Calls Try.prog 26 #[.agg #[.slice A m c, .int .i64 nn], boxV 0 0 m nn, .int .i64 (max 0 ((k : Int) - m + 1))] w' (NewRef (feedT S k) w')) := Lib.hid (fun w' hb' => by
        have := refscroll_c _ (fullP S) (max 0 ((k : Int) - m + 1)) (hU.grow hb') okS
        rw [fullP_on okS, show clampR (max 0 ((k : Int) - m + 1)) (-1000) 1000 = max 0 ((k : Int) - S.rows.length + 1) by rw [hSm]; unfold clampR; split <;> (try split) <;> omega] at this
        rw [show boxV 0 0 (m : Int) (nn : Int) = boxV (fullP S).t (fullP S).l (fullP S).b (fullP S).r by rw [← hSm, ← hSn]; rfl]
        exact this)
      rw [hSm, hSn] at RB
      have okT := feedT_ok okS k
      have hBg : Below w.heap.size w wr := hBw.out.trans (G.out.keep.below (fun q hq => by have := (hszF q hq).1; omega) hBw.out.size)
      have IS := Lib.hid (fun w' (hb' : Below wr.heap.size wr w') (U : Value) (h : RefV w' U (feedT S k)) => is_c U (hp1.grow hb') okT h)
      replace hBg := Lib.hid hBg
      clear hU G hp1 cS c2 hR3 ST
      have hw1 : IntKind.i64.wrap ((k : Int) - m) = (k : Int) - m := wrap_i64 (by omega) (by omega)
      have hw2 : IntKind.i64.wrap ((k : Int) - m + 1) = (k : Int) - m + 1 := wrap_i64 (by omega) (by omega)
      go_upto_region 14 with fail
      (refine wp_region_F (S := (fun w' => w'.rangeAt HS 0 [.slice A m c, .int .i64 nn])) 13 [false, false, false, false, false, false, false, false, false, false, false, false, false, false] rfl rfl (by kernel_rfl) ?_ (fun hHeld => ?_); (focus ((try dsimp only); (exact rgS); done)))
      ((refine AtF.take (oi := ?_) (v := ?_) 0 ?_ ?_ ?_ ?_ (Or.inl ⟨?_, ?_⟩) (by assumption) ?_; rotate_left 2; rfl; kernel_rfl; kernel_rfl; exact (fun _ _ _ h => h); rfl; (focus (intro w hSw; (try dsimp only at hSw); go_simp; (try with_reducible rfl); done)); (try simp only [Act.put, List.setIfInBounds_toArray, List.set_cons_zero, List.set_cons_succ])); (refine AtF.take (oi := ?_) (v := ?_) 1 ?_ ?_ ?_ ?_ (Or.inl ⟨?_, ?_⟩) (by assumption) ?_; rotate_left 2; rfl; kernel_rfl; kernel_rfl; exact (fun _ _ _ h => h); rfl; (focus (intro w hSw; (try dsimp only at hSw); go_simp; (try with_reducible rfl); done)); (try simp only [Act.put, List.setIfInBounds_toArray, List.set_cons_zero, List.set_cons_succ])))
      (refine AtF.take (oi := ?_) (v := .agg #[.slice A m c, .int .i64 nn]) 2 ?_ ?_ ?_ ?_ ?_ (by assumption) ?_; rotate_left 1; rfl; kernel_rfl; kernel_rfl; exact (fun _ _ _ h => h); (focus ((refine yieldsIf_load_mid rfl 40 (.tmp 50) rfl HS 0 rfl [.slice A m c, .int .i64 nn] _ (fun w' hS => hS) Try.underlying40 rfl (by kernel_rfl)); done)); (try simp only [Act.put, List.setIfInBounds_toArray, List.set_cons_zero, List.set_cons_succ]))
      ((refine AtF.take (oi := ?_) (v := ?_) 3 ?_ ?_ ?_ ?_ (Or.inl ⟨?_, ?_⟩) (by assumption) ?_; rotate_left 2; rfl; kernel_rfl; kernel_rfl; exact (fun _ _ _ h => h); rfl; (focus (intro w hSw; (try dsimp only at hSw); go_simp; (try with_reducible rfl); done)); (try simp only [Act.put, List.setIfInBounds_toArray, List.set_cons_zero, List.set_cons_succ])))
      (refine AtF.take (oi := ?_) (v := .agg #[.slice A m c, .int .i64 nn]) 4 ?_ ?_ ?_ ?_ ?_ (by assumption) ?_; rotate_left 1; rfl; kernel_rfl; kernel_rfl; exact (fun _ _ _ h => h); (focus ((refine yieldsIf_load_mid rfl 40 (.tmp 52) rfl HS 0 rfl [.slice A m c, .int .i64 nn] _ (fun w' hS => hS) Try.underlying40 rfl (by kernel_rfl)); done)); (try simp only [Act.put, List.setIfInBounds_toArray, List.set_cons_zero, List.set_cons_succ]))
      ((refine AtF.take (oi := ?_) (v := ?_) 6 ?_ ?_ ?_ ?_ (Or.inl ⟨?_, ?_⟩) (by assumption) ?_; rotate_left 2; rfl; kernel_rfl; kernel_rfl; exact (fun _ _ _ h => h); rfl; (focus (intro w hSw; (try dsimp only at hSw); go_simp; (try with_reducible rfl); done)); (try simp only [Act.put, List.setIfInBounds_toArray, List.set_cons_zero, List.set_cons_succ])); (refine AtF.take (oi := ?_) (v := ?_) 7 ?_ ?_ ?_ ?_ (Or.inl ⟨?_, ?_⟩) (by assumption) ?_; rotate_left 2; rfl; kernel_rfl; kernel_rfl; exact (fun _ _ _ h => h); rfl; (focus (intro w hSw; (try dsimp only at hSw); go_simp; (try with_reducible rfl); done)); (try simp only [Act.put, List.setIfInBounds_toArray, List.set_cons_zero, List.set_cons_succ])); (refine AtF.take (oi := ?_) (v := ?_) 8 ?_ ?_ ?_ ?_ (Or.inl ⟨?_, ?_⟩) (by assumption) ?_; rotate_left 2; rfl; kernel_rfl; kernel_rfl; exact (fun _ _ _ h => h); rfl; (focus (intro w hSw; (try dsimp only at hSw); go_simp; (try with_reducible rfl); done)); (try simp only [Act.put, List.setIfInBounds_toArray, List.set_cons_zero, List.set_cons_succ])))
      (try simp only [hw1])
      ((refine AtF.take (oi := ?_) (v := ?_) 9 ?_ ?_ ?_ ?_ (Or.inl ⟨?_, ?_⟩) (by assumption) ?_; rotate_left 2; rfl; kernel_rfl; kernel_rfl; exact (fun _ _ _ h => h); rfl; (focus (intro w hSw; (try dsimp only at hSw); go_simp; (try with_reducible rfl); done)); (try simp only [Act.put, List.setIfInBounds_toArray, List.set_cons_zero, List.set_cons_succ])))
      (try simp only [hw2])
      ((refine AtF.take (oi := ?_) (v := ?_) 10 ?_ ?_ ?_ ?_ (Or.inl ⟨?_, ?_⟩) (by assumption) ?_; rotate_left 2; rfl; kernel_rfl; kernel_rfl; exact (fun _ _ _ h => h); rfl; (focus (intro w hSw; (try dsimp only at hSw); go_simp; (try with_reducible rfl); done)); (try simp only [Act.put, List.setIfInBounds_toArray, List.set_cons_zero, List.set_cons_succ])))
      (refine AtF.only (oi := ?_) 5 ?_ ?_ (fun K hK => ?_); rotate_left 1; rfl; kernel_rfl; (try go_simp); (go_at_call 27; ((with_reducible refine (RB.out _ (by (repeat' (first | (with_reducible exact Below.refl _ _) | (with_reducible refine Below.alloc ?_ ?_ _) | (with_reducible refine below_ext ?_ ?_ _) | (with_reducible refine Below.drew ?_) | (with_reducible refine below_drewN ?_ _) | (with_reducible refine Below.setCell ?_ ?_ _) | go_size | (simp only [go_sem]; omega) | (simp [go_sem]; done) | (simp [go_sem]; omega))))).mono ?_); rintro _ _ hgets; obtain ⟨rfl, x7, rfl⟩ := hgets.get; clear hgets)); (refine hK.out _ _ ?_ (fun hHeld => ?_)); (focus ((try dsimp only); (exact range_grow rgS hHr _); done)); clear hK K; (try simp only [Act.put, List.setIfInBounds_toArray, List.set_cons_zero, List.set_cons_succ]))
      (refine AtF.only (oi := ?_) 11 ?_ ?_ (fun K hK => ?_); rotate_left 1; rfl; kernel_rfl; (try go_simp); ((go_at_call 26); (with_reducible refine (RS.out _ (by (repeat' (first | (with_reducible exact Below.refl _ _) | (with_reducible refine Below.alloc ?_ ?_ _) | (with_reducible refine below_ext ?_ ?_ _) | (with_reducible refine Below.drew ?_) | (with_reducible refine below_drewN ?_ _) | (with_reducible refine Below.setCell ?_ ?_ _) | go_size | (simp only [go_sem]; omega) | (simp [go_sem]; done) | (simp [go_sem]; omega))))).mono ?_); (rintro _ _ ⟨V, rows, x8, rfl, rfl, hl1, hl2, -⟩)); (refine hK.out _ _ ?_ (fun hHeld => ?_)); (focus ((try dsimp only); (exact range_grow (range_grow rgS hHr _) (by simp; omega) _); done)); clear hK K; (try simp only [Act.put, List.setIfInBounds_toArray, List.set_cons_zero, List.set_cons_succ]))
      have hv : RefV (ext (ext wr x7) x8) (.agg #[V, .int .i64 (feedT S k).cols]) (feedT S k) := ⟨V, rows, rfl, hl1, hl2⟩
      replace hv := Lib.hid hv
      (refine AtF.only (oi := ?_) 12 ?_ ?_ (fun K hK => ?_); rotate_left 1; rfl; kernel_rfl; (try go_simp); (go_at_call 25; ((with_reducible refine (IS.out _ (by (repeat' (first | (with_reducible exact Below.refl _ _) | (with_reducible refine Below.alloc ?_ ?_ _) | (with_reducible refine below_ext ?_ ?_ _) | (with_reducible refine Below.drew ?_) | (with_reducible refine below_drewN ?_ _) | (with_reducible refine Below.setCell ?_ ?_ _) | go_size | (simp only [go_sem]; omega) | (simp [go_sem]; done) | (simp [go_sem]; omega)))) _ hv.out).mono ?_); rintro _ _ hgets; obtain ⟨rfl, x9, rfl⟩ := hgets.get; clear hgets)); (refine hK.out _ _ ?_ (fun hHeld => ?_)); (focus ((try dsimp only); (exact range_grow (range_grow (range_grow rgS hHr _) (by simp; omega) _) (by simp; omega) _); done)); clear hK K; (try simp only [Act.put, List.setIfInBounds_toArray, List.set_cons_zero, List.set_cons_succ]))
      (refine AtF.last (oi := ?_) ?_ ?_ (fun K hK => ?_); rotate_left 1; rfl; kernel_rfl; go_simp; skip; refine hK.out _ _ ?_; clear hK K; (try simp only [Act.put, List.setIfInBounds_toArray, List.set_cons_zero, List.set_cons_succ]))
      clear hl1 hl2
      go_wp2
      go_returns
      exact ⟨rfl, hBg.out.trans (Below.mono (B := wr.heap.size) (by (repeat' (first | (with_reducible exact Below.refl _ _) | (with_reducible refine Below.alloc ?_ ?_ _) | (with_reducible refine below_ext ?_ ?_ _) | (with_reducible refine Below.drew ?_) | (with_reducible refine below_drewN ?_ _) | (with_reducible refine Below.setCell ?_ ?_ _) | go_size | (simp only [go_sem]; omega) | (simp [go_sem]; done) | (simp [go_sem]; omega)))) hBg.out.size)⟩
end Go.Proofs.Ytdfiknemfpkdmaa
