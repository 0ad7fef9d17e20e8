/- EditKept: the walk.  -/
import Derived.Test.YtdfiknemfpkdmaaSh
import Derived.Test.YtdfiknemfpkdmaaShA
import Derived.Test.YtdfiknemfpkdmaaAwake15
import Derived.Test.YtdfiknemfpkdmaaEdL
namespace Go.Proofs.Ytdfiknemfpkdmaa
open Go.RowKit
set_option linter.unusedVariables false
set_option linter.unusedSimpArgs false

/-- T is S, but for what was erased and is not kept -/
structure KeptS (S T : PgS) : Prop where
  ok : T.Ok
  m : T.rows.length = S.rows.length
  n : T.cols = S.cols
  cell : ∀ i j : Nat, i < S.rows.length → j < S.cols → atS T i j = atS S i j ∨ ((atS S i j).k = false ∧ atS T i j = ⟨32, (atS S i j).r, false⟩)
  size : ∀ i : Nat, i < S.rows.length → (rowD T i).2 = (rowD S i).2
theorem kept_era {S : PgS} (hS : S.Ok) (ra : Bool) (k r c : Int) : KeptS S (eraS S true ra k r c) :=
  ⟨eraS_ok hS, eraS_len, rfl, fun i j hi hj => era_kept hS hi hj, fun i hi => era_size hi⟩
theorem line_f1 (A : Option Addr) (n c : Nat) (z : Int) (w : World) : (Instr.field 54 (.agg #[.slice A n c, .int .i64 z]) 1).run Try.prog w = .ok (.int .i64 z) w := by kernel_rfl
theorem RefAt.rows {w : World} {F : Nat → Prop} {A : Option Addr} {m n c : Nat} {S : PgS} (h : RefAt w F (.agg #[.slice A m c, .int .i64 n]) S) (h0 : 0 < m) : ∃ L rows, A = some ⟨L, 0, none⟩ ∧ Lns w (.slice A m c) rows ∧ rows.map RowM.val = S.rows := by
  obtain ⟨V, rows, e, hl, hv, _⟩ := h
  injection e with e
  have e1 : Value.slice A m c = V := by
    have := congrArg (fun q : Array Value => q[0]?) e
    simpa using this
  subst e1
  obtain ⟨A', c', e2, _, _⟩ := hl.own.form
  injection e2 with _ e3 _
  obtain ⟨g, c2, e4, _, _⟩ := hl.own.some_of (by omega)
  injection e4 with e5 _ _
  exact ⟨g, rows, e5, hl, hv⟩
attribute [local go_sem ↓] cell_neq
attribute [local go_sem] line_f1
set_option maxRecDepth 100000 in
set_option maxHeartbeats 32000000 in
theorem EditKept_walk (w : World) (b : BgD) (hb : b.Ok w) (a : A15) (ha : a.Ok w) : Calls Try.prog 3 #[b.v, a.v] w (fun e w' => e = .returned (.bool true) ∧ Below w.heap.size w w') := by
  show Calls Try.prog 3 #[.agg #[.int .i64 b.rows, .int .i64 b.cols, .slice b.sa b.ss.length b.sc, .slice b.ta b.ts.length b.tc, .int .i64 b.cu.row, .int .i64 b.cu.col, .int .u8 b.cu.rd, .bool b.cu.kp, .bool b.cu.wp, .bool b.cu.og, .int .i64 b.cu.a, .int .i64 b.cu.b, .int .i64 b.cu.c, .int .i64 b.cu.d, .int .i64 b.cu.l, .int .i64 b.cu.r, .int .i64 b.cu.s, .int .i64 b.m.t, .int .i64 b.m.l, .int .i64 b.m.b, .int .i64 b.m.r], .agg #[.int .i64 a.kd, .int .i64 a.n, .int .i64 a.m, .bool a.fl]] w _
  have okS := begS_ok hb
  have hm := begM_in b
  have hn := begN_in b
  have hSm : (begS b).rows.length = begM b := by simp [begS]
  have hSn : (begS b).cols = begN b := rfl
  have SH := Lib.hid (fun w' (h : Below w.heap.size w w') => (by exact sheet_c b w' (hb.below h) : Calls Try.prog 9 #[.agg #[.int .i64 b.rows, .int .i64 b.cols, .slice b.sa b.ss.length b.sc, .slice b.ta b.ts.length b.tc, .int .i64 b.cu.row, .int .i64 b.cu.col, .int .u8 b.cu.rd, .bool b.cu.kp, .bool b.cu.wp, .bool b.cu.og, .int .i64 b.cu.a, .int .i64 b.cu.b, .int .i64 b.cu.c, .int .i64 b.cu.d, .int .i64 b.cu.l, .int .i64 b.cu.r, .int .i64 b.cu.s, .int .i64 b.m.t, .int .i64 b.m.l, .int .i64 b.m.b, .int .i64 b.m.r]] w' (SheetR b w')))
  have AW := Lib.hid awake_15
  clear hb ha
  go_enter Try.func3, Try.ntmps3
  go_upto_region 3 with (go_at_call 8; ((with_reducible refine (AW.out _).mono ?_); rintro _ _ hgets; obtain ⟨rfl, x1, rfl⟩ := hgets.get; clear hgets))
  go_upto_region 4 with (first
    | (refine wpList_load_mid rfl 33 (.tmp 2) rfl w.heap.size 0 rfl [.int .i64 b.rows, .int .i64 b.cols, .slice b.sa b.ss.length b.sc, .slice b.ta b.ts.length b.tc, .int .i64 b.cu.row, .int .i64 b.cu.col, .int .u8 b.cu.rd, .bool b.cu.kp, .bool b.cu.wp, .bool b.cu.og, .int .i64 b.cu.a, .int .i64 b.cu.b, .int .i64 b.cu.c, .int .i64 b.cu.d, .int .i64 b.cu.l, .int .i64 b.cu.r, .int .i64 b.cu.s, .int .i64 b.m.t, .int .i64 b.m.l, .int .i64 b.m.b, .int .i64 b.m.r] _ (range_blk (show (ext ((w.alloc (.cells #[.int .i64 b.rows, .int .i64 b.cols, .slice b.sa b.ss.length b.sc, .slice b.ta b.ts.length b.tc, .int .i64 b.cu.row, .int .i64 b.cu.col, .int .u8 b.cu.rd, .bool b.cu.kp, .bool b.cu.wp, .bool b.cu.og, .int .i64 b.cu.a, .int .i64 b.cu.b, .int .i64 b.cu.c, .int .i64 b.cu.d, .int .i64 b.cu.l, .int .i64 b.cu.r, .int .i64 b.cu.s, .int .i64 b.m.t, .int .i64 b.m.l, .int .i64 b.m.b, .int .i64 b.m.r] 33)).alloc (.cells #[.int .i64 a.kd, .int .i64 a.n, .int .i64 a.m, .bool a.fl] 35)) x1).heap[w.heap.size]? = some (.cells #[.int .i64 b.rows, .int .i64 b.cols, .slice b.sa b.ss.length b.sc, .slice b.ta b.ts.length b.tc, .int .i64 b.cu.row, .int .i64 b.cu.col, .int .u8 b.cu.rd, .bool b.cu.kp, .bool b.cu.wp, .bool b.cu.og, .int .i64 b.cu.a, .int .i64 b.cu.b, .int .i64 b.cu.c, .int .i64 b.cu.d, .int .i64 b.cu.l, .int .i64 b.cu.r, .int .i64 b.cu.s, .int .i64 b.m.t, .int .i64 b.m.l, .int .i64 b.m.b, .int .i64 b.m.r] 33 (0, 0)) by (repeat (first | ((with_reducible refine heap_at _ _ ?_); (focus (first | rfl | (simp [go_sem]; done) | (simp [go_sem]; omega)))) | ((with_reducible refine (heap_old _ _ ?_).trans ?_); (focus (first | (simp [go_sem]; done) | (simp [go_sem]; omega)))) | ((with_reducible refine (block_ext _ _ ?_).trans ?_); (focus (first | (simp [go_sem]; done) | (simp [go_sem]; omega)))) | ((with_reducible refine (heap_drew _ _).trans ?_))))) 0 _ rfl) Try.underlying33 rfl (by kernel_rfl) ?_)
    | ((go_at_call 9); (with_reducible refine (SH.out _ (by (repeat' (first | (with_reducible exact Below.refl _ _) | (with_reducible refine Below.alloc ?_ ?_ _) | (with_reducible refine below_ext ?_ ?_ _) | (with_reducible refine Below.drew ?_) | (with_reducible refine below_drewN ?_ _) | (with_reducible refine Below.setCell ?_ ?_ _) | go_size | (simp only [go_sem]; omega) | (simp [go_sem]; done) | (simp [go_sem]; omega))))).mono ?_); (rintro _ W1 ⟨p, F, A, c, rfl, hB1, hP, hR, hF⟩); (replace hB1 := Lib.hid hB1); (replace hP := Lib.hid hP); (replace hR := Lib.hid hR); (replace hF := Lib.hid hF))
    | (refine wpList_store_mid rfl 42 (.tmp 6) (.tmp 18) rfl W1.heap.size 0 #[.slice A (begM b) c, .int .i64 (begN b), .int .i64 b.cu.row, .int .i64 b.cu.col, .int .u8 b.cu.rd, .bool b.cu.kp, .bool b.cu.wp, .bool b.cu.og, .int .i64 b.cu.a, .int .i64 b.cu.b, .int .i64 b.cu.c, .int .i64 b.cu.d, .int .i64 b.cu.l, .int .i64 b.cu.r, .int .i64 b.cu.s, .int .i64 b.m.t, .int .i64 b.m.l, .int .i64 b.m.b, .int .i64 b.m.r] rfl rfl (there_blk (heap_at W1 (.cells zero14 42) rfl) (Nat.le_refl _)) (by kernel_rfl) (all_one _ rfl) ?_))
  obtain ⟨W2, e2, hg2, c2⟩ := store_new W1 zero14 42 [.slice A (begM b) c, .int .i64 (begN b), .int .i64 b.cu.row, .int .i64 b.cu.col, .int .u8 b.cu.rd, .bool b.cu.kp, .bool b.cu.wp, .bool b.cu.og, .int .i64 b.cu.a, .int .i64 b.cu.b, .int .i64 b.cu.c, .int .i64 b.cu.d, .int .i64 b.cu.l, .int .i64 b.cu.r, .int .i64 b.cu.s, .int .i64 b.m.t, .int .i64 b.m.l, .int .i64 b.m.b, .int .i64 b.m.r] rfl
  rw [e2]
  go_upto_region 4 with fail
  obtain ⟨HS, hHS⟩ : ∃ HS, HS = W1.heap.size := ⟨_, rfl⟩
  have hsz : (ext ((w.alloc (.cells #[.int .i64 b.rows, .int .i64 b.cols, .slice b.sa b.ss.length b.sc, .slice b.ta b.ts.length b.tc, .int .i64 b.cu.row, .int .i64 b.cu.col, .int .u8 b.cu.rd, .bool b.cu.kp, .bool b.cu.wp, .bool b.cu.og, .int .i64 b.cu.a, .int .i64 b.cu.b, .int .i64 b.cu.c, .int .i64 b.cu.d, .int .i64 b.cu.l, .int .i64 b.cu.r, .int .i64 b.cu.s, .int .i64 b.m.t, .int .i64 b.m.l, .int .i64 b.m.b, .int .i64 b.m.r] 33)).alloc (.cells #[.int .i64 a.kd, .int .i64 a.n, .int .i64 a.m, .bool a.fl] 35)) x1).heap.size ≤ W1.heap.size := hB1.out.size
  have hszF : ∀ q, F q → w.heap.size + 1 + 1 ≤ q ∧ q < HS := fun q f => ⟨by have := hF.out q f; simp at this; omega, by have := hP.out.lt q f; omega⟩
  have hW1w : w.heap.size + 1 + 1 ≤ W1.heap.size := by simp at hsz; omega
  have hb0 := Lib.hid (show W2.heap[w.heap.size]? = some (.cells #[.int .i64 b.rows, .int .i64 b.cols, .slice b.sa b.ss.length b.sc, .slice b.ta b.ts.length b.tc, .int .i64 b.cu.row, .int .i64 b.cu.col, .int .u8 b.cu.rd, .bool b.cu.kp, .bool b.cu.wp, .bool b.cu.og, .int .i64 b.cu.a, .int .i64 b.cu.b, .int .i64 b.cu.c, .int .i64 b.cu.d, .int .i64 b.cu.l, .int .i64 b.cu.r, .int .i64 b.cu.s, .int .i64 b.m.t, .int .i64 b.m.l, .int .i64 b.m.b, .int .i64 b.m.r] 33 (0, 0)) from (hg2.block _ (by omega)).trans ((hB1.out.block _ (by simp; omega)).trans (by (repeat (first | ((with_reducible refine heap_at _ _ ?_); (focus (first | rfl | (simp [go_sem]; done) | (simp [go_sem]; omega)))) | ((with_reducible refine (heap_old _ _ ?_).trans ?_); (focus (first | (simp [go_sem]; done) | (simp [go_sem]; omega)))) | ((with_reducible refine (block_ext _ _ ?_).trans ?_); (focus (first | (simp [go_sem]; done) | (simp [go_sem]; omega)))) | ((with_reducible refine (heap_drew _ _).trans ?_)))))))
  have ha0 := Lib.hid (show W2.heap[w.heap.size + 1]? = some (.cells #[.int .i64 a.kd, .int .i64 a.n, .int .i64 a.m, .bool a.fl] 35 (0, 0)) from (hg2.block _ (by omega)).trans ((hB1.out.block _ (by simp; omega)).trans (by (repeat (first | ((with_reducible refine heap_at _ _ ?_); (focus (first | rfl | (simp [go_sem]; done) | (simp [go_sem]; omega)))) | ((with_reducible refine (heap_old _ _ ?_).trans ?_); (focus (first | (simp [go_sem]; done) | (simp [go_sem]; omega)))) | ((with_reducible refine (block_ext _ _ ?_).trans ?_); (focus (first | (simp [go_sem]; done) | (simp [go_sem]; omega)))) | ((with_reducible refine (heap_drew _ _).trans ?_)))))))
  have hs0 := Lib.hid (show W2.heap[HS]? = some (.cells #[.slice A (begM b) c, .int .i64 (begN b), .int .i64 b.cu.row, .int .i64 b.cu.col, .int .u8 b.cu.rd, .bool b.cu.kp, .bool b.cu.wp, .bool b.cu.og, .int .i64 b.cu.a, .int .i64 b.cu.b, .int .i64 b.cu.c, .int .i64 b.cu.d, .int .i64 b.cu.l, .int .i64 b.cu.r, .int .i64 b.cu.s, .int .i64 b.m.t, .int .i64 b.m.l, .int .i64 b.m.b, .int .i64 b.m.r] 42 (0, 0)) by rw [hHS]; exact c2)
  have hP2 := Lib.hid (hP.out.grow hg2)
  have hR2 := Lib.hid (hR.out.grow hg2)
  have hBw : Below w.heap.size w W2 := (show Below w.heap.size w (ext ((w.alloc (.cells #[.int .i64 b.rows, .int .i64 b.cols, .slice b.sa b.ss.length b.sc, .slice b.ta b.ts.length b.tc, .int .i64 b.cu.row, .int .i64 b.cu.col, .int .u8 b.cu.rd, .bool b.cu.kp, .bool b.cu.wp, .bool b.cu.og, .int .i64 b.cu.a, .int .i64 b.cu.b, .int .i64 b.cu.c, .int .i64 b.cu.d, .int .i64 b.cu.l, .int .i64 b.cu.r, .int .i64 b.cu.s, .int .i64 b.m.t, .int .i64 b.m.l, .int .i64 b.m.b, .int .i64 b.m.r] 33)).alloc (.cells #[.int .i64 a.kd, .int .i64 a.n, .int .i64 a.m, .bool a.fl] 35)) x1) by (repeat' (first | (with_reducible exact Below.refl _ _) | (with_reducible refine Below.alloc ?_ ?_ _) | (with_reducible refine below_ext ?_ ?_ _) | (with_reducible refine Below.drew ?_) | (with_reducible refine below_drewN ?_ _) | (with_reducible refine Below.setCell ?_ ?_ _) | go_size | (simp only [go_sem]; omega) | (simp [go_sem]; done) | (simp [go_sem]; omega)))).trans ((hB1.out.trans (hg2.mono hsz)).mono (by simp; omega))
  rw [← hHS]
  clear hHS e2 c2
  clear hB1 hP hR hF SH AW hg2 hsz hW1w
  have gl0 := heap_in hb0.out
  have gl1 := heap_in ha0.out
  have gls := heap_in hs0.out
  have a0 : W2.cell? ⟨w.heap.size + 1, 0, none⟩ = some (.int .i64 a.kd) := by rw [cell_in ha0.out]; rfl
  have a1 : W2.cell? ⟨w.heap.size + 1, 1, none⟩ = some (.int .i64 a.n) := by rw [cell_in ha0.out]; rfl
  have DI := Lib.hid (fun w' (h : Below W2.heap.size W2 w') => display_ed (hP2.out.grow h) okS b.cu a.n true)
  have RO := Lib.hid (fun w' (h : Below W2.heap.size W2 w') => row_ed (hP2.out.grow h) okS b.cu a.n true)
  have okS' := Lib.hid okS
  clear okS
  go_upto_if 22 with fail
  go_cut [] (fun wq => ∃ F' T, Hid (Keep F W2 wq) ∧ Hid (PageAt wq F' p T) ∧ Hid (KeptS (begS b) T))
  case first =>
    have rg1 : W2.rangeAt w.heap.size 4 [.int .i64 b.cu.row, .int .i64 b.cu.col, .int .u8 b.cu.rd, .bool b.cu.kp, .bool b.cu.wp, .bool b.cu.og, .int .i64 b.cu.a, .int .i64 b.cu.b, .int .i64 b.cu.c, .int .i64 b.cu.d, .int .i64 b.cu.l, .int .i64 b.cu.r, .int .i64 b.cu.s] := range_blk hb0.out 4 _ rfl
    by_cases hk : a.kd.tmod 2 = 0
    · as_aux_lemma =>
      have e1 : (a.kd.tmod 2 == 0) = true := by simpa using hk
      go_upto_region 5 with fail
      (refine wp_region_F (S := (fun w' => w'.rangeAt w.heap.size 4 [.int .i64 b.cu.row, .int .i64 b.cu.col, .int .u8 b.cu.rd, .bool b.cu.kp, .bool b.cu.wp, .bool b.cu.og, .int .i64 b.cu.a, .int .i64 b.cu.b, .int .i64 b.cu.c, .int .i64 b.cu.d, .int .i64 b.cu.l, .int .i64 b.cu.r, .int .i64 b.cu.s] ∧ w'.cell? ⟨w.heap.size + 1, 1, none⟩ = some (.int .i64 a.n))) 6 [false, false, false, false, false, false, false] rfl rfl (by kernel_rfl) ?_ (fun hHeld => ?_); (focus ((try dsimp only); (exact ⟨rg1, by simp [go_sem, gl1, a1]⟩); done)))
      ((refine AtF.take (oi := ?_) (v := ?_) 0 ?_ ?_ ?_ ?_ (Or.inl ⟨?_, ?_⟩) (by assumption) ?_; rotate_left 2; rfl; kernel_rfl; kernel_rfl; exact (fun _ _ _ h => h); rfl; (focus (intro w hSw; (try dsimp only at hSw); go_simp; (try with_reducible rfl); done)); (try simp only [Act.put, List.setIfInBounds_toArray, List.set_cons_zero, List.set_cons_succ])); (refine AtF.take (oi := ?_) (v := ?_) 1 ?_ ?_ ?_ ?_ (Or.inl ⟨?_, ?_⟩) (by assumption) ?_; rotate_left 2; rfl; kernel_rfl; kernel_rfl; exact (fun _ _ _ h => h); rfl; (focus (intro w hSw; (try dsimp only at hSw); go_simp; (try with_reducible rfl); done)); (try simp only [Act.put, List.setIfInBounds_toArray, List.set_cons_zero, List.set_cons_succ])))
      (refine AtF.take (oi := ?_) (v := .agg #[.int .i64 b.cu.row, .int .i64 b.cu.col, .int .u8 b.cu.rd, .bool b.cu.kp, .bool b.cu.wp, .bool b.cu.og, .int .i64 b.cu.a, .int .i64 b.cu.b, .int .i64 b.cu.c, .int .i64 b.cu.d, .int .i64 b.cu.l, .int .i64 b.cu.r, .int .i64 b.cu.s]) 2 ?_ ?_ ?_ ?_ ?_ (by assumption) ?_; rotate_left 1; rfl; kernel_rfl; kernel_rfl; exact (fun _ _ _ h => h); (focus ((refine yieldsIf_load_mid rfl 29 (.tmp 24) rfl w.heap.size 4 rfl [.int .i64 b.cu.row, .int .i64 b.cu.col, .int .u8 b.cu.rd, .bool b.cu.kp, .bool b.cu.wp, .bool b.cu.og, .int .i64 b.cu.a, .int .i64 b.cu.b, .int .i64 b.cu.c, .int .i64 b.cu.d, .int .i64 b.cu.l, .int .i64 b.cu.r, .int .i64 b.cu.s] _ (fun w' hS => hS.1) Try.underlying29 rfl (by kernel_rfl)); done)); (try simp only [Act.put, List.setIfInBounds_toArray, List.set_cons_zero, List.set_cons_succ]))
      ((refine AtF.take (oi := ?_) (v := ?_) 4 ?_ ?_ ?_ ?_ (Or.inl ⟨?_, ?_⟩) (by assumption) ?_; rotate_left 2; rfl; kernel_rfl; kernel_rfl; exact (fun _ _ _ h => h); rfl; (focus (intro w hSw; (try dsimp only at hSw); go_simp; (try with_reducible rfl); done)); (try simp only [Act.put, List.setIfInBounds_toArray, List.set_cons_zero, List.set_cons_succ])); (refine AtF.take (oi := ?_) (v := ?_) 5 ?_ ?_ ?_ ?_ (Or.inl ⟨?_, ?_⟩) (by assumption) ?_; rotate_left 2; rfl; kernel_rfl; kernel_rfl; exact (fun _ _ _ h => h); rfl; (focus (intro w hSw; (try dsimp only at hSw); go_simp; (try with_reducible rfl); done)); (try simp only [Act.put, List.setIfInBounds_toArray, List.set_cons_zero, List.set_cons_succ])))
      (refine AtF.only (oi := ?_) 3 ?_ ?_ (fun K hK => ?_); rotate_left 1; rfl; kernel_rfl; (try go_simp); (go_at_call 11; ((with_reducible refine (own_c _).mono ?_); rintro _ _ hgets; obtain ⟨rfl, x3, rfl⟩ := hgets.get; clear hgets)); (refine hK.out _ _ ?_ (fun hHeld => ?_)); (focus ((try dsimp only); (exact ⟨range_grow rg1 gl0 _, by simp [go_sem, gl1, a1]⟩); done)); clear hK K; (try simp only [Act.put, List.setIfInBounds_toArray, List.set_cons_zero, List.set_cons_succ]))
      (refine AtF.last (oi := ?_) ?_ ?_ (fun K hK => ?_); rotate_left 1; rfl; kernel_rfl; go_simp; (go_at_call 10); (with_reducible refine (DI.out _ (by (repeat' (first | (with_reducible exact Below.refl _ _) | (with_reducible refine Below.alloc ?_ ?_ _) | (with_reducible refine below_ext ?_ ?_ _) | (with_reducible refine Below.drew ?_) | (with_reducible refine below_drewN ?_ _) | (with_reducible refine Below.setCell ?_ ?_ _) | go_size | (simp only [go_sem]; omega) | (simp [go_sem]; done) | (simp [go_sem]; omega))))).mono ?_); (rintro _ W3 ⟨rfl, hD⟩); refine hK.out _ _ ?_; clear hK K; (try simp only [Act.put, List.setIfInBounds_toArray, List.set_cons_zero, List.set_cons_succ]))
      clear hHeld
      replace hD := Did.back hD (show Below W2.heap.size W2 _ by (repeat' (first | (with_reducible exact Below.refl _ _) | (with_reducible refine Below.alloc ?_ ?_ _) | (with_reducible refine below_ext ?_ ?_ _) | (with_reducible refine Below.drew ?_) | (with_reducible refine below_drewN ?_ _) | (with_reducible refine Below.setCell ?_ ?_ _) | go_size | (simp only [go_sem]; omega) | (simp [go_sem]; done) | (simp [go_sem]; omega)))) hP2.out.lt
      go_wp2_with fail
      refine Met.intro ?_
      go_step
      (repeat apply Exists.intro)
      exact ⟨⟨_, _, Lib.hid hD.1, Lib.hid hD.2, Lib.hid (kept_era okS'.out false _ _ _)⟩, rfl⟩
    · as_aux_lemma =>
      have e1 : (a.kd.tmod 2 == 0) = false := by simpa using hk
      go_upto_region 6 with fail
      (refine wp_region_F (S := (fun w' => w'.rangeAt w.heap.size 4 [.int .i64 b.cu.row, .int .i64 b.cu.col, .int .u8 b.cu.rd, .bool b.cu.kp, .bool b.cu.wp, .bool b.cu.og, .int .i64 b.cu.a, .int .i64 b.cu.b, .int .i64 b.cu.c, .int .i64 b.cu.d, .int .i64 b.cu.l, .int .i64 b.cu.r, .int .i64 b.cu.s] ∧ w'.cell? ⟨w.heap.size + 1, 1, none⟩ = some (.int .i64 a.n))) 6 [false, false, false, false, false, false, false] rfl rfl (by kernel_rfl) ?_ (fun hHeld => ?_); (focus ((try dsimp only); (exact ⟨rg1, by simp [go_sem, gl1, a1]⟩); done)))
      ((refine AtF.take (oi := ?_) (v := ?_) 0 ?_ ?_ ?_ ?_ (Or.inl ⟨?_, ?_⟩) (by assumption) ?_; rotate_left 2; rfl; kernel_rfl; kernel_rfl; exact (fun _ _ _ h => h); rfl; (focus (intro w hSw; (try dsimp only at hSw); go_simp; (try with_reducible rfl); done)); (try simp only [Act.put, List.setIfInBounds_toArray, List.set_cons_zero, List.set_cons_succ])); (refine AtF.take (oi := ?_) (v := ?_) 1 ?_ ?_ ?_ ?_ (Or.inl ⟨?_, ?_⟩) (by assumption) ?_; rotate_left 2; rfl; kernel_rfl; kernel_rfl; exact (fun _ _ _ h => h); rfl; (focus (intro w hSw; (try dsimp only at hSw); go_simp; (try with_reducible rfl); done)); (try simp only [Act.put, List.setIfInBounds_toArray, List.set_cons_zero, List.set_cons_succ])))
      (refine AtF.take (oi := ?_) (v := .agg #[.int .i64 b.cu.row, .int .i64 b.cu.col, .int .u8 b.cu.rd, .bool b.cu.kp, .bool b.cu.wp, .bool b.cu.og, .int .i64 b.cu.a, .int .i64 b.cu.b, .int .i64 b.cu.c, .int .i64 b.cu.d, .int .i64 b.cu.l, .int .i64 b.cu.r, .int .i64 b.cu.s]) 2 ?_ ?_ ?_ ?_ ?_ (by assumption) ?_; rotate_left 1; rfl; kernel_rfl; kernel_rfl; exact (fun _ _ _ h => h); (focus ((refine yieldsIf_load_mid rfl 29 (.tmp 31) rfl w.heap.size 4 rfl [.int .i64 b.cu.row, .int .i64 b.cu.col, .int .u8 b.cu.rd, .bool b.cu.kp, .bool b.cu.wp, .bool b.cu.og, .int .i64 b.cu.a, .int .i64 b.cu.b, .int .i64 b.cu.c, .int .i64 b.cu.d, .int .i64 b.cu.l, .int .i64 b.cu.r, .int .i64 b.cu.s] _ (fun w' hS => hS.1) Try.underlying29 rfl (by kernel_rfl)); done)); (try simp only [Act.put, List.setIfInBounds_toArray, List.set_cons_zero, List.set_cons_succ]))
      ((refine AtF.take (oi := ?_) (v := ?_) 4 ?_ ?_ ?_ ?_ (Or.inl ⟨?_, ?_⟩) (by assumption) ?_; rotate_left 2; rfl; kernel_rfl; kernel_rfl; exact (fun _ _ _ h => h); rfl; (focus (intro w hSw; (try dsimp only at hSw); go_simp; (try with_reducible rfl); done)); (try simp only [Act.put, List.setIfInBounds_toArray, List.set_cons_zero, List.set_cons_succ])); (refine AtF.take (oi := ?_) (v := ?_) 5 ?_ ?_ ?_ ?_ (Or.inl ⟨?_, ?_⟩) (by assumption) ?_; rotate_left 2; rfl; kernel_rfl; kernel_rfl; exact (fun _ _ _ h => h); rfl; (focus (intro w hSw; (try dsimp only at hSw); go_simp; (try with_reducible rfl); done)); (try simp only [Act.put, List.setIfInBounds_toArray, List.set_cons_zero, List.set_cons_succ])))
      (refine AtF.only (oi := ?_) 3 ?_ ?_ (fun K hK => ?_); rotate_left 1; rfl; kernel_rfl; (try go_simp); (go_at_call 11; ((with_reducible refine (own_c _).mono ?_); rintro _ _ hgets; obtain ⟨rfl, x3, rfl⟩ := hgets.get; clear hgets)); (refine hK.out _ _ ?_ (fun hHeld => ?_)); (focus ((try dsimp only); (exact ⟨range_grow rg1 gl0 _, by simp [go_sem, gl1, a1]⟩); done)); clear hK K; (try simp only [Act.put, List.setIfInBounds_toArray, List.set_cons_zero, List.set_cons_succ]))
      (refine AtF.last (oi := ?_) ?_ ?_ (fun K hK => ?_); rotate_left 1; rfl; kernel_rfl; go_simp; (go_at_call 12); (with_reducible refine (RO.out _ (by (repeat' (first | (with_reducible exact Below.refl _ _) | (with_reducible refine Below.alloc ?_ ?_ _) | (with_reducible refine below_ext ?_ ?_ _) | (with_reducible refine Below.drew ?_) | (with_reducible refine below_drewN ?_ _) | (with_reducible refine Below.setCell ?_ ?_ _) | go_size | (simp only [go_sem]; omega) | (simp [go_sem]; done) | (simp [go_sem]; omega))))).mono ?_); (rintro _ W3 ⟨rfl, hD⟩); refine hK.out _ _ ?_; clear hK K; (try simp only [Act.put, List.setIfInBounds_toArray, List.set_cons_zero, List.set_cons_succ]))
      clear hHeld
      replace hD := Did.back hD (show Below W2.heap.size W2 _ by (repeat' (first | (with_reducible exact Below.refl _ _) | (with_reducible refine Below.alloc ?_ ?_ _) | (with_reducible refine below_ext ?_ ?_ _) | (with_reducible refine Below.drew ?_) | (with_reducible refine below_drewN ?_ _) | (with_reducible refine Below.setCell ?_ ?_ _) | go_size | (simp only [go_sem]; omega) | (simp [go_sem]; done) | (simp [go_sem]; omega)))) hP2.out.lt
      go_wp2_with fail
      refine Met.intro ?_
      go_step
      (repeat apply Exists.intro)
      exact ⟨⟨_, _, Lib.hid hD.1, Lib.hid hD.2, Lib.hid (kept_era okS'.out true _ _ _)⟩, rfl⟩
  obtain ⟨F', T, hK, hPT, hT⟩ := hcut
  have hs := (hK.out.block HS gls (fun f => by have := hszF _ f; omega)).trans hs0.out
  have s0 : wc.cell? ⟨HS, 0, none⟩ = some (.slice A (begM b) c) := by rw [cell_in hs]; rfl
  have sl := heap_in hs
  have hRc := (hR2.out.mono (G := F) (fun x _ h => .inl h)).keep hK.out
  obtain ⟨L, rowsL, rfl, hl, hv⟩ := hRc.rows (by omega)
  replace hl := Lib.hid hl
  have hBc : Below w.heap.size w wc := hBw.trans (hK.out.below (B := w.heap.size) (fun x f => by have := hszF x f; omega) hBw.size)
  replace hBc := Lib.hid hBc
  have hm1 := hm.1
  have hn1 := hn.1
  have hn9 := hn.2.1
  have hm8 := hm.2.1
  clear hs hRc hR2 hP2 hs0 ha0 hb0 DI RO a0 a1 gl0 gl1 gls hm hn hszF hBw
  go_wp2_with fail
  go_loopw [41] (fun iv wr => ∃ i : Nat, i ≤ begM b ∧ iv = .int .i64 i ∧ Hid (Below wc.heap.size wc wr)) (fun iv _ => begM b - (intOf iv).toNat)
  case atStart => exact ⟨0, by omega, rfl, Lib.hid (Below.refl _ _)⟩
  case round =>
    clear s0 sl
    obtain ⟨i, hi, rfl, hbr⟩ := hrel
    obtain ⟨Wa, hWa⟩ : ∃ Wa, Wa = wr := ⟨_, rfl⟩
    subst hWa
    by_cases hlt : i < begM b
    · have e1 : decide ((i : Int) < (begM b : Int)) = true := decide_eq_true (by omega)
      have hiS : i < (begS b).rows.length := by omega
      have hla := hl.out.grow hbr.out
      obtain ⟨L', g, k, xs, z, eL, eS, hA, kc1, kc2, d0, d1, dl⟩ := hla.at hv hiS
      injection eL with eL
      injection eL with eL
      subst eL
      have hxl : xs.length = begN b := by have := okS'.out.len hiS; rw [eS] at this; exact this
      rw [hxl] at kc1 d0
      simp only [maxLen] at kc2
      have hz : (lineOf T i).2 = z := by
        rw [lineOf_in (by rw [hT.out.m]; exact hiS)]
        have h1 := hT.out.size i hiS
        rw [rowD_in hiS, rowD_in (by rw [hT.out.m]; exact hiS), eS] at h1
        exact h1
      have hcells : ∀ q (hq : q < begN b), atS (begS b) i q = xs[q]'(by omega) := fun q hq => by
        rw [atS_in hiS (by omega) (by rw [eS]; simp only; omega)]
        simp only [eS]
      replace hcells := Lib.hid hcells
      replace hz := Lib.hid hz
      clear eS hla
      have LN := Lib.hid (fun w' (h : Below wc.heap.size wc w') => line_p (hPT.out.grow h) hT.out.ok i)
      rw [hz.out] at LN
      generalize (lineOf T i).1 = ys at LN
      have AT := Lib.hid (fun w' (h : Below wc.heap.size wc w') (q : Nat) => at_p (hPT.out.grow h) hT.out.ok i q)
      have hbrs := hbr.out.size
      go_wp2_with fail
      go_loopw [49] (fun kv wv => ∃ q : Nat, q ≤ begN b ∧ kv = .int .i64 q ∧ Hid (Below Wa.heap.size Wa wv) ∧ Hid (wv.heap[Wa.heap.size]? = some (.cells #[.slice (some ⟨g, 0, none⟩) (begN b) k, .int .i64 z] 54 (0, 0)))) (fun kv _ => begN b - (intOf kv).toNat)
      case atStart => exact ⟨0, by omega, rfl, Lib.hid (by (repeat' (first | (with_reducible exact Below.refl _ _) | (with_reducible refine Below.alloc ?_ ?_ _) | (with_reducible refine below_ext ?_ ?_ _) | (with_reducible refine Below.drew ?_) | (with_reducible refine below_drewN ?_ _) | (with_reducible refine Below.setCell ?_ ?_ _) | go_size | (simp only [go_sem]; omega) | (simp [go_sem]; done) | (simp [go_sem]; omega)))), Lib.hid (by (repeat (first | ((with_reducible refine heap_at _ _ ?_); (focus (first | rfl | (simp [go_sem]; done) | (simp [go_sem]; omega)))) | ((with_reducible refine (heap_old _ _ ?_).trans ?_); (focus (first | (simp [go_sem]; done) | (simp [go_sem]; omega)))) | ((with_reducible refine (block_ext _ _ ?_).trans ?_); (focus (first | (simp [go_sem]; done) | (simp [go_sem]; omega)))) | ((with_reducible refine (heap_drew _ _).trans ?_)))))⟩
      case round =>
        obtain ⟨q, hq, rfl, hbv, hlv⟩ := hrel
        have hWv := hbr.out.trans (hbv.out.mono hbr.out.size)
        replace hWv := Lib.hid hWv
        by_cases hqn : q < begN b
        · have e2 : decide ((q : Int) < (begN b : Int)) = true := decide_eq_true (by omega)
          obtain ⟨g', eg, _, gl, f0, f1, f2, _⟩ := own_at (hA.grow hbv.out) q (by simp only; omega)
          injection eg with eg
          injection eg with eg
          subst eg
          have hx := hcells.out q hqn
          have hc := hT.out.cell i q hiS (by omega)
          have AT2 := Lib.hid (fun w' (h : Below wr.heap.size wr w') => AT.out w' (hWv.out.trans (h.mono hWv.out.size)) q)
          rw [hx] at hc
          simp only at f0 f1 f2
          generalize xs[q] = x at f0 f1 f2 hc
          generalize atS T i q = y at AT2 hc
          obtain ⟨xg, xr, xk⟩ := x
          have hlv' := hlv
          clear hx hlv AT LN
          have FIN := Lib.hid (fun wz (h : Below wr.heap.size wr wz) => (show Below Wa.heap.size Wa wz ∧ wz.heap[Wa.heap.size]? = some (.cells #[.slice (some ⟨g, 0, none⟩) (begN b) k, .int .i64 z] 54 (0, 0)) from ⟨hbv.out.trans (h.mono hbv.out.size), (h.block _ (heap_in hlv'.out)).trans hlv'.out⟩))
          rcases hc with rfl | ⟨hk, rfl⟩
          · have e3 := eqC_t (rfl : (⟨xg, xr, xk⟩ : Cl) = ⟨xg, xr, xk⟩)
            cases xk
            all_goals
              go_wp2_with (go_at_call 13; ((with_reducible refine (AT2.out _ (by (repeat' (first | (with_reducible exact Below.refl _ _) | (with_reducible refine Below.alloc ?_ ?_ _) | (with_reducible refine below_ext ?_ ?_ _) | (with_reducible refine Below.drew ?_) | (with_reducible refine below_drewN ?_ _) | (with_reducible refine Below.setCell ?_ ?_ _) | go_size | (simp only [go_sem]; omega) | (simp [go_sem]; done) | (simp [go_sem]; omega))))).mono ?_); rintro _ _ hgets; obtain ⟨rfl, x5, rfl⟩ := hgets.get; clear hgets))
              refine ⟨⟨q + 1, by omega, by go_num, Lib.hid (FIN.out _ (by (repeat' (first | (with_reducible exact Below.refl _ _) | (with_reducible refine Below.alloc ?_ ?_ _) | (with_reducible refine below_ext ?_ ?_ _) | (with_reducible refine Below.drew ?_) | (with_reducible refine below_drewN ?_ _) | (with_reducible refine Below.setCell ?_ ?_ _) | go_size | (simp only [go_sem]; omega) | (simp [go_sem]; done) | (simp [go_sem]; omega))))).1, Lib.hid (FIN.out _ (by (repeat' (first | (with_reducible exact Below.refl _ _) | (with_reducible refine Below.alloc ?_ ?_ _) | (with_reducible refine below_ext ?_ ?_ _) | (with_reducible refine Below.drew ?_) | (with_reducible refine below_drewN ?_ _) | (with_reducible refine Below.setCell ?_ ?_ _) | go_size | (simp only [go_sem]; omega) | (simp [go_sem]; done) | (simp [go_sem]; omega))))).2⟩, by simp [intOf]; omega⟩
          · simp only at hk
            subst hk
            by_cases h32 : xg = 32
            · subst h32
              have e3 := eqC_t (rfl : (⟨32, xr, false⟩ : Cl) = ⟨32, xr, false⟩)
              go_wp2_with (go_at_call 13; ((with_reducible refine (AT2.out _ (by (repeat' (first | (with_reducible exact Below.refl _ _) | (with_reducible refine Below.alloc ?_ ?_ _) | (with_reducible refine below_ext ?_ ?_ _) | (with_reducible refine Below.drew ?_) | (with_reducible refine below_drewN ?_ _) | (with_reducible refine Below.setCell ?_ ?_ _) | go_size | (simp only [go_sem]; omega) | (simp [go_sem]; done) | (simp [go_sem]; omega))))).mono ?_); rintro _ _ hgets; obtain ⟨rfl, x5, rfl⟩ := hgets.get; clear hgets))
              refine ⟨⟨q + 1, by omega, by go_num, Lib.hid (FIN.out _ (by (repeat' (first | (with_reducible exact Below.refl _ _) | (with_reducible refine Below.alloc ?_ ?_ _) | (with_reducible refine below_ext ?_ ?_ _) | (with_reducible refine Below.drew ?_) | (with_reducible refine below_drewN ?_ _) | (with_reducible refine Below.setCell ?_ ?_ _) | go_size | (simp only [go_sem]; omega) | (simp [go_sem]; done) | (simp [go_sem]; omega))))).1, Lib.hid (FIN.out _ (by (repeat' (first | (with_reducible exact Below.refl _ _) | (with_reducible refine Below.alloc ?_ ?_ _) | (with_reducible refine below_ext ?_ ?_ _) | (with_reducible refine Below.drew ?_) | (with_reducible refine below_drewN ?_ _) | (with_reducible refine Below.setCell ?_ ?_ _) | go_size | (simp only [go_sem]; omega) | (simp [go_sem]; done) | (simp [go_sem]; omega))))).2⟩, by simp [intOf]; omega⟩
            · have e4 : ((32 : Int) == xg) = false := by simpa using fun h => h32 h.symm
              go_wp2_with (go_at_call 13; ((with_reducible refine (AT2.out _ (by (repeat' (first | (with_reducible exact Below.refl _ _) | (with_reducible refine Below.alloc ?_ ?_ _) | (with_reducible refine below_ext ?_ ?_ _) | (with_reducible refine Below.drew ?_) | (with_reducible refine below_drewN ?_ _) | (with_reducible refine Below.setCell ?_ ?_ _) | go_size | (simp only [go_sem]; omega) | (simp [go_sem]; done) | (simp [go_sem]; omega))))).mono ?_); rintro _ _ hgets; obtain ⟨rfl, x5, rfl⟩ := hgets.get; clear hgets))
              refine ⟨⟨q + 1, by omega, by go_num, Lib.hid (FIN.out _ (by (repeat' (first | (with_reducible exact Below.refl _ _) | (with_reducible refine Below.alloc ?_ ?_ _) | (with_reducible refine below_ext ?_ ?_ _) | (with_reducible refine Below.drew ?_) | (with_reducible refine below_drewN ?_ _) | (with_reducible refine Below.setCell ?_ ?_ _) | go_size | (simp only [go_sem]; omega) | (simp [go_sem]; done) | (simp [go_sem]; omega))))).1, Lib.hid (FIN.out _ (by (repeat' (first | (with_reducible exact Below.refl _ _) | (with_reducible refine Below.alloc ?_ ?_ _) | (with_reducible refine below_ext ?_ ?_ _) | (with_reducible refine Below.drew ?_) | (with_reducible refine below_drewN ?_ _) | (with_reducible refine Below.setCell ?_ ?_ _) | go_size | (simp only [go_sem]; omega) | (simp [go_sem]; done) | (simp [go_sem]; omega))))).2⟩, by simp [intOf]; omega⟩
        · obtain rfl : q = begN b := by omega
          have e2 : decide ((begN b : Int) < (begN b : Int)) = false := by simp
          have l1 : wr.cell? ⟨Wa.heap.size, 1, none⟩ = some (.int .i64 z) := by rw [cell_in hlv.out]; rfl
          have ll := heap_in hlv.out
          have LN2 := Lib.hid (fun w' (h : Below wr.heap.size wr w') => LN.out w' (hWv.out.trans (h.mono hWv.out.size)))
          go_upto_region 17 with fail
          (refine wp_region_F (S := (fun w' => w'.cell? ⟨Wa.heap.size, 1, none⟩ = some (.int .i64 z))) 6 [false, false, false, false, false, false, false] rfl rfl (by kernel_rfl) ?_ (fun hHeld => ?_); (focus ((try dsimp only); (simp [go_sem, l1, ll]); done)))
          ((refine AtF.take (oi := ?_) (v := ?_) 0 ?_ ?_ ?_ ?_ (Or.inl ⟨?_, ?_⟩) (by assumption) ?_; rotate_left 2; rfl; kernel_rfl; kernel_rfl; exact (fun _ _ _ h => h); rfl; (focus (intro w hSw; (try dsimp only at hSw); go_simp; (try with_reducible rfl); done)); (try simp only [Act.put, List.setIfInBounds_toArray, List.set_cons_zero, List.set_cons_succ])); (refine AtF.take (oi := ?_) (v := ?_) 1 ?_ ?_ ?_ ?_ (Or.inl ⟨?_, ?_⟩) (by assumption) ?_; rotate_left 2; rfl; kernel_rfl; kernel_rfl; exact (fun _ _ _ h => h); rfl; (focus (intro w hSw; (try dsimp only at hSw); go_simp; (try with_reducible rfl); done)); (try simp only [Act.put, List.setIfInBounds_toArray, List.set_cons_zero, List.set_cons_succ])); (refine AtF.take (oi := ?_) (v := ?_) 4 ?_ ?_ ?_ ?_ (Or.inl ⟨?_, ?_⟩) (by assumption) ?_; rotate_left 2; rfl; kernel_rfl; kernel_rfl; exact (fun _ _ _ h => h); rfl; (focus (intro w hSw; (try dsimp only at hSw); go_simp; (try with_reducible rfl); done)); (try simp only [Act.put, List.setIfInBounds_toArray, List.set_cons_zero, List.set_cons_succ])); (refine AtF.take (oi := ?_) (v := ?_) 5 ?_ ?_ ?_ ?_ (Or.inl ⟨?_, ?_⟩) (by assumption) ?_; rotate_left 2; rfl; kernel_rfl; kernel_rfl; exact (fun _ _ _ h => h); rfl; (focus (intro w hSw; (try dsimp only at hSw); go_simp; (try with_reducible rfl); done)); (try simp only [Act.put, List.setIfInBounds_toArray, List.set_cons_zero, List.set_cons_succ])))
          (refine AtF.only (oi := ?_) 2 ?_ ?_ (fun K hK => ?_); rotate_left 1; rfl; kernel_rfl; (try go_simp); (go_at_call 14); (with_reducible refine (LN2.out _ (by (repeat' (first | (with_reducible exact Below.refl _ _) | (with_reducible refine Below.alloc ?_ ?_ _) | (with_reducible refine below_ext ?_ ?_ _) | (with_reducible refine Below.drew ?_) | (with_reducible refine below_drewN ?_ _) | (with_reducible refine Below.setCell ?_ ?_ _) | go_size | (simp only [go_sem]; omega) | (simp [go_sem]; done) | (simp [go_sem]; omega))))).mono ?_); (rintro _ _ ⟨A1, c1, x1, rfl, rfl, hO⟩); clear hO; (refine hK.out _ _ ?_ (fun hHeld => ?_)); (focus ((try dsimp only); (simp [go_sem, l1, ll]); done)); clear hK K; (try simp only [Act.put, List.setIfInBounds_toArray, List.set_cons_zero, List.set_cons_succ]))
          ((refine AtF.take (oi := ?_) (v := ?_) 3 ?_ ?_ ?_ ?_ (Or.inl ⟨?_, ?_⟩) (by assumption) ?_; rotate_left 2; rfl; kernel_rfl; kernel_rfl; exact (fun _ _ _ h => h); rfl; (focus (intro w hSw; (try dsimp only at hSw); go_simp; (try with_reducible rfl); done)); (try simp only [Act.put, List.setIfInBounds_toArray, List.set_cons_zero, List.set_cons_succ])))
          (refine AtF.last (oi := ?_) ?_ ?_ (fun K hK => ?_); rotate_left 1; rfl; kernel_rfl; go_simp; skip; refine hK.out _ _ ?_; clear hK K; (try simp only [Act.put, List.setIfInBounds_toArray, List.set_cons_zero, List.set_cons_succ]))
          clear hHeld
          go_wp2_with fail
          refine ⟨⟨i + 1, by omega, by go_num, Lib.hid (hWv.out.trans (Below.mono (B := wr.heap.size) (by (repeat' (first | (with_reducible exact Below.refl _ _) | (with_reducible refine Below.alloc ?_ ?_ _) | (with_reducible refine below_ext ?_ ?_ _) | (with_reducible refine Below.drew ?_) | (with_reducible refine below_drewN ?_ _) | (with_reducible refine Below.setCell ?_ ?_ _) | go_size | (simp only [go_sem]; omega) | (simp [go_sem]; done) | (simp [go_sem]; omega)))) hWv.out.size))⟩, by simp [intOf]; omega⟩
    · obtain rfl : i = begM b := by omega
      have e1 : decide ((begM b : Int) < (begM b : Int)) = false := by simp
      go_wp2_with fail
      go_returns
      exact ⟨rfl, hBc.out.trans (Below.mono (B := wc.heap.size) (by first | exact hbr.out | (repeat' (first | (with_reducible exact Below.refl _ _) | (with_reducible refine Below.alloc ?_ ?_ _) | (with_reducible refine below_ext ?_ ?_ _) | (with_reducible refine Below.drew ?_) | (with_reducible refine below_drewN ?_ _) | (with_reducible refine Below.setCell ?_ ?_ _) | go_size | (simp only [go_sem]; omega) | (simp [go_sem]; done) | (simp [go_sem]; omega)))) hBc.out.size)⟩
end Go.Proofs.Ytdfiknemfpkdmaa
