/- EditParts: the walk.  -/
import Derived.Test.YtdfiknemfpkdmaaSh
import Derived.Test.YtdfiknemfpkdmaaAwake15
import Derived.Test.YtdfiknemfpkdmaaEdL
import Derived.Test.YtdfiknemfpkdmaaPgClone
import Derived.Test.YtdfiknemfpkdmaaPgSame
namespace Go.Proofs.Ytdfiknemfpkdmaa
open Go.RowKit
set_option linter.unusedVariables false
set_option linter.unusedSimpArgs false

/-- two pages, and a cursor in a variable -/
structure Two (B : Nat) (w0 w : World) (HC : Nat) (y : Cu) (F G : Nat → Prop) (p q : Nat) (S T : PgS) : Prop where
  below : Below B w0 w
  cv : CVar 49 w HC y
  p : PageAt w F p S
  q : PageAt w G q T
  dis : ∀ b, F b → ¬ G b
  fc : ¬ F HC
  gc : ¬ G HC
  ge : ∀ b, F b ∨ G b → B ≤ b
  bw : B ≤ w.heap.size
section
variable {B : Nat} {w0 w w1 w2 : World} {HC : Nat} {y : Cu} {F G : Nat → Prop} {p q : Nat} {S S' T T' : PgS}
theorem Two.grow (h : Two B w0 w HC y F G p q S T) (hb : Below w.heap.size w w1) : Two B w0 w1 HC y F G p q S T :=
  ⟨h.below.trans (hb.mono h.bw), h.cv.grow hb, h.p.grow hb, h.q.grow hb, h.dis, h.fc, h.gc, h.ge, Nat.le_trans h.bw hb.size⟩
theorem Two.left (h : Two B w0 w HC y F G p q S T) (hb : Below w.heap.size w w1) (hD : Did F p S' w1 w2) : Two B w0 w2 HC y (more F w1 w2) G p q S' T := by
  have h1 := h.grow hb
  have hs := hD.1.size
  refine ⟨h1.below.trans (hD.1.below (B := B) (fun b f => h.ge b (.inl f)) h1.bw), h1.cv.keep hD.1 h.fc, hD.2, h1.q.keep hD.1 (fun b g f => h.dis b f g), fun b f g => ?_, fun f => ?_, h.gc, fun b f => ?_, Nat.le_trans h1.bw hs⟩
  · rcases f with f | f
    · exact h.dis b f g
    · have := h1.q.lt b g; omega
  · rcases f with f | f
    · exact h.fc f
    · have := heap_in h1.cv; omega
  · rcases f with (f | f) | f
    · exact h.ge b (.inl f)
    · have := h1.bw; omega
    · exact h.ge b (.inr f)
theorem Two.right (h : Two B w0 w HC y F G p q S T) (hb : Below w.heap.size w w1) (hD : Did G q T' w1 w2) : Two B w0 w2 HC y F (more G w1 w2) p q S T' := by
  have h1 := h.grow hb
  have hs := hD.1.size
  refine ⟨h1.below.trans (hD.1.below (B := B) (fun b f => h.ge b (.inr f)) h1.bw), h1.cv.keep hD.1 h.gc, h1.p.keep hD.1 (fun b f g => h.dis b f g), hD.2, fun b f g => ?_, h.fc, fun f => ?_, fun b f => ?_, Nat.le_trans h1.bw hs⟩
  · rcases g with g | g
    · exact h.dis b f g
    · have := h1.p.lt b f; omega
  · rcases f with f | f
    · exact h.gc f
    · have := heap_in h1.cv; omega
  · rcases f with f | f | f
    · exact h.ge b (.inl f)
    · exact h.ge b (.inr f)
    · have := h1.bw; omega
theorem Two.range (h : Two B w0 w HC y F G p q S T) : w.rangeAt HC 0 [.int .i64 y.row, .int .i64 y.col, .int .u8 y.rd, .bool y.kp, .bool y.wp, .bool y.og, .int .i64 y.a, .int .i64 y.b, .int .i64 y.c, .int .i64 y.d, .int .i64 y.l, .int .i64 y.r, .int .i64 y.s] := range_blk h.cv 0 _ rfl
/-- a page, and its clone -/
theorem Two.start {x : More} (hb : Below B w0 w) (hB : B ≤ w.heap.size) (hc : CVar 49 w HC y) (hp : PageAt w F p S) (hF : ∀ b, F b → B ≤ b) (hC : ¬ F HC) (hq : PageAt (ext w x) G q T) (hG : ∀ b, G b → w.heap.size ≤ b) : Two B w0 (ext w x) HC y F G p q S T :=
  ⟨below_ext hb hB x, hc.grow (below_of_ext w x), hp.grow (below_of_ext w x), hq, fun b f g => by have := hp.lt b f; have := hG b g; omega, hC, fun g => by have := hG _ g; have := heap_in hc; omega, fun b f => f.elim (hF b) (fun g => Nat.le_trans hB (hG b g)), by rw [size_ext]; omega⟩
end
attribute [local go_sem ↓] cell_neq
set_option maxRecDepth 100000 in
set_option maxHeartbeats 32000000 in
theorem EditParts_walk (w : World) (b : BgD) (hb : b.Ok w) (sel : Bool) : Calls Try.prog 4 #[b.v, .bool sel] w (fun e w' => e = .returned (.bool true) ∧ Below w.heap.size w w') := by
  show Calls Try.prog 4 #[.agg #[.int .i64 b.rows, .int .i64 b.cols, .slice b.sa b.ss.length b.sc, .slice b.ta b.ts.length b.tc, .int .i64 b.cu.row, .int .i64 b.cu.col, .int .u8 b.cu.rd, .bool b.cu.kp, .bool b.cu.wp, .bool b.cu.og, .int .i64 b.cu.a, .int .i64 b.cu.b, .int .i64 b.cu.c, .int .i64 b.cu.d, .int .i64 b.cu.l, .int .i64 b.cu.r, .int .i64 b.cu.s, .int .i64 b.m.t, .int .i64 b.m.l, .int .i64 b.m.b, .int .i64 b.m.r], .bool sel] w _
  have okS := begS_ok hb
  have hm := begM_in b
  have hn := begN_in b
  have hSm : (begS b).rows.length = begM b := by simp [begS]
  have hSn : (begS b).cols = begN b := rfl
  have hyr := clampI_nat okS.r1 b.cu.row
  have hyc := clampI_nat okS.c1 b.cu.col
  have SH := Lib.hid (fun w' (h : Below w.heap.size w w') => (by exact sheet_c b w' (hb.below h) : Calls Try.prog 9 #[.agg #[.int .i64 b.rows, .int .i64 b.cols, .slice b.sa b.ss.length b.sc, .slice b.ta b.ts.length b.tc, .int .i64 b.cu.row, .int .i64 b.cu.col, .int .u8 b.cu.rd, .bool b.cu.kp, .bool b.cu.wp, .bool b.cu.og, .int .i64 b.cu.a, .int .i64 b.cu.b, .int .i64 b.cu.c, .int .i64 b.cu.d, .int .i64 b.cu.l, .int .i64 b.cu.r, .int .i64 b.cu.s, .int .i64 b.m.t, .int .i64 b.m.l, .int .i64 b.m.b, .int .i64 b.m.r]] w' (SheetR b w')))
  have AW := Lib.hid awake_15
  clear hb
  go_enter Try.func4, Try.ntmps4
  go_upto_region 3 with (go_at_call 8; ((with_reducible refine (AW.out _).mono ?_); rintro _ _ hgets; obtain ⟨rfl, x1, rfl⟩ := hgets.get; clear hgets))
  go_upto_region 4 with (first
    | (refine wpList_load_mid rfl 33 (.tmp 2) rfl w.heap.size 0 rfl [.int .i64 b.rows, .int .i64 b.cols, .slice b.sa b.ss.length b.sc, .slice b.ta b.ts.length b.tc, .int .i64 b.cu.row, .int .i64 b.cu.col, .int .u8 b.cu.rd, .bool b.cu.kp, .bool b.cu.wp, .bool b.cu.og, .int .i64 b.cu.a, .int .i64 b.cu.b, .int .i64 b.cu.c, .int .i64 b.cu.d, .int .i64 b.cu.l, .int .i64 b.cu.r, .int .i64 b.cu.s, .int .i64 b.m.t, .int .i64 b.m.l, .int .i64 b.m.b, .int .i64 b.m.r] _ (range_blk (show (ext (w.alloc (.cells #[.int .i64 b.rows, .int .i64 b.cols, .slice b.sa b.ss.length b.sc, .slice b.ta b.ts.length b.tc, .int .i64 b.cu.row, .int .i64 b.cu.col, .int .u8 b.cu.rd, .bool b.cu.kp, .bool b.cu.wp, .bool b.cu.og, .int .i64 b.cu.a, .int .i64 b.cu.b, .int .i64 b.cu.c, .int .i64 b.cu.d, .int .i64 b.cu.l, .int .i64 b.cu.r, .int .i64 b.cu.s, .int .i64 b.m.t, .int .i64 b.m.l, .int .i64 b.m.b, .int .i64 b.m.r] 33)) x1).heap[w.heap.size]? = some (.cells #[.int .i64 b.rows, .int .i64 b.cols, .slice b.sa b.ss.length b.sc, .slice b.ta b.ts.length b.tc, .int .i64 b.cu.row, .int .i64 b.cu.col, .int .u8 b.cu.rd, .bool b.cu.kp, .bool b.cu.wp, .bool b.cu.og, .int .i64 b.cu.a, .int .i64 b.cu.b, .int .i64 b.cu.c, .int .i64 b.cu.d, .int .i64 b.cu.l, .int .i64 b.cu.r, .int .i64 b.cu.s, .int .i64 b.m.t, .int .i64 b.m.l, .int .i64 b.m.b, .int .i64 b.m.r] 33 (0, 0)) by (repeat (first | ((with_reducible refine heap_at _ _ ?_); (focus (first | rfl | (simp [go_sem]; done) | (simp [go_sem]; omega)))) | ((with_reducible refine (heap_old _ _ ?_).trans ?_); (focus (first | (simp [go_sem]; done) | (simp [go_sem]; omega)))) | ((with_reducible refine (block_ext _ _ ?_).trans ?_); (focus (first | (simp [go_sem]; done) | (simp [go_sem]; omega)))) | ((with_reducible refine (heap_drew _ _).trans ?_))))) 0 _ rfl) Try.underlying33 rfl (by kernel_rfl) ?_)
    | ((go_at_call 9); (with_reducible refine (SH.out _ (by (repeat' (first | (with_reducible exact Below.refl _ _) | (with_reducible refine Below.alloc ?_ ?_ _) | (with_reducible refine below_ext ?_ ?_ _) | (with_reducible refine Below.drew ?_) | (with_reducible refine below_drewN ?_ _) | (with_reducible refine Below.setCell ?_ ?_ _) | go_size | (simp only [go_sem]; omega) | (simp [go_sem]; done) | (simp [go_sem]; omega))))).mono ?_); (rintro _ W1 ⟨p, F, A, c, rfl, hB1, hP, hR, hF⟩); clear hR; (replace hB1 := Lib.hid hB1); (replace hP := Lib.hid hP); (replace hF := Lib.hid hF))
    | (refine wpList_store_mid rfl 42 (.tmp 6) (.tmp 21) rfl W1.heap.size 0 #[.slice A (begM b) c, .int .i64 (begN b), .int .i64 b.cu.row, .int .i64 b.cu.col, .int .u8 b.cu.rd, .bool b.cu.kp, .bool b.cu.wp, .bool b.cu.og, .int .i64 b.cu.a, .int .i64 b.cu.b, .int .i64 b.cu.c, .int .i64 b.cu.d, .int .i64 b.cu.l, .int .i64 b.cu.r, .int .i64 b.cu.s, .int .i64 b.m.t, .int .i64 b.m.l, .int .i64 b.m.b, .int .i64 b.m.r] rfl rfl (there_blk (heap_at W1 (.cells zero14 42) rfl) (Nat.le_refl _)) (by kernel_rfl) (all_one _ rfl) ?_))
  obtain ⟨W2, e2, hg2, c2⟩ := store_new W1 zero14 42 [.slice A (begM b) c, .int .i64 (begN b), .int .i64 b.cu.row, .int .i64 b.cu.col, .int .u8 b.cu.rd, .bool b.cu.kp, .bool b.cu.wp, .bool b.cu.og, .int .i64 b.cu.a, .int .i64 b.cu.b, .int .i64 b.cu.c, .int .i64 b.cu.d, .int .i64 b.cu.l, .int .i64 b.cu.r, .int .i64 b.cu.s, .int .i64 b.m.t, .int .i64 b.m.l, .int .i64 b.m.b, .int .i64 b.m.r] rfl
  rw [e2]
  have hsz : (ext (w.alloc (.cells #[.int .i64 b.rows, .int .i64 b.cols, .slice b.sa b.ss.length b.sc, .slice b.ta b.ts.length b.tc, .int .i64 b.cu.row, .int .i64 b.cu.col, .int .u8 b.cu.rd, .bool b.cu.kp, .bool b.cu.wp, .bool b.cu.og, .int .i64 b.cu.a, .int .i64 b.cu.b, .int .i64 b.cu.c, .int .i64 b.cu.d, .int .i64 b.cu.l, .int .i64 b.cu.r, .int .i64 b.cu.s, .int .i64 b.m.t, .int .i64 b.m.l, .int .i64 b.m.b, .int .i64 b.m.r] 33)) x1).heap.size ≤ W1.heap.size := hB1.out.size
  have hW1w : w.heap.size + 1 ≤ W1.heap.size := by simp at hsz; omega
  have hF1 : ∀ q, F q → w.heap.size < q ∧ q < W1.heap.size := fun q f => ⟨by have := hF.out q f; simp at this; omega, hP.out.lt q f⟩
  have hb0 := Lib.hid (show W2.heap[w.heap.size]? = some (.cells #[.int .i64 b.rows, .int .i64 b.cols, .slice b.sa b.ss.length b.sc, .slice b.ta b.ts.length b.tc, .int .i64 b.cu.row, .int .i64 b.cu.col, .int .u8 b.cu.rd, .bool b.cu.kp, .bool b.cu.wp, .bool b.cu.og, .int .i64 b.cu.a, .int .i64 b.cu.b, .int .i64 b.cu.c, .int .i64 b.cu.d, .int .i64 b.cu.l, .int .i64 b.cu.r, .int .i64 b.cu.s, .int .i64 b.m.t, .int .i64 b.m.l, .int .i64 b.m.b, .int .i64 b.m.r] 33 (0, 0)) from (hg2.block _ (by omega)).trans ((hB1.out.block _ (by simp; omega)).trans (by (repeat (first | ((with_reducible refine heap_at _ _ ?_); (focus (first | rfl | (simp [go_sem]; done) | (simp [go_sem]; omega)))) | ((with_reducible refine (heap_old _ _ ?_).trans ?_); (focus (first | (simp [go_sem]; done) | (simp [go_sem]; omega)))) | ((with_reducible refine (block_ext _ _ ?_).trans ?_); (focus (first | (simp [go_sem]; done) | (simp [go_sem]; omega)))) | ((with_reducible refine (heap_drew _ _).trans ?_)))))))
  have hP2 := Lib.hid (hP.out.grow hg2)
  have hBw : Below w.heap.size w W2 := (show Below w.heap.size w (ext (w.alloc (.cells #[.int .i64 b.rows, .int .i64 b.cols, .slice b.sa b.ss.length b.sc, .slice b.ta b.ts.length b.tc, .int .i64 b.cu.row, .int .i64 b.cu.col, .int .u8 b.cu.rd, .bool b.cu.kp, .bool b.cu.wp, .bool b.cu.og, .int .i64 b.cu.a, .int .i64 b.cu.b, .int .i64 b.cu.c, .int .i64 b.cu.d, .int .i64 b.cu.l, .int .i64 b.cu.r, .int .i64 b.cu.s, .int .i64 b.m.t, .int .i64 b.m.l, .int .i64 b.m.b, .int .i64 b.m.r] 33)) x1) by (repeat' (first | (with_reducible exact Below.refl _ _) | (with_reducible refine Below.alloc ?_ ?_ _) | (with_reducible refine below_ext ?_ ?_ _) | (with_reducible refine Below.drew ?_) | (with_reducible refine below_drewN ?_ _) | (with_reducible refine Below.setCell ?_ ?_ _) | go_size | (simp only [go_sem]; omega) | (simp [go_sem]; done) | (simp [go_sem]; omega)))).trans ((hB1.out.trans (hg2.mono hsz)).mono (by simp; omega))
  have hs2 := hg2.size
  have hwW2 := hBw.size
  clear e2 c2 hB1 hP hF hg2 hsz AW
  replace hBw := Lib.hid hBw
  go_upto_region 5 with (first
    | (refine wpList_load_mid rfl 29 (.tmp 22) rfl w.heap.size 4 rfl [.int .i64 b.cu.row, .int .i64 b.cu.col, .int .u8 b.cu.rd, .bool b.cu.kp, .bool b.cu.wp, .bool b.cu.og, .int .i64 b.cu.a, .int .i64 b.cu.b, .int .i64 b.cu.c, .int .i64 b.cu.d, .int .i64 b.cu.l, .int .i64 b.cu.r, .int .i64 b.cu.s] _ (range_blk hb0.out 4 _ rfl) Try.underlying29 rfl (by kernel_rfl) ?_)
    | (go_at_call 11; ((with_reducible refine (own_c _).mono ?_); rintro _ _ hgets; obtain ⟨rfl, x2, rfl⟩ := hgets.get; clear hgets))
    | (refine wpList_store_mid rfl 49 (.tmp 7) (.tmp 24) rfl (W2.heap.size + x2.sz) 0 #[.int .i64 b.cu.row, .int .i64 b.cu.col, .int .u8 b.cu.rd, .bool b.cu.kp, .bool b.cu.wp, .bool b.cu.og, .int .i64 b.cu.a, .int .i64 b.cu.b, .int .i64 b.cu.c, .int .i64 b.cu.d, .int .i64 b.cu.l, .int .i64 b.cu.r, .int .i64 b.cu.s] rfl rfl (there_blk (heap_at (ext W2 x2) (.cells zeroCu.arr 49) (by simp)) (Nat.le_refl _)) (by kernel_rfl) (all_one _ rfl) ?_))
  obtain ⟨W3, e3, hg3, c3⟩ := store_new (ext W2 x2) zeroCu.arr 49 [.int .i64 b.cu.row, .int .i64 b.cu.col, .int .u8 b.cu.rd, .bool b.cu.kp, .bool b.cu.wp, .bool b.cu.og, .int .i64 b.cu.a, .int .i64 b.cu.b, .int .i64 b.cu.c, .int .i64 b.cu.d, .int .i64 b.cu.l, .int .i64 b.cu.r, .int .i64 b.cu.s] rfl
  rw [size_ext] at e3 c3 hg3
  rw [e3]
  obtain ⟨HC, hHC⟩ : ∃ HC, HC = W2.heap.size + x2.sz := ⟨_, rfl⟩
  rw [← hHC] at c3 hg3 ⊢
  have hCv : CVar 49 W3 HC b.cu := c3
  have hg23 : Below W2.heap.size W2 W3 := (below_of_ext W2 x2).trans (hg3.mono (by omega))
  have hP3 := Lib.hid (hP2.out.grow hg23)
  have hB3 := Lib.hid (hBw.out.trans (hg23.mono hwW2))
  have hb3 := Lib.hid ((hg23.block _ (by omega)).trans hb0.out)
  have hs3 := hg23.size
  have hHW : W2.heap.size ≤ HC := by omega
  clear e3 hHC hg3 c3 hg23 hP2 hBw hb0
  replace hCv := Lib.hid hCv
  have CL := Lib.hid (fun w' (h : Below W3.heap.size W3 w') => clone_p (hP3.out.grow h) okS)
  go_upto_region 6 with ((go_at_call 15); (with_reducible refine (CL.out _ (by (repeat' (first | (with_reducible exact Below.refl _ _) | (with_reducible refine Below.alloc ?_ ?_ _) | (with_reducible refine below_ext ?_ ?_ _) | (with_reducible refine Below.drew ?_) | (with_reducible refine below_drewN ?_ _) | (with_reducible refine Below.setCell ?_ ?_ _) | go_size | (simp only [go_sem]; omega) | (simp [go_sem]; done) | (simp [go_sem]; omega))))).mono ?_); (rintro _ _ ⟨q, G, x4, rfl, rfl, hG, hQ⟩); (replace hG := Lib.hid hG); (replace hQ := Lib.hid hQ))
  have T0 := Lib.hid (Two.start (B := w.heap.size) (x := x4) hB3.out (by omega) hCv.out hP3.out (fun q f => by have := hF1 q f; omega) (fun f => by have := hF1 _ f; omega) hQ.out hG.out)
  obtain ⟨W4, hW4⟩ : ∃ W4, W4 = ext W3 x4 := ⟨_, rfl⟩
  have hb4 := Lib.hid ((block_ext W3 x4 (heap_in hb3.out)).trans hb3.out)
  have hHb : ∀ q, F q ∨ G q → q ≠ w.heap.size := fun q f => by
    rcases f with f | f
    · have := hF1 q f; omega
    · have := hG.out q f; omega
  rw [← hW4] at T0 hb4 ⊢
  clear hW4 hG hQ CL hP3 hB3 hb3 hCv hF1
  obtain ⟨row, hrow⟩ : ∃ row, row = clampI 0 (begS b).rows.length b.cu.row := ⟨_, rfl⟩
  obtain ⟨col, hcol⟩ : ∃ col, col = clampI 0 (begS b).cols b.cu.col := ⟨_, rfl⟩
  have onE : (onU (begS b).rows.length (begS b).cols b.cu).row = row ∧ (onU (begS b).rows.length (begS b).cols b.cu).col = col := ⟨hrow.symm, hcol.symm⟩
  obtain ⟨S, hS⟩ : ∃ S, S = begS b := ⟨_, rfl⟩
  rw [← hS] at T0 okS onE
  rw [← hS] at hSm hSn
  -- the two pages
  have hpT := Lib.hid (fun (S0 : PgS) (hm0 : S0.rows.length = S.rows.length) (hn0 : S0.cols = S.cols) (hS0 : S0.Ok) (k : Int) w' F' r (hp : PageAt w' F' r S0) => (by
    have h1 := display_ed hp hS0 b.cu k sel
    rw [hm0, hn0, onE.1, onE.2] at h1
    exact h1.mono fun e w2 h => ⟨⟨_, h.1⟩, h.2⟩ : Calls Try.prog 10 #[.pointer (some ⟨r, 0, none⟩), b.cu.v, .int .i64 k, .bool sel] w' (fun e w2 => (∃ z : Cu, e = .returned z.v) ∧ Did F' r (eraS S0 sel false k row col) w' w2)))
  have hpR := Lib.hid (fun (S0 : PgS) (hm0 : S0.rows.length = S.rows.length) (hn0 : S0.cols = S.cols) (hS0 : S0.Ok) (k : Int) w' F' r (hp : PageAt w' F' r S0) => (by
    have h1 := row_ed hp hS0 b.cu k sel
    rw [hm0, hn0, onE.1, onE.2] at h1
    exact h1.mono fun e w2 h => ⟨⟨_, h.1⟩, h.2⟩ : Calls Try.prog 12 #[.pointer (some ⟨r, 0, none⟩), b.cu.v, .int .i64 k, .bool sel] w' (fun e w2 => (∃ z : Cu, e = .returned z.v) ∧ Did F' r (eraS S0 sel true k row col) w' w2)))
  have hAT := Lib.hid (fun (i j : Nat) (hi : i < S.rows.length) (hj : j < S.cols) => era_parts (sel := sel) (r := row) (c := col) okS hi hj)
  have hRR := Lib.hid (era_parts_row (sel := sel) (r := row) (c := col) okS)
  have ok1 := eraS_ok (sel := sel) (ra := false) (k := 2) (r := row) (c := col) okS
  have ok2 := eraS_ok (sel := sel) (ra := false) (k := 1) (r := row) (c := col) okS
  have ok3 := eraS_ok (sel := sel) (ra := false) (k := 0) (r := row) (c := col) ok2
  have okR1 := eraS_ok (sel := sel) (ra := true) (k := 2) (r := row) (c := col) okS
  have okR2 := eraS_ok (sel := sel) (ra := true) (k := 0) (r := row) (c := col) okS
  have okR3 := eraS_ok (sel := sel) (ra := true) (k := 1) (r := row) (c := col) okR2
  have l2 : (eraS S sel false 1 row col).rows.length = S.rows.length := eraS_len
  have l3 : (eraS S sel true 0 row col).rows.length = S.rows.length := eraS_len
  have hm1 := hm.1
  have hn1 := hn.1
  have hm8 := hm.2.1
  have hn9 := hn.2.1
  replace okS := Lib.hid okS
  clear hyr hyc hrow hcol onE hm hn
  go_upto_region 7 with (first
    | (refine wpList_load_mid rfl 49 (.tmp 7) rfl HC 0 rfl [.int .i64 b.cu.row, .int .i64 b.cu.col, .int .u8 b.cu.rd, .bool b.cu.kp, .bool b.cu.wp, .bool b.cu.og, .int .i64 b.cu.a, .int .i64 b.cu.b, .int .i64 b.cu.c, .int .i64 b.cu.d, .int .i64 b.cu.l, .int .i64 b.cu.r, .int .i64 b.cu.s] _ T0.out.range Try.underlying49 rfl (by kernel_rfl) ?_)
    | ((go_at_call 10); (with_reducible refine (hpT.out S rfl rfl okS.out 2 _ _ _ T0.out.p).mono ?_); (rintro _ W5 ⟨⟨zW5, rfl⟩, hDW5⟩)))
  have T1 := Lib.hid (T0.out.left (Below.refl _ _) hDW5)
  have hb5 := Lib.hid ((hDW5.1.block _ (heap_in hb4.out) (fun f => hHb _ (.inl f) rfl)).trans hb4.out)
  have hs45 := hDW5.1.size
  have hb4l := heap_in hb4.out
  clear hDW5 T0 hb4
  go_upto_region 8 with (first
    | (refine wpList_load_mid rfl 49 (.tmp 7) rfl HC 0 rfl [.int .i64 b.cu.row, .int .i64 b.cu.col, .int .u8 b.cu.rd, .bool b.cu.kp, .bool b.cu.wp, .bool b.cu.og, .int .i64 b.cu.a, .int .i64 b.cu.b, .int .i64 b.cu.c, .int .i64 b.cu.d, .int .i64 b.cu.l, .int .i64 b.cu.r, .int .i64 b.cu.s] _ T1.out.range Try.underlying49 rfl (by kernel_rfl) ?_)
    | ((go_at_call 10); (with_reducible refine (hpT.out S rfl rfl okS.out 1 _ _ _ T1.out.q).mono ?_); (rintro _ W6 ⟨⟨zW6, rfl⟩, hDW6⟩)))
  have T2 := Lib.hid (T1.out.right (Below.refl _ _) hDW6)
  have hb6 := Lib.hid ((hDW6.1.block _ (heap_in hb5.out) (fun f => hHb _ (.inr f) rfl)).trans hb5.out)
  clear hDW6 T1 hb5
  go_upto_region 9 with (first
    | (refine wpList_load_mid rfl 49 (.tmp 7) rfl HC 0 rfl [.int .i64 b.cu.row, .int .i64 b.cu.col, .int .u8 b.cu.rd, .bool b.cu.kp, .bool b.cu.wp, .bool b.cu.og, .int .i64 b.cu.a, .int .i64 b.cu.b, .int .i64 b.cu.c, .int .i64 b.cu.d, .int .i64 b.cu.l, .int .i64 b.cu.r, .int .i64 b.cu.s] _ T2.out.range Try.underlying49 rfl (by kernel_rfl) ?_)
    | ((go_at_call 10); (with_reducible refine (hpT.out _ l2 rfl ok2 0 _ _ _ T2.out.q).mono ?_); (rintro _ W7 ⟨⟨zW7, rfl⟩, hDW7⟩)))
  have T3 := Lib.hid (T2.out.right (Below.refl _ _) hDW7)
  have hb7 := Lib.hid ((hDW7.1.block _ (heap_in hb6.out) (fun f => by
    rcases f with f | f
    · exact hHb _ (.inr f) rfl
    · omega)).trans hb6.out)
  clear hDW7 T2 hb6 hHb hs45 hb4l
  have RW := Lib.hid (fun w' (h : Below W7.heap.size W7 w') => rows_p (T3.out.p.grow h))
  have CO := Lib.hid (fun w' (h : Below W7.heap.size W7 w') => cols_p (T3.out.p.grow h))
  rw [show (eraS S sel false 2 row col).rows.length = begM b by rw [eraS_len]; exact hSm] at RW
  rw [show (eraS S sel false 2 row col).cols = begN b from hSn] at CO
  have A1 := Lib.hid (fun (i j : Nat) w' (h : Below W7.heap.size W7 w') => at_p (T3.out.p.grow h) ok1 i j)
  have A2 := Lib.hid (fun (i j : Nat) w' (h : Below W7.heap.size W7 w') => at_p (T3.out.q.grow h) ok3 i j)
  go_wp2_with fail
  go_loopw [9] (fun iv wr => ∃ i : Nat, i ≤ begM b ∧ iv = .int .i64 i ∧ Hid (Below W7.heap.size W7 wr)) (fun iv _ => begM b - (intOf iv).toNat)
  case atStart => exact ⟨0, by omega, rfl, Lib.hid (by (repeat' (first | (with_reducible exact Below.refl _ _) | (with_reducible refine Below.alloc ?_ ?_ _) | (with_reducible refine below_ext ?_ ?_ _) | (with_reducible refine Below.drew ?_) | (with_reducible refine below_drewN ?_ _) | (with_reducible refine Below.setCell ?_ ?_ _) | go_size | (simp only [go_sem]; omega) | (simp [go_sem]; done) | (simp [go_sem]; omega))))⟩
  case round =>
    obtain ⟨i, hi, rfl, hbr⟩ := hrel
    obtain ⟨Wa, hWa⟩ : ∃ Wa, Wa = wr := ⟨_, rfl⟩
    subst hWa
    have RWa := Lib.hid (fun w' (h : Below Wa.heap.size Wa w') => RW.out w' (hbr.out.trans (h.mono hbr.out.size)))
    by_cases hlt : i < begM b
    · as_aux_lemma =>
      have e1 : decide ((i : Int) < (begM b : Int)) = true := decide_eq_true (by omega)
      have hbs := hbr.out.size
      go_wp2_with (go_at_call 16; ((with_reducible refine (RWa.out _ (by (repeat' (first | (with_reducible exact Below.refl _ _) | (with_reducible refine Below.alloc ?_ ?_ _) | (with_reducible refine below_ext ?_ ?_ _) | (with_reducible refine Below.drew ?_) | (with_reducible refine below_drewN ?_ _) | (with_reducible refine Below.setCell ?_ ?_ _) | go_size | (simp only [go_sem]; omega) | (simp [go_sem]; done) | (simp [go_sem]; omega))))).mono ?_); rintro _ _ hgets; obtain ⟨rfl, x5, rfl⟩ := hgets.get; clear hgets))
      go_loopw [10] (fun kv wv => ∃ k : Nat, k ≤ begN b ∧ kv = .int .i64 k ∧ Hid (Below Wa.heap.size Wa wv)) (fun kv _ => begN b - (intOf kv).toNat)
      case atStart => exact ⟨0, by omega, rfl, Lib.hid (by (repeat' (first | (with_reducible exact Below.refl _ _) | (with_reducible refine Below.alloc ?_ ?_ _) | (with_reducible refine below_ext ?_ ?_ _) | (with_reducible refine Below.drew ?_) | (with_reducible refine below_drewN ?_ _) | (with_reducible refine Below.setCell ?_ ?_ _) | go_size | (simp only [go_sem]; omega) | (simp [go_sem]; done) | (simp [go_sem]; omega))))⟩
      case round =>
        obtain ⟨k, hk, rfl, hbv⟩ := hrel
        have hWv := Lib.hid (hbr.out.trans (hbv.out.mono hbr.out.size))
        have hWs := hWv.out.size
        have COa := Lib.hid (fun w' (h : Below wr.heap.size wr w') => CO.out w' (hWv.out.trans (h.mono hWv.out.size)))
        by_cases hkn : k < begN b
        · have e2 : decide ((k : Int) < (begN b : Int)) = true := decide_eq_true (by omega)
          have A1a := Lib.hid (fun w' (h : Below wr.heap.size wr w') => A1.out i k w' (hWv.out.trans (h.mono hWv.out.size)))
          have A2a := Lib.hid (fun w' (h : Below wr.heap.size wr w') => A2.out i k w' (hWv.out.trans (h.mono hWv.out.size)))
          have hq := hAT.out i k (by omega) (by omega)
          rw [← hq] at A2a
          generalize atS (eraS S sel false 2 row col) i k = y at A1a A2a
          obtain ⟨yg, yr, yk⟩ := y
          have he := eqC_t (rfl : (⟨yg, yr, yk⟩ : Cl) = ⟨yg, yr, yk⟩)
          clear hq
          go_upto_region 16 with (go_at_call 17; ((with_reducible refine (COa.out _ (by (repeat' (first | (with_reducible exact Below.refl _ _) | (with_reducible refine Below.alloc ?_ ?_ _) | (with_reducible refine below_ext ?_ ?_ _) | (with_reducible refine Below.drew ?_) | (with_reducible refine below_drewN ?_ _) | (with_reducible refine Below.setCell ?_ ?_ _) | go_size | (simp only [go_sem]; omega) | (simp [go_sem]; done) | (simp [go_sem]; omega))))).mono ?_); rintro _ _ hgets; obtain ⟨rfl, x6, rfl⟩ := hgets.get; clear hgets))
          (refine wp_region_free (by kernel_rfl) (by kernel_rfl) ?_)
          repeat (go_big_quiet_step (first
            | ((go_at_call 13; with_reducible exact Calls.free (A1a.out _ (by (repeat' (first | (with_reducible exact Below.refl _ _) | (with_reducible refine Below.alloc ?_ ?_ _) | (with_reducible refine below_ext ?_ ?_ _) | (with_reducible refine Below.drew ?_) | (with_reducible refine below_drewN ?_ _) | (with_reducible refine Below.setCell ?_ ?_ _) | go_size | (simp only [go_sem]; omega) | (simp [go_sem]; done) | (simp [go_sem]; omega)))))))
            | ((go_at_call 13; with_reducible exact Calls.free (A2a.out _ (by (repeat' (first | (with_reducible exact Below.refl _ _) | (with_reducible refine Below.alloc ?_ ?_ _) | (with_reducible refine below_ext ?_ ?_ _) | (with_reducible refine Below.drew ?_) | (with_reducible refine below_drewN ?_ _) | (with_reducible refine Below.setCell ?_ ?_ _) | go_size | (simp only [go_sem]; omega) | (simp [go_sem]; done) | (simp [go_sem]; omega)))))))))
          refine wpQuiet_nil ?_; rintro _ ⟨x9, rfl⟩
          go_wp2_with fail
          refine ⟨⟨k + 1, by omega, by go_num, Lib.hid (hbv.out.trans (Below.mono (B := wr.heap.size) (by (repeat' (first | (with_reducible exact Below.refl _ _) | (with_reducible refine Below.alloc ?_ ?_ _) | (with_reducible refine below_ext ?_ ?_ _) | (with_reducible refine Below.drew ?_) | (with_reducible refine below_drewN ?_ _) | (with_reducible refine Below.setCell ?_ ?_ _) | go_size | (simp only [go_sem]; omega) | (simp [go_sem]; done) | (simp [go_sem]; omega)))) hbv.out.size))⟩, by simp [intOf]; omega⟩
        · obtain rfl : k = begN b := by omega
          have e2 : decide ((begN b : Int) < (begN b : Int)) = false := by simp
          go_wp2_with (go_at_call 17; ((with_reducible refine (COa.out _ (by (repeat' (first | (with_reducible exact Below.refl _ _) | (with_reducible refine Below.alloc ?_ ?_ _) | (with_reducible refine below_ext ?_ ?_ _) | (with_reducible refine Below.drew ?_) | (with_reducible refine below_drewN ?_ _) | (with_reducible refine Below.setCell ?_ ?_ _) | go_size | (simp only [go_sem]; omega) | (simp [go_sem]; done) | (simp [go_sem]; omega))))).mono ?_); rintro _ _ hgets; obtain ⟨rfl, x6, rfl⟩ := hgets.get; clear hgets))
          refine ⟨⟨i + 1, by omega, by go_num, Lib.hid (hWv.out.trans (Below.mono (B := wr.heap.size) (by (repeat' (first | (with_reducible exact Below.refl _ _) | (with_reducible refine Below.alloc ?_ ?_ _) | (with_reducible refine below_ext ?_ ?_ _) | (with_reducible refine Below.drew ?_) | (with_reducible refine below_drewN ?_ _) | (with_reducible refine Below.setCell ?_ ?_ _) | go_size | (simp only [go_sem]; omega) | (simp [go_sem]; done) | (simp [go_sem]; omega)))) hWv.out.size))⟩, by simp [intOf]; omega⟩
    · as_aux_lemma =>
      obtain rfl : i = begM b := by omega
      have e1 : decide ((begM b : Int) < (begM b : Int)) = false := by simp
      have T4 := Lib.hid (T3.out.grow hbr.out)
      have hb8 := Lib.hid ((hbr.out.block _ (heap_in hb7.out)).trans hb7.out)
      have SH2 := Lib.hid (fun w' (h : Below Wa.heap.size Wa w') => SH.out w' (T4.out.below.trans (h.mono T4.out.bw)))
      clear hi hlt A1 A2 CO RW hb7 hbr T3 SH hpT
      go_upto_region 19 with (first
        | (go_at_call 16; ((with_reducible refine (RWa.out _ (by (repeat' (first | (with_reducible exact Below.refl _ _) | (with_reducible refine Below.alloc ?_ ?_ _) | (with_reducible refine below_ext ?_ ?_ _) | (with_reducible refine Below.drew ?_) | (with_reducible refine below_drewN ?_ _) | (with_reducible refine Below.setCell ?_ ?_ _) | go_size | (simp only [go_sem]; omega) | (simp [go_sem]; done) | (simp [go_sem]; omega))))).mono ?_); rintro _ _ hgets; obtain ⟨rfl, x5, rfl⟩ := hgets.get; clear hgets))
        | (refine wpList_load_mid rfl 33 (.tmp 2) rfl w.heap.size 0 rfl [.int .i64 b.rows, .int .i64 b.cols, .slice b.sa b.ss.length b.sc, .slice b.ta b.ts.length b.tc, .int .i64 b.cu.row, .int .i64 b.cu.col, .int .u8 b.cu.rd, .bool b.cu.kp, .bool b.cu.wp, .bool b.cu.og, .int .i64 b.cu.a, .int .i64 b.cu.b, .int .i64 b.cu.c, .int .i64 b.cu.d, .int .i64 b.cu.l, .int .i64 b.cu.r, .int .i64 b.cu.s, .int .i64 b.m.t, .int .i64 b.m.l, .int .i64 b.m.b, .int .i64 b.m.r] _ (range_blk (show (ext Wa x5).heap[w.heap.size]? = _ from (block_ext Wa x5 (heap_in hb8.out)).trans hb8.out) 0 _ rfl) Try.underlying33 rfl (by kernel_rfl) ?_)
        | ((go_at_call 9); (with_reducible refine (SH2.out _ (by (repeat' (first | (with_reducible exact Below.refl _ _) | (with_reducible refine Below.alloc ?_ ?_ _) | (with_reducible refine below_ext ?_ ?_ _) | (with_reducible refine Below.drew ?_) | (with_reducible refine below_drewN ?_ _) | (with_reducible refine Below.setCell ?_ ?_ _) | go_size | (simp only [go_sem]; omega) | (simp [go_sem]; done) | (simp [go_sem]; omega))))).mono ?_); (rintro _ V1 ⟨p', F', A', c', rfl, hB1, hP, hR, hF⟩); clear hR; (replace hB1 := Lib.hid hB1); (replace hP := Lib.hid hP); (replace hF := Lib.hid hF))
        | (refine wpList_store_mid rfl 42 (.tmp 13) (.tmp 65) rfl V1.heap.size 0 #[.slice A' (begM b) c', .int .i64 (begN b), .int .i64 b.cu.row, .int .i64 b.cu.col, .int .u8 b.cu.rd, .bool b.cu.kp, .bool b.cu.wp, .bool b.cu.og, .int .i64 b.cu.a, .int .i64 b.cu.b, .int .i64 b.cu.c, .int .i64 b.cu.d, .int .i64 b.cu.l, .int .i64 b.cu.r, .int .i64 b.cu.s, .int .i64 b.m.t, .int .i64 b.m.l, .int .i64 b.m.b, .int .i64 b.m.r] rfl rfl (there_blk (heap_at V1 (.cells zero14 42) rfl) (Nat.le_refl _)) (by kernel_rfl) (all_one _ rfl) ?_))
      obtain ⟨V2, e2, hg2, c2⟩ := store_new V1 zero14 42 [.slice A' (begM b) c', .int .i64 (begN b), .int .i64 b.cu.row, .int .i64 b.cu.col, .int .u8 b.cu.rd, .bool b.cu.kp, .bool b.cu.wp, .bool b.cu.og, .int .i64 b.cu.a, .int .i64 b.cu.b, .int .i64 b.cu.c, .int .i64 b.cu.d, .int .i64 b.cu.l, .int .i64 b.cu.r, .int .i64 b.cu.s, .int .i64 b.m.t, .int .i64 b.m.l, .int .i64 b.m.b, .int .i64 b.m.r] rfl
      rw [e2]
      have hgV : Below Wa.heap.size Wa V2 := (show Below Wa.heap.size Wa (ext Wa x5) by (repeat' (first | (with_reducible exact Below.refl _ _) | (with_reducible refine Below.alloc ?_ ?_ _) | (with_reducible refine below_ext ?_ ?_ _) | (with_reducible refine Below.drew ?_) | (with_reducible refine below_drewN ?_ _) | (with_reducible refine Below.setCell ?_ ?_ _) | go_size | (simp only [go_sem]; omega) | (simp [go_sem]; done) | (simp [go_sem]; omega)))).trans ((hB1.out.trans (hg2.mono hB1.out.size)).mono (by simp))
      have T5 := Lib.hid (T4.out.grow hgV)
      have hP2 := hP.out.grow hg2
      rw [← hS] at hP2
      have hFa : ∀ x, F' x → Wa.heap.size ≤ x := fun x f => by have := hF.out x f; simp at this; omega
      have hCa := heap_in T4.out.cv
      have hBa := T4.out.bw
      clear e2 c2 hB1 hP hF hg2
      replace hP2 := Lib.hid hP2
      have CL := Lib.hid (fun w' (h : Below V2.heap.size V2 w') => clone_p (hP2.out.grow h) okS.out)
      go_upto_region 20 with ((go_at_call 15); (with_reducible refine (CL.out _ (by (repeat' (first | (with_reducible exact Below.refl _ _) | (with_reducible refine Below.alloc ?_ ?_ _) | (with_reducible refine below_ext ?_ ?_ _) | (with_reducible refine Below.drew ?_) | (with_reducible refine below_drewN ?_ _) | (with_reducible refine Below.setCell ?_ ?_ _) | go_size | (simp only [go_sem]; omega) | (simp [go_sem]; done) | (simp [go_sem]; omega))))).mono ?_); (rintro _ _ ⟨q', G', x7, rfl, rfl, hG, hQ⟩); (replace hG := Lib.hid hG); (replace hQ := Lib.hid hQ))
      have R0 := Lib.hid (Two.start (B := w.heap.size) (x := x7) T5.out.below T5.out.bw T5.out.cv hP2.out (fun x f => by have := hFa x f; omega) (fun f => by have := hFa _ f; omega) hQ.out hG.out)
      obtain ⟨V3, hV3⟩ : ∃ V3, V3 = ext V2 x7 := ⟨_, rfl⟩
      rw [← hV3] at R0 ⊢
      clear hV3 hQ hG hP2 T5 T4 CL hgV hFa hCa hBa hb8
      go_upto_region 21 with (first
        | (refine wpList_load_mid rfl 49 (.tmp 7) rfl HC 0 rfl [.int .i64 b.cu.row, .int .i64 b.cu.col, .int .u8 b.cu.rd, .bool b.cu.kp, .bool b.cu.wp, .bool b.cu.og, .int .i64 b.cu.a, .int .i64 b.cu.b, .int .i64 b.cu.c, .int .i64 b.cu.d, .int .i64 b.cu.l, .int .i64 b.cu.r, .int .i64 b.cu.s] _ R0.out.range Try.underlying49 rfl (by kernel_rfl) ?_)
        | ((go_at_call 12); (with_reducible refine (hpR.out S rfl rfl okS.out 2 _ _ _ R0.out.p).mono ?_); (rintro _ V4 ⟨⟨zV4, rfl⟩, hDV4⟩)))
      have R1 := Lib.hid (R0.out.left (Below.refl _ _) hDV4)
      clear hDV4 R0
      go_upto_region 22 with (first
        | (refine wpList_load_mid rfl 49 (.tmp 7) rfl HC 0 rfl [.int .i64 b.cu.row, .int .i64 b.cu.col, .int .u8 b.cu.rd, .bool b.cu.kp, .bool b.cu.wp, .bool b.cu.og, .int .i64 b.cu.a, .int .i64 b.cu.b, .int .i64 b.cu.c, .int .i64 b.cu.d, .int .i64 b.cu.l, .int .i64 b.cu.r, .int .i64 b.cu.s] _ R1.out.range Try.underlying49 rfl (by kernel_rfl) ?_)
        | ((go_at_call 12); (with_reducible refine (hpR.out S rfl rfl okS.out 0 _ _ _ R1.out.q).mono ?_); (rintro _ V5 ⟨⟨zV5, rfl⟩, hDV5⟩)))
      have R2 := Lib.hid (R1.out.right (Below.refl _ _) hDV5)
      clear hDV5 R1
      go_upto_region 23 with (first
        | (refine wpList_load_mid rfl 49 (.tmp 7) rfl HC 0 rfl [.int .i64 b.cu.row, .int .i64 b.cu.col, .int .u8 b.cu.rd, .bool b.cu.kp, .bool b.cu.wp, .bool b.cu.og, .int .i64 b.cu.a, .int .i64 b.cu.b, .int .i64 b.cu.c, .int .i64 b.cu.d, .int .i64 b.cu.l, .int .i64 b.cu.r, .int .i64 b.cu.s] _ R2.out.range Try.underlying49 rfl (by kernel_rfl) ?_)
        | ((go_at_call 12); (with_reducible refine (hpR.out _ l3 rfl okR2 1 _ _ _ R2.out.q).mono ?_); (rintro _ V6 ⟨⟨zV6, rfl⟩, hDV6⟩)))
      have R3 := Lib.hid (R2.out.right (Below.refl _ _) hDV6)
      clear hDV6 R2
      have SM := Lib.hid (fun w' (h : Below V6.heap.size V6 w') => same_p (R3.out.p.grow h) okR1 (R3.out.q.grow h) okR3)
      rw [hRR.out, (sameS_iff _ _).2 rfl] at SM
      have hbF := Lib.hid R3.out.below
      have hbW := R3.out.bw
      clear R3 hpR
      go_wp2_with (go_at_call 18; ((with_reducible refine (SM.out _ (by (repeat' (first | (with_reducible exact Below.refl _ _) | (with_reducible refine Below.alloc ?_ ?_ _) | (with_reducible refine below_ext ?_ ?_ _) | (with_reducible refine Below.drew ?_) | (with_reducible refine below_drewN ?_ _) | (with_reducible refine Below.setCell ?_ ?_ _) | go_size | (simp only [go_sem]; omega) | (simp [go_sem]; done) | (simp [go_sem]; omega))))).mono ?_); rintro _ _ hgets; obtain ⟨rfl, x8, rfl⟩ := hgets.get; clear hgets))
      go_returns
      exact ⟨rfl, hbF.out.trans (Below.mono (B := V6.heap.size) (by (repeat' (first | (with_reducible exact Below.refl _ _) | (with_reducible refine Below.alloc ?_ ?_ _) | (with_reducible refine below_ext ?_ ?_ _) | (with_reducible refine Below.drew ?_) | (with_reducible refine below_drewN ?_ _) | (with_reducible refine Below.setCell ?_ ?_ _) | go_size | (simp only [go_sem]; omega) | (simp [go_sem]; done) | (simp [go_sem]; omega)))) hbW)⟩
end Go.Proofs.Ytdfiknemfpkdmaa
