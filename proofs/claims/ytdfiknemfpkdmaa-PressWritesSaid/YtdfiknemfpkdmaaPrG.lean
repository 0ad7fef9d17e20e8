/- press.Glyph, without insertion.  -/
import Derived.Test.YtdfiknemfpkdmaaPrD
namespace Go.Proofs.Ytdfiknemfpkdmaa
open Go.RowKit
set_option linter.unusedVariables false
set_option linter.unusedSimpArgs false

def g0C (S : PgS) (m : BxI) (wr : Bool) (x : Cu) : Cu := if (x.wp && wr) = true then nextC S m (onP S.rows.length S.cols x) else x
def g0P (S : PgS) (m : BxI) (wr : Bool) (x : Cu) : PgS := if (x.wp && wr) = true then nextP S m (onP S.rows.length S.cols x) else S
def endU (T : PgS) (I : Bx) (y : Cu) : Int := min (if y.col < I.r then I.r else T.cols) (widthI (lineOf T y.row).1.length (lineOf T y.row).2)
def g1C (S : PgS) (m : BxI) (wr : Bool) (x : Cu) : Cu := doneU (g0P S m wr x) (g0C S m wr x)
def penC (wr : Bool) (e : Int) (y : Cu) : Cu := if y.col + 1 < e then { y with col := y.col + 1, wp := false } else { y with wp := wr }
def glyphP (S : PgS) (m : BxI) (wr : Bool) (g : Int) (x : Cu) : PgS := putS (g0P S m wr x) (g1C S m wr x).row (g1C S m wr x).col ⟨g, (g1C S m wr x).rd, (g1C S m wr x).kp⟩
def glyphC (S : PgS) (m : BxI) (wr : Bool) (g : Int) (x : Cu) : Cu := doneU (glyphP S m wr g x) (penC wr (endU (g0P S m wr x) (innS S m) (g1C S m wr x)) (g1C S m wr x))
theorem g0P_ok {S : PgS} (hS : S.Ok) (m : BxI) (wr : Bool) (x : Cu) : (g0P S m wr x).Ok := by
  unfold g0P
  split
  · exact nextP_ok hS m _
  · exact hS
theorem indexP_cols {S : PgS} {m : BxI} {x : Cu} : (indexP S m x).cols = S.cols := by
  unfold indexP
  split
  · split
    · rfl
    · rfl
  · rfl
theorem g0P_cols {S : PgS} {m : BxI} {wr : Bool} {x : Cu} : (g0P S m wr x).cols = S.cols := by
  unfold g0P
  split
  · exact indexP_cols
  · rfl
theorem g1C_rd {S : PgS} {m : BxI} {wr : Bool} {x : Cu} : (g1C S m wr x).rd = x.rd := by
  unfold g1C
  show (g0C S m wr x).rd = x.rd
  unfold g0C
  split
  · show (indexC S m (onP S.rows.length S.cols (retU S m (onP S.rows.length S.cols x)))).rd = x.rd
    unfold indexC
    split <;> rfl
  · rfl
theorem glyphP_ok {S : PgS} (hS : S.Ok) {g : Int} (hg : -2147483648 ≤ g ∧ g ≤ 2147483647) (m : BxI) (wr : Bool) {x : Cu} (hx : 0 ≤ x.rd ∧ x.rd ≤ 255) : (glyphP S m wr g x).Ok := by
  refine putS_ok (g0P_ok hS m wr x) _ _ ⟨hg, ?_⟩
  show 0 ≤ (g1C S m wr x).rd ∧ (g1C S m wr x).rd ≤ 255
  rw [g1C_rd]
  exact hx
theorem doneU_col {T : PgS} (hT : T.Ok) (y : Cu) : 0 ≤ (doneU T y).col ∧ (doneU T y).col ≤ 1000000 := by
  have h := lineOf_short hT y.row
  unfold doneU fitU
  have e : widthI (lineOf T y.row).1.length (lineOf T y.row).2 ≤ 1000000 := by unfold widthI; split <;> omega
  simp only
  omega
section
variable {w : World} {F : Nat → Prop} {p : Nat} {S : PgS}
set_option maxRecDepth 100000 in
set_option maxHeartbeats 8000000 in
theorem glyph_g (h : PageAt w F p S) (hS : S.Ok) (hFl : ∀ b, F b → b < w.heap.size) (x : Cu) (f m : BxI) (wr : Bool) (g : Int) (hgg : -2147483648 ≤ g ∧ g ≤ 2147483647) (hrd : 0 ≤ x.rd ∧ x.rd ≤ 255) :
    Calls Try.prog 50 #[.pointer (some ⟨p, 0, none⟩), x.v, .agg #[.int .i64 f.t, .int .i64 f.l, .int .i64 f.b, .int .i64 f.r, .int .i64 m.t, .int .i64 m.l, .int .i64 m.b, .int .i64 m.r], .agg #[.bool wr, .bool false], .int .i32 g] w (fun e w' => e = .returned (glyphC S m wr g (onP S.rows.length S.cols x)).v ∧ Did F p (glyphP S m wr g (onP S.rows.length S.cols x)) w w') := by
  have r1 := hS.r1
  have r2 := hS.r2
  have c1 := hS.c1
  have c2 := hS.c2
  have ON := Lib.hid (fun w' (hb : Below w.heap.size w w') => on_s (h.grow hb) hS x f m)
  replace hrd : 0 ≤ (onP S.rows.length S.cols x).rd ∧ (onP S.rows.length S.cols x).rd ≤ 255 := hrd
  generalize onP S.rows.length S.cols x = x' at ON hrd ⊢
  obtain ⟨row, col, rd, kp, wp, og, a, b, c, d, l, r, s⟩ := x
  obtain ⟨mt, ml, mb, mr⟩ := m
  obtain ⟨fT, fL, fB, fR⟩ := f
  simp only at ON ⊢
  go_enter Try.func50, Try.ntmps50
  go_upto_region 2 with (first
    | (refine wpList_load_mid rfl 49 (.tmp 6) rfl _ 0 rfl [.int .i64 row, .int .i64 col, .int .u8 rd, .bool kp, .bool wp, .bool og, .int .i64 a, .int .i64 b, .int .i64 c, .int .i64 d, .int .i64 l, .int .i64 r, .int .i64 s] _ ?_ Try.underlying49 rfl (by kernel_rfl) ?_)
    | (refine wpList_load_mid rfl 69 (.tmp 7) rfl _ 0 rfl [.int .i64 fT, .int .i64 fL, .int .i64 fB, .int .i64 fR, .int .i64 mt, .int .i64 ml, .int .i64 mb, .int .i64 mr] _ ?_ Try.underlying69 rfl (by kernel_rfl) ?_)
    | ((go_at_call 48); (with_reducible refine (ON.out _ (by (repeat' (first | (with_reducible exact Below.refl _ _) | (with_reducible refine Below.alloc ?_ ?_ _) | (with_reducible refine below_ext ?_ ?_ _) | (with_reducible refine Below.drew ?_) | (with_reducible refine below_drewN ?_ _) | (with_reducible refine Below.setCell ?_ ?_ _) | go_size | (simp only [go_sem]; omega) | (simp [go_sem]; done) | (simp [go_sem]; omega))))).mono ?_); (rintro _ _ ⟨H, y, rfl, rfl, hH, hP⟩)))
  · exact range_blk (by (repeat (first | ((with_reducible refine heap_at _ _ ?_); (focus (first | rfl | (simp [go_sem]; done) | (simp [go_sem]; omega)))) | ((with_reducible refine (heap_old _ _ ?_).trans ?_); (focus (first | (simp [go_sem]; done) | (simp [go_sem]; omega)))) | ((with_reducible refine (block_ext _ _ ?_).trans ?_); (focus (first | (simp [go_sem]; done) | (simp [go_sem]; omega)))) | ((with_reducible refine (heap_drew _ _).trans ?_))))) 0 _ rfl
  · exact range_blk (by (repeat (first | ((with_reducible refine heap_at _ _ ?_); (focus (first | rfl | (simp [go_sem]; done) | (simp [go_sem]; omega)))) | ((with_reducible refine (heap_old _ _ ?_).trans ?_); (focus (first | (simp [go_sem]; done) | (simp [go_sem]; omega)))) | ((with_reducible refine (block_ext _ _ ?_).trans ?_); (focus (first | (simp [go_sem]; done) | (simp [go_sem]; omega)))) | ((with_reducible refine (heap_drew _ _).trans ?_))))) 0 _ rfl
  obtain ⟨W1, hW1⟩ : ∃ W1, W1 = ext ((((w.alloc (.cells #[.int .i64 row, .int .i64 col, .int .u8 rd, .bool kp, .bool wp, .bool og, .int .i64 a, .int .i64 b, .int .i64 c, .int .i64 d, .int .i64 l, .int .i64 r, .int .i64 s] 49)).alloc (.cells #[.int .i64 fT, .int .i64 fL, .int .i64 fB, .int .i64 fR, .int .i64 mt, .int .i64 ml, .int .i64 mb, .int .i64 mr] 69)).alloc (.cells #[.bool wr, .bool false] 71)).alloc (.cells #[.int .i64 0, .int .i64 0, .int .u8 0, .bool false, .bool false, .bool false, .int .i64 0, .int .i64 0, .int .i64 0, .int .i64 0, .int .i64 0, .int .i64 0, .int .i64 0] 49)) y := ⟨_, rfl⟩
  have hb : Below w.heap.size w W1 := by rw [hW1]; (repeat' (first | (with_reducible exact Below.refl _ _) | (with_reducible refine Below.alloc ?_ ?_ _) | (with_reducible refine below_ext ?_ ?_ _) | (with_reducible refine Below.drew ?_) | (with_reducible refine below_drewN ?_ _) | (with_reducible refine Below.setCell ?_ ?_ _) | go_size | (simp only [go_sem]; omega) | (simp [go_sem]; done) | (simp [go_sem]; omega)))
  have hH2 : w.heap.size + 4 ≤ H := by
    have : ((((w.alloc (.cells #[.int .i64 row, .int .i64 col, .int .u8 rd, .bool kp, .bool wp, .bool og, .int .i64 a, .int .i64 b, .int .i64 c, .int .i64 d, .int .i64 l, .int .i64 r, .int .i64 s] 49)).alloc (.cells #[.int .i64 fT, .int .i64 fL, .int .i64 fB, .int .i64 fR, .int .i64 mt, .int .i64 ml, .int .i64 mb, .int .i64 mr] 69)).alloc (.cells #[.bool wr, .bool false] 71)).alloc (.cells #[.int .i64 0, .int .i64 0, .int .u8 0, .bool false, .bool false, .bool false, .int .i64 0, .int .i64 0, .int .i64 0, .int .i64 0, .int .i64 0, .int .i64 0, .int .i64 0] 49)).heap.size = w.heap.size + 4 := by simp [go_sem]
    omega
  have G : GlSt w F p H (frL S.rows.length S.cols ⟨mt, ml, mb, mr⟩) [.int .i64 fT, .int .i64 fL, .int .i64 fB, .int .i64 fR, .int .i64 mt, .int .i64 ml, .int .i64 mb, .int .i64 mr] wr false S x' W1 := by
    rw [hW1]
    rw [hW1] at hb
    exact ⟨Keep.of_below hb, ⟨F, h.grow hb, fun b hb => .inl hb, fun hf => by have := hFl _ hf; omega⟩, hP, by (repeat (first | ((with_reducible refine heap_at _ _ ?_); (focus (first | rfl | (simp [go_sem]; done) | (simp [go_sem]; omega)))) | ((with_reducible refine (heap_old _ _ ?_).trans ?_); (focus (first | (simp [go_sem]; done) | (simp [go_sem]; omega)))) | ((with_reducible refine (block_ext _ _ ?_).trans ?_); (focus (first | (simp [go_sem]; done) | (simp [go_sem]; omega)))) | ((with_reducible refine (heap_drew _ _).trans ?_)))), by (repeat (first | ((with_reducible refine heap_at _ _ ?_); (focus (first | rfl | (simp [go_sem]; done) | (simp [go_sem]; omega)))) | ((with_reducible refine (heap_old _ _ ?_).trans ?_); (focus (first | (simp [go_sem]; done) | (simp [go_sem]; omega)))) | ((with_reducible refine (block_ext _ _ ?_).trans ?_); (focus (first | (simp [go_sem]; done) | (simp [go_sem]; omega)))) | ((with_reducible refine (heap_drew _ _).trans ?_)))), by (repeat (first | ((with_reducible refine heap_at _ _ ?_); (focus (first | rfl | (simp [go_sem]; done) | (simp [go_sem]; omega)))) | ((with_reducible refine (heap_old _ _ ?_).trans ?_); (focus (first | (simp [go_sem]; done) | (simp [go_sem]; omega)))) | ((with_reducible refine (block_ext _ _ ?_).trans ?_); (focus (first | (simp [go_sem]; done) | (simp [go_sem]; omega)))) | ((with_reducible refine (heap_drew _ _).trans ?_)))), hH2⟩
  rw [← hW1]
  clear hW1 hH ON hP hb
  replace G := Lib.hid G
  go_cut [26] (fun v wx => v = .bool (x'.wp && wr) ∧ wx = W1)
  case first =>
    have q5 := G.out.wp?
    have qw := G.out.wrap?
    cases hw : x'.wp
    · rw [hw] at q5
      go_wp2
      go_meet
      exact ⟨by rw [hw]; rfl, rfl⟩
    · rw [hw] at q5
      go_wp2
      go_meet
      exact ⟨by rw [hw]; rfl, rfl⟩
  obtain ⟨rfl, rfl⟩ := hcut
  have hok := g0P_ok hS ⟨mt, ml, mb, mr⟩ wr x'
  go_upto_if 26 with fail
  go_cut [] (fun wx => GlSt w F p H (frL S.rows.length S.cols ⟨mt, ml, mb, mr⟩) [.int .i64 fT, .int .i64 fL, .int .i64 fB, .int .i64 fR, .int .i64 mt, .int .i64 ml, .int .i64 mb, .int .i64 mr] wr false (g0P S ⟨mt, ml, mb, mr⟩ wr x') (g0C S ⟨mt, ml, mb, mr⟩ wr x') wx)
  case first =>
    cases hv : (x'.wp && wr)
    · have e0 : g0P S ⟨mt, ml, mb, mr⟩ wr x' = S := by unfold g0P; rw [hv]; rfl
      have e1 : g0C S ⟨mt, ml, mb, mr⟩ wr x' = x' := by unfold g0C; rw [hv]; rfl
      go_wp2
      go_meet
      rw [e0, e1]
      exact G.out
    · have e0 : g0P S ⟨mt, ml, mb, mr⟩ wr x' = nextP S ⟨mt, ml, mb, mr⟩ (onP S.rows.length S.cols x') := by unfold g0P; rw [hv]; rfl
      have e1 : g0C S ⟨mt, ml, mb, mr⟩ wr x' = nextC S ⟨mt, ml, mb, mr⟩ (onP S.rows.length S.cols x') := by unfold g0C; rw [hv]; rfl
      have pc := G.out.sh.cur
      have pf := range_blk G.out.fb 0 [.int .i64 fT, .int .i64 fL, .int .i64 fB, .int .i64 fR, .int .i64 mt, .int .i64 ml, .int .i64 mb, .int .i64 mr] rfl
      have hHl := G.out.sh.lt
      have NX := Lib.hid (fun w' (hb' : Below wc.heap.size wc w') => (G.out.grow hb').next hS hFl x' ⟨fT, fL, fB, fR⟩ ⟨mt, ml, mb, mr⟩)
      simp only at NX
      go_upto_region 3 with fail
      (refine wp_region_F (S := (fun w' => w'.rangeAt H 1 (cuL x') ∧ w'.rangeAt (w.heap.size + 1) 0 [.int .i64 fT, .int .i64 fL, .int .i64 fB, .int .i64 fR, .int .i64 mt, .int .i64 ml, .int .i64 mb, .int .i64 mr])) 10 [false, false, false, false, false, false, false, false, false, false, false] rfl rfl (by kernel_rfl) ?_ (fun hHeld => ?_); (focus ((try dsimp only); (exact ⟨pc, pf⟩); done)))
      ((refine AtF.take (oi := ?_) (v := ?_) 0 ?_ ?_ ?_ ?_ (Or.inl ⟨?_, ?_⟩) (by assumption) ?_; rotate_left 2; rfl; kernel_rfl; kernel_rfl; exact (fun _ _ _ h => h); rfl; (focus (intro w hSw; (try dsimp only at hSw); go_simp; (try with_reducible rfl); done)); (try simp only [Act.put, List.setIfInBounds_toArray, List.set_cons_zero, List.set_cons_succ])); (refine AtF.take (oi := ?_) (v := ?_) 1 ?_ ?_ ?_ ?_ (Or.inl ⟨?_, ?_⟩) (by assumption) ?_; rotate_left 2; rfl; kernel_rfl; kernel_rfl; exact (fun _ _ _ h => h); rfl; (focus (intro w hSw; (try dsimp only at hSw); go_simp; (try with_reducible rfl); done)); (try simp only [Act.put, List.setIfInBounds_toArray, List.set_cons_zero, List.set_cons_succ])); (refine AtF.take (oi := ?_) (v := ?_) 2 ?_ ?_ ?_ ?_ (Or.inl ⟨?_, ?_⟩) (by assumption) ?_; rotate_left 2; rfl; kernel_rfl; kernel_rfl; exact (fun _ _ _ h => h); rfl; (focus (intro w hSw; (try dsimp only at hSw); go_simp; (try with_reducible rfl); done)); (try simp only [Act.put, List.setIfInBounds_toArray, List.set_cons_zero, List.set_cons_succ])); (refine AtF.take (oi := ?_) (v := ?_) 3 ?_ ?_ ?_ ?_ (Or.inl ⟨?_, ?_⟩) (by assumption) ?_; rotate_left 2; rfl; kernel_rfl; kernel_rfl; exact (fun _ _ _ h => h); rfl; (focus (intro w hSw; (try dsimp only at hSw); go_simp; (try with_reducible rfl); done)); (try simp only [Act.put, List.setIfInBounds_toArray, List.set_cons_zero, List.set_cons_succ])); (refine AtF.take (oi := ?_) (v := ?_) 4 ?_ ?_ ?_ ?_ (Or.inl ⟨?_, ?_⟩) (by assumption) ?_; rotate_left 2; rfl; kernel_rfl; kernel_rfl; exact (fun _ _ _ h => h); rfl; (focus (intro w hSw; (try dsimp only at hSw); go_simp; (try with_reducible rfl); done)); (try simp only [Act.put, List.setIfInBounds_toArray, List.set_cons_zero, List.set_cons_succ])))
      (refine AtF.take (oi := ?_) (v := .agg (cuL x').toArray) 5 ?_ ?_ ?_ ?_ ?_ (by assumption) ?_; rotate_left 1; rfl; kernel_rfl; kernel_rfl; exact (fun _ _ _ h => h); (focus ((refine yieldsIf_load_mid rfl 49 (.tmp 31) rfl H 1 rfl (cuL x') _ (fun w' hS => hS.1) Try.underlying49 rfl (by kernel_rfl)); done)); (try simp only [Act.put, List.setIfInBounds_toArray, List.set_cons_zero, List.set_cons_succ]))
      (refine AtF.take (oi := ?_) (v := .agg ([.int .i64 fT, .int .i64 fL, .int .i64 fB, .int .i64 fR, .int .i64 mt, .int .i64 ml, .int .i64 mb, .int .i64 mr]).toArray) 6 ?_ ?_ ?_ ?_ ?_ (by assumption) ?_; rotate_left 1; rfl; kernel_rfl; kernel_rfl; exact (fun _ _ _ h => h); (focus ((refine yieldsIf_load_mid rfl 69 (.tmp 7) rfl (w.heap.size + 1) 0 rfl [.int .i64 fT, .int .i64 fL, .int .i64 fB, .int .i64 fR, .int .i64 mt, .int .i64 ml, .int .i64 mb, .int .i64 mr] _ (fun w' hS => hS.2) Try.underlying69 rfl (by kernel_rfl)); done)); (try simp only [Act.put, List.setIfInBounds_toArray, List.set_cons_zero, List.set_cons_succ]))
      (refine AtF.only (oi := ?_) 7 ?_ ?_ (fun K hK => ?_); rotate_left 1; rfl; kernel_rfl; (try go_simp); ((go_at_call 81); (with_reducible refine (NX.out _ (by (repeat' (first | (with_reducible exact Below.refl _ _) | (with_reducible refine Below.alloc ?_ ?_ _) | (with_reducible refine below_ext ?_ ?_ _) | (with_reducible refine Below.drew ?_) | (with_reducible refine below_drewN ?_ _) | (with_reducible refine Below.setCell ?_ ?_ _) | go_size | (simp only [go_sem]; omega) | (simp [go_sem]; done) | (simp [go_sem]; omega))))).mono ?_); (rintro _ W3 ⟨rfl, hG3⟩)); (refine hK.out _ _ ?_ (fun hHeld => ?_)); (focus ((try dsimp only); (exact ⟨hG3.sh.cur, range_blk hG3.fb 0 _ rfl⟩); done)); clear hK K; (try simp only [Act.put, List.setIfInBounds_toArray, List.set_cons_zero, List.set_cons_succ]))
      ((refine AtF.take (oi := ?_) (v := ?_) 8 ?_ ?_ ?_ ?_ (Or.inl ⟨?_, ?_⟩) (by assumption) ?_; rotate_left 2; rfl; kernel_rfl; kernel_rfl; exact (fun _ _ _ h => h); rfl; (focus (intro w hSw; (try dsimp only at hSw); go_simp; (try with_reducible rfl); done)); (try simp only [Act.put, List.setIfInBounds_toArray, List.set_cons_zero, List.set_cons_succ])); (refine AtF.take (oi := ?_) (v := ?_) 9 ?_ ?_ ?_ ?_ (Or.inl ⟨?_, ?_⟩) (by assumption) ?_; rotate_left 2; rfl; kernel_rfl; kernel_rfl; exact (fun _ _ _ h => h); rfl; (focus (intro w hSw; (try dsimp only at hSw); go_simp; (try with_reducible rfl); done)); (try simp only [Act.put, List.setIfInBounds_toArray, List.set_cons_zero, List.set_cons_succ])))
      clear hHeld NX
      (refine AtF.last (oi := ?_) ?_ ?_ (fun K hK => ?_); rotate_left 1; rfl; kernel_rfl; refine step_do rfl ?_; (refine wp_store_mid 49 (.tmp 36) (.tmp 34) rfl H 1 (cuL (nextC S ⟨mt, ml, mb, mr⟩ (onP S.rows.length S.cols x'))).toArray rfl rfl hG3.sh.there1 (by kernel_rfl) (all_one _ rfl) ?_); refine hK.out _ _ ?_; clear hK K; (try simp only [Act.put, List.setIfInBounds_toArray, List.set_cons_zero, List.set_cons_succ]))
      obtain ⟨_, W4, e4, hG4⟩ := hG3.store (nextC S ⟨mt, ml, mb, mr⟩ (onP S.rows.length S.cols x'))
      replace hG4 := Lib.hid hG4
      rw [e4]
      clear hG3 e4
      go_wp2
      go_meet
      rw [e0, e1]
      exact hG4.out
  replace hcut := Lib.hid hcut
  clear G
  -- the cursor, fitted
  have hcol := doneU_col hok (g0C S ⟨mt, ml, mb, mr⟩ wr x')
  have hcols : (g0P S ⟨mt, ml, mb, mr⟩ wr x').cols = S.cols := g0P_cols
  have G1 : Hid (GlSt w F p H (frL S.rows.length S.cols ⟨mt, ml, mb, mr⟩) [.int .i64 fT, .int .i64 fL, .int .i64 fB, .int .i64 fR, .int .i64 mt, .int .i64 ml, .int .i64 mb, .int .i64 mr] wr false (g0P S ⟨mt, ml, mb, mr⟩ wr x') (g0C S ⟨mt, ml, mb, mr⟩ wr x') wc) := hcut
  have FT := Lib.hid (fun w' (hb' : Below wc.heap.size wc w') => (G1.out.grow hb').fit hok)
  have GD : doneU (g0P S ⟨mt, ml, mb, mr⟩ wr x') (g0C S ⟨mt, ml, mb, mr⟩ wr x') = g1C S ⟨mt, ml, mb, mr⟩ wr x' := rfl
  rw [GD] at FT hcol
  clear GD hcut
  go_upto_region 5 with (first
    | ((go_at_call 49); (with_reducible refine (FT.out _ (by (repeat' (first | (with_reducible exact Below.refl _ _) | (with_reducible refine Below.alloc ?_ ?_ _) | (with_reducible refine below_ext ?_ ?_ _) | (with_reducible refine Below.drew ?_) | (with_reducible refine below_drewN ?_ _) | (with_reducible refine Below.setCell ?_ ?_ _) | go_size | (simp only [go_sem]; omega) | (simp [go_sem]; done) | (simp [go_sem]; omega))))).mono ?_); (rintro _ _ hgets); (obtain ⟨rfl, x4, rfl⟩ := hgets.get); clear hgets)
    | (refine wpList_store_mid rfl 49 (.tmp 41) (.tmp 39) rfl H 1 (cuL (g1C S ⟨mt, ml, mb, mr⟩ wr x')).toArray rfl rfl (G1.out.ext _).sh.there1 (by kernel_rfl) (all_one _ rfl) ?_))
  obtain ⟨_, W5, e5, G2⟩ := (G1.out.ext x4).store (g1C S ⟨mt, ml, mb, mr⟩ wr x')
  rw [e5]
  clear e5 FT G1
  simp only [Act.put]
  -- the row's end
  have rg := G2.sh.frame
  have k0 := G2.sh.page
  have k2 := G2.col?
  have hHl := G2.sh.lt
  replace G2 := Lib.hid G2
  have hm : ((S.rows.length : Nat) : Int) ≤ 2000 := by omega
  have hn : ((S.cols : Nat) : Int) ≤ 2000 := by omega
  have IN : Hid (∀ w', Calls Try.prog 53 #[.agg (frL S.rows.length S.cols ⟨mt, ml, mb, mr⟩).toArray] w' (Gives w' (boxV (innS S ⟨mt, ml, mb, mr⟩).t (innS S ⟨mt, ml, mb, mr⟩).l (innS S ⟨mt, ml, mb, mr⟩).b (innS S ⟨mt, ml, mb, mr⟩).r))) :=
    Lib.hid (fun w' => inner_f (pt := 0) (pl := 0) (pb := S.rows.length) (pr := S.cols) (mt := mt) (ml := ml) (mb := mb) (mr := mr) hm hn w')
  have CO := Lib.hid (fun w' (hb' : Below W5.heap.size W5 w') => (G2.out.grow hb').cols)
  have WI := Lib.hid (fun w' (hb' : Below W5.heap.size W5 w') => (G2.out.grow hb').width hok)
  go_upto_if 60 with (first
    | (go_at_call 17; ((with_reducible refine (CO.out _ (by (repeat' (first | (with_reducible exact Below.refl _ _) | (with_reducible refine Below.alloc ?_ ?_ _) | (with_reducible refine below_ext ?_ ?_ _) | (with_reducible refine Below.drew ?_) | (with_reducible refine below_drewN ?_ _) | (with_reducible refine Below.setCell ?_ ?_ _) | go_size | (simp only [go_sem]; omega) | (simp [go_sem]; done) | (simp [go_sem]; omega))))).mono ?_); rintro _ _ hgets; obtain ⟨rfl, x5, rfl⟩ := hgets.get; clear hgets))
    | (refine wpList_load_mid rfl 69 (.tmp 49) rfl H 14 rfl (frL S.rows.length S.cols ⟨mt, ml, mb, mr⟩) _ (range_grow rg hHl _) Try.underlying69 rfl (by kernel_rfl) ?_)
    | (go_at_call 53; ((with_reducible refine (IN.out _).mono ?_); rintro _ _ hgets; obtain ⟨rfl, x6, rfl⟩ := hgets.get; clear hgets)))
  go_cut [12] (fun v wx => v = .int .i64 (if (g1C S ⟨mt, ml, mb, mr⟩ wr x').col < (innS S ⟨mt, ml, mb, mr⟩).r then (innS S ⟨mt, ml, mb, mr⟩).r else (S.cols : Int)) ∧ GlSt w F p H (frL S.rows.length S.cols ⟨mt, ml, mb, mr⟩) [.int .i64 fT, .int .i64 fL, .int .i64 fB, .int .i64 fR, .int .i64 mt, .int .i64 ml, .int .i64 mb, .int .i64 mr] wr false (g0P S ⟨mt, ml, mb, mr⟩ wr x') (g1C S ⟨mt, ml, mb, mr⟩ wr x') wx)
  case first =>
    by_cases hc : (g1C S ⟨mt, ml, mb, mr⟩ wr x').col < (innS S ⟨mt, ml, mb, mr⟩).r
    · have hd : decide ((g1C S ⟨mt, ml, mb, mr⟩ wr x').col < (innS S ⟨mt, ml, mb, mr⟩).r) = true := by simpa using hc
      go_wp2
      go_meet
      exact ⟨by rw [if_pos hc], (G2.out.ext _).ext _⟩
    · have hd : decide ((g1C S ⟨mt, ml, mb, mr⟩ wr x').col < (innS S ⟨mt, ml, mb, mr⟩).r) = false := by simpa using hc
      go_wp2
      go_meet
      exact ⟨by rw [if_neg (by omega)], (G2.out.ext _).ext _⟩
  obtain ⟨rfl, G3⟩ := hcut
  clear rg k0 k2 hHl G2 IN CO WI
  have hE : endU (g0P S ⟨mt, ml, mb, mr⟩ wr x') (innS S ⟨mt, ml, mb, mr⟩) (g1C S ⟨mt, ml, mb, mr⟩ wr x') = min (if (g1C S ⟨mt, ml, mb, mr⟩ wr x').col < (innS S ⟨mt, ml, mb, mr⟩).r then (innS S ⟨mt, ml, mb, mr⟩).r else (S.cols : Int)) (widthI (lineOf (g0P S ⟨mt, ml, mb, mr⟩ wr x') (g1C S ⟨mt, ml, mb, mr⟩ wr x').row).1.length (lineOf (g0P S ⟨mt, ml, mb, mr⟩ wr x') (g1C S ⟨mt, ml, mb, mr⟩ wr x').row).2) := by unfold endU; rw [hcols]
  generalize (if (g1C S ⟨mt, ml, mb, mr⟩ wr x').col < (innS S ⟨mt, ml, mb, mr⟩).r then (innS S ⟨mt, ml, mb, mr⟩).r else (S.cols : Int)) = e0 at hE ⊢
  have k0 := G3.sh.page
  have ki : wc.cell? ⟨w.heap.size + 1 + 1, 1, none⟩ = some (.bool false) := G3.ins?
  have hs4 := G3.size
  have hw2 : w.heap.size + 1 + 1 < wc.heap.size := by omega
  have hHl := G3.sh.lt
  replace G3 := Lib.hid G3
  have WI := Lib.hid (fun w' (hb' : Below wc.heap.size wc w') => (G3.out.grow hb').width hok)
  go_upto_region 12 with (go_at_call 80; ((with_reducible refine (WI.out _ (by (repeat' (first | (with_reducible exact Below.refl _ _) | (with_reducible refine Below.alloc ?_ ?_ _) | (with_reducible refine below_ext ?_ ?_ _) | (with_reducible refine Below.drew ?_) | (with_reducible refine below_drewN ?_ _) | (with_reducible refine Below.setCell ?_ ?_ _) | go_size | (simp only [go_sem]; omega) | (simp [go_sem]; done) | (simp [go_sem]; omega))))).mono ?_); rintro _ _ hgets; obtain ⟨rfl, x7, rfl⟩ := hgets.get; clear hgets))
  rw [← hE]
  clear hE WI
  generalize heE : endU (g0P S ⟨mt, ml, mb, mr⟩ wr x') (innS S ⟨mt, ml, mb, mr⟩) (g1C S ⟨mt, ml, mb, mr⟩ wr x') = eE
  replace heE := Lib.hid heE
  have rgp : wc.rangeAt H 1 [.int .i64 (g1C S ⟨mt, ml, mb, mr⟩ wr x').row, .int .i64 (g1C S ⟨mt, ml, mb, mr⟩ wr x').col] := range_blk G3.out.sh 1 _ rfl
  have k3 := G3.out.rd?
  have k4 := G3.out.kp?
  have PT := Lib.hid (fun w' (hb' : Below wc.heap.size wc w') => (G3.out.grow hb').put hok hFl (g1C S ⟨mt, ml, mb, mr⟩ wr x').row (g1C S ⟨mt, ml, mb, mr⟩ wr x').col ⟨g, (g1C S ⟨mt, ml, mb, mr⟩ wr x').rd, (g1C S ⟨mt, ml, mb, mr⟩ wr x').kp⟩)
  (refine wp_region_F (S := (fun w' => w'.cell? ⟨H, 0, none⟩ = some (.pointer (some ⟨p, 0, none⟩)) ∧ w'.rangeAt H 1 [.int .i64 (g1C S ⟨mt, ml, mb, mr⟩ wr x').row, .int .i64 (g1C S ⟨mt, ml, mb, mr⟩ wr x').col] ∧ w'.cell? ⟨H, 3, none⟩ = some (.int .u8 (g1C S ⟨mt, ml, mb, mr⟩ wr x').rd) ∧ w'.cell? ⟨H, 4, none⟩ = some (.bool (g1C S ⟨mt, ml, mb, mr⟩ wr x').kp))) 21 [false, false, false, false, false, false, false, false, false, false, false, false, false, false, false, false, false, false, false, false, false, false] rfl rfl (by kernel_rfl) ?_ (fun hHeld => ?_); (focus ((try dsimp only); (exact ⟨by simp [go_sem, k0, hHl], range_grow rgp hHl _, by simp [go_sem, k3, hHl], by simp [go_sem, k4, hHl]⟩); done)))
  ((refine AtF.take (oi := ?_) (v := ?_) 0 ?_ ?_ ?_ ?_ (Or.inl ⟨?_, ?_⟩) (by assumption) ?_; rotate_left 2; rfl; kernel_rfl; kernel_rfl; exact (fun _ _ _ h => h); rfl; (focus (intro w hSw; (try dsimp only at hSw); go_simp; (try with_reducible rfl); done)); (try simp only [Act.put, List.setIfInBounds_toArray, List.set_cons_zero, List.set_cons_succ])); (refine AtF.take (oi := ?_) (v := ?_) 1 ?_ ?_ ?_ ?_ (Or.inl ⟨?_, ?_⟩) (by assumption) ?_; rotate_left 2; rfl; kernel_rfl; kernel_rfl; exact (fun _ _ _ h => h); rfl; (focus (intro w hSw; (try dsimp only at hSw); go_simp; (try with_reducible rfl); done)); (try simp only [Act.put, List.setIfInBounds_toArray, List.set_cons_zero, List.set_cons_succ])); (refine AtF.take (oi := ?_) (v := ?_) 2 ?_ ?_ ?_ ?_ (Or.inl ⟨?_, ?_⟩) (by assumption) ?_; rotate_left 2; rfl; kernel_rfl; kernel_rfl; exact (fun _ _ _ h => h); rfl; (focus (intro w hSw; (try dsimp only at hSw); go_simp; (try with_reducible rfl); done)); (try simp only [Act.put, List.setIfInBounds_toArray, List.set_cons_zero, List.set_cons_succ])); (refine AtF.take (oi := ?_) (v := ?_) 3 ?_ ?_ ?_ ?_ (Or.inl ⟨?_, ?_⟩) (by assumption) ?_; rotate_left 2; rfl; kernel_rfl; kernel_rfl; exact (fun _ _ _ h => h); rfl; (focus (intro w hSw; (try dsimp only at hSw); go_simp; (try with_reducible rfl); done)); (try simp only [Act.put, List.setIfInBounds_toArray, List.set_cons_zero, List.set_cons_succ])); (refine AtF.take (oi := ?_) (v := ?_) 4 ?_ ?_ ?_ ?_ (Or.inl ⟨?_, ?_⟩) (by assumption) ?_; rotate_left 2; rfl; kernel_rfl; kernel_rfl; exact (fun _ _ _ h => h); rfl; (focus (intro w hSw; (try dsimp only at hSw); go_simp; (try with_reducible rfl); done)); (try simp only [Act.put, List.setIfInBounds_toArray, List.set_cons_zero, List.set_cons_succ])); (refine AtF.take (oi := ?_) (v := ?_) 5 ?_ ?_ ?_ ?_ (Or.inl ⟨?_, ?_⟩) (by assumption) ?_; rotate_left 2; rfl; kernel_rfl; kernel_rfl; exact (fun _ _ _ h => h); rfl; (focus (intro w hSw; (try dsimp only at hSw); go_simp; (try with_reducible rfl); done)); (try simp only [Act.put, List.setIfInBounds_toArray, List.set_cons_zero, List.set_cons_succ])); (refine AtF.take (oi := ?_) (v := ?_) 6 ?_ ?_ ?_ ?_ (Or.inl ⟨?_, ?_⟩) (by assumption) ?_; rotate_left 2; rfl; kernel_rfl; kernel_rfl; exact (fun _ _ _ h => h); rfl; (focus (intro w hSw; (try dsimp only at hSw); go_simp; (try with_reducible rfl); done)); (try simp only [Act.put, List.setIfInBounds_toArray, List.set_cons_zero, List.set_cons_succ])); (refine AtF.take (oi := ?_) (v := ?_) 7 ?_ ?_ ?_ ?_ (Or.inl ⟨?_, ?_⟩) (by assumption) ?_; rotate_left 2; rfl; kernel_rfl; kernel_rfl; exact (fun _ _ _ h => h); rfl; (focus (intro w hSw; (try dsimp only at hSw); go_simp; (try with_reducible rfl); done)); (try simp only [Act.put, List.setIfInBounds_toArray, List.set_cons_zero, List.set_cons_succ])))
  (refine AtF.take (oi := ?_) (v := .agg #[.int .i64 (g1C S ⟨mt, ml, mb, mr⟩ wr x').row, .int .i64 (g1C S ⟨mt, ml, mb, mr⟩ wr x').col]) 8 ?_ ?_ ?_ ?_ ?_ (by assumption) ?_; rotate_left 1; rfl; kernel_rfl; kernel_rfl; exact (fun _ _ _ h => h); (focus ((refine yieldsIf_load_mid rfl 46 (.tmp 101) rfl H 1 rfl [.int .i64 (g1C S ⟨mt, ml, mb, mr⟩ wr x').row, .int .i64 (g1C S ⟨mt, ml, mb, mr⟩ wr x').col] _ (fun w' hS => hS.2.1) Try.underlying46 rfl (by kernel_rfl)); done)); (try simp only [Act.put, List.setIfInBounds_toArray, List.set_cons_zero, List.set_cons_succ]))
  ((refine AtF.take (oi := ?_) (v := ?_) 9 ?_ ?_ ?_ ?_ (Or.inl ⟨?_, ?_⟩) (by assumption) ?_; rotate_left 2; rfl; kernel_rfl; kernel_rfl; exact (fun _ _ _ h => h); rfl; (focus (intro w hSw; (try dsimp only at hSw); go_simp; (try with_reducible rfl); done)); (try simp only [Act.put, List.setIfInBounds_toArray, List.set_cons_zero, List.set_cons_succ])); (refine AtF.take (oi := ?_) (v := ?_) 10 ?_ ?_ ?_ ?_ (Or.inl ⟨?_, ?_⟩) (by assumption) ?_; rotate_left 2; rfl; kernel_rfl; kernel_rfl; exact (fun _ _ _ h => h); rfl; (focus (intro w hSw; (try dsimp only at hSw); go_simp; (try with_reducible rfl); done)); (try simp only [Act.put, List.setIfInBounds_toArray, List.set_cons_zero, List.set_cons_succ])); (refine AtF.take (oi := ?_) (v := ?_) 11 ?_ ?_ ?_ ?_ (Or.inl ⟨?_, ?_⟩) (by assumption) ?_; rotate_left 2; rfl; kernel_rfl; kernel_rfl; exact (fun _ _ _ h => h); rfl; (focus (intro w hSw; (try dsimp only at hSw); go_simp; (try with_reducible rfl); done)); (try simp only [Act.put, List.setIfInBounds_toArray, List.set_cons_zero, List.set_cons_succ])); (refine AtF.take (oi := ?_) (v := ?_) 12 ?_ ?_ ?_ ?_ (Or.inl ⟨?_, ?_⟩) (by assumption) ?_; rotate_left 2; rfl; kernel_rfl; kernel_rfl; exact (fun _ _ _ h => h); rfl; (focus (intro w hSw; (try dsimp only at hSw); go_simp; (try with_reducible rfl); done)); (try simp only [Act.put, List.setIfInBounds_toArray, List.set_cons_zero, List.set_cons_succ])); (refine AtF.take (oi := ?_) (v := ?_) 13 ?_ ?_ ?_ ?_ (Or.inl ⟨?_, ?_⟩) (by assumption) ?_; rotate_left 2; rfl; kernel_rfl; kernel_rfl; exact (fun _ _ _ h => h); rfl; (focus (intro w hSw; (try dsimp only at hSw); go_simp; (try with_reducible rfl); done)); (try simp only [Act.put, List.setIfInBounds_toArray, List.set_cons_zero, List.set_cons_succ])); (refine AtF.take (oi := ?_) (v := ?_) 14 ?_ ?_ ?_ ?_ (Or.inl ⟨?_, ?_⟩) (by assumption) ?_; rotate_left 2; rfl; kernel_rfl; kernel_rfl; exact (fun _ _ _ h => h); rfl; (focus (intro w hSw; (try dsimp only at hSw); go_simp; (try with_reducible rfl); done)); (try simp only [Act.put, List.setIfInBounds_toArray, List.set_cons_zero, List.set_cons_succ])); (refine AtF.take (oi := ?_) (v := ?_) 15 ?_ ?_ ?_ ?_ (Or.inl ⟨?_, ?_⟩) (by assumption) ?_; rotate_left 2; rfl; kernel_rfl; kernel_rfl; exact (fun _ _ _ h => h); rfl; (focus (intro w hSw; (try dsimp only at hSw); go_simp; (try with_reducible rfl); done)); (try simp only [Act.put, List.setIfInBounds_toArray, List.set_cons_zero, List.set_cons_succ])); (refine AtF.take (oi := ?_) (v := ?_) 16 ?_ ?_ ?_ ?_ (Or.inl ⟨?_, ?_⟩) (by assumption) ?_; rotate_left 2; rfl; kernel_rfl; kernel_rfl; exact (fun _ _ _ h => h); rfl; (focus (intro w hSw; (try dsimp only at hSw); go_simp; (try with_reducible rfl); done)); (try simp only [Act.put, List.setIfInBounds_toArray, List.set_cons_zero, List.set_cons_succ])); (refine AtF.take (oi := ?_) (v := ?_) 17 ?_ ?_ ?_ ?_ (Or.inl ⟨?_, ?_⟩) (by assumption) ?_; rotate_left 2; rfl; kernel_rfl; kernel_rfl; exact (fun _ _ _ h => h); rfl; (focus (intro w hSw; (try dsimp only at hSw); go_simp; (try with_reducible rfl); done)); (try simp only [Act.put, List.setIfInBounds_toArray, List.set_cons_zero, List.set_cons_succ])); (refine AtF.take (oi := ?_) (v := ?_) 18 ?_ ?_ ?_ ?_ (Or.inl ⟨?_, ?_⟩) (by assumption) ?_; rotate_left 2; rfl; kernel_rfl; kernel_rfl; exact (fun _ _ _ h => h); rfl; (focus (intro w hSw; (try dsimp only at hSw); go_simp; (try with_reducible rfl); done)); (try simp only [Act.put, List.setIfInBounds_toArray, List.set_cons_zero, List.set_cons_succ])); (refine AtF.take (oi := ?_) (v := ?_) 19 ?_ ?_ ?_ ?_ (Or.inl ⟨?_, ?_⟩) (by assumption) ?_; rotate_left 2; rfl; kernel_rfl; kernel_rfl; exact (fun _ _ _ h => h); rfl; (focus (intro w hSw; (try dsimp only at hSw); go_simp; (try with_reducible rfl); done)); (try simp only [Act.put, List.setIfInBounds_toArray, List.set_cons_zero, List.set_cons_succ])); (refine AtF.take (oi := ?_) (v := ?_) 20 ?_ ?_ ?_ ?_ (Or.inl ⟨?_, ?_⟩) (by assumption) ?_; rotate_left 2; rfl; kernel_rfl; kernel_rfl; exact (fun _ _ _ h => h); rfl; (focus (intro w hSw; (try dsimp only at hSw); go_simp; (try with_reducible rfl); done)); (try simp only [Act.put, List.setIfInBounds_toArray, List.set_cons_zero, List.set_cons_succ])))
  (refine AtF.last (oi := ?_) ?_ ?_ (fun K hK => ?_); rotate_left 1; rfl; kernel_rfl; go_simp; ((go_at_call 82); (with_reducible refine (PT.out _ (by (repeat' (first | (with_reducible exact Below.refl _ _) | (with_reducible refine Below.alloc ?_ ?_ _) | (with_reducible refine below_ext ?_ ?_ _) | (with_reducible refine Below.drew ?_) | (with_reducible refine below_drewN ?_ _) | (with_reducible refine Below.setCell ?_ ?_ _) | go_size | (simp only [go_sem]; omega) | (simp [go_sem]; done) | (simp [go_sem]; omega))))).mono ?_); (rintro _ W6 ⟨rfl, G4⟩)); refine hK.out _ _ ?_; clear hK K; (try simp only [Act.put, List.setIfInBounds_toArray, List.set_cons_zero, List.set_cons_succ]))
  clear hHeld PT rgp k0 k3 k4
  have hgp : putS (g0P S ⟨mt, ml, mb, mr⟩ wr x') (g1C S ⟨mt, ml, mb, mr⟩ wr x').row (g1C S ⟨mt, ml, mb, mr⟩ wr x').col ⟨g, (g1C S ⟨mt, ml, mb, mr⟩ wr x').rd, (g1C S ⟨mt, ml, mb, mr⟩ wr x').kp⟩ = glyphP S ⟨mt, ml, mb, mr⟩ wr g x' := rfl
  rw [hgp] at G4
  clear hgp G3
  have hok2 : (glyphP S ⟨mt, ml, mb, mr⟩ wr g x').Ok := glyphP_ok hS hgg _ _ hrd
  have k2 := G4.col?
  have k5 := G4.wp?
  have f2 := frozen_in (q := 2) G4.sh
  have f5 := frozen_in (q := 5) G4.sh
  have kw : W6.cell? ⟨w.heap.size + 1 + 1, 0, none⟩ = some (.bool wr) := G4.wrap?
  have hs6 := G4.size
  have hw6 : w.heap.size + 1 + 1 < W6.heap.size := by omega
  have hl6 := G4.sh.lt
  have hHn : H ≠ w.heap.size + 1 + 1 := by omega
  replace G4 := Lib.hid G4
  obtain ⟨hcol0, hcol1⟩ := hcol
  have hze : Hid (glyphC S ⟨mt, ml, mb, mr⟩ wr g x' = doneU (glyphP S ⟨mt, ml, mb, mr⟩ wr g x') (penC wr eE (g1C S ⟨mt, ml, mb, mr⟩ wr x'))) := Lib.hid (by rw [← heE.out]; rfl)
  clear heE hs4 hw2 hHl ki hm hn
  generalize (g1C S ⟨mt, ml, mb, mr⟩ wr x') = Y at *
  generalize hTe : glyphP S ⟨mt, ml, mb, mr⟩ wr g x' = T at *
  generalize hZe : glyphC S ⟨mt, ml, mb, mr⟩ wr g x' = ZZ at *
  replace hTe := Lib.hid hTe
  replace hZe := Lib.hid hZe
  go_upto_if 130 with fail
  go_cut [] (fun wx => GlSt w F p H (frL S.rows.length S.cols ⟨mt, ml, mb, mr⟩) [.int .i64 fT, .int .i64 fL, .int .i64 fB, .int .i64 fR, .int .i64 mt, .int .i64 ml, .int .i64 mb, .int .i64 mr] wr false T (penC wr eE Y) wx)
  case first =>
    by_cases hc : Y.col + 1 < eE
    · have hd : decide (Y.col + 1 < eE) = true := by simpa using hc
      have e1 : penC wr eE Y = { Y with col := Y.col + 1, wp := false } := by unfold penC; rw [if_pos hc]
      go_wp2
      go_meet
      rw [e1]
      exact ((G4.out.setWrap wr).setCol (Y.col + 1)).setWrap false
    · have hd : decide (Y.col + 1 < eE) = false := by simpa using hc
      have e1 : penC wr eE Y = { Y with wp := wr } := by unfold penC; rw [if_neg hc]
      go_wp2
      go_meet
      rw [e1]
      exact G4.out.setWrap wr
  have FT := Lib.hid (fun w' (hb' : Below wc.heap.size wc w') => (hcut.grow hb').fit hok2)
  rw [← hze.out] at FT
  have hl3 := heap_in hcut.rb
  have G7 := Lib.hid hcut
  clear hcut G4 k2 k5 f2 f5 kw hs6 hw6 hl6 hHn
  generalize hzz : ZZ = z at FT
  replace hzz := Lib.hid hzz
  go_upto_region 16 with fail
  go_wp2_with (first
    | ((go_at_call 49); (with_reducible refine (FT.out _ (by (repeat' (first | (with_reducible exact Below.refl _ _) | (with_reducible refine Below.alloc ?_ ?_ _) | (with_reducible refine below_ext ?_ ?_ _) | (with_reducible refine Below.drew ?_) | (with_reducible refine below_drewN ?_ _) | (with_reducible refine Below.setCell ?_ ?_ _) | go_size | (simp only [go_sem]; omega) | (simp [go_sem]; done) | (simp [go_sem]; omega))))).mono ?_); (rintro _ _ hgets); (obtain ⟨rfl, x8, rfl⟩ := hgets.get); clear hgets)
    | ((refine wpList_store_mid rfl 49 (.tmp 10) (.tmp 148) rfl (w.heap.size + 1 + 1 + 1) 0 (cuL z).toArray rfl rfl (there_any ((block_ext _ _ hl3).trans G7.out.rb) (by simp)) (by kernel_rfl) (all_one _ rfl) ?_)
       obtain ⟨W9, e9, d9, h9⟩ := (G7.out.ext x8).answer hFl z
       rw [show (cuL z).toArray.toList = cuL z from rfl, show w.heap.size + 1 + 1 + 1 = w.heap.size + 3 from rfl, e9]
       replace d9 := Lib.hid d9
       replace h9 := Lib.hid h9))
  replace h9 := h9.out
  have hl9 := heap_in h9
  have d20 : W9.cell? ⟨w.heap.size + 1 + 1 + 1, 0, none⟩ = some (.int .i64 z.row) := by rw [cell_in h9]; rfl
  have d21 : W9.cell? ⟨w.heap.size + 1 + 1 + 1, 1, none⟩ = some (.int .i64 z.col) := by rw [cell_in h9]; rfl
  have d22 : W9.cell? ⟨w.heap.size + 1 + 1 + 1, 2, none⟩ = some (.int .u8 z.rd) := by rw [cell_in h9]; rfl
  have d23 : W9.cell? ⟨w.heap.size + 1 + 1 + 1, 3, none⟩ = some (.bool z.kp) := by rw [cell_in h9]; rfl
  have d24 : W9.cell? ⟨w.heap.size + 1 + 1 + 1, 4, none⟩ = some (.bool z.wp) := by rw [cell_in h9]; rfl
  have d25 : W9.cell? ⟨w.heap.size + 1 + 1 + 1, 5, none⟩ = some (.bool z.og) := by rw [cell_in h9]; rfl
  have d26 : W9.cell? ⟨w.heap.size + 1 + 1 + 1, 6, none⟩ = some (.int .i64 z.a) := by rw [cell_in h9]; rfl
  have d27 : W9.cell? ⟨w.heap.size + 1 + 1 + 1, 7, none⟩ = some (.int .i64 z.b) := by rw [cell_in h9]; rfl
  have d28 : W9.cell? ⟨w.heap.size + 1 + 1 + 1, 8, none⟩ = some (.int .i64 z.c) := by rw [cell_in h9]; rfl
  have d29 : W9.cell? ⟨w.heap.size + 1 + 1 + 1, 9, none⟩ = some (.int .i64 z.d) := by rw [cell_in h9]; rfl
  have d30 : W9.cell? ⟨w.heap.size + 1 + 1 + 1, 10, none⟩ = some (.int .i64 z.l) := by rw [cell_in h9]; rfl
  have d31 : W9.cell? ⟨w.heap.size + 1 + 1 + 1, 11, none⟩ = some (.int .i64 z.r) := by rw [cell_in h9]; rfl
  have d32 : W9.cell? ⟨w.heap.size + 1 + 1 + 1, 12, none⟩ = some (.int .i64 z.s) := by rw [cell_in h9]; rfl
  refine bodyPost_ret (by simp [results, Try.results50, go_sem, d20, d21, d22, d23, d24, d25, d26, d27, d28, d29, d30, d31, d32]; try rfl) rfl ?_
  rw [hZe.out, hTe.out, hzz.out]
  exact ⟨rfl, d9.out⟩
end
end Go.Proofs.Ytdfiknemfpkdmaa
