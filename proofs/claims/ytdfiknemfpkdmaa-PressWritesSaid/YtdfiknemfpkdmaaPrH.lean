/- press.Text, without insertion.  -/
import Derived.Test.YtdfiknemfpkdmaaPrG
namespace Go.Proofs.Ytdfiknemfpkdmaa
open Go.RowKit
set_option linter.unusedVariables false
set_option linter.unusedSimpArgs false

theorem glyphC_rd {S : PgS} {m : BxI} {wr : Bool} {g : Int} {x : Cu} : (glyphC S m wr g x).rd = x.rd := by
  unfold glyphC
  show (penC wr (endU (g0P S m wr x) (innS S m) (g1C S m wr x)) (g1C S m wr x)).rd = x.rd
  unfold penC
  split
  · exact g1C_rd
  · exact g1C_rd
/-- a text, character by character -/
def textR (m : BxI) (wr : Bool) : List Int → PgS → Cu → PgS × Cu
  | [], S, x => (S, x)
  | g :: gs, S, x => textR m wr gs (glyphP S m wr g (onP S.rows.length S.cols x)) (glyphC S m wr g (onP S.rows.length S.cols x))
theorem textR_snoc (m : BxI) (wr : Bool) (g : Int) : ∀ (gs : List Int) (S : PgS) (x : Cu), textR m wr (gs ++ [g]) S x = (glyphP (textR m wr gs S x).1 m wr g (onP (textR m wr gs S x).1.rows.length (textR m wr gs S x).1.cols (textR m wr gs S x).2), glyphC (textR m wr gs S x).1 m wr g (onP (textR m wr gs S x).1.rows.length (textR m wr gs S x).1.cols (textR m wr gs S x).2))
  | [], S, x => rfl
  | h :: gs, S, x => by
    show textR m wr (gs ++ [g]) _ _ = _
    rw [textR_snoc m wr g gs]
    rfl
theorem textR_ok {m : BxI} {wr : Bool} : ∀ {gs : List Int} {S : PgS} {x : Cu}, S.Ok → (0 ≤ x.rd ∧ x.rd ≤ 255) → (∀ g ∈ gs, -2147483648 ≤ g ∧ g ≤ 2147483647) → (textR m wr gs S x).1.Ok ∧ (textR m wr gs S x).2.rd = x.rd
  | [], S, x, hS, hx, hg => ⟨hS, rfl⟩
  | g :: gs, S, x, hS, hx, hg => by
    have h1 : (glyphC S m wr g (onP S.rows.length S.cols x)).rd = x.rd := glyphC_rd
    obtain ⟨a, b⟩ := textR_ok (m := m) (wr := wr) (gs := gs) (glyphP_ok hS (hg g (by simp)) m wr (x := onP S.rows.length S.cols x) hx) (by rw [h1]; exact hx) (fun g' hg' => hg g' (by simp [hg']))
    exact ⟨a, b.trans h1⟩
structure TxSt (w : World) (F : Nat → Prop) (p : Nat) (fa : List Value) (wr : Bool) (T : PgS) (y : Cu) (W : World) : Prop where
  keep : Keep F w W
  foot : ∃ F', PageAt W F' p T ∧ (∀ b, F' b → F b ∨ w.heap.size + 4 ≤ b)
  cb : W.heap[w.heap.size]? = some (.cells (cuL y).toArray 49 (0, 0))
  fb : W.heap[w.heap.size + 1]? = some (.cells fa.toArray 69 (0, 0))
  wy : W.heap[w.heap.size + 2]? = some (.cells #[.bool wr, .bool false] 71 (0, 0))
  rb : W.heap[w.heap.size + 3]? = some (.cells cu0.toArray 49 (0, 0))
section
variable {w W W' : World} {F : Nat → Prop} {p : Nat} {fa : List Value} {wr : Bool} {T U : PgS} {y z : Cu}
theorem TxSt.grow (h : TxSt w F p fa wr T y W) (hb : Below W.heap.size W W') : TxSt w F p fa wr T y W' := by
  obtain ⟨F', h1, h2⟩ := h.foot
  exact ⟨h.keep.trans (Keep.of_below (F := fun _ => False) hb) (fun x hx => hx.elim), ⟨F', h1.grow hb, h2⟩, (hb.block _ (heap_in h.cb)).trans h.cb, (hb.block _ (heap_in h.fb)).trans h.fb, (hb.block _ (heap_in h.wy)).trans h.wy, (hb.block _ (heap_in h.rb)).trans h.rb⟩
theorem TxSt.set (h : TxSt w F p fa wr T y W) (hF : ∀ b, F b → b < w.heap.size) (z : Cu) : ∃ W', W.setCells w.heap.size 0 (cuL z) = W' ∧ TxSt w F p fa wr T z W' := by
  obtain ⟨W', e, k, c⟩ := store_all h.cb (cuL z) rfl
  obtain ⟨F', h1, h2⟩ := h.foot
  refine ⟨W', e, h.keep.trans k (fun x hx => .inr (by omega)), ⟨F', h1.keep k (fun b hb e => ?_), h2⟩, c, (k.block _ (heap_in h.fb) (by omega)).trans h.fb, (k.block _ (heap_in h.wy) (by omega)).trans h.wy, (k.block _ (heap_in h.rb) (by omega)).trans h.rb⟩
  subst e
  rcases h2 _ hb with q | q
  · have := hF _ q
    omega
  · omega
theorem TxSt.did (h : TxSt w F p fa wr T y W) (hF : ∀ b, F b → b < w.heap.size) {F' : Nat → Prop} (h1 : PageAt W F' p T) (h2 : ∀ b, F' b → F b ∨ w.heap.size + 4 ≤ b) (d : Did F' p U W W') : TxSt w F p fa wr U y W' := by
  have l1 := heap_in h.fb
  have l2 := heap_in h.wy
  have l3 := heap_in h.rb
  have l0 := heap_in h.cb
  have n : ∀ i, i < 4 → ¬ F' (w.heap.size + i) := fun i hi hf => by
    rcases h2 _ hf with q | q
    · have := hF _ q
      omega
    · omega
  refine ⟨h.keep.trans d.1 (fun x hx => (h2 x hx).elim .inl (fun e => .inr (by omega))), ⟨more F' W W', d.2, fun b hb => ?_⟩, (d.1.block _ l0 (n 0 (by omega))).trans h.cb, (d.1.block _ l1 (n 1 (by omega))).trans h.fb, (d.1.block _ l2 (n 2 (by omega))).trans h.wy, (d.1.block _ l3 (n 3 (by omega))).trans h.rb⟩
  rcases hb with hb | hb
  · exact h2 b hb
  · have := hb.1
    omega
theorem TxSt.fin (h : TxSt w F p fa wr T y W) (hF : ∀ b, F b → b < w.heap.size) (z : Cu) : ∃ W', W.setCells (w.heap.size + 3) 0 (cuL z) = W' ∧ Did F p T w W' ∧ W'.heap[w.heap.size + 3]? = some (.cells (cuL z).toArray 49 (0, 0)) := by
  obtain ⟨W', e, k, c⟩ := store_all h.rb (cuL z) rfl
  obtain ⟨F', h1, h2⟩ := h.foot
  have n : ¬ F' (w.heap.size + 3) := fun hf => by
    rcases h2 _ hf with q | q
    · have := hF _ q
      omega
    · omega
  have s1 := h.keep.size
  have s2 := k.size
  refine ⟨W', e, ⟨h.keep.trans k (fun x hx => .inr (by omega)), (h1.keep k (fun b hb e => n (e ▸ hb))).mono (fun b hb => ?_) (fun b hb => ?_)⟩, c⟩
  · have hl := (h1.lt b hb)
    rcases h2 b hb with q | q
    · exact .inl q
    · exact .inr ⟨by omega, by omega⟩
  · rcases hb with hb | hb
    · have := hF b hb
      omega
    · exact hb.2
theorem TxSt.glyph (h : TxSt w F p fa wr T y W) (hT : T.Ok) (hF : ∀ b, F b → b < w.heap.size) (f m : BxI) (g : Int) (hg : -2147483648 ≤ g ∧ g ≤ 2147483647) (hr : 0 ≤ y.rd ∧ y.rd ≤ 255) : Calls Try.prog 50 #[.pointer (some ⟨p, 0, none⟩), .agg (cuL y).toArray, .agg #[.int .i64 f.t, .int .i64 f.l, .int .i64 f.b, .int .i64 f.r, .int .i64 m.t, .int .i64 m.l, .int .i64 m.b, .int .i64 m.r], .agg #[.bool wr, .bool false], .int .i32 g] W (fun e W' => e = .returned (.agg (cuL (glyphC T m wr g (onP T.rows.length T.cols y))).toArray) ∧ TxSt w F p fa wr (glyphP T m wr g (onP T.rows.length T.cols y)) y W') := by
  obtain ⟨F', h1, h2⟩ := h.foot
  refine (glyph_g h1 hT h1.lt y f m wr g hg hr).mono ?_
  rintro e W' ⟨rfl, hd⟩
  exact ⟨rfl, h.did hF h1 h2 hd⟩
set_option maxRecDepth 100000 in
set_option maxHeartbeats 8000000 in
theorem text_g {S : PgS} (h : PageAt w F p S) (hS : S.Ok) (hFl : ∀ b, F b → b < w.heap.size) (x : Cu) (f m : BxI) (wm : Bool) (A : Option Addr) (C : Nat) (gs : List Int) (rd : Rd (encI .i32) 1 w A gs) (hA : 0 < gs.length → ∀ b o, A = some ⟨b, o, none⟩ → ¬ F b) (hgs : ∀ g ∈ gs, -2147483648 ≤ g ∧ g ≤ 2147483647) (hlen : gs.length ≤ 1000000) (hrd : 0 ≤ x.rd ∧ x.rd ≤ 255) :
    Calls Try.prog 22 #[.pointer (some ⟨p, 0, none⟩), x.v, .agg #[.int .i64 f.t, .int .i64 f.l, .int .i64 f.b, .int .i64 f.r, .int .i64 m.t, .int .i64 m.l, .int .i64 m.b, .int .i64 m.r], .agg #[.bool wm, .bool false], .slice A gs.length C] w (fun e w' => e = .returned (textR m wm gs S (doneU S (onP S.rows.length S.cols x))).2.v ∧ Did F p (textR m wm gs S (doneU S (onP S.rows.length S.cols x))).1 w w') := by
  have ON := Lib.hid (fun w' (hb : Below w.heap.size w w') => on_s (h.grow hb) hS x f m)
  replace hrd : 0 ≤ (doneU S (onP S.rows.length S.cols x)).rd ∧ (doneU S (onP S.rows.length S.cols x)).rd ≤ 255 := hrd
  generalize hx0 : doneU S (onP S.rows.length S.cols x) = x0 at hrd ⊢
  generalize onP S.rows.length S.cols x = x' at ON hx0
  obtain ⟨row, col, rd', kp, wp, og, a, b, c, d, l, r, s⟩ := x
  obtain ⟨mt, ml, mb, mr⟩ := m
  obtain ⟨fT, fL, fB, fR⟩ := f
  simp only at ON ⊢
  go_enter Try.func22, Try.ntmps22
  go_upto_region 2 with (first
    | (refine wpList_load_mid rfl 49 (.tmp 6) rfl _ 0 rfl [.int .i64 row, .int .i64 col, .int .u8 rd', .bool kp, .bool wp, .bool og, .int .i64 a, .int .i64 b, .int .i64 c, .int .i64 d, .int .i64 l, .int .i64 r, .int .i64 s] _ ?_ Try.underlying49 rfl (by kernel_rfl) ?_)
    | (refine wpList_load_mid rfl 69 (.tmp 7) rfl _ 0 rfl [.int .i64 fT, .int .i64 fL, .int .i64 fB, .int .i64 fR, .int .i64 mt, .int .i64 ml, .int .i64 mb, .int .i64 mr] _ ?_ Try.underlying69 rfl (by kernel_rfl) ?_)
    | ((go_at_call 48); (with_reducible refine (ON.out _ (by (repeat' (first | (with_reducible exact Below.refl _ _) | (with_reducible refine Below.alloc ?_ ?_ _) | (with_reducible refine below_ext ?_ ?_ _) | (with_reducible refine Below.drew ?_) | (with_reducible refine below_drewN ?_ _) | (with_reducible refine Below.setCell ?_ ?_ _) | go_size | (simp only [go_sem]; omega) | (simp [go_sem]; done) | (simp [go_sem]; omega))))).mono ?_); (rintro _ _ ⟨H, y, rfl, rfl, hH, hP⟩))
    | ((go_at_call 49); (with_reducible refine ((show ∀ W, Below w.heap.size w W → PrAt W H p x' (frL S.rows.length S.cols ⟨mt, ml, mb, mr⟩) → Calls Try.prog 49 #[.pointer (some ⟨H, 0, none⟩)] W (Gives W (.agg (cuL x0).toArray)) from fun W hb hp => by rw [← hx0]; exact fit_s (h.grow hb) hS hp) _ (by (repeat' (first | (with_reducible exact Below.refl _ _) | (with_reducible refine Below.alloc ?_ ?_ _) | (with_reducible refine below_ext ?_ ?_ _) | (with_reducible refine Below.drew ?_) | (with_reducible refine below_drewN ?_ _) | (with_reducible refine Below.setCell ?_ ?_ _) | go_size | (simp only [go_sem]; omega) | (simp [go_sem]; done) | (simp [go_sem]; omega)))) hP).mono ?_); (rintro _ _ hgets); (obtain ⟨rfl, x2, rfl⟩ := hgets.get); clear hgets)
    | (refine wpList_store_mid rfl 49 (.tmp 6) (.tmp 17) rfl w.heap.size 0 (cuL x0).toArray rfl rfl (there_any (t := 49) (arr := #[.int .i64 row, .int .i64 col, .int .u8 rd', .bool kp, .bool wp, .bool og, .int .i64 a, .int .i64 b, .int .i64 c, .int .i64 d, .int .i64 l, .int .i64 r, .int .i64 s]) (by (repeat (first | ((with_reducible refine heap_at _ _ ?_); (focus (first | rfl | (simp [go_sem]; done) | (simp [go_sem]; omega)))) | ((with_reducible refine (heap_old _ _ ?_).trans ?_); (focus (first | (simp [go_sem]; done) | (simp [go_sem]; omega)))) | ((with_reducible refine (block_ext _ _ ?_).trans ?_); (focus (first | (simp [go_sem]; done) | (simp [go_sem]; omega)))) | ((with_reducible refine (heap_drew _ _).trans ?_))))) (by simp)) (by kernel_rfl) (all_one _ rfl) ?_))
  · exact range_blk (by (repeat (first | ((with_reducible refine heap_at _ _ ?_); (focus (first | rfl | (simp [go_sem]; done) | (simp [go_sem]; omega)))) | ((with_reducible refine (heap_old _ _ ?_).trans ?_); (focus (first | (simp [go_sem]; done) | (simp [go_sem]; omega)))) | ((with_reducible refine (block_ext _ _ ?_).trans ?_); (focus (first | (simp [go_sem]; done) | (simp [go_sem]; omega)))) | ((with_reducible refine (heap_drew _ _).trans ?_))))) 0 _ rfl
  · exact range_blk (by (repeat (first | ((with_reducible refine heap_at _ _ ?_); (focus (first | rfl | (simp [go_sem]; done) | (simp [go_sem]; omega)))) | ((with_reducible refine (heap_old _ _ ?_).trans ?_); (focus (first | (simp [go_sem]; done) | (simp [go_sem]; omega)))) | ((with_reducible refine (block_ext _ _ ?_).trans ?_); (focus (first | (simp [go_sem]; done) | (simp [go_sem]; omega)))) | ((with_reducible refine (heap_drew _ _).trans ?_))))) 0 _ rfl
  obtain ⟨W2, e2, G2⟩ := (TxSt.grow (W := ((((w.alloc (.cells #[.int .i64 row, .int .i64 col, .int .u8 rd', .bool kp, .bool wp, .bool og, .int .i64 a, .int .i64 b, .int .i64 c, .int .i64 d, .int .i64 l, .int .i64 r, .int .i64 s] 49)).alloc (.cells #[.int .i64 fT, .int .i64 fL, .int .i64 fB, .int .i64 fR, .int .i64 mt, .int .i64 ml, .int .i64 mb, .int .i64 mr] 69)).alloc (.cells #[.bool wm, .bool false] 71)).alloc (.cells #[.int .i64 0, .int .i64 0, .int .u8 0, .bool false, .bool false, .bool false, .int .i64 0, .int .i64 0, .int .i64 0, .int .i64 0, .int .i64 0, .int .i64 0, .int .i64 0] 49))) (W' := ext (ext ((((w.alloc (.cells #[.int .i64 row, .int .i64 col, .int .u8 rd', .bool kp, .bool wp, .bool og, .int .i64 a, .int .i64 b, .int .i64 c, .int .i64 d, .int .i64 l, .int .i64 r, .int .i64 s] 49)).alloc (.cells #[.int .i64 fT, .int .i64 fL, .int .i64 fB, .int .i64 fR, .int .i64 mt, .int .i64 ml, .int .i64 mb, .int .i64 mr] 69)).alloc (.cells #[.bool wm, .bool false] 71)).alloc (.cells #[.int .i64 0, .int .i64 0, .int .u8 0, .bool false, .bool false, .bool false, .int .i64 0, .int .i64 0, .int .i64 0, .int .i64 0, .int .i64 0, .int .i64 0, .int .i64 0] 49)) y) x2) (TxSt.mk (y := ⟨row, col, rd', kp, wp, og, a, b, c, d, l, r, s⟩) (fa := [.int .i64 fT, .int .i64 fL, .int .i64 fB, .int .i64 fR, .int .i64 mt, .int .i64 ml, .int .i64 mb, .int .i64 mr]) (wr := wm) (T := S) (p := p) (Keep.of_below (by (repeat' (first | (with_reducible exact Below.refl _ _) | (with_reducible refine Below.alloc ?_ ?_ _) | (with_reducible refine below_ext ?_ ?_ _) | (with_reducible refine Below.drew ?_) | (with_reducible refine below_drewN ?_ _) | (with_reducible refine Below.setCell ?_ ?_ _) | go_size | (simp only [go_sem]; omega) | (simp [go_sem]; done) | (simp [go_sem]; omega))))) ⟨F, h.grow (by (repeat' (first | (with_reducible exact Below.refl _ _) | (with_reducible refine Below.alloc ?_ ?_ _) | (with_reducible refine below_ext ?_ ?_ _) | (with_reducible refine Below.drew ?_) | (with_reducible refine below_drewN ?_ _) | (with_reducible refine Below.setCell ?_ ?_ _) | go_size | (simp only [go_sem]; omega) | (simp [go_sem]; done) | (simp [go_sem]; omega)))), fun b hb => .inl hb⟩ (by (repeat (first | ((with_reducible refine heap_at _ _ ?_); (focus (first | rfl | (simp [go_sem]; done) | (simp [go_sem]; omega)))) | ((with_reducible refine (heap_old _ _ ?_).trans ?_); (focus (first | (simp [go_sem]; done) | (simp [go_sem]; omega)))) | ((with_reducible refine (block_ext _ _ ?_).trans ?_); (focus (first | (simp [go_sem]; done) | (simp [go_sem]; omega)))) | ((with_reducible refine (heap_drew _ _).trans ?_))))) (by (repeat (first | ((with_reducible refine heap_at _ _ ?_); (focus (first | rfl | (simp [go_sem]; done) | (simp [go_sem]; omega)))) | ((with_reducible refine (heap_old _ _ ?_).trans ?_); (focus (first | (simp [go_sem]; done) | (simp [go_sem]; omega)))) | ((with_reducible refine (block_ext _ _ ?_).trans ?_); (focus (first | (simp [go_sem]; done) | (simp [go_sem]; omega)))) | ((with_reducible refine (heap_drew _ _).trans ?_))))) (by (repeat (first | ((with_reducible refine heap_at _ _ ?_); (focus (first | rfl | (simp [go_sem]; done) | (simp [go_sem]; omega)))) | ((with_reducible refine (heap_old _ _ ?_).trans ?_); (focus (first | (simp [go_sem]; done) | (simp [go_sem]; omega)))) | ((with_reducible refine (block_ext _ _ ?_).trans ?_); (focus (first | (simp [go_sem]; done) | (simp [go_sem]; omega)))) | ((with_reducible refine (heap_drew _ _).trans ?_))))) (by (repeat (first | ((with_reducible refine heap_at _ _ ?_); (focus (first | rfl | (simp [go_sem]; done) | (simp [go_sem]; omega)))) | ((with_reducible refine (heap_old _ _ ?_).trans ?_); (focus (first | (simp [go_sem]; done) | (simp [go_sem]; omega)))) | ((with_reducible refine (block_ext _ _ ?_).trans ?_); (focus (first | (simp [go_sem]; done) | (simp [go_sem]; omega)))) | ((with_reducible refine (heap_drew _ _).trans ?_)))))) (by (repeat' (first | (with_reducible exact Below.refl _ _) | (with_reducible refine Below.alloc ?_ ?_ _) | (with_reducible refine below_ext ?_ ?_ _) | (with_reducible refine Below.drew ?_) | (with_reducible refine below_drewN ?_ _) | (with_reducible refine Below.setCell ?_ ?_ _) | go_size | (simp only [go_sem]; omega) | (simp [go_sem]; done) | (simp [go_sem]; omega))))).set hFl x0
  rw [e2]
  clear e2 hP hH ON
  simp only [Act.put]
  replace G2 := Lib.hid G2
  go_wp2_with fail
  go_loopw [20] (fun i wr => ∃ k : Nat, k ≤ gs.length ∧ i = .int .i64 k ∧ Hid (TxSt w F p [.int .i64 fT, .int .i64 fL, .int .i64 fB, .int .i64 fR, .int .i64 mt, .int .i64 ml, .int .i64 mb, .int .i64 mr] wm (textR ⟨mt, ml, mb, mr⟩ wm (gs.take k) S x0).1 (textR ⟨mt, ml, mb, mr⟩ wm (gs.take k) S x0).2 wr)) (fun i _ => gs.length - (intOf i).toNat)
  case atStart => exact ⟨0, by omega, rfl, G2⟩
  case round =>
    obtain ⟨k, hk, rfl, G⟩ := hrel
    obtain ⟨tok, trd⟩ := textR_ok (m := ⟨mt, ml, mb, mr⟩) (wr := wm) (gs := gs.take k) hS hrd (fun g hg => hgs g (List.mem_of_mem_take hg))
    by_cases hlt : k < gs.length
    · have hsn := textR_snoc ⟨mt, ml, mb, mr⟩ wm gs[k] (gs.take k) S x0
      rw [← List.take_succ_eq_append_getElem hlt] at hsn
      generalize (textR ⟨mt, ml, mb, mr⟩ wm (gs.take k) S x0).1 = T at *
      generalize (textR ⟨mt, ml, mb, mr⟩ wm (gs.take k) S x0).2 = y at *
      obtain ⟨gb, go, rfl, hgb, hgc⟩ := (rd.keep' G.out.keep hA).cell1 hlt (v := .int .i32 gs[k]) rfl
      have hgk := hgs gs[k] (List.getElem_mem hlt)
      generalize gs[k] = gg at *
      have l0 := heap_in G.out.cb
      have GL := Lib.hid (G.out.glyph tok hFl ⟨fT, fL, fB, fR⟩ ⟨mt, ml, mb, mr⟩ gg hgk (by rw [trd]; exact hrd))
      simp only at GL
      generalize hz : glyphC T ⟨mt, ml, mb, mr⟩ wm gg (onP T.rows.length T.cols y) = z at *
      generalize hU : glyphP T ⟨mt, ml, mb, mr⟩ wm gg (onP T.rows.length T.cols y) = U at *
      go_wp2_with (first
        | (refine wpList_load_mid rfl 49 (.tmp 6) rfl w.heap.size 0 rfl (cuL y) _ (range_blk G.out.cb 0 _ rfl) Try.underlying49 rfl (by kernel_rfl) ?_)
        | (refine wpList_load_mid rfl 69 (.tmp 7) rfl (w.heap.size + 1) 0 rfl [.int .i64 fT, .int .i64 fL, .int .i64 fB, .int .i64 fR, .int .i64 mt, .int .i64 ml, .int .i64 mb, .int .i64 mr] _ (range_blk G.out.fb 0 _ rfl) Try.underlying69 rfl (by kernel_rfl) ?_)
        | (refine wpList_load_mid rfl 71 (.tmp 8) rfl (w.heap.size + 1 + 1) 0 rfl [.bool wm, .bool false] _ (range_blk G.out.wy 0 _ rfl) Try.underlying71 rfl (by kernel_rfl) ?_)
        | ((go_at_call 50); (with_reducible refine GL.out.mono ?_); (rintro _ W3 ⟨rfl, G3⟩); replace G3 := Lib.hid G3)
        | ((refine wpList_store_mid rfl 49 (.tmp 6) (.tmp 29) rfl w.heap.size 0 (cuL z).toArray rfl rfl (there_any G3.out.cb (by simp)) (by kernel_rfl) (all_one _ rfl) ?_)
           obtain ⟨W4, e4, G4⟩ := G3.out.set hFl z
           rw [show (cuL z).toArray.toList = cuL z from rfl, e4]
           replace G4 := Lib.hid G4))
      go_roundw
      case rel => exact ⟨k + 1, by omega, by go_num, by rw [hsn]; exact G4⟩
      case measure => simp [intOf]; omega
    · obtain rfl : k = gs.length := by omega
      rw [List.take_length] at G tok trd
      generalize hTT : textR ⟨mt, ml, mb, mr⟩ wm gs S x0 = TT at G tok trd
      obtain ⟨T, z⟩ := TT
      replace hTT := Lib.hid hTT
      simp only at G tok trd
      go_wp2_with (first
        | (refine wpList_load_mid rfl 49 (.tmp 6) rfl w.heap.size 0 rfl (cuL z) _ (range_blk G.out.cb 0 _ rfl) Try.underlying49 rfl (by kernel_rfl) ?_)
        | ((refine wpList_store_mid rfl 49 (.tmp 10) (.tmp 31) rfl (w.heap.size + 1 + 1 + 1) 0 (cuL z).toArray rfl rfl (there_any G.out.rb (by simp)) (by kernel_rfl) (all_one _ rfl) ?_)
           obtain ⟨W9, e9, d9, h9⟩ := G.out.fin hFl z
           rw [show (cuL z).toArray.toList = cuL z from rfl, show w.heap.size + 1 + 1 + 1 = w.heap.size + 3 from rfl, e9]
           replace d9 := Lib.hid d9
           replace h9 := Lib.hid h9))
      replace h9 := h9.out
      have hl9 := heap_in h9
      have d20 : W9.cell? ⟨w.heap.size + 1 + 1 + 1, 0, none⟩ = some (.int .i64 z.row) := by rw [cell_in h9]; rfl
      have d21 : W9.cell? ⟨w.heap.size + 1 + 1 + 1, 1, none⟩ = some (.int .i64 z.col) := by rw [cell_in h9]; rfl
      have d22 : W9.cell? ⟨w.heap.size + 1 + 1 + 1, 2, none⟩ = some (.int .u8 z.rd) := by rw [cell_in h9]; rfl
      have d23 : W9.cell? ⟨w.heap.size + 1 + 1 + 1, 3, none⟩ = some (.bool z.kp) := by rw [cell_in h9]; rfl
      have d24 : W9.cell? ⟨w.heap.size + 1 + 1 + 1, 4, none⟩ = some (.bool z.wp) := by rw [cell_in h9]; rfl
      have d25 : W9.cell? ⟨w.heap.size + 1 + 1 + 1, 5, none⟩ = some (.bool z.og) := by rw [cell_in h9]; rfl
      have d26 : W9.cell? ⟨w.heap.size + 1 + 1 + 1, 6, none⟩ = some (.int .i64 z.a) := by rw [cell_in h9]; rfl
      have d27 : W9.cell? ⟨w.heap.size + 1 + 1 + 1, 7, none⟩ = some (.int .i64 z.b) := by rw [cell_in h9]; rfl
      have d28 : W9.cell? ⟨w.heap.size + 1 + 1 + 1, 8, none⟩ = some (.int .i64 z.c) := by rw [cell_in h9]; rfl
      have d29 : W9.cell? ⟨w.heap.size + 1 + 1 + 1, 9, none⟩ = some (.int .i64 z.d) := by rw [cell_in h9]; rfl
      have d30 : W9.cell? ⟨w.heap.size + 1 + 1 + 1, 10, none⟩ = some (.int .i64 z.l) := by rw [cell_in h9]; rfl
      have d31 : W9.cell? ⟨w.heap.size + 1 + 1 + 1, 11, none⟩ = some (.int .i64 z.r) := by rw [cell_in h9]; rfl
      have d32 : W9.cell? ⟨w.heap.size + 1 + 1 + 1, 12, none⟩ = some (.int .i64 z.s) := by rw [cell_in h9]; rfl
      refine bodyPost_ret (by simp [results, Try.results22, go_sem, d20, d21, d22, d23, d24, d25, d26, d27, d28, d29, d30, d31, d32]; try rfl) rfl ?_
      rw [hTT.out]
      exact ⟨rfl, d9.out⟩
end
end Go.Proofs.Ytdfiknemfpkdmaa
/- press: the laws' fixed fact.  -/
namespace Go.Proofs.Ytdfiknemfpkdmaa
open Go.RowKit
set_option linter.unusedVariables false
set_option linter.unusedSimpArgs false

/-- a cursor that is new -/
def cuN : Cu := ⟨0, 0, 0, false, false, false, 1, 1, 4, 4, 0, 2, 0⟩
def m0 : BxI := ⟨0, 0, 0, 0⟩
def aw14S0 : PgS := resizeS ⟨[], 0⟩ 2 3
theorem aw14_ok0 : aw14S0.Ok := resizeS_ok _ _ _ (fun r hr => by cases hr)
def aw14R : PgS × Cu := textR m0 true [97, 98, 99, 100] aw14S0 (doneU aw14S0 (onP aw14S0.rows.length aw14S0.cols cuN))
theorem aw14_c : aw14R.2.row = 1 ∧ aw14R.2.col = 1 := by decide +kernel
theorem aw14_a : (atS aw14R.1 0 2).g = 99 := by decide +kernel
theorem aw14_b : (atS aw14R.1 1 0).g = 100 := by decide +kernel
theorem aw14_ok : aw14R.1.Ok := (textR_ok aw14_ok0 (by decide) (by decide)).1
set_option maxRecDepth 100000 in
set_option maxHeartbeats 8000000 in
theorem awake_14 (w : World) : Calls Try.prog 19 #[] w (Gives w (.bool true)) := by
  have ok0 := aw14_ok0
  have ok2 := aw14_ok
  have NP := Lib.hid (fun w' => (by exact new_p 2 3 w' : Calls Try.prog 21 #[.int .i64 2, .int .i64 3] w' (NewPg aw14S0 w')))
  have CN := Lib.hid (fun w' => new_c w')
  go_enter Try.func19, Try.ntmps19
  go_upto_region 2 with ((go_at_call 21); (with_reducible refine (NP.out _).mono ?_); (rintro _ _ ⟨p, F, x3, rfl, rfl, hFg, hPg⟩))
  have hbW := below_of_ext w x3
  generalize ext w x3 = w1 at hPg hbW ⊢
  have hPl := hPg.lt
  have TX : Hid (∀ (w' : World) (q : Nat), Below w1.heap.size w1 w' → q = w'.heap.size → Calls Try.prog 22 #[.pointer (some ⟨p, 0, none⟩), .agg #[.int .i64 0, .int .i64 0, .int .u8 0, .bool false, .bool false, .bool false, .int .i64 1, .int .i64 1, .int .i64 4, .int .i64 4, .int .i64 0, .int .i64 2, .int .i64 0], .agg #[.int .i64 0, .int .i64 0, .int .i64 0, .int .i64 0, .int .i64 0, .int .i64 0, .int .i64 0, .int .i64 0], .agg #[.bool true, .bool false], .slice (some ⟨q, 0, none⟩) 4 4] (w'.alloc (.cells #[.int .i32 97, .int .i32 98, .int .i32 99, .int .i32 100] 21))
      (fun e w2 => e = .returned aw14R.2.v ∧ Did F p aw14R.1 (w'.alloc (.cells #[.int .i32 97, .int .i32 98, .int .i32 99, .int .i32 100] 21)) w2)) := Lib.hid (fun w' q hb hq => by
    subst hq
    exact text_g (hPg.grow (hb.alloc hb.size _)) ok0 (fun b hb2 => by have := hPl b hb2; have := hb.size; simp; omega) cuN m0 m0 true (some ⟨w'.heap.size, 0, none⟩) 4 [97, 98, 99, 100]
      ((Own.new (B := 0) (e := 21) (encI_len .i32) rfl (xs := [97, 98, 99, 100]) (rfl : (4 : Nat) = _) _ rfl (Nat.zero_le _) (by simp [maxLen])).rd (encI_len _))
      (fun _ b o e hf => by
        injection e with e
        injection e with e1 e2
        have := hPl b hf
        have := hb.size
        omega) (by decide) (by simp) (by decide))
  have hd := aw14_c
  have ga := aw14_a
  have gb := aw14_b
  obtain ⟨T, hT⟩ : ∃ T, T = aw14R := ⟨_, rfl⟩
  rw [← hT] at TX hd ga gb ok2
  clear hT
  obtain ⟨T, z⟩ := T
  obtain ⟨dw, dc, dr, dk, dp, dg, da, db, dc', dd', dl, dr', ds⟩ := z
  simp only [Cu.v] at TX hd ga gb ok2
  obtain ⟨rfl, rfl⟩ := hd
  have hPl' := Lib.hid hPl
  have hBx := Lib.hid hbW
  clear hPl
  go_upto_region 3 with (first
    | (go_at_call 23; ((with_reducible refine (CN.out _).mono ?_); rintro _ _ hgets; obtain ⟨rfl, x5, rfl⟩ := hgets.get; clear hgets))
    | ((go_at_call 22); (with_reducible refine (TX.out _ _ (by (repeat' (first | (with_reducible exact Below.refl _ _) | (with_reducible refine Below.alloc ?_ ?_ _) | (with_reducible refine below_ext ?_ ?_ _) | (with_reducible refine Below.drew ?_) | (with_reducible refine below_drewN ?_ _) | (with_reducible refine Below.setCell ?_ ?_ _) | go_size | (simp only [go_sem]; omega) | (simp [go_sem]; done) | (simp [go_sem]; omega)))) (by simp [go_sem])).mono ?_); (rintro _ w3 ⟨rfl, hD⟩)))
  have hD1 := Did.back hD (show Below w1.heap.size w1 ((ext w1 x5).alloc (.cells #[.int .i32 97, .int .i32 98, .int .i32 99, .int .i32 100] 21)) by (repeat' (first | (with_reducible exact Below.refl _ _) | (with_reducible refine Below.alloc ?_ ?_ _) | (with_reducible refine below_ext ?_ ?_ _) | (with_reducible refine Below.drew ?_) | (with_reducible refine below_drewN ?_ _) | (with_reducible refine Below.setCell ?_ ?_ _) | go_size | (simp only [go_sem]; omega) | (simp [go_sem]; done) | (simp [go_sem]; omega)))) hPl'.out
  have hb3 : Below w.heap.size w w3 := hbW.trans (hD1.1.below (B := w.heap.size) (fun b hb => hFg b hb) hbW.size)
  have hP3 := hD1.2
  generalize more F w1 w3 = F3 at hP3
  clear TX hD hD1
  have AT1 := Lib.hid (fun w' (hb : Below w3.heap.size w3 w') => at_p (hP3.grow hb) ok2 0 2)
  have AT2 := Lib.hid (fun w' (hb : Below w3.heap.size w3 w') => at_p (hP3.grow hb) ok2 1 0)
  generalize atS T 0 2 = y1 at AT1 ga
  generalize atS T 1 0 = y2 at AT2 gb
  obtain ⟨yg1, yr1, yk1⟩ := y1
  obtain ⟨yg2, yr2, yk2⟩ := y2
  simp only at ga gb
  subst ga gb
  go_wp2_with (first
    | (go_at_call 13; ((with_reducible refine (AT1.out _ (by (repeat' (first | (with_reducible exact Below.refl _ _) | (with_reducible refine Below.alloc ?_ ?_ _) | (with_reducible refine below_ext ?_ ?_ _) | (with_reducible refine Below.drew ?_) | (with_reducible refine below_drewN ?_ _) | (with_reducible refine Below.setCell ?_ ?_ _) | go_size | (simp only [go_sem]; omega) | (simp [go_sem]; done) | (simp [go_sem]; omega))))).mono ?_); rintro _ _ hgets; obtain ⟨rfl, x7, rfl⟩ := hgets.get; clear hgets))
    | (go_at_call 13; ((with_reducible refine (AT2.out _ (by (repeat' (first | (with_reducible exact Below.refl _ _) | (with_reducible refine Below.alloc ?_ ?_ _) | (with_reducible refine below_ext ?_ ?_ _) | (with_reducible refine Below.drew ?_) | (with_reducible refine below_drewN ?_ _) | (with_reducible refine Below.setCell ?_ ?_ _) | go_size | (simp only [go_sem]; omega) | (simp [go_sem]; done) | (simp [go_sem]; omega))))).mono ?_); rintro _ _ hgets; obtain ⟨rfl, x8, rfl⟩ := hgets.get; clear hgets)))
  go_returns
  exact ⟨rfl, hb3.trans (Below.mono (B := w3.heap.size) (by (repeat' (first | (with_reducible exact Below.refl _ _) | (with_reducible refine Below.alloc ?_ ?_ _) | (with_reducible refine below_ext ?_ ?_ _) | (with_reducible refine Below.drew ?_) | (with_reducible refine below_drewN ?_ _) | (with_reducible refine Below.setCell ?_ ?_ _) | go_size | (simp only [go_sem]; omega) | (simp [go_sem]; done) | (simp [go_sem]; omega)))) hb3.size)⟩
end Go.Proofs.Ytdfiknemfpkdmaa
/- press: lines fed from the first row on: plain.  -/
namespace Go.Proofs.Ytdfiknemfpkdmaa
open Go.RowKit
set_option linter.unusedVariables false
set_option linter.unusedSimpArgs false

theorem innS_zero {S : PgS} (hS : S.Ok) : innS S m0 = ⟨0, 0, S.rows.length, S.cols⟩ := inn_zero hS.r1 hS.c1
theorem index_plain {S : PgS} (hS : S.Ok) {x : Cu} (hx : OnPg S x) : indexP S m0 (onP S.rows.length S.cols x) = downP S x ∧ indexC S m0 (onP S.rows.length S.cols x) = downC S x := by
  rw [onP_id hx]
  have r1 := hS.r1
  have c1 := hS.c1
  obtain ⟨h1, h2, h3, h4⟩ := hx
  have hin : insideU (innS S m0) x = true := by
    rw [innS_zero hS]
    unfold insideU inB
    simp only [decide_eq_true_eq, Bool.and_eq_true]
    omega
  constructor
  · unfold indexP downP
    rw [hin, innS_zero hS]
    simp only [if_true]
    rw [show boxI ⟨0, 0, (S.rows.length : Int), (S.cols : Int)⟩ = fullP S from rfl, fullP_on hS]
  · unfold indexC downC
    rw [innS_zero hS]
    simp only
    split
    · rw [show min (x.row + 1) ((S.rows.length : Int) - 1) = x.row by omega]
    · rw [show forthI x.row 1 ((S.rows.length : Int) - 1) ((S.rows.length : Int) - 1) = min (x.row + 1) ((S.rows.length : Int) - 1) by unfold forthI farI; split <;> omega]
theorem index_done {S : PgS} (hS : S.Ok) (hz : S.One) {x : Cu} (hx : OnPg S x) : doneU (indexP S m0 (onP S.rows.length S.cols x)) (indexC S m0 (onP S.rows.length S.cols x)) = downC S x := by
  obtain ⟨h1, h2⟩ := index_plain hS hx
  rw [h1, h2]
  exact done_id (downP_ok hS x) (downP_one hS hz x) (downC_on hS hx)
def feedY (m k : Nat) : Cu := { cuN with row := min (k : Int) (m - 1) }
def feedT (S : PgS) (k : Nat) : PgS := moveS S (fullP S) (max 0 ((k : Int) - S.rows.length + 1))
section
variable {S : PgS}
theorem feedT_len (k : Nat) : (feedT S k).rows.length = S.rows.length := moveS_len
theorem feedT_cols (k : Nat) : (feedT S k).cols = S.cols := rfl
theorem feedT_ok (hS : S.Ok) (k : Nat) : (feedT S k).Ok := moveS_fit hS (fullP_fits hS) _
theorem feedT_one (hS : S.Ok) (hz : S.One) (k : Nat) : (feedT S k).One := move_one hS hz _
theorem feedT_zero (hS : S.Ok) : feedT S 0 = S := by
  have r1 := hS.r1
  unfold feedT
  rw [show max 0 (((0 : Nat) : Int) - S.rows.length + 1) = 0 by omega]
  exact move_zero (fullP_fits hS) hS
theorem feedY_on (hS : S.Ok) (k : Nat) : OnPg (feedT S k) (feedY S.rows.length k) := by
  have r1 := hS.r1
  have c1 := hS.c1
  refine ⟨?_, ?_, Int.le_refl _, ?_⟩
  · show 0 ≤ min (k : Int) _
    omega
  · rw [feedT_len]
    show min (k : Int) _ < _
    omega
  · rw [feedT_cols]
    show (0 : Int) < _
    omega
theorem feed_step (hS : S.Ok) (hz : S.One) (k : Nat) : indexP (feedT S k) m0 (onP S.rows.length S.cols (feedY S.rows.length k)) = feedT S (k + 1) ∧
    doneU (indexP (feedT S k) m0 (onP S.rows.length S.cols (feedY S.rows.length k))) (indexC (feedT S k) m0 (onP S.rows.length S.cols (feedY S.rows.length k))) = feedY S.rows.length (k + 1) := by
  have r1 := hS.r1
  have hon := feedY_on hS k
  have h1 := index_plain (feedT_ok hS k) hon
  have h2 := index_done (feedT_ok hS k) (feedT_one hS hz k) hon
  rw [feedT_len, feedT_cols] at h1 h2
  rw [h2, h1.1]
  constructor
  · unfold downP
    rw [feedT_len]
    have e : fullP (feedT S k) = fullP S := by unfold fullP; rw [feedT_len, feedT_cols]
    rw [e]
    by_cases hc : (feedY S.rows.length k).row = (S.rows.length : Int) - 1
    · rw [if_pos hc]
      have hc2 : min (k : Int) ((S.rows.length : Int) - 1) = (S.rows.length : Int) - 1 := hc
      unfold feedT
      rw [up_join hS (fullP_fits hS) (by omega) (by omega)]
      congr 1
      omega
    · rw [if_neg hc]
      have hc2 : ¬ min (k : Int) ((S.rows.length : Int) - 1) = (S.rows.length : Int) - 1 := hc
      unfold feedT
      congr 1
      omega
  · unfold downC feedY
    rw [feedT_len]
    simp only [Cu.mk.injEq, and_true, true_and]
    refine ⟨?_, rfl⟩
    omega
end
theorem begS_one {b : BgD} (h : b.ss = []) : (begS b).One := by
  intro r hr
  unfold begS begRow at hr
  simp only [List.mem_map] at hr
  obtain ⟨i, _, rfl⟩ := hr
  rw [h]
  simp [begZ]
/-- a page p and a cursor in a variable (block g), both changed since W0 -/
structure FdSt (W0 : World) (F : Nat → Prop) (p g : Nat) (T : PgS) (y : Cu) (w : World) : Prop where
  keep : Keep F W0 w
  foot : ∃ F', PageAt w F' p T ∧ ∀ q, F' q → F q ∨ g < q
  cur : w.heap[g]? = some (.cells (cuL y).toArray 49 (0, 0))
  hg : W0.heap.size ≤ g
  hF : ∀ q, F q → q < W0.heap.size
section
variable {W0 w w' : World} {F : Nat → Prop} {p g : Nat} {T U : PgS} {y z : Cu}
theorem FdSt.grow (h : FdSt W0 F p g T y w) (hb : Below w.heap.size w w') : FdSt W0 F p g T y w' := by
  obtain ⟨F', h1, h2⟩ := h.foot
  exact ⟨h.keep.trans (Keep.of_below (F := fun _ => False) hb) (fun x hx => hx.elim), ⟨F', h1.grow hb, h2⟩, (hb.block _ (heap_in h.cur)).trans h.cur, h.hg, h.hF⟩
theorem FdSt.did (h : FdSt W0 F p g T y w) {F' : Nat → Prop} (h1 : PageAt w F' p T) (h2 : ∀ q, F' q → F q ∨ g < q) (d : Did F' p U w w') : FdSt W0 F p g U y w' := by
  have l := heap_in h.cur
  have hg := h.hg
  refine ⟨h.keep.trans d.1 (fun x hx => (h2 x hx).elim .inl (fun e => .inr (by omega))), ⟨more F' w w', d.2, fun q hq => ?_⟩, (d.1.block _ l (fun hf => ?_)).trans h.cur, hg, h.hF⟩
  · rcases hq with hq | hq
    · exact h2 q hq
    · have := hq.1
      omega
  · rcases h2 _ hf with q | q
    · have := h.hF _ q
      omega
    · omega
theorem FdSt.set (h : FdSt W0 F p g T y w) (z : Cu) : ∃ W', w.setCells g 0 (cuL z) = W' ∧ FdSt W0 F p g T z W' := by
  obtain ⟨W', e, k, c⟩ := store_all h.cur (cuL z) rfl
  obtain ⟨F', h1, h2⟩ := h.foot
  refine ⟨W', e, h.keep.trans k (fun x hx => .inr (by have := h.hg; omega)), ⟨F', h1.keep k (fun b hb e => ?_), h2⟩, c, h.hg, h.hF⟩
  subst e
  rcases h2 _ hb with q | q
  · have := h.hF _ q
    have := h.hg
    omega
  · omega
theorem FdSt.index {S : PgS} {m k : Nat} (h : FdSt W0 F p g (feedT S k) (feedY m k) w) (hS : S.Ok) (hz : S.One) (hm : S.rows.length = m) : Calls Try.prog 24 #[.pointer (some ⟨p, 0, none⟩), .agg (cuL (feedY m k)).toArray, .agg #[.int .i64 0, .int .i64 0, .int .i64 0, .int .i64 0, .int .i64 0, .int .i64 0, .int .i64 0, .int .i64 0]] w (fun e w' => e = .returned (.agg (cuL (feedY m (k + 1))).toArray) ∧ FdSt W0 F p g (feedT S (k + 1)) (feedY m k) w') := by
  obtain ⟨F', h1, h2⟩ := h.foot
  subst hm
  obtain ⟨s1, s2⟩ := feed_step hS hz k
  refine (index_g h1 (feedT_ok hS k) h1.lt (feedY S.rows.length k) m0 m0).mono ?_
  rw [feedT_len, feedT_cols, s2, s1]
  rintro e w' ⟨rfl, hd⟩
  exact ⟨rfl, h.did h1 h2 hd⟩
end
end Go.Proofs.Ytdfiknemfpkdmaa
