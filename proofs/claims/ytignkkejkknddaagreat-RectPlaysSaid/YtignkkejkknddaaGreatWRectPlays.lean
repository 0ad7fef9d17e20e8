/- RectPlays: the walk.  -/
import Derived.Test.YtignkkejkknddaaGreatBkDo
import Derived.Test.YtignkkejkknddaaGreatRegionMid
import Derived.Test.YtignkkejkknddaaGreatRecH
import Derived.Test.YtignkkejkknddaaGreatRecS
import Derived.Deep.CutRange
namespace Go.Proofs.YtignkkejkknddaaGreat
open Go.RowKit
set_option linter.unusedVariables false
set_option linter.unusedSimpArgs false

theorem fold_take16 (S : BkS) (acts : List A16) (i : Nat) (h : i < acts.length) : (acts.take (i + 1)).foldl act16 S = act16 ((acts.take i).foldl act16 S) acts[i] := by
  rw [List.take_add_one, List.getElem?_eq_getElem h, List.foldl_append]
  rfl
theorem play16_ok (acts : List A16) (ha : ∀ a ∈ acts, a.y.ok) (S : BkS) (hS : S.Ok) (he : S.Even) : (acts.foldl act16 S).Ok ∧ (acts.foldl act16 S).Even := by
  induction acts generalizing S with
  | nil => exact ⟨hS, he⟩
  | cons a l ih => exact ih (fun b hb => ha b (List.mem_cons_of_mem _ hb)) _ (act16_ok hS a (ha a (List.mem_cons_self ..))) (act16_even hS he a).1
set_option maxRecDepth 100000 in
set_option maxHeartbeats 32000000 in
theorem RectPlays_walk (w : World) (b0 : BgD) (hb0 : b0.Ok w) (np : Int) (_wn : (Lit.int .i64 np).wf = true) (X : Option Addr) (C : Nat) (acts : List A16) (rd : Rd A16.cells 11 w X acts) (hl : acts.length ≤ C) (hm : C ≤ maxLen) (ha : ∀ a ∈ acts, a.Ok w) :
    Calls Tryz.prog 5 #[b0.v, .int .i64 np, .slice X acts.length C] w (Gives w (.bool true)) := by
  obtain ⟨BA, hBA⟩ : ∃ BA, BA = b0.cells.toArray := ⟨_, rfl⟩
  have BK := Lib.hid (fun w' (h : Below w.heap.size w w') => book_16 b0 np w' (hb0.below h))
  have AW := Lib.hid awake_16
  have hB' := Lib.hid hb0
  have hlm : acts.length ≤ maxLen := by omega
  have hnp := bkNp_in np
  unfold BgD.v at BK ⊢
  rw [← hBA] at BK ⊢
  replace hBA := Lib.hid hBA
  have Xr := Lib.hid rd
  have hah := Lib.hid ha
  clear hb0 rd ha
  go_enter Tryz.func5, Tryz.ntmps5
  go_upto_region 3 with (go_at_call 7; ((with_reducible refine (AW.out _).mono ?_); rintro _ _ hgets; obtain ⟨rfl, x1, rfl⟩ := hgets.get; clear hgets))
  obtain ⟨W0, hW0⟩ : ∃ W0, W0 = ext (w.alloc (.cells BA 33)) x1 := ⟨_, rfl⟩
  have hB0 : Below w.heap.size w W0 := by rw [hW0]; (repeat' (first | (with_reducible exact Below.refl _ _) | (with_reducible refine Below.alloc ?_ ?_ _) | (with_reducible refine below_ext ?_ ?_ _) | (with_reducible refine Below.drew ?_) | (with_reducible refine below_drewN ?_ _) | (with_reducible refine Below.setCell ?_ ?_ _) | go_size | (simp only [go_sem]; omega) | (simp [go_sem]; done) | (simp [go_sem]; omega)))
  have b0' : W0.heap[w.heap.size]? = some (.cells b0.cells.toArray 33 (0, 0)) := by rw [hW0, ← hBA.out]; (repeat (first | ((with_reducible refine heap_at _ _ ?_); (focus (first | rfl | (simp [go_sem]; done) | (simp [go_sem]; omega)))) | ((with_reducible refine (heap_old _ _ ?_).trans ?_); (focus (first | (simp [go_sem]; done) | (simp [go_sem]; omega)))) | ((with_reducible refine (block_ext _ _ ?_).trans ?_); (focus (first | (simp [go_sem]; done) | (simp [go_sem]; omega)))) | ((with_reducible refine (heap_drew _ _).trans ?_))))
  rw [← hW0]
  clear hW0
  have rg0 := range_blk b0' 0 b0.cells (by simp [BgD.cells])
  have BK0 := Lib.hid (fun w' (h : Below W0.heap.size W0 w') => BK.out w' (hB0.trans (h.mono hB0.size)))
  rw [hBA.out] at BK0
  clear BK
  go_upto_region 4 with (first
    | (refine wpList_load_mid rfl 33 (.tmp 3) rfl w.heap.size 0 rfl b0.cells _ rg0 Tryz.underlying33 rfl (by kernel_rfl) ?_)
    | ((go_at_call 8); (with_reducible refine (BK0.out _ (by (repeat' (first | (with_reducible exact Below.refl _ _) | (with_reducible refine Below.alloc ?_ ?_ _) | (with_reducible refine below_ext ?_ ?_ _) | (with_reducible refine Below.drew ?_) | (with_reducible refine below_drewN ?_ _) | (with_reducible refine Below.setCell ?_ ?_ _) | go_size | (simp only [go_sem]; omega) | (simp [go_sem]; done) | (simp [go_sem]; omega))))).mono ?_); (rintro _ W1 ⟨b, F, U, rfl, hB1, hbk, hrb, hF⟩); (have hr2 := hrb); (obtain ⟨Au, cu, us, ⟨tA, tm, tc, tn⟩, rfl, -⟩ := hr2); (simp only [RPg.V] at hrb ⊢); (replace hbk := Lib.hid hbk); (replace hrb := Lib.hid hrb); (replace hB1 := Lib.hid hB1); (replace hF := Lib.hid hF)))
  have okT : (bkS b0 np).Ok := bkJ_ok hB'.out hnp.1 hnp.2.1
  have evT : (bkS b0 np).Even := bkS_even b0 np
  generalize bkS b0 np = T at hbk hrb okT evT ⊢
  have BW1 : Below w.heap.size w W1 := hB0.trans (hB1.out.mono hB0.size)
  have hs0 := hB0.size
  have hs1 := hB1.out.size
  obtain ⟨W2, hW2⟩ : ∃ W2, W2 = W1.alloc (.cells #[.slice Au T.pages.length cu, .slice tA tm tc, .int .i64 tn, .int .i64 T.now, .bool T.below] 41) := ⟨_, rfl⟩
  have hB12 : Below W1.heap.size W1 W2 := by rw [hW2]; (repeat' (first | (with_reducible exact Below.refl _ _) | (with_reducible refine Below.alloc ?_ ?_ _) | (with_reducible refine below_ext ?_ ?_ _) | (with_reducible refine Below.drew ?_) | (with_reducible refine below_drewN ?_ _) | (with_reducible refine Below.setCell ?_ ?_ _) | go_size | (simp only [go_sem]; omega) | (simp [go_sem]; done) | (simp [go_sem]; omega)))
  have hs2 : W2.heap.size = W1.heap.size + 1 := by rw [hW2]; simp
  have b8 : W2.heap[W1.heap.size]? = some (.cells #[.slice Au T.pages.length cu, .slice tA tm tc, .int .i64 tn, .int .i64 T.now, .bool T.below] 41 (0, 0)) := by rw [hW2]; exact heap_alloc_new _ _
  rw [← hW2]
  clear hW2
  obtain ⟨Vb, hVb⟩ : ∃ Vb, Vb = W1.heap.size := ⟨_, rfl⟩
  obtain ⟨G, hG⟩ : ∃ G : Nat → Prop, G = fun x => x < W0.heap.size ∨ x = Vb := ⟨_, rfl⟩
  have hFl := hbk.out.lt
  have BW2 : Below w.heap.size w W2 := BW1.trans (hB12.mono BW1.size)
  have hP0 : BPl G W2 F b Vb Au T.pages.length cu tA tm tc tn T.now T.below T := by
    refine ⟨hbk.out.grow hB12, ?_, by rw [hVb]; exact b8, fun x hx g => ?_, by rw [hG]; exact .inr rfl, fun x hx => ?_⟩
    · have h1 : RBk W1 (fun x => F x ∨ G x) (.agg (rbC Au T.pages.length cu tA tm tc tn T.now T.below)) T := hrb.out.mono (fun x hx g => by
        rw [hG] at g
        rcases g with g | g | g
        · exact .inl g
        · exact .inr g
        · omega)
      exact h1.grow hB12
    · rw [hG] at g
      have h1 := hF.out x hx
      have h2 := hFl x hx
      rcases g with g | g <;> omega
    · rw [hG] at hx
      rcases hx with hx | hx <;> omega
  have hF0 := Lib.hid (fun x (hx : F x) => Nat.le_trans hs0 (hF.out x hx))
  have hVw : Hid (w.heap.size ≤ Vb) := Lib.hid (by rw [hVb]; exact BW1.size)
  have hbw0 := Lib.hid BW2
  rw [← hVb]
  clear hVb hs0 hs1 hs2 b8 hbk hrb hFl hB0 hB1 hB12 BW1 BW2 hG BK0 b0' rg0 hF hnp AW
  obtain ⟨n2, hn2⟩ : ∃ n2, n2 = T.pages.length := ⟨_, rfl⟩
  obtain ⟨nw2, hnw2⟩ : ∃ nw : Int, nw = T.now := ⟨_, rfl⟩
  obtain ⟨bl2, hbl2⟩ : ∃ bl, bl = T.below := ⟨_, rfl⟩
  rw [← hn2, ← hnw2, ← hbl2] at hP0 ⊢
  clear hn2 hnw2 hbl2
  replace hP0 := Lib.hid hP0
  go_wp2
  go_loopw [9] (fun iv wr => ∃ (i : Nat) (F : Nat → Prop) (B : Option Addr) (n c : Nat) (tA : Option Addr) (tm tc : Nat) (tn nw : Int) (bl : Bool), i ≤ min acts.length 15 ∧ iv = .int .i64 i ∧ Hid (BPl G wr F b Vb B n c tA tm tc tn nw bl ((acts.take i).foldl act16 T)) ∧ Hid (∀ x, F x → w.heap.size ≤ x) ∧ Hid (Below w.heap.size w wr)) (fun iv _ => min acts.length 15 - (intOf iv).toNat)
  case atStart => exact ⟨0, F, _, _, _, _, _, _, _, _, _, by omega, rfl, hP0, hF0, hbw0⟩
  case round =>
    clear hP0 hF0 hbw0
    obtain ⟨i, F, B, n, c, tA, tm, tc, tn, nw, bl, hi, rfl, hP, hFw, hbw⟩ := hrel
    by_cases hlt : i < min acts.length 15
    · have hlt1 : i < acts.length := by omega
      have hlt15 : i < 15 := by omega
      obtain ⟨q, q0, rfl, hq, hx⟩ := Xr.out (by omega)
      have okS := play16_ok (acts.take i) (fun a h => (hah.out a (List.mem_of_mem_take h)).y) T okT evT
      have hact := hah.out _ (List.getElem_mem hlt1)
      have hnx := Lib.hid (fold_take16 T acts i hlt1)
      have hxi := hx i hlt1
      generalize (acts.take i).foldl act16 T = S at hP okS hnx
      generalize acts[i] = a at hact hnx hxi
      have rgA : w.rangeAt q (q0 + i * 11) a.cells := fun j v hj => by rw [Nat.add_assoc]; exact hxi j v hj
      clear hxi hx
      replace hbw := hbw.out
      replace hFw := hFw.out
      have rgW := Lib.hid (fun w' (h : Below w.heap.size w w') => (fun j v hj => (h.cell (p := ⟨q, _, none⟩) hq).trans (rgA j v hj) : w'.rangeAt q (q0 + i * 11) a.cells))
      have vV := hP.out.var
      have rgV := range_blk vV 0 [.slice B n c, .slice tA tm tc, .int .i64 tn, .int .i64 nw, .bool bl] (by simp)
      have hVF : ¬ F Vb := fun f => hP.out.off Vb f hP.out.gv
      have okT' := act16_ok okS.1 a hact.y
      have DO := Lib.hid (fun w1 (hb : Below wr.heap.size wr w1) => (by
        have h1 : RBk wr (fun x => F x ∨ (G x ∨ x = Vb)) (.agg (rbC B n c tA tm tc tn nw bl)) S := hP.out.ref.mono (fun x hx g => by rcases g with g | g | g; exact .inl g; exact .inr g; subst g; exact .inr hP.out.gv)
        exact do16_law (hP.out.bk.grow hb) okS.1 okS.2 (h1.grow hb) (fun x hx => Nat.lt_of_lt_of_le (hx.elim (fun g => hP.out.gl x g) (fun e => hP.out.gl x (e ▸ hP.out.gv))) hb.size) a (hact.num.grow (hbw.trans (hb.mono hbw.size))) hact.y :
          Calls Tryz.prog 18 #[ptrV b, .agg #[.slice B n c, .slice tA tm tc, .int .i64 tn, .int .i64 nw, .bool bl], .agg a.cells.toArray] w1 (BDoR F b (fun x => G x ∨ x = Vb) (act16 S a) w1)))
      obtain ⟨S', hS'⟩ : ∃ S', S' = act16 S a := ⟨_, rfl⟩
      rw [← hS'] at DO okT'
      replace hS' := Lib.hid hS'
      have hlV := heap_in vV
      clear hact rgA
      go_upto_region 8 with fail
      (refine wp_region_G (S := (fun w' => w'.rangeAt Vb 0 [.slice B n c, .slice tA tm tc, .int .i64 tn, .int .i64 nw, .bool bl] ∧ w'.rangeAt q (q0 + i * 11) a.cells)) 11 8 [false, false, false, false, false, false, false, false, false, false, false, false] rfl rfl (by kernel_rfl) ?_ (fun hHeld => ?_); (focus ((try dsimp only); (exact ⟨rgV, rgW.out _ hbw.drew⟩); done)))
      ((refine AtG.take (oi := ?_) (v := ?_) 0 ?_ ?_ ?_ ?_ (Or.inl ⟨?_, ?_⟩) (by assumption) ?_; rotate_left 2; rfl; kernel_rfl; kernel_rfl; exact (fun _ _ _ h => h); rfl; (focus (intro w hSw; (try dsimp only at hSw); go_simp; (try with_reducible rfl); done)); (try simp only [Act.put, List.setIfInBounds_toArray, List.set_cons_zero, List.set_cons_succ])))
      (refine AtG.take (oi := ?_) (v := .agg #[.slice B n c, .slice tA tm tc, .int .i64 tn, .int .i64 nw, .bool bl]) 1 ?_ ?_ ?_ ?_ ?_ (by assumption) ?_; rotate_left 1; rfl; kernel_rfl; kernel_rfl; exact (fun _ _ _ h => h); (focus ((refine yieldsIf_load_mid rfl 41 (.tmp 8) rfl Vb 0 rfl [.slice B n c, .slice tA tm tc, .int .i64 tn, .int .i64 nw, .bool bl] _ (fun w' hS => hS.1) Tryz.underlying41 rfl (by kernel_rfl)); done)); (try simp only [Act.put, List.setIfInBounds_toArray, List.set_cons_zero, List.set_cons_succ]))
      ((refine AtG.take (oi := ?_) (v := ?_) 2 ?_ ?_ ?_ ?_ (Or.inl ⟨?_, ?_⟩) (by assumption) ?_; rotate_left 2; rfl; kernel_rfl; kernel_rfl; exact (fun _ _ _ h => h); rfl; (focus (intro w hSw; (try dsimp only at hSw); go_simp; (try with_reducible rfl); done)); (try simp only [Act.put, List.setIfInBounds_toArray, List.set_cons_zero, List.set_cons_succ])); (refine AtG.take (oi := ?_) (v := ?_) 3 ?_ ?_ ?_ ?_ (Or.inl ⟨?_, ?_⟩) (by assumption) ?_; rotate_left 2; rfl; kernel_rfl; kernel_rfl; exact (fun _ _ _ h => h); rfl; (focus (intro w hSw; (try dsimp only at hSw); go_simp; (try with_reducible rfl); done)); (try simp only [Act.put, List.setIfInBounds_toArray, List.set_cons_zero, List.set_cons_succ])); (refine AtG.take (oi := ?_) (v := ?_) 4 ?_ ?_ ?_ ?_ (Or.inl ⟨?_, ?_⟩) (by assumption) ?_; rotate_left 2; rfl; kernel_rfl; kernel_rfl; exact (fun _ _ _ h => h); rfl; (focus (intro w hSw; (try dsimp only at hSw); go_simp; (try with_reducible rfl); done)); (try simp only [Act.put, List.setIfInBounds_toArray, List.set_cons_zero, List.set_cons_succ])))
      (refine AtG.take (oi := ?_) (v := .agg a.cells.toArray) 5 ?_ ?_ ?_ ?_ ?_ (by assumption) ?_; rotate_left 1; rfl; kernel_rfl; kernel_rfl; exact (fun _ _ _ h => h); (focus ((refine yieldsIf_load_mid rfl 62 (.tmp 34) rfl q (q0 + i * 11) rfl a.cells _ (fun w' hS => hS.2) Tryz.underlying62 rfl (by kernel_rfl)); done)); (try simp only [Act.put, List.setIfInBounds_toArray, List.set_cons_zero, List.set_cons_succ]))
      (refine AtG.only (oi := ?_) 6 ?_ ?_ (fun K hK => ?_); rotate_left 1; rfl; kernel_rfl; (try go_simp); ((go_at_call 18); (with_reducible refine (DO.out _ (by (repeat' (first | (with_reducible exact Below.refl _ _) | (with_reducible refine Below.alloc ?_ ?_ _) | (with_reducible refine below_ext ?_ ?_ _) | (with_reducible refine Below.drew ?_) | (with_reducible refine below_drewN ?_ _) | (with_reducible refine Below.setCell ?_ ?_ _) | go_size | (simp only [go_sem]; omega) | (simp [go_sem]; done) | (simp [go_sem]; omega))))).mono ?_); (intro e' w2 hd); (obtain ⟨F', A3, n3, c3, sA3, sm3, sc3, sn3, nw3, bl3, rfl, hm⟩ := hP.out.mid (show Below wr.heap.size wr _ by (repeat' (first | (with_reducible exact Below.refl _ _) | (with_reducible refine Below.alloc ?_ ?_ _) | (with_reducible refine below_ext ?_ ?_ _) | (with_reducible refine Below.drew ?_) | (with_reducible refine below_drewN ?_ _) | (with_reducible refine Below.setCell ?_ ?_ _) | go_size | (simp only [go_sem]; omega) | (simp [go_sem]; done) | (simp [go_sem]; omega)))) (Nat.lt_of_lt_of_le hlV (by simp)) hVF hd); clear hd; have hw2 : Below w.heap.size w w2 := hbw.trans (hm.keep.below (fun x f => hFw x f) hbw.size); have yV := (hm.keep.block Vb (heap_in hP.out.var) hVF).trans hP.out.var; replace hm := Lib.hid hm); (refine hK.out _ _ ?_ (fun hHeld => ?_)); (focus ((try dsimp only); (exact ⟨range_blk yV 0 _ (by simp), rgW.out _ hw2⟩); done)); clear hK K; (try simp only [Act.put, List.setIfInBounds_toArray, List.set_cons_zero, List.set_cons_succ]))
      ((refine AtG.take (oi := ?_) (v := ?_) 7 ?_ ?_ ?_ ?_ (Or.inl ⟨?_, ?_⟩) (by assumption) ?_; rotate_left 2; rfl; kernel_rfl; kernel_rfl; exact (fun _ _ _ h => h); rfl; (focus (intro w hSw; (try dsimp only at hSw); go_simp; (try with_reducible rfl); done)); (try simp only [Act.put, List.setIfInBounds_toArray, List.set_cons_zero, List.set_cons_succ])))
      ((try refine AtG.rest (by kernel_rfl) ?_); (refine AtH.take (oi := ?_) (v := ?_) 8 ?_ ?_ ?_ (Or.inl ⟨?_, ?_⟩) ?_; rotate_left 2; rfl; kernel_rfl; exact (fun _ _ _ h => h); rfl; (focus (intro w; go_simp; (try with_reducible rfl); done)); (try simp only [Act.put, List.setIfInBounds_toArray, List.set_cons_zero, List.set_cons_succ])); (refine AtH.take (oi := ?_) (v := ?_) 9 ?_ ?_ ?_ (Or.inl ⟨?_, ?_⟩) ?_; rotate_left 2; rfl; kernel_rfl; exact (fun _ _ _ h => h); rfl; (focus (intro w; go_simp; (try with_reducible rfl); done)); (try simp only [Act.put, List.setIfInBounds_toArray, List.set_cons_zero, List.set_cons_succ])))
      obtain ⟨z0, z1, z2, z3, z4, vl2, zf⟩ := five yV
      have zf0 := zf 0
      have zf1 := zf 1
      have zf2 := zf 2
      have zf3 := zf 3
      have zf4 := zf 4
      clear zf
      replace yV := Lib.hid yV
      ((try refine AtG.rest (by kernel_rfl) ?_); refine AtH.step (oi := ?_) 10 ?_ ?_ (fun K hK => ?_); rotate_left 1; rfl; kernel_rfl; (try go_simp); skip; (refine hK.out _ _ ?_); clear hK K; (try simp only [Act.put, List.setIfInBounds_toArray, List.set_cons_zero, List.set_cons_succ]))
      ((try refine AtG.rest (by kernel_rfl) ?_); refine AtH.step (oi := ?_) 11 ?_ ?_ (fun K hK => ?_); rotate_left 1; rfl; kernel_rfl; (try go_simp); skip; (refine hK.out _ _ ?_); clear hK K; (try simp only [Act.put, List.setIfInBounds_toArray, List.set_cons_zero, List.set_cons_succ]))
      (refine AtH.done (by kernel_rfl) ?_)
      clear hHeld
      obtain ⟨W3, h3, hk3, hs3⟩ := store5 yV.out (.slice A3 n3 c3) (.slice sA3 sm3 sc3) (.int .i64 sn3) (.int .i64 nw3) (.bool bl3)
      rw [h3]
      have hk4 : Keep (fun x => x = Vb ∨ x = Vb) w2 W3 := hk3.mono (fun x hx => .inl hx)
      have hP2 := hP.out.fin hm.out hk4 hs3
      have hbN : Below w.heap.size w W3 := hw2.trans (hk4.below (fun x hx => by have := hVw.out; rcases hx with hx | hx <;> omega) hw2.size)
      have hnewF := Lib.hid (fun x (hx : F' x) => (hm.out.new x hx).elim (hFw x) (fun e => Nat.le_trans hbw.size e))
      obtain ⟨VV, ps, st, hO⟩ := hP2.bk
      have IS := Lib.hid (fun w' (hb : Below W3.heap.size W3 w') => bis_c (hO.grow hb) okT' (hP2.ref.grow hb))
      obtain ⟨t0, t1, t2, t3, t4, tl, -⟩ := five hs3
      replace hP2 := Lib.hid hP2
      replace hbN := Lib.hid hbN
      clear hO hs3 hk3 hk4 h3 hm yV DO z0 z1 z2 z3 z4 zf0 zf1 zf2 zf3 zf4 vV rgV rgW
      go_wp2_with (go_at_call 22; ((with_reducible refine (IS.out _ (by (repeat' (first | (with_reducible exact Below.refl _ _) | (with_reducible refine Below.alloc ?_ ?_ _) | (with_reducible refine below_ext ?_ ?_ _) | (with_reducible refine Below.drew ?_) | (with_reducible refine below_drewN ?_ _) | (with_reducible refine Below.setCell ?_ ?_ _) | go_size | (simp only [go_sem]; omega) | (simp [go_sem]; done) | (simp [go_sem]; omega))))).mono ?_); rintro _ _ hgets; obtain ⟨rfl, y9, rfl⟩ := hgets.get; clear hgets))
      have hPf : Hid (BPl G (ext W3 y9) F' b Vb A3 n3 c3 sA3 sm3 sc3 sn3 nw3 bl3 _) := Lib.hid (hP2.out.grow (below_of_ext W3 y9))
      rw [hS'.out, ← hnx.out] at hPf
      exact ⟨⟨i + 1, F', A3, n3, c3, sA3, sm3, sc3, sn3, nw3, bl3, by omega, by go_num, hPf, hnewF, Lib.hid (below_ext hbN.out hbN.out.size y9)⟩, by simp [intOf]; omega⟩
    · obtain ⟨m, hm⟩ : ∃ m, m = min acts.length 15 := ⟨_, rfl⟩
      obtain rfl : i = m := by omega
      have hcon : (¬ i < acts.length) ∨ (i < acts.length ∧ ¬ i < 15) := by omega
      have hi15 : i ≤ 15 := by omega
      clear hlt hm hi
      rcases hcon with hc1 | ⟨hc1, hc2⟩
      · go_wp2
        go_returns
        exact ⟨rfl, hbw.out⟩
      · go_wp2
        go_returns
        exact ⟨rfl, hbw.out⟩
end Go.Proofs.YtignkkejkknddaaGreat
