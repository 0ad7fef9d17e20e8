/- RectOutside: the walk.  -/
import Derived.Test.YtignkkejkknddaaGreatRecH
import Derived.Test.YtignkkejkknddaaGreatRecS
import Derived.Test.YtignkkejkknddaaGreatPgIs
import Derived.Deep.CutRange
namespace Go.Proofs.YtignkkejkknddaaGreat
open Go.RowKit
set_option linter.unusedVariables false
set_option linter.unusedSimpArgs false

attribute [local go_sem ↓] cell_neq
theorem line16_f1 (a b : Value) (w : World) : (Instr.field 67 (.agg #[a, b]) 1).run Tryz.prog w = .ok b w := by kernel_rfl
attribute [local go_sem] line16_f1
set_option maxRecDepth 100000 in
set_option maxHeartbeats 32000000 in
theorem RectOutside_walk (w : World) (b : BgD) (hb : b.Ok w) (a : A16) (ha : a.Ok w) :
    Calls Tryz.prog 4 #[b.v, a.v] w (Gives w (.bool true)) := by
  obtain ⟨BA, hBA⟩ : ∃ BA, BA = b.cells.toArray := ⟨_, rfl⟩
  obtain ⟨AA, hAA⟩ : ∃ AA, AA = a.cells.toArray := ⟨_, rfl⟩
  have BK := Lib.hid (fun w' (h : Below w.heap.size w w') => book_16 b 2 w' (hb.below h))
  have AW := Lib.hid awake_16
  have hB' := Lib.hid hb
  have bm := begM_in b
  have bn := begN_in b
  unfold BgD.v at BK ⊢
  unfold A16.v
  rw [← hBA] at BK ⊢
  rw [← hAA]
  replace hBA := Lib.hid hBA
  replace hAA := Lib.hid hAA
  replace ha := Lib.hid ha
  clear hb
  go_enter Tryz.func4, Tryz.ntmps4
  go_upto_region 3 with (go_at_call 7; ((with_reducible refine (AW.out _).mono ?_); rintro _ _ hgets; obtain ⟨rfl, x1, rfl⟩ := hgets.get; clear hgets))
  obtain ⟨W0, hW0⟩ : ∃ W0, W0 = ext ((w.alloc (.cells BA 33)).alloc (.cells AA 62)) x1 := ⟨_, rfl⟩
  have hB0 : Below w.heap.size w W0 := by rw [hW0]; (repeat' (first | (with_reducible exact Below.refl _ _) | (with_reducible refine Below.alloc ?_ ?_ _) | (with_reducible refine below_ext ?_ ?_ _) | (with_reducible refine Below.drew ?_) | (with_reducible refine below_drewN ?_ _) | (with_reducible refine Below.setCell ?_ ?_ _) | go_size | (simp only [go_sem]; omega) | (simp [go_sem]; done) | (simp [go_sem]; omega)))
  have b0 : W0.heap[w.heap.size]? = some (.cells b.cells.toArray 33 (0, 0)) := by rw [hW0, ← hBA.out]; (repeat (first | ((with_reducible refine heap_at _ _ ?_); (focus (first | rfl | (simp [go_sem]; done) | (simp [go_sem]; omega)))) | ((with_reducible refine (heap_old _ _ ?_).trans ?_); (focus (first | (simp [go_sem]; done) | (simp [go_sem]; omega)))) | ((with_reducible refine (block_ext _ _ ?_).trans ?_); (focus (first | (simp [go_sem]; done) | (simp [go_sem]; omega)))) | ((with_reducible refine (heap_drew _ _).trans ?_))))
  have b1 : W0.heap[w.heap.size + 1]? = some (.cells a.cells.toArray 62 (0, 0)) := by rw [hW0, ← hAA.out]; (repeat (first | ((with_reducible refine heap_at _ _ ?_); (focus (first | rfl | (simp [go_sem]; done) | (simp [go_sem]; omega)))) | ((with_reducible refine (heap_old _ _ ?_).trans ?_); (focus (first | (simp [go_sem]; done) | (simp [go_sem]; omega)))) | ((with_reducible refine (block_ext _ _ ?_).trans ?_); (focus (first | (simp [go_sem]; done) | (simp [go_sem]; omega)))) | ((with_reducible refine (heap_drew _ _).trans ?_))))
  rw [← hW0]
  clear hW0
  have rg0 := range_blk b0 0 b.cells (by simp [BgD.cells])
  have rg1 := range_blk b1 0 a.cells (by simp [A16.cells])
  have BK0 := Lib.hid (fun w' (h : Below W0.heap.size W0 w') => BK.out w' (hB0.trans (h.mono hB0.size)))
  rw [hBA.out] at BK0
  clear BK
  go_upto_region 4 with (first
    | (refine wpList_load_mid rfl 33 (.tmp 2) rfl w.heap.size 0 rfl b.cells _ rg0 Tryz.underlying33 rfl (by kernel_rfl) ?_)
    | ((go_at_call 8); (with_reducible refine (BK0.out _ (by (repeat' (first | (with_reducible exact Below.refl _ _) | (with_reducible refine Below.alloc ?_ ?_ _) | (with_reducible refine below_ext ?_ ?_ _) | (with_reducible refine Below.drew ?_) | (with_reducible refine below_drewN ?_ _) | (with_reducible refine Below.setCell ?_ ?_ _) | go_size | (simp only [go_sem]; omega) | (simp [go_sem]; done) | (simp [go_sem]; omega))))).mono ?_); (rintro _ W1 ⟨cB, F, U, rfl, hB1, hbk, hrb, hF⟩); (have hr2 := hrb); (obtain ⟨Au, cu, us, ⟨tA, tm, tc, tn⟩, rfl, -⟩ := hr2); (simp only [RPg.V] at hrb ⊢); (replace hbk := Lib.hid hbk); (replace hrb := Lib.hid hrb); (replace hB1 := Lib.hid hB1); (replace hF := Lib.hid hF)))
  have np2 : bkNp 2 = 2 := by decide
  have len2 : (bkS b 2).pages.length = 2 := by unfold bkS; rw [np2, bkJ_len]
  have pgi : ∀ (i : Nat) (h : i < (bkS b 2).pages.length), (bkS b 2).pages[i]'h = bkP b i := fun i h => bkS_get b 2 h
  have okT : (bkS b 2).Ok := bkJ_ok hB'.out (by decide) (by decide)
  have evT : (bkS b 2).Even := bkS_even b 2
  rw [len2] at hrb ⊢
  generalize bkS b 2 = T0 at hbk hrb len2 pgi okT evT ⊢
  clear np2
  have hrb2 := hrb.out
  obtain ⟨A', c', us', s', e', ho⟩ := hrb2
  injection e' with e'
  injection e' with e'
  injection e' with e1 e2
  injection e1 with e1 e1b e1c
  clear e1b e1c e2
  subst e1
  have BW1 : Below w.heap.size w W1 := hB0.trans (hB1.out.mono hB0.size)
  have hs0 := hB0.size
  have hs1 := hB1.out.size
  generalize hW2 : W1.alloc (.cells #[.slice Au 2 cu, .slice tA tm tc, .int .i64 tn, .int .i64 T0.now, .bool T0.below] 41) = W2
  have hB12 : Below W1.heap.size W1 W2 := by subst hW2; (repeat' (first | (with_reducible exact Below.refl _ _) | (with_reducible refine Below.alloc ?_ ?_ _) | (with_reducible refine below_ext ?_ ?_ _) | (with_reducible refine Below.drew ?_) | (with_reducible refine below_drewN ?_ _) | (with_reducible refine Below.setCell ?_ ?_ _) | go_size | (simp only [go_sem]; omega) | (simp [go_sem]; done) | (simp [go_sem]; omega)))
  have b8 : W2.heap[W1.heap.size]? = some (.cells #[.slice Au 2 cu, .slice tA tm tc, .int .i64 tn, .int .i64 T0.now, .bool T0.below] 41 (0, 0)) := by subst hW2; exact al_at _ _ rfl
  clear hW2
  obtain ⟨H8, hH8⟩ : ∃ H8, H8 = W1.heap.size := ⟨_, rfl⟩
  rw [← hH8] at b8 ⊢
  have hbk2 := hbk.out.grow hB12
  have hrb3 := hrb.out.grow hB12
  have hs2 := hB12.size
  have BW2 : Below w.heap.size w W2 := BW1.trans (hB12.mono BW1.size)
  have c1 := (hB12.block _ (by have := heap_in b1; omega)).trans ((hB1.out.block _ (heap_in b1)).trans b1)
  have hF1 : ∀ x, F x → x < W2.heap.size := fun x f => by
    obtain ⟨V, ps, st, h⟩ := hbk2
    exact h.lt x f
  have hFW : ∀ x, F x → W0.heap.size ≤ x ∧ x < W1.heap.size := fun x f => ⟨hF.out x f, by
    obtain ⟨V, ps, st, h⟩ := hbk.out
    exact h.lt x f⟩
  have DO := do16_law (G := fun x => x < W0.heap.size) hbk2 okT evT hrb3 (fun x hx => by omega) a (ha.out.num.grow BW2) ha.out.y
  rw [show a.v = .agg a.cells.toArray from rfl] at DO
  replace DO := Lib.hid DO
  have rg2 := range_blk c1 0 a.cells (by simp [A16.cells])
  obtain ⟨q0, q1, q2, q3, q4, ql, -⟩ := five b8
  replace hH8 := Lib.hid hH8
  go_upto_region 7 with (first
    | (refine wpList_load_mid rfl 62 (.tmp 3) rfl (w.heap.size + 1) 0 rfl a.cells _ rg2 Tryz.underlying62 rfl (by kernel_rfl) ?_)
    | ((go_at_call 18); (with_reducible refine DO.out.mono ?_); (rintro _ w3 ⟨U3, F3, rfl, hk3, hb3, hr3, hF3⟩); (obtain ⟨A3, c3, us3, ⟨uA, um, uc, un⟩, rfl, -⟩ := hr3); (simp only [RPg.V]); (replace hk3 := Lib.hid hk3); (replace hb3 := Lib.hid hb3); (replace hF3 := Lib.hid hF3)))
  obtain ⟨W4, eW4⟩ : ∃ W4, W4 = w3.alloc (.cells #[.slice A3 (act16 T0 a).pages.length c3, .slice uA um uc, .int .i64 un, .int .i64 (act16 T0 a).now, .bool (act16 T0 a).below] 41) := ⟨_, rfl⟩
  have hB34 : Below w3.heap.size w3 W4 := by rw [eW4]; (repeat' (first | (with_reducible exact Below.refl _ _) | (with_reducible refine Below.alloc ?_ ?_ _) | (with_reducible refine below_ext ?_ ?_ _) | (with_reducible refine Below.drew ?_) | (with_reducible refine below_drewN ?_ _) | (with_reducible refine Below.setCell ?_ ?_ _) | go_size | (simp only [go_sem]; omega) | (simp [go_sem]; done) | (simp [go_sem]; omega)))
  rw [← eW4]
  clear eW4 DO q0 q1 q2 q3 q4 ql rg0 rg1 rg2
  have okA := act16_ok okT a ha.out.y
  have hs3 := hk3.out.size
  have nF : ∀ x, (x < W0.heap.size ∨ W1.heap.size ≤ x) → ¬ F x := fun x h f => by have := hFW x f; omega
  obtain ⟨V4, ps4, st4, hO4⟩ := hb3.out.grow hB34
  obtain ⟨pp, hM4⟩ := BkM.start hO4 okA
  have BW4 : Below w.heap.size w W4 := by
    have h1 : Below w.heap.size w w3 := BW2.trans (hk3.out.below (fun x f => by have := hFW x f; omega) BW2.size)
    exact h1.trans (hB34.mono h1.size)
  have b8' := (hB34.block _ (by have := heap_in b8; omega)).trans ((hk3.out.block _ (heap_in b8) (nF _ (by rw [hH8.out]; exact .inr (Nat.le_refl _)))).trans b8)
  have c1' := (hB34.block _ (by have := heap_in c1; omega)).trans ((hk3.out.block _ (heap_in c1) (nF _ (by have := heap_in b1; exact .inl this))).trans c1)
  have ho4 := ((ho.grow hB12).keep hk3.out (fun x hx f => hx (.inl f))).grow hB34
  replace hM4 := Lib.hid hM4
  have AT := Lib.hid (fun (i : Nat) (hi : i < T0.pages.length) => act16_at okT evT a hi)
  replace ho4 := Lib.hid ho4
  have BW4h := Lib.hid BW4
  clear hb3 hF3 hk3 ho hrb hrb3 hbk hbk2 b8 c1 b0 b1 hB34 hO4 BW1 BW2 hB0 hB1 hB12 BK0 AW hF hF1 hFW nF hs0 hs1 hs2 hs3
  replace c1' := Lib.hid c1'
  obtain ⟨q0, q1, q2, q3, q4, ql, -⟩ := five b8'
  have len2h := Lib.hid len2
  go_wp2
  clear q0 q1 q2 q3 q4 ql
  go_loopw [35] (fun iv wr => ∃ i : Nat, i ≤ 2 ∧ iv = .int .i64 i ∧ Below W4.heap.size W4 wr) (fun iv _ => 2 - (intOf iv).toNat)
  case atStart => exact ⟨0, by omega, rfl, Below.refl _ _⟩
  case round =>
    obtain ⟨i, hi2, rfl, hbr⟩ := hrel
    by_cases hlt : i < 2
    · have hi' : i < T0.pages.length := by rw [len2h.out]; exact hlt
      obtain ⟨Q, hQ, hql, hqc, hqz, hqa⟩ := AT.out i hi'
      obtain ⟨hqi, hQe⟩ := List.getElem?_eq_some_iff.1 hQ
      obtain ⟨⟨rA, rm, rc, rn⟩, L, o, -, eA, hP, d0, d1, hL⟩ := ho4.out.ps.get hi'
      subst eA
      obtain ⟨f1, f2⟩ := hP.form
      simp only at f1 f2
      subst f1 f2
      obtain ⟨V5, rows5, eV5, hlb, hvb, -⟩ := hP
      simp only [RPg.v, RPg.V] at eV5 d0 d1
      injection eV5 with eV5
      simp only [Array.mk.injEq, List.cons.injEq, and_true] at eV5
      subst eV5
      have hrow := Lib.hid (fun j (hj : j < T0.pages[i].rows.length) => hlb.at hvb hj)
      have okQ := okT.pg _ (List.getElem_mem hi')
      have okA2 := okA.pg _ (List.getElem_mem hqi)
      obtain ⟨Gp, hPA, -, -⟩ := hM4.out.deed i hqi
      have PG := Lib.hid (fun w' (hb : Below W4.heap.size W4 w') => hM4.out.page i hqi w' hb)
      have LN := Lib.hid (fun (j : Int) w' (hb : Below W4.heap.size W4 w') => line_p (hPA.grow hb) okA2 j)
      have ATP := Lib.hid (fun (j k : Int) w' (hb : Below W4.heap.size W4 w') => hM4.out.at i hqi j k w' hb)
      rw [hQe] at LN ATP
      have g0 := (hbr.cell (p := ⟨L, o + i * 2, none⟩) hL).trans d0
      have g1 := (hbr.cell (p := ⟨L, o + i * 2 + 1, none⟩) hL).trans d1
      have gL := Nat.lt_of_lt_of_le hL hbr.size
      have dlt : decide (i < 2) = true := decide_eq_true hlt
      have hrl := okQ.r2
      replace hqa := Lib.hid hqa
      replace hqz := Lib.hid hqz
      clear hlb hvb d0 d1 hQ
      generalize hPP : T0.pages[i] = P at *
      go_upto_region 10 with fail
      obtain ⟨W6, eW6⟩ : ∃ W6, W6 = wr.alloc (.cells #[.slice rA P.rows.length rc, .int .i64 P.cols] 39) := ⟨_, rfl⟩
      have hb6 : Below W4.heap.size W4 W6 := by
        rw [eW6]
        exact hbr.trans (Below.mono (B := wr.heap.size) (by (repeat' (first | (with_reducible exact Below.refl _ _) | (with_reducible refine Below.alloc ?_ ?_ _) | (with_reducible refine below_ext ?_ ?_ _) | (with_reducible refine Below.drew ?_) | (with_reducible refine below_drewN ?_ _) | (with_reducible refine Below.setCell ?_ ?_ _) | go_size | (simp only [go_sem]; omega) | (simp [go_sem]; done) | (simp [go_sem]; omega)))) hbr.size)
      have b10 : W6.heap[wr.heap.size]? = some (.cells #[.slice rA P.rows.length rc, .int .i64 P.cols] 39 (0, 0)) := by rw [eW6]; exact heap_alloc_new _ _
      obtain ⟨H10, hH10⟩ : ∃ H10, H10 = wr.heap.size := ⟨_, rfl⟩
      rw [← eW6]
      rw [← hH10] at b10 ⊢
      replace hH10 := Lib.hid hH10
      clear eW6 g0 g1 gL dlt
      obtain ⟨k0, -, kl, -⟩ := two b10
      go_cut [41, 42, 43] from 36 to 43 (fun v41 v42 v43 wx => v41 = .slice rA P.rows.length rc ∧ v42 = .int .i64 P.rows.length ∧ v43 = .int .i64 0 ∧ wx = W6)
      case first =>
        go_wp2
        go_meet
        exact ⟨rfl, rfl, rfl, rfl⟩
      obtain ⟨rfl, rfl, rfl, e⟩ := hcut
      rw [e]
      clear e wc k0 kl
      go_wp2
      go_loopw [43] (fun jv wr2 => ∃ j : Nat, j ≤ P.rows.length ∧ jv = .int .i64 j ∧ Below W4.heap.size W4 wr2) (fun jv _ => P.rows.length - (intOf jv).toNat)
      case atStart => exact ⟨0, by omega, rfl, hb6⟩
      case round =>
        obtain ⟨j, hj2, rfl, hbj⟩ := hrel
        by_cases hjl : j < P.rows.length
        · obtain ⟨L5, g5, k5, xs, z, erA, h2, h3, h4, h5, h6, h7, h8⟩ := hrow.out j hjl
          subst erA
          have jlt : decide (j < P.rows.length) = true := decide_eq_true hjl
          have u0 := (hbj.cell (p := ⟨L5, j * 2, none⟩) h8).trans h6
          have u1 := (hbj.cell (p := ⟨L5, j * 2 + 1, none⟩) h8).trans h7
          have u5 := Nat.lt_of_lt_of_le h8 hbj.size
          have hj5 : j < 500 := by omega
          have hjQ : j < Q.rows.length := by omega
          have LNj := Lib.hid (fun w' (hb : Below W4.heap.size W4 w') => LN.out j w' hb)
          rw [lineOf_in hjQ] at LNj
          have zz : Q.rows[j].2 = z := by rw [hqz.out j hjl hjQ, h2]
          simp only [zz] at LNj
          generalize Q.rows[j].1 = qs at LNj
          go_upto_region 13 with fail
          obtain ⟨W7, eW7⟩ : ∃ W7, W7 = wr.alloc (.cells #[.slice (some ⟨g5, 0, none⟩) xs.length k5, .int .i64 z] 67) := ⟨_, rfl⟩
          have hb7 : Below W4.heap.size W4 W7 := by
            rw [eW7]
            exact hbj.trans (Below.mono (B := wr.heap.size) (by (repeat' (first | (with_reducible exact Below.refl _ _) | (with_reducible refine Below.alloc ?_ ?_ _) | (with_reducible refine below_ext ?_ ?_ _) | (with_reducible refine Below.drew ?_) | (with_reducible refine below_drewN ?_ _) | (with_reducible refine Below.setCell ?_ ?_ _) | go_size | (simp only [go_sem]; omega) | (simp [go_sem]; done) | (simp [go_sem]; omega)))) hbj.size)
          have b12 : W7.heap[wr.heap.size]? = some (.cells #[.slice (some ⟨g5, 0, none⟩) xs.length k5, .int .i64 z] 67 (0, 0)) := by rw [eW7]; exact heap_alloc_new _ _
          obtain ⟨H12, hH12⟩ : ∃ H12, H12 = wr.heap.size := ⟨_, rfl⟩
          rw [← eW7]
          rw [← hH12] at b12 ⊢
          replace hH12 := Lib.hid hH12
          clear eW7 u0 u1 u5 jlt
          replace hlt := Lib.hid hlt
          replace hjl := Lib.hid hjl
          have KL := Lib.hid (fun w' (h : Below W7.heap.size W7 w') => (by
            obtain ⟨y0, y1, -, -⟩ := two ((h.block _ (heap_in b12)).trans b12)
            exact ⟨y0, y1⟩ : w'.cell? ⟨H12, 0, none⟩ = some (.slice (some ⟨g5, 0, none⟩) xs.length k5) ∧ w'.cell? ⟨H12, 1, none⟩ = some (.int .i64 z)))
          have hb7h := Lib.hid (fun w' (h : Below W7.heap.size W7 w') => hb7.trans (h.mono hb7.size))
          go_cut [44, 56] from 48 to 56 (fun _ v wx => v = .bool false ∧ Below W7.heap.size W7 wx)
          case first =>
            have zne : (z != z) = false := by simp
            (refine wp_region_F (S := (fun w' => w'.cell? ⟨H12, 0, none⟩ = some (.slice (some ⟨g5, 0, none⟩) xs.length k5) ∧ w'.cell? ⟨H12, 1, none⟩ = some (.int .i64 z))) 8 [false, false, false, false, false, false, false, false, false] rfl rfl (by kernel_rfl) ?_ (fun hHeld => ?_); (focus ((try dsimp only); (exact KL.out _ (by (repeat' (first | (with_reducible exact Below.refl _ _) | (with_reducible refine Below.alloc ?_ ?_ _) | (with_reducible refine below_ext ?_ ?_ _) | (with_reducible refine Below.drew ?_) | (with_reducible refine below_drewN ?_ _) | (with_reducible refine Below.setCell ?_ ?_ _) | go_size | (simp only [go_sem]; omega) | (simp [go_sem]; done) | (simp [go_sem]; omega))))); done)))
            ((refine AtF.take (oi := ?_) (v := ?_) 0 ?_ ?_ ?_ ?_ (Or.inl ⟨?_, ?_⟩) (by assumption) ?_; rotate_left 2; rfl; kernel_rfl; kernel_rfl; exact (fun _ _ _ h => h); rfl; (focus (intro w hSw; (try dsimp only at hSw); go_simp; (try with_reducible rfl); done)); (try simp only [Act.put, List.setIfInBounds_toArray, List.set_cons_zero, List.set_cons_succ])); (refine AtF.take (oi := ?_) (v := ?_) 1 ?_ ?_ ?_ ?_ (Or.inl ⟨?_, ?_⟩) (by assumption) ?_; rotate_left 2; rfl; kernel_rfl; kernel_rfl; exact (fun _ _ _ h => h); rfl; (focus (intro w hSw; (try dsimp only at hSw); go_simp; (try with_reducible rfl); done)); (try simp only [Act.put, List.setIfInBounds_toArray, List.set_cons_zero, List.set_cons_succ])); (refine AtF.take (oi := ?_) (v := ?_) 3 ?_ ?_ ?_ ?_ (Or.inl ⟨?_, ?_⟩) (by assumption) ?_; rotate_left 2; rfl; kernel_rfl; kernel_rfl; exact (fun _ _ _ h => h); rfl; (focus (intro w hSw; (try dsimp only at hSw); go_simp; (try with_reducible rfl); done)); (try simp only [Act.put, List.setIfInBounds_toArray, List.set_cons_zero, List.set_cons_succ])); (refine AtF.take (oi := ?_) (v := ?_) 6 ?_ ?_ ?_ ?_ (Or.inl ⟨?_, ?_⟩) (by assumption) ?_; rotate_left 2; rfl; kernel_rfl; kernel_rfl; exact (fun _ _ _ h => h); rfl; (focus (intro w hSw; (try dsimp only at hSw); go_simp; (try with_reducible rfl); done)); (try simp only [Act.put, List.setIfInBounds_toArray, List.set_cons_zero, List.set_cons_succ])); (refine AtF.take (oi := ?_) (v := ?_) 7 ?_ ?_ ?_ ?_ (Or.inl ⟨?_, ?_⟩) (by assumption) ?_; rotate_left 2; rfl; kernel_rfl; kernel_rfl; exact (fun _ _ _ h => h); rfl; (focus (intro w hSw; (try dsimp only at hSw); go_simp; (try with_reducible rfl); done)); (try simp only [Act.put, List.setIfInBounds_toArray, List.set_cons_zero, List.set_cons_succ])))
            (refine AtF.only (oi := ?_) 2 ?_ ?_ (fun K hK => ?_); rotate_left 1; rfl; kernel_rfl; (try go_simp); (go_at_call 17; ((with_reducible refine (PG.out _ (hb7h.out _ (by (repeat' (first | (with_reducible exact Below.refl _ _) | (with_reducible refine Below.alloc ?_ ?_ _) | (with_reducible refine below_ext ?_ ?_ _) | (with_reducible refine Below.drew ?_) | (with_reducible refine below_drewN ?_ _) | (with_reducible refine Below.setCell ?_ ?_ _) | go_size | (simp only [go_sem]; omega) | (simp [go_sem]; done) | (simp [go_sem]; omega)))))).mono ?_); rintro _ _ hgets; obtain ⟨rfl, x2, rfl⟩ := hgets.get; clear hgets)); (refine hK.out _ _ ?_ (fun hHeld => ?_)); (focus ((try dsimp only); (exact KL.out _ (by (repeat' (first | (with_reducible exact Below.refl _ _) | (with_reducible refine Below.alloc ?_ ?_ _) | (with_reducible refine below_ext ?_ ?_ _) | (with_reducible refine Below.drew ?_) | (with_reducible refine below_drewN ?_ _) | (with_reducible refine Below.setCell ?_ ?_ _) | go_size | (simp only [go_sem]; omega) | (simp [go_sem]; done) | (simp [go_sem]; omega))))); done)); clear hK K; (try simp only [Act.put, List.setIfInBounds_toArray, List.set_cons_zero, List.set_cons_succ]))
            (refine AtF.only (oi := ?_) 4 ?_ ?_ (fun K hK => ?_); rotate_left 1; rfl; kernel_rfl; (try go_simp); ((go_at_call 19); (with_reducible refine (LNj.out _ (hb7h.out _ (by (repeat' (first | (with_reducible exact Below.refl _ _) | (with_reducible refine Below.alloc ?_ ?_ _) | (with_reducible refine below_ext ?_ ?_ _) | (with_reducible refine Below.drew ?_) | (with_reducible refine below_drewN ?_ _) | (with_reducible refine Below.setCell ?_ ?_ _) | go_size | (simp only [go_sem]; omega) | (simp [go_sem]; done) | (simp [go_sem]; omega)))))).mono ?_); (rintro _ _ ⟨A', c', x3, rfl, rfl, -⟩)); (refine hK.out _ _ ?_ (fun hHeld => ?_)); (focus ((try dsimp only); (exact KL.out _ (by (repeat' (first | (with_reducible exact Below.refl _ _) | (with_reducible refine Below.alloc ?_ ?_ _) | (with_reducible refine below_ext ?_ ?_ _) | (with_reducible refine Below.drew ?_) | (with_reducible refine below_drewN ?_ _) | (with_reducible refine Below.setCell ?_ ?_ _) | go_size | (simp only [go_sem]; omega) | (simp [go_sem]; done) | (simp [go_sem]; omega))))); done)); clear hK K; (try simp only [Act.put, List.setIfInBounds_toArray, List.set_cons_zero, List.set_cons_succ]))
            ((refine AtF.take (oi := ?_) (v := ?_) 5 ?_ ?_ ?_ ?_ (Or.inl ⟨?_, ?_⟩) (by assumption) ?_; rotate_left 2; rfl; kernel_rfl; kernel_rfl; exact (fun _ _ _ h => h); rfl; (focus (intro w hSw; (try dsimp only at hSw); go_simp; (try with_reducible rfl); done)); (try simp only [Act.put, List.setIfInBounds_toArray, List.set_cons_zero, List.set_cons_succ])))
            (refine AtF.last (oi := ?_) ?_ ?_ (fun K hK => ?_); rotate_left 1; rfl; kernel_rfl; go_simp; skip; refine hK.out _ _ ?_; clear hK K; (try simp only [Act.put, List.setIfInBounds_toArray, List.set_cons_zero, List.set_cons_succ]))
            clear hHeld
            go_wp2
            go_meet
            exact ⟨rfl, by (repeat' (first | (with_reducible exact Below.refl _ _) | (with_reducible refine Below.alloc ?_ ?_ _) | (with_reducible refine below_ext ?_ ?_ _) | (with_reducible refine Below.drew ?_) | (with_reducible refine below_drewN ?_ _) | (with_reducible refine Below.setCell ?_ ?_ _) | go_size | (simp only [go_sem]; omega) | (simp [go_sem]; done) | (simp [go_sem]; omega)))⟩
          obtain ⟨rfl, hb8⟩ := hcut
          obtain ⟨y0, y1⟩ := KL.out wc hb8
          have hl12 : H12 < wc.heap.size := Nat.lt_of_lt_of_le (heap_in b12) hb8.size
          have hxl : xs.length = P.cols := by
            have := okQ.len hjl.out
            rw [h2] at this
            exact this
          replace hxl := Lib.hid hxl
          go_wp2
          clear y0 y1 hl12
          go_loopw [60] (fun kv wr3 => ∃ k : Nat, k ≤ xs.length ∧ kv = .int .i64 k ∧ Below W7.heap.size W7 wr3) (fun kv _ => xs.length - (intOf kv).toNat)
          case atStart => exact ⟨0, by omega, rfl, hb8⟩
          case round =>
            obtain ⟨k, hk2, rfl, hbk⟩ := hrel
            by_cases hkl : k < xs.length
            · have hkc : k < P.cols := by have := hxl.out; omega
              have hbW := Lib.hid (hb7h.out _ hbk)
              have hs7 := hbW.out.size
              obtain ⟨gq, eg, _, hltp, v0, v1, v2, _⟩ := own_at h3 k (by simp only; omega)
              injection eg with eg
              injection eg with eg
              subst eg
              simp only at v0 v1 v2 hltp
              have hq := hqa.out j k hjl.out hkc
              have eP : atS P j k = xs[k] := by
                rw [atS_in hjl.out hkc (by rw [h2]; exact hkl)]
                simp [h2]
              rw [eP] at hq
              clear eP
              replace hq := Lib.hid hq
              have ATk := Lib.hid (ATP.out j k)
              replace v0 := (hbW.out.cell (p := ⟨_, _, none⟩) hltp).trans v0
              replace v1 := (hbW.out.cell (p := ⟨_, _, none⟩) hltp).trans v1
              replace v2 := (hbW.out.cell (p := ⟨_, _, none⟩) hltp).trans v2
              have gq5 := Nat.lt_of_lt_of_le hltp hs7
              have k500 : k < 500 := by have := okQ.c2; omega
              have klt : decide (k < xs.length) = true := decide_eq_true hkl
              replace hxl := Lib.hid hxl
              generalize hY : xs[k] = y at v0 v1 v2 hq
              replace hY := Lib.hid hY
              obtain ⟨yg, yr, yk⟩ := y
              simp only at v0 v1 v2
              have hb3 := Lib.hid h3
              clear h3 h6 h7
              go_upto_region 18 with fail
              obtain ⟨W8, eW8⟩ : ∃ W8, W8 = wr.alloc (.cells #[.int .i32 yg, .int .u8 yr, .bool yk] 60) := ⟨_, rfl⟩
              have hb8' : Below W7.heap.size W7 W8 := by
                rw [eW8]
                exact hbk.trans (Below.mono (B := wr.heap.size) (by (repeat' (first | (with_reducible exact Below.refl _ _) | (with_reducible refine Below.alloc ?_ ?_ _) | (with_reducible refine below_ext ?_ ?_ _) | (with_reducible refine Below.drew ?_) | (with_reducible refine below_drewN ?_ _) | (with_reducible refine Below.setCell ?_ ?_ _) | go_size | (simp only [go_sem]; omega) | (simp [go_sem]; done) | (simp [go_sem]; omega)))) hbk.size)
              have b14 : W8.heap[wr.heap.size]? = some (.cells #[.int .i32 yg, .int .u8 yr, .bool yk] 60 (0, 0)) := by rw [eW8]; exact heap_alloc_new _ _
              obtain ⟨H14, hH14⟩ : ∃ H14, H14 = wr.heap.size := ⟨_, rfl⟩
              rw [← eW8]
              rw [← hH14] at b14 ⊢
              replace hH14 := Lib.hid hH14
              clear eW8 v0 v1 v2 klt gq5 hs7 hbW
              have hb8W := Lib.hid (hb7h.out _ hb8')
              have c8 := (hb8W.out.block _ (heap_in c1'.out)).trans c1'.out
              have k0 : W8.cell? ⟨w.heap.size + 1, 0, none⟩ = some (.int .i64 a.kd) := by rw [cell_in c8]; rfl
              have k1 : W8.cell? ⟨w.heap.size + 1, 1, none⟩ = some (.int .i64 a.b.t) := by rw [cell_in c8]; rfl
              have k2 : W8.cell? ⟨w.heap.size + 1, 2, none⟩ = some (.int .i64 a.b.l) := by rw [cell_in c8]; rfl
              have k3 : W8.cell? ⟨w.heap.size + 1, 3, none⟩ = some (.int .i64 a.b.b) := by rw [cell_in c8]; rfl
              have k4 : W8.cell? ⟨w.heap.size + 1, 4, none⟩ = some (.int .i64 a.b.r) := by rw [cell_in c8]; rfl
              have kl := heap_in c8
              clear c8
              have IN := Lib.hid (fun w' => in_r a.b.t a.b.l a.b.b a.b.r j k w')
              have hinX : inB a.b.t a.b.l a.b.b a.b.r j k = true ↔ inX a.b j k := by
                unfold inB inX
                simp
                omega
              replace hinX := Lib.hid hinX
              generalize hin : inB a.b.t a.b.l a.b.b a.b.r j k = bi at IN
              replace hin := Lib.hid hin
              go_cut [15] from 65 to 78 (fun v wx => ∃ bo : Bool, v = .bool bo ∧ Below W8.heap.size W8 wx ∧ (bo = false → atS Q j k = ⟨yg, yr, yk⟩))
              case first =>
                have fin : ∀ bo : Bool, (bo = true ↔ bi = true ∧ (i = 0 ∨ a.kd = 4)) → (bo = false → atS Q j k = ⟨yg, yr, yk⟩) := fun bo h1 e => hq.out (fun h => by
                  have h4 := h1.2 ⟨by rw [← hin.out]; exact hinX.out.2 h.1, h.2⟩
                  rw [e] at h4
                  cases h4)
                replace fin := Lib.hid fin
                cases bi
                · go_wp2_with (go_at_call 20; ((with_reducible refine (IN.out _).mono ?_); rintro _ _ hgets; obtain ⟨rfl, x5, rfl⟩ := hgets.get; clear hgets))
                  go_meet
                  exact ⟨false, rfl, by (repeat' (first | (with_reducible exact Below.refl _ _) | (with_reducible refine Below.alloc ?_ ?_ _) | (with_reducible refine below_ext ?_ ?_ _) | (with_reducible refine Below.drew ?_) | (with_reducible refine below_drewN ?_ _) | (with_reducible refine Below.setCell ?_ ?_ _) | go_size | (simp only [go_sem]; omega) | (simp [go_sem]; done) | (simp [go_sem]; omega))), fin.out false (by simp)⟩
                · by_cases e0 : i = 0
                  · have e0' : ((i : Int) == 0) = true := by simp [e0]
                    replace e0 := Lib.hid e0
                    go_wp2_with (go_at_call 20; ((with_reducible refine (IN.out _).mono ?_); rintro _ _ hgets; obtain ⟨rfl, x5, rfl⟩ := hgets.get; clear hgets))
                    go_meet
                    exact ⟨true, rfl, by (repeat' (first | (with_reducible exact Below.refl _ _) | (with_reducible refine Below.alloc ?_ ?_ _) | (with_reducible refine below_ext ?_ ?_ _) | (with_reducible refine Below.drew ?_) | (with_reducible refine below_drewN ?_ _) | (with_reducible refine Below.setCell ?_ ?_ _) | go_size | (simp only [go_sem]; omega) | (simp [go_sem]; done) | (simp [go_sem]; omega))), fun h => by cases h⟩
                  · have e0' : ((i : Int) == 0) = false := by simp [e0]
                    by_cases e4 : a.kd = 4
                    · have e4' : (a.kd == 4) = true := by simp [e4]
                      replace e4 := Lib.hid e4
                      go_wp2_with (go_at_call 20; ((with_reducible refine (IN.out _).mono ?_); rintro _ _ hgets; obtain ⟨rfl, x5, rfl⟩ := hgets.get; clear hgets))
                      go_meet
                      exact ⟨true, rfl, by (repeat' (first | (with_reducible exact Below.refl _ _) | (with_reducible refine Below.alloc ?_ ?_ _) | (with_reducible refine below_ext ?_ ?_ _) | (with_reducible refine Below.drew ?_) | (with_reducible refine below_drewN ?_ _) | (with_reducible refine Below.setCell ?_ ?_ _) | go_size | (simp only [go_sem]; omega) | (simp [go_sem]; done) | (simp [go_sem]; omega))), fun h => by cases h⟩
                    · have e4' : (a.kd == 4) = false := by simp [e4]
                      go_wp2_with (go_at_call 20; ((with_reducible refine (IN.out _).mono ?_); rintro _ _ hgets; obtain ⟨rfl, x5, rfl⟩ := hgets.get; clear hgets))
                      go_meet
                      exact ⟨false, rfl, by (repeat' (first | (with_reducible exact Below.refl _ _) | (with_reducible refine Below.alloc ?_ ?_ _) | (with_reducible refine below_ext ?_ ?_ _) | (with_reducible refine Below.drew ?_) | (with_reducible refine below_drewN ?_ _) | (with_reducible refine Below.setCell ?_ ?_ _) | go_size | (simp only [go_sem]; omega) | (simp [go_sem]; done) | (simp [go_sem]; omega))), fin.out false (by simp [e0, e4])⟩
              obtain ⟨bo, rfl, hb9, hbo⟩ := hcut
              obtain ⟨W9, eW9⟩ : ∃ W9, W9 = wc := ⟨_, rfl⟩
              rw [← eW9] at hb9 ⊢
              clear eW9 k0 k1 k2 k3 k4 kl IN hin hinX
              have b15 := (hb9.block _ (heap_in b14)).trans b14
              have y0 : W9.cell? ⟨H14, 0, none⟩ = some (.int .i32 yg) := by rw [cell_in b15]; rfl
              have y1 : W9.cell? ⟨H14, 1, none⟩ = some (.int .u8 yr) := by rw [cell_in b15]; rfl
              have y2 : W9.cell? ⟨H14, 2, none⟩ = some (.bool yk) := by rw [cell_in b15]; rfl
              have yl := heap_in b15
              have hb9W := Lib.hid (hb8W.out.trans (hb9.mono hb8W.out.size))
              have hb97 := Lib.hid (hb8'.trans (hb9.mono hb8'.size))
              clear b15 b14
              cases bo
              · have hAt := ATk.out
                rw [hbo rfl] at hAt
                replace hAt := Lib.hid hAt
                have he0 := eqC_t (rfl : (⟨yg, yr, yk⟩ : Cl) = ⟨yg, yr, yk⟩)
                clear hbo ATk
                go_upto_region 19 with fail
                go_cut [91] from 79 to 91 (fun v wx => v = .bool false ∧ Below W9.heap.size W9 wx)
                case first =>
                  (refine wp_region_free (by kernel_rfl) (by kernel_rfl) ?_)
                  repeat (go_big_quiet_step (first
                    | ((go_at_call 17; with_reducible exact Calls.free (PG.out _ (hb9W.out.trans (Below.mono (B := W9.heap.size) (by (repeat' (first | (with_reducible exact Below.refl _ _) | (with_reducible refine Below.alloc ?_ ?_ _) | (with_reducible refine below_ext ?_ ?_ _) | (with_reducible refine Below.drew ?_) | (with_reducible refine below_drewN ?_ _) | (with_reducible refine Below.setCell ?_ ?_ _) | go_size | (simp only [go_sem]; omega) | (simp [go_sem]; done) | (simp [go_sem]; omega)))) hb9W.out.size)))))
                    | ((go_at_call 21; with_reducible exact Calls.free (hAt.out _ (hb9W.out.trans (Below.mono (B := W9.heap.size) (by (repeat' (first | (with_reducible exact Below.refl _ _) | (with_reducible refine Below.alloc ?_ ?_ _) | (with_reducible refine below_ext ?_ ?_ _) | (with_reducible refine Below.drew ?_) | (with_reducible refine below_drewN ?_ _) | (with_reducible refine Below.setCell ?_ ?_ _) | go_size | (simp only [go_sem]; omega) | (simp [go_sem]; done) | (simp [go_sem]; omega)))) hb9W.out.size)))))))
                  refine wpQuiet_nil ?_; rintro _ ⟨x6, rfl⟩
                  go_wp2
                  go_meet
                  exact ⟨rfl, by (repeat' (first | (with_reducible exact Below.refl _ _) | (with_reducible refine Below.alloc ?_ ?_ _) | (with_reducible refine below_ext ?_ ?_ _) | (with_reducible refine Below.drew ?_) | (with_reducible refine below_drewN ?_ _) | (with_reducible refine Below.setCell ?_ ?_ _) | go_size | (simp only [go_sem]; omega) | (simp [go_sem]; done) | (simp [go_sem]; omega)))⟩
                obtain ⟨rfl, hb10⟩ := hcut
                replace hb10 := Lib.hid (hb97.out.trans (hb10.mono hb97.out.size))
                clear y0 y1 y2 yl
                go_wp2
                exact ⟨⟨k + 1, by omega, rfl, hb10.out⟩, loop_meas hkl⟩
              · clear hbo ATk
                go_upto_region 19 with fail
                go_cut [91] from 79 to 91 (fun v wx => v = .bool false ∧ Below W9.heap.size W9 wx)
                case first =>
                  (refine wp_region_free (by kernel_rfl) (by kernel_rfl) ?_)
                  repeat (go_big_quiet_step (fail))
                  refine wpQuiet_nil ?_; rintro _ ⟨x6, rfl⟩
                  go_wp2
                  go_meet
                  exact ⟨rfl, by (repeat' (first | (with_reducible exact Below.refl _ _) | (with_reducible refine Below.alloc ?_ ?_ _) | (with_reducible refine below_ext ?_ ?_ _) | (with_reducible refine Below.drew ?_) | (with_reducible refine below_drewN ?_ _) | (with_reducible refine Below.setCell ?_ ?_ _) | go_size | (simp only [go_sem]; omega) | (simp [go_sem]; done) | (simp [go_sem]; omega)))⟩
                obtain ⟨rfl, hb10⟩ := hcut
                replace hb10 := Lib.hid (hb97.out.trans (hb10.mono hb97.out.size))
                clear y0 y1 y2 yl
                go_wp2
                exact ⟨⟨k + 1, by omega, rfl, hb10.out⟩, loop_meas hkl⟩
            · obtain rfl : k = xs.length := by omega
              repeat (first | go_values | go_skip | go_guarded | go_step)
              exact ⟨⟨j + 1, hjl.out, rfl, hb7h.out _ hbk⟩, loop_meas hjl.out⟩
        · obtain rfl : j = P.rows.length := by omega
          go_wp2
          exact ⟨⟨i + 1, by omega, rfl, hbj⟩, loop_meas hlt⟩
    · obtain rfl : i = 2 := by omega
      have d1 : decide ((2 : Int) < 2) = false := by decide
      have fin := Lib.hid (BW4h.out.trans (hbr.mono BW4h.out.size))
      go_wp2
      go_returns
      exact ⟨rfl, fin.out⟩
end Go.Proofs.YtignkkejkknddaaGreat
