/- The reference's pages: Scroll, plainly, and what a size that is stored makes.  -/
import Derived.Test.YtignkkejkknddaaGreatPgD
import Derived.Test.YtignkkejkknddaaGreatPgC
import Derived.Test.YtignkkejkknddaaGreatUpd
import Derived.Test.YtignkkejkknddaaGreatLineD
import Derived.Test.YtignkkejkknddaaGreatPgB
import Derived.Test.YtignkkejkknddaaGreatRegionF
import Derived.Test.YtignkkejkknddaaGreatPgA
import Derived.Test.YtignkkejkknddaaGreatPgAct
import Derived.Test.YtignkkejkknddaaGreatPgPen
import Derived.Test.YtignkkejkknddaaGreatLineE
namespace Go.Proofs.YtignkkejkknddaaGreat
open Go.RowKit
set_option linter.unusedVariables false
set_option linter.unusedSimpArgs false

section
variable {t : TypeId} {W wr w : World} {H n c i L : Nat} {S : PgS} {A : Option Addr} {rows : List RowM}
end
theorem setRowS_twice (S : PgS) (i : Nat) (u v : List Cl × Int) : setRowS (setRowS S i u) i v = setRowS S i v := by
  unfold setRowS
  simp
theorem setRowS_get {S : PgS} {i : Nat} (h : i < S.rows.length) (v : List Cl × Int) (h' : i < (setRowS S i v).rows.length) : (setRowS S i v).rows[i] = v := by simp [setRowS]
theorem setRowS_self {S : PgS} {i : Nat} (h : i < S.rows.length) : setRowS S i S.rows[i] = S := by
  unfold setRowS
  cases S
  simp
end Go.Proofs.YtignkkejkknddaaGreat
/- The reference's pages: Scroll.  -/
namespace Go.Proofs.YtignkkejkknddaaGreat
open Go.RowKit
set_option linter.unusedVariables false
set_option linter.unusedSimpArgs false

section
variable {S : PgS} {w : World}
end
end Go.Proofs.YtignkkejkknddaaGreat
/- The reference's pages: Each, Shift.  -/
namespace Go.Proofs.YtignkkejkknddaaGreat
open Go.RowKit
set_option linter.unusedVariables false
set_option linter.unusedSimpArgs false

section
variable {S : PgS} {w : World}
end
end Go.Proofs.YtignkkejkknddaaGreat
/- Pages, plainly: changed cell by cell, row by row.  -/
namespace Go.Proofs.YtignkkejkknddaaGreat
open Go.RowKit
set_option linter.unusedVariables false
set_option linter.unusedSimpArgs false

/-- the cells ahead of the place (i0, k0) are changed -/
def mapIJ (S : PgS) (G : Nat → Nat → Cl → Cl) (i0 k0 : Nat) : PgS := mapS S (fun i k y => if i < i0 ∨ (i = i0 ∧ k < k0) then G i k y else y)
section
variable {S : PgS} {G : Nat → Nat → Cl → Cl} {i0 k0 : Nat}
@[simp] theorem mapIJ_len : (mapIJ S G i0 k0).rows.length = S.rows.length := mapS_len
@[simp] theorem mapIJ_cols : (mapIJ S G i0 k0).cols = S.cols := rfl
end
end Go.Proofs.YtignkkejkknddaaGreat
/- The reference's pages: Paste.  -/
namespace Go.Proofs.YtignkkejkknddaaGreat
open Go.RowKit
set_option linter.unusedVariables false
set_option linter.unusedSimpArgs false

section
variable {S T : PgS} {w : World}
end
end Go.Proofs.YtignkkejkknddaaGreat
/- The reference's pages: Resize, New.  -/
namespace Go.Proofs.YtignkkejkknddaaGreat
open Go.RowKit
set_option linter.unusedVariables false
set_option linter.unusedSimpArgs false

section
variable {S : PgS} {w : World}
set_option maxRecDepth 100000 in
set_option maxHeartbeats 8000000 in
theorem refresize_c (U : Value) (m n : Int) (h : RefV w U S) (hx : ∀ r ∈ S.rows, r.1.length ≤ 1000000) (hl5 : S.rows.length ≤ 1000) :
    Calls Tryz.prog 111 #[U, .int .i64 m, .int .i64 n] w (NewRef (resizeS S m n) w) := by
  have hm : clampR m 1 500 = dimN m := by have := (dimN_pos m).2.2.2; rw [← this]; unfold clampR; split <;> (try split) <;> omega
  have hn : clampR n 1 500 = dimN n := by have := (dimN_pos n).2.2.2; rw [← this]; unfold clampR; split <;> (try split) <;> omega
  have CM := Lib.hid (fun w' => clamp_l m 1 500 w')
  have CN := Lib.hid (fun w' => clamp_l n 1 500 w')
  rw [hm] at CM
  rw [hn] at CN
  have hM := dimN_pos m
  have hN := dimN_pos n
  have hresz : (resizeS S m n).rows = (List.range (dimN m)).map (resRow S (dimN n)) := rfl
  have hresc : (resizeS S m n).cols = dimN n := rfl
  replace hresz := Lib.hid hresz
  replace hresc := Lib.hid hresc
  generalize resizeS S m n = R at hresz hresc ⊢
  generalize dimN m = M at hM CM hresz
  generalize dimN n = N at hN CN hresz hresc
  have hN3 := Lib.hid hN.2.2.1
  have hM5 := hM.2.1
  have hN1 := hN.1
  have hN2 := hN.2.1
  obtain ⟨A, nn, rows, rfl, hl, hv, hnn⟩ := h.op
  have hrow := Lib.hid (fun i (hi : i < S.rows.length) => hl.at hv hi)
  have hx2 := Lib.hid (fun i (hi : i < S.rows.length) => hx _ (List.getElem_mem hi))
  clear h hl hv hnn hm hn hM hN hx
  go_enter Tryz.func111, Tryz.ntmps111
  go_upto_region 2 with (go_at_call 34; ((with_reducible refine (CN.out _).mono ?_); rintro _ _ hgets; obtain ⟨rfl, x1, rfl⟩ := hgets.get; clear hgets))
  obtain ⟨W, hW⟩ : ∃ W, W = ext ((w.alloc (.cells #[.slice A S.rows.length nn, .int .i64 S.cols] 39)).alloc (.cells #[.slice none 0 0, .int .i64 0] 39)) x1 := ⟨_, rfl⟩
  have hsz : W.heap.size = w.heap.size + 1 + 1 + x1.sz := by rw [hW]; simp
  have hbW : Below w.heap.size w W := by rw [hW]; (repeat' (first | (with_reducible exact Below.refl _ _) | (with_reducible refine Below.alloc ?_ ?_ _) | (with_reducible refine below_ext ?_ ?_ _) | (with_reducible refine Below.drew ?_) | (with_reducible refine below_drewN ?_ _) | (with_reducible refine Below.setCell ?_ ?_ _) | go_size | (simp only [go_sem]; omega) | (simp [go_sem]; done) | (simp [go_sem]; omega)))
  have P0 : W.cell? ⟨w.heap.size, 0, none⟩ = some (.slice A S.rows.length nn) := by rw [hW]; simp [go_sem]
  have R0 : W.cell? ⟨w.heap.size + 1, 0, none⟩ = some (.slice none 0 0) := by rw [hW]; simp [go_sem]
  have R1 : W.cell? ⟨w.heap.size + 1, 1, none⟩ = some (.int .i64 0) := by rw [hW]; simp [go_sem]
  have Rf : ∀ i, W.frozen? ⟨w.heap.size + 1, i, none⟩ = false := by intro i; rw [hW]; simp [go_sem]
  rw [← hW]
  have hQ : QAt W (W.alloc (.cells #[.slice none 0 0, .int .i64 N] 39)) W.heap.size ⟨(List.range 0).map (resRow S N), N⟩ none 0 0 [] := ⟨(Below.refl _ _).alloc (Nat.le_refl _) _, Nat.le_refl _, heap_alloc_new _ _, Lns.nil _, rfl, fun b hb => (by rcases hb with h | ⟨r, h, _⟩ <;> cases h), by decide⟩
  generalize W.alloc (.cells #[.slice none 0 0, .int .i64 N] 39) = W0 at hQ ⊢
  rw [hsz] at hQ
  have hrW := Lib.hid (fun i (hi : i < S.rows.length) => (by
    obtain ⟨L, g, k, xs, z, h1, h2, h3, h4, h5, h6, h7, h8⟩ := hrow.out i hi
    exact ⟨L, g, k, xs, z, h1, h2, h3.grow hbW, Nat.lt_of_lt_of_le h8 hbW.size, (hbW.cell (p := ⟨L, _, none⟩) h8).trans h6, (hbW.cell (p := ⟨L, _, none⟩) h8).trans h7⟩ : ∃ L g k xs z, A = some ⟨L, 0, none⟩ ∧ S.rows[i] = (xs, z) ∧ RowM.At W ⟨g, k, xs, z⟩ ∧ L < W.heap.size ∧ W.cell? ⟨L, i * 2, none⟩ = some (.slice (some ⟨g, 0, none⟩) xs.length k) ∧ W.cell? ⟨L, i * 2 + 1, none⟩ = some (.int .i64 z)))
  have hz1 : w.heap.size + 1 < W.heap.size := by omega
  generalize w.heap.size + 1 + 1 + x1.sz = H at hsz hQ ⊢
  replace hQ := Lib.hid hQ
  have hP := Lib.hid (⟨P0, R0, R1, Rf⟩ : _ ∧ _ ∧ _ ∧ _)
  replace hbW := Lib.hid hbW
  replace hsz := Lib.hid hsz
  clear hW P0 R0 R1 Rf hrow CN
  go_wp2
  go_loopw [8] (fun iv wr => ∃ (j : Nat) (A' : Option Addr) (n' c' : Nat) (rows' : List RowM), j ≤ M ∧ iv = .int .i64 j ∧ Hid (QAt W wr H ⟨(List.range j).map (resRow S N), N⟩ A' n' c' rows')) (fun iv _ => M - (intOf iv).toNat)
  case atStart => exact ⟨0, none, 0, 0, [], by omega, rfl, hQ⟩
  case round =>
    obtain ⟨j, A', n', c', rows', hj, rfl, hQ⟩ := hrel
    have hS0 := hQ.out.keep.size
    have hH := hQ.out.lt
    by_cases hlt : j < M
    · have hrl := Lib.hid (show rows'.length ≤ 1000 by have := congrArg List.length hQ.out.val; simp at this; omega)
      have p0 := hQ.out.old (by omega) hP.out.1
      have pw : w.heap.size < wr.heap.size := by omega
      have q0 := hQ.out.c0
      have q1 := hQ.out.c1
      have qf := hQ.out.fz 0
      simp only at q1
      have hnx := Lib.hid (show (List.range j).map (resRow S N) ++ [resRow S N j] = (List.range (j + 1)).map (resRow S N) by rw [List.range_succ, List.map_append]; rfl)
      by_cases hin : j < S.rows.length
      · obtain ⟨L, g, k, xs, z, rfl, e1, e2, e3, e4, e5⟩ := hrW.out j hin
        have d0 := hQ.out.old e3 e4
        have d1 := hQ.out.old e3 e5
        have hLr : L < wr.heap.size := Nat.lt_of_lt_of_le e3 hS0
        have X := Lib.hid (e2.rd.below (hQ.out.keep))
        have hl0 := hx2.out j hin
        rw [e1] at hl0
        simp only at hl0
        have RS := Lib.hid (fun w' (h : Rd encC 3 w' (some ⟨g, 0, none⟩) xs) => resize_r (some ⟨g, 0, none⟩) k z N xs w' h hl0)
        have hy := resRow_some (n := N) hin
        rw [e1] at hy
        rw [hN3.out] at RS
        simp only at hy
        have hlen := resR_len xs N
        generalize resR xs N = ys at RS hy hlen
        rw [hy] at hnx
        have hpos := Lib.hid (show 0 < ys.length by omega)
        replace hlen := Lib.hid hlen
        clear e1 e2 hy hl0
        have hin5 : j < 1000 := by omega
        have hob := hQ.out.ft
        have hpb := Lib.hid (show (Value.slice A' n' c').ownBlock ≠ some w.heap.size from fun e => by have := hob _ (.inl e); omega)
        have hLb := Lib.hid (show (Value.slice A' n' c').ownBlock ≠ some L from fun e => by have := hob _ (.inl e); omega)
        clear hob
        go_upto_region 6 with (go_at_call 34; ((with_reducible refine (CM.out _).mono ?_); rintro _ _ hgets; obtain ⟨rfl, x2, rfl⟩ := hgets.get; clear hgets))
        have hby : Below wr.heap.size wr (ext wr x2) := by (repeat' (first | (with_reducible exact Below.refl _ _) | (with_reducible refine Below.alloc ?_ ?_ _) | (with_reducible refine below_ext ?_ ?_ _) | (with_reducible refine Below.drew ?_) | (with_reducible refine below_drewN ?_ _) | (with_reducible refine Below.setCell ?_ ?_ _) | go_size | (simp only [go_sem]; omega) | (simp [go_sem]; done) | (simp [go_sem]; omega)))
        replace hQ := Lib.hid (hQ.out.grow hby)
        replace X := Lib.hid (X.out.below hby)
        replace p0 := (hby.cell (p := ⟨w.heap.size, _, none⟩) pw).trans p0
        replace q0 := (hby.cell (p := ⟨_, _, none⟩) hH).trans q0
        replace q1 := (hby.cell (p := ⟨_, _, none⟩) hH).trans q1
        replace d0 := (hby.cell (p := ⟨_, _, none⟩) hLr).trans d0
        replace d1 := (hby.cell (p := ⟨_, _, none⟩) hLr).trans d1
        replace pw := Nat.lt_of_lt_of_le pw hby.size
        replace hH := Nat.lt_of_lt_of_le hH hby.size
        replace hLr := Nat.lt_of_lt_of_le hLr hby.size
        clear hby hS0 qf
        generalize ext wr x2 = V at hQ X p0 q0 q1 d0 d1 pw hH hLr ⊢
        (refine wp_region_F (S := (fun w' => w'.cell? ⟨H, 0, none⟩ = some (.slice A' n' c') ∧ w'.cell? ⟨H, 1, none⟩ = some (.int .i64 N) ∧ w'.cell? ⟨w.heap.size, 0, none⟩ = some (.slice (some ⟨L, 0, none⟩) S.rows.length nn) ∧ w'.cell? ⟨L, j * 2, none⟩ = some (.slice (some ⟨g, 0, none⟩) xs.length k) ∧ w'.cell? ⟨L, j * 2 + 1, none⟩ = some (.int .i64 z))) 13 [false, false, false, false, false, false, false, false, false, false, false, false, false, false] rfl rfl (by kernel_rfl) ?_ (fun hHeld => ?_); (focus ((try dsimp only); (refine ⟨?_, ?_, ?_, ?_, ?_⟩ <;> simp [go_sem, q0, q1, hH, p0, pw, d0, d1, hLr]); done)))
        ((refine AtF.take (oi := ?_) (v := ?_) 0 ?_ ?_ ?_ ?_ (Or.inl ⟨?_, ?_⟩) (by assumption) ?_; rotate_left 2; rfl; kernel_rfl; kernel_rfl; exact (fun _ _ _ h => h); rfl; (focus (intro w hSw; (try dsimp only at hSw); go_simp; (try with_reducible rfl); done)); (try simp only [Act.put, List.setIfInBounds_toArray, List.set_cons_zero, List.set_cons_succ])); (refine AtF.take (oi := ?_) (v := ?_) 1 ?_ ?_ ?_ ?_ (Or.inl ⟨?_, ?_⟩) (by assumption) ?_; rotate_left 2; rfl; kernel_rfl; kernel_rfl; exact (fun _ _ _ h => h); rfl; (focus (intro w hSw; (try dsimp only at hSw); go_simp; (try with_reducible rfl); done)); (try simp only [Act.put, List.setIfInBounds_toArray, List.set_cons_zero, List.set_cons_succ])); (refine AtF.take (oi := ?_) (v := ?_) 2 ?_ ?_ ?_ ?_ (Or.inl ⟨?_, ?_⟩) (by assumption) ?_; rotate_left 2; rfl; kernel_rfl; kernel_rfl; exact (fun _ _ _ h => h); rfl; (focus (intro w hSw; (try dsimp only at hSw); go_simp; (try with_reducible rfl); done)); (try simp only [Act.put, List.setIfInBounds_toArray, List.set_cons_zero, List.set_cons_succ])); (refine AtF.take (oi := ?_) (v := ?_) 3 ?_ ?_ ?_ ?_ (Or.inl ⟨?_, ?_⟩) (by assumption) ?_; rotate_left 2; rfl; kernel_rfl; kernel_rfl; exact (fun _ _ _ h => h); rfl; (focus (intro w hSw; (try dsimp only at hSw); go_simp; (try with_reducible rfl); done)); (try simp only [Act.put, List.setIfInBounds_toArray, List.set_cons_zero, List.set_cons_succ])); (refine AtF.take (oi := ?_) (v := ?_) 4 ?_ ?_ ?_ ?_ (Or.inl ⟨?_, ?_⟩) (by assumption) ?_; rotate_left 2; rfl; kernel_rfl; kernel_rfl; exact (fun _ _ _ h => h); rfl; (focus (intro w hSw; (try dsimp only at hSw); go_simp; (try with_reducible rfl); done)); (try simp only [Act.put, List.setIfInBounds_toArray, List.set_cons_zero, List.set_cons_succ])); (refine AtF.take (oi := ?_) (v := ?_) 5 ?_ ?_ ?_ ?_ (Or.inl ⟨?_, ?_⟩) (by assumption) ?_; rotate_left 2; rfl; kernel_rfl; kernel_rfl; exact (fun _ _ _ h => h); rfl; (focus (intro w hSw; (try dsimp only at hSw); go_simp; (try with_reducible rfl); done)); (try simp only [Act.put, List.setIfInBounds_toArray, List.set_cons_zero, List.set_cons_succ])); (refine AtF.take (oi := ?_) (v := ?_) 6 ?_ ?_ ?_ ?_ (Or.inl ⟨?_, ?_⟩) (by assumption) ?_; rotate_left 2; rfl; kernel_rfl; kernel_rfl; exact (fun _ _ _ h => h); rfl; (focus (intro w hSw; (try dsimp only at hSw); go_simp; (try with_reducible rfl); done)); (try simp only [Act.put, List.setIfInBounds_toArray, List.set_cons_zero, List.set_cons_succ])); (refine AtF.take (oi := ?_) (v := ?_) 7 ?_ ?_ ?_ ?_ (Or.inl ⟨?_, ?_⟩) (by assumption) ?_; rotate_left 2; rfl; kernel_rfl; kernel_rfl; exact (fun _ _ _ h => h); rfl; (focus (intro w hSw; (try dsimp only at hSw); go_simp; (try with_reducible rfl); done)); (try simp only [Act.put, List.setIfInBounds_toArray, List.set_cons_zero, List.set_cons_succ])); (refine AtF.take (oi := ?_) (v := ?_) 8 ?_ ?_ ?_ ?_ (Or.inl ⟨?_, ?_⟩) (by assumption) ?_; rotate_left 2; rfl; kernel_rfl; kernel_rfl; exact (fun _ _ _ h => h); rfl; (focus (intro w hSw; (try dsimp only at hSw); go_simp; (try with_reducible rfl); done)); (try simp only [Act.put, List.setIfInBounds_toArray, List.set_cons_zero, List.set_cons_succ])))
        (refine AtF.only (oi := ?_) 9 ?_ ?_ (fun K hK => ?_); rotate_left 1; rfl; kernel_rfl; (try go_simp); (go_at_call 112); (with_reducible refine (RS.out _ (by repeat (first | exact X.out | exact X | refine Rd.ext ?_ _ | refine Rd.alloc ?_ _ | refine Rd.drew ?_))).mono ?_); intro _ _ hp; obtain ⟨g', k', x3, rfl, rfl, hR, hg⟩ := newL_row hp hpos.out; (try simp only [ext_drew] at hR); replace hR := Lib.hid hR; replace hg := Lib.hid hg; clear hp; (refine hK.out _ _ ?_ (fun hHeld => ?_)); (focus ((try dsimp only); (refine ⟨?_, ?_, ?_, ?_, ?_⟩ <;> simp [go_sem, q0, q1, hH, p0, pw, d0, d1, hLr]); done)); clear hK K; (try simp only [Act.put, List.setIfInBounds_toArray, List.set_cons_zero, List.set_cons_succ]))
        (refine AtF.only (oi := ?_) 10 ?_ ?_ (fun K hK => ?_); rotate_left 1; rfl; kernel_rfl; (try go_simp); skip; (refine hK.out _ _ ?_ (fun hHeld => ?_)); (focus ((try dsimp only); (refine ⟨?_, ?_, ?_, ?_, ?_⟩ <;> simp [go_sem, q0, q1, hH, p0, pw, d0, d1, hLr]); done)); clear hK K; (try simp only [Act.put, List.setIfInBounds_toArray, List.set_cons_zero, List.set_cons_succ]))
        (refine AtF.only (oi := ?_) 11 ?_ ?_ (fun K hK => ?_); rotate_left 1; rfl; kernel_rfl; refine step_do rfl (q_append (.tmp 24) (.tmp 33) rfl g' k' ys z _ rfl rfl hQ.out (by (repeat' (first | (with_reducible exact Below.refl _ _) | (with_reducible refine Below.alloc ?_ ?_ _) | (with_reducible refine below_ext ?_ ?_ _) | (with_reducible refine Below.drew ?_) | (with_reducible refine below_drewN ?_ _) | (with_reducible refine Below.setCell ?_ ?_ _) | go_size | (simp only [go_sem]; omega) | (simp [go_sem]; done) | (simp [go_sem]; omega)))) (hR.out.grow (by (repeat' (first | (with_reducible exact Below.refl _ _) | (with_reducible refine Below.alloc ?_ ?_ _) | (with_reducible refine below_ext ?_ ?_ _) | (with_reducible refine Below.drew ?_) | (with_reducible refine below_drewN ?_ _) | (with_reducible refine Below.setCell ?_ ?_ _) | go_size | (simp only [go_sem]; omega) | (simp [go_sem]; done) | (simp [go_sem]; omega))))) (Nat.le_trans (by simp [go_sem]) hg.out) (by simp [go_sem]) (by simp [go_sem]) hrl.out ⟨(List.range (j + 1)).map (resRow S N), N⟩ hnx.out rfl ?_); intro A2 n2 c2 x4 rows2 hQ2 y0 y1 yf yl yg; have u0 := (cell_of_heap (i := 0) (yg w.heap.size (Nat.lt_of_lt_of_le pw (by simp [go_sem])) hpb.out)).trans (show _ = some (.slice (some ⟨L, 0, none⟩) S.rows.length nn) by simp [go_sem, p0, pw]); have u1 := (cell_of_heap (i := j * 2) (yg L (Nat.lt_of_lt_of_le hLr (by simp [go_sem])) hLb.out)).trans (show _ = some (.slice (some ⟨g, 0, none⟩) xs.length k) by simp [go_sem, d0, hLr]); have u2 := (cell_of_heap (i := j * 2 + 1) (yg L (Nat.lt_of_lt_of_le hLr (by simp [go_sem])) hLb.out)).trans (show _ = some (.int .i64 z) by simp [go_sem, d1, hLr]); clear yg; (refine hK.out _ _ ?_ (fun hHeld => ?_)); (focus ((try dsimp only); exact ⟨y0, y1, u0, u1, u2⟩; done)); clear hK K; (try simp only [Act.put, List.setIfInBounds_toArray, List.set_cons_zero, List.set_cons_succ]))
        ((refine AtF.take (oi := ?_) (v := ?_) 12 ?_ ?_ ?_ ?_ (Or.inl ⟨?_, ?_⟩) (by assumption) ?_; rotate_left 2; rfl; kernel_rfl; kernel_rfl; exact (fun _ _ _ h => h); rfl; (focus (intro w hSw; (try dsimp only at hSw); go_simp; (try with_reducible rfl); done)); (try simp only [Act.put, List.setIfInBounds_toArray, List.set_cons_zero, List.set_cons_succ])))
        (refine AtF.last (oi := ?_) ?_ ?_ (fun K hK => ?_); rotate_left 1; rfl; kernel_rfl; go_simp; skip; refine hK.out _ _ ?_; clear hK K; (try simp only [Act.put, List.setIfInBounds_toArray, List.set_cons_zero, List.set_cons_succ]))
        go_wp2
        exact ⟨⟨j + 1, A2, n2, c2, rows2, by omega, by go_num, hQ2⟩, by simp [intOf]; omega⟩
      · have NW := Lib.hid (fun w' => new_r N w')
        have hy := resRow_none (n := N) hin
        rw [hN3.out] at NW
        have hlen : (List.replicate N erC).length = N := by simp
        generalize List.replicate N erC = ys at NW hy hlen
        rw [hy] at hnx
        have hpos := Lib.hid (show 0 < ys.length by omega)
        replace hlen := Lib.hid hlen
        clear hy
        go_upto_region 7 with (go_at_call 34; ((with_reducible refine (CM.out _).mono ?_); rintro _ _ hgets; obtain ⟨rfl, x2, rfl⟩ := hgets.get; clear hgets))
        have hby : Below wr.heap.size wr (ext wr x2) := by (repeat' (first | (with_reducible exact Below.refl _ _) | (with_reducible refine Below.alloc ?_ ?_ _) | (with_reducible refine below_ext ?_ ?_ _) | (with_reducible refine Below.drew ?_) | (with_reducible refine below_drewN ?_ _) | (with_reducible refine Below.setCell ?_ ?_ _) | go_size | (simp only [go_sem]; omega) | (simp [go_sem]; done) | (simp [go_sem]; omega)))
        replace hQ := Lib.hid (hQ.out.grow hby)
        replace q0 := (hby.cell (p := ⟨_, _, none⟩) hH).trans q0
        replace q1 := (hby.cell (p := ⟨_, _, none⟩) hH).trans q1
        replace hH := Nat.lt_of_lt_of_le hH hby.size
        clear hby hS0 qf p0 pw
        generalize ext wr x2 = V at hQ q0 q1 hH ⊢
        (refine wp_region_F (S := (fun w' => w'.cell? ⟨H, 0, none⟩ = some (.slice A' n' c') ∧ w'.cell? ⟨H, 1, none⟩ = some (.int .i64 N))) 8 [false, false, false, false, false, false, false, false, false] rfl rfl (by kernel_rfl) ?_ (fun hHeld => ?_); (focus ((try dsimp only); (refine ⟨?_, ?_⟩ <;> simp [go_sem, q0, q1, hH]); done)))
        ((refine AtF.take (oi := ?_) (v := ?_) 0 ?_ ?_ ?_ ?_ (Or.inl ⟨?_, ?_⟩) (by assumption) ?_; rotate_left 2; rfl; kernel_rfl; kernel_rfl; exact (fun _ _ _ h => h); rfl; (focus (intro w hSw; (try dsimp only at hSw); go_simp; (try with_reducible rfl); done)); (try simp only [Act.put, List.setIfInBounds_toArray, List.set_cons_zero, List.set_cons_succ])); (refine AtF.take (oi := ?_) (v := ?_) 1 ?_ ?_ ?_ ?_ (Or.inl ⟨?_, ?_⟩) (by assumption) ?_; rotate_left 2; rfl; kernel_rfl; kernel_rfl; exact (fun _ _ _ h => h); rfl; (focus (intro w hSw; (try dsimp only at hSw); go_simp; (try with_reducible rfl); done)); (try simp only [Act.put, List.setIfInBounds_toArray, List.set_cons_zero, List.set_cons_succ])); (refine AtF.take (oi := ?_) (v := ?_) 2 ?_ ?_ ?_ ?_ (Or.inl ⟨?_, ?_⟩) (by assumption) ?_; rotate_left 2; rfl; kernel_rfl; kernel_rfl; exact (fun _ _ _ h => h); rfl; (focus (intro w hSw; (try dsimp only at hSw); go_simp; (try with_reducible rfl); done)); (try simp only [Act.put, List.setIfInBounds_toArray, List.set_cons_zero, List.set_cons_succ])); (refine AtF.take (oi := ?_) (v := ?_) 3 ?_ ?_ ?_ ?_ (Or.inl ⟨?_, ?_⟩) (by assumption) ?_; rotate_left 2; rfl; kernel_rfl; kernel_rfl; exact (fun _ _ _ h => h); rfl; (focus (intro w hSw; (try dsimp only at hSw); go_simp; (try with_reducible rfl); done)); (try simp only [Act.put, List.setIfInBounds_toArray, List.set_cons_zero, List.set_cons_succ])))
        (refine AtF.only (oi := ?_) 4 ?_ ?_ (fun K hK => ?_); rotate_left 1; rfl; kernel_rfl; (try go_simp); (go_at_call 129); (with_reducible refine (NW.out _).mono ?_); intro _ _ hp; obtain ⟨g', k', x3, rfl, rfl, hR, hg⟩ := newL_row hp hpos.out; (try simp only [ext_drew] at hR); replace hR := Lib.hid hR; replace hg := Lib.hid hg; clear hp; (refine hK.out _ _ ?_ (fun hHeld => ?_)); (focus ((try dsimp only); (refine ⟨?_, ?_⟩ <;> simp [go_sem, q0, q1, hH]); done)); clear hK K; (try simp only [Act.put, List.setIfInBounds_toArray, List.set_cons_zero, List.set_cons_succ]))
        (refine AtF.only (oi := ?_) 5 ?_ ?_ (fun K hK => ?_); rotate_left 1; rfl; kernel_rfl; (try go_simp); skip; (refine hK.out _ _ ?_ (fun hHeld => ?_)); (focus ((try dsimp only); (refine ⟨?_, ?_⟩ <;> simp [go_sem, q0, q1, hH]); done)); clear hK K; (try simp only [Act.put, List.setIfInBounds_toArray, List.set_cons_zero, List.set_cons_succ]))
        (refine AtF.only (oi := ?_) 6 ?_ ?_ (fun K hK => ?_); rotate_left 1; rfl; kernel_rfl; refine step_do rfl (q_append (.tmp 37) (.tmp 41) rfl g' k' ys 0 _ rfl rfl hQ.out (by (repeat' (first | (with_reducible exact Below.refl _ _) | (with_reducible refine Below.alloc ?_ ?_ _) | (with_reducible refine below_ext ?_ ?_ _) | (with_reducible refine Below.drew ?_) | (with_reducible refine below_drewN ?_ _) | (with_reducible refine Below.setCell ?_ ?_ _) | go_size | (simp only [go_sem]; omega) | (simp [go_sem]; done) | (simp [go_sem]; omega)))) (hR.out.grow (by (repeat' (first | (with_reducible exact Below.refl _ _) | (with_reducible refine Below.alloc ?_ ?_ _) | (with_reducible refine below_ext ?_ ?_ _) | (with_reducible refine Below.drew ?_) | (with_reducible refine below_drewN ?_ _) | (with_reducible refine Below.setCell ?_ ?_ _) | go_size | (simp only [go_sem]; omega) | (simp [go_sem]; done) | (simp [go_sem]; omega))))) (Nat.le_trans (by simp [go_sem]) hg.out) (by simp [go_sem]) (by simp [go_sem]) hrl.out ⟨(List.range (j + 1)).map (resRow S N), N⟩ hnx.out rfl ?_); intro A2 n2 c2 x4 rows2 hQ2 y0 y1 yf yl yg; clear yg; (refine hK.out _ _ ?_ (fun hHeld => ?_)); (focus ((try dsimp only); exact ⟨y0, y1⟩; done)); clear hK K; (try simp only [Act.put, List.setIfInBounds_toArray, List.set_cons_zero, List.set_cons_succ]))
        ((refine AtF.take (oi := ?_) (v := ?_) 7 ?_ ?_ ?_ ?_ (Or.inl ⟨?_, ?_⟩) (by assumption) ?_; rotate_left 2; rfl; kernel_rfl; kernel_rfl; exact (fun _ _ _ h => h); rfl; (focus (intro w hSw; (try dsimp only at hSw); go_simp; (try with_reducible rfl); done)); (try simp only [Act.put, List.setIfInBounds_toArray, List.set_cons_zero, List.set_cons_succ])))
        (refine AtF.last (oi := ?_) ?_ ?_ (fun K hK => ?_); rotate_left 1; rfl; kernel_rfl; go_simp; skip; refine hK.out _ _ ?_; clear hK K; (try simp only [Act.put, List.setIfInBounds_toArray, List.set_cons_zero, List.set_cons_succ]))
        go_wp2
        exact ⟨⟨j + 1, A2, n2, c2, rows2, by omega, by go_num, hQ2⟩, by simp [intOf]; omega⟩
    · obtain rfl : j = M := by omega
      have r0 := hQ.out.old hz1 hP.out.2.1
      have r1 := hQ.out.old hz1 hP.out.2.2.1
      have rf := hQ.out.oldf hz1 (hP.out.2.2.2 0)
      have rf1 := hQ.out.oldf hz1 (hP.out.2.2.2 1)
      have q0 := hQ.out.c0
      have q1 := hQ.out.c1
      simp only at q1
      have hR : Hid (R = ⟨(List.range j).map (resRow S N), N⟩) := Lib.hid (by cases R; simp only at hresz hresc; rw [← hresz.out, ← hresc.out])
      replace hQ := Lib.hid (by rw [← hR.out] at hQ; exact hQ.out : QAt W wr H R A' n' c' rows')
      replace q1 : wr.cell? ⟨H, 1, none⟩ = some (.int .i64 N) := q1
      have rl : w.heap.size + 1 < wr.heap.size := by omega
      go_upto_region 8 with (go_at_call 34; ((with_reducible refine (CM.out _).mono ?_); rintro _ _ hgets; obtain ⟨rfl, x2, rfl⟩ := hgets.get; clear hgets))
      have hby : Below wr.heap.size wr (ext wr x2) := by (repeat' (first | (with_reducible exact Below.refl _ _) | (with_reducible refine Below.alloc ?_ ?_ _) | (with_reducible refine below_ext ?_ ?_ _) | (with_reducible refine Below.drew ?_) | (with_reducible refine below_drewN ?_ _) | (with_reducible refine Below.setCell ?_ ?_ _) | go_size | (simp only [go_sem]; omega) | (simp [go_sem]; done) | (simp [go_sem]; omega)))
      obtain ⟨W3, e3, t0, t1, t4⟩ := (hQ.out.grow hby).fin3 hbW.out (by omega) hz1 hP.out.2.1 hP.out.2.2.1
      rw [hresc.out] at e3 t1 t4
      replace t4 := Lib.hid t4
      replace r0 := (hby.cell (p := ⟨w.heap.size + 1, _, none⟩) rl).trans r0
      replace r1 := (hby.cell (p := ⟨w.heap.size + 1, _, none⟩) rl).trans r1
      replace rf := (hby.frozen (p := ⟨w.heap.size + 1, _, none⟩) rl).trans rf
      replace rf1 := (hby.frozen (p := ⟨w.heap.size + 1, _, none⟩) rl).trans rf1
      replace q0 := (hby.cell (p := ⟨_, _, none⟩) hH).trans q0
      replace q1 := (hby.cell (p := ⟨_, _, none⟩) hH).trans q1
      replace hH := Nat.lt_of_lt_of_le hH hby.size
      replace rl := Nat.lt_of_lt_of_le rl hby.size
      clear hby hQ
      generalize ext wr x2 = V at e3 q0 q1 r0 r1 rf rf1 hH rl ⊢
      go_wp2
      simp [bodyPost, go_sem, t0, t1]
      exact ⟨_, by simp [results, Tryz.f111, go_sem, t0, t1] <;> rfl, t4.out⟩
end
theorem ext_of_alloc (w : World) (o : Obj) (x : More) : ext (w.alloc o) x = ext w ⟨#[o] ++ x.objs, x.drawn⟩ := by
  simp only [ext, World.alloc]
  congr 1
  rw [Array.push_eq_append, Array.append_assoc]
theorem lns_swap {w : World} {o o' : Obj} {x : More} {V : Value} {rows : List RowM} (hl : Lns (ext (w.alloc o) x) V rows) (hf : ∀ b, foot V rows b → (w.alloc o).heap.size ≤ b) : Lns (ext (w.alloc o') x) V rows := hl.same fun b hb => by
  have h := hf b hb
  simp at h
  simp only [ext, World.alloc]
  rw [Array.getElem?_append_right (by simpa using h), Array.getElem?_append_right (by simpa using h)]
  simp
set_option maxRecDepth 100000 in
theorem refnew_c (m n : Int) (w : World) : Calls Tryz.prog 82 #[.int .i64 m, .int .i64 n] w (NewRef (resizeS ⟨[], 0⟩ m n) w) := by
  have RS := Lib.hid (fun w' => refresize_c (S := ⟨[], 0⟩) (w := w') (.agg #[.slice none 0 0, .int .i64 0]) m n ⟨_, [], rfl, Lns.nil _, rfl⟩ (fun r hr => by cases hr) (by simp))
  go_enter Tryz.func82, Tryz.ntmps82
  go_wp2_with (first
    | (go_at_call 111
       (with_reducible refine (RS.out _).mono ?_)
       rintro _ _ ⟨V, rws, x1, rfl, rfl, hl1, hv1, hf1⟩
       obtain ⟨A1, c1, rfl, _, _⟩ := hl1.form))
  go_returns
  refine ⟨_, rws, _, rfl, ext_of_alloc _ _ _ , ?_, hv1, fun b hb => ?_⟩
  · rw [← ext_of_alloc]
    exact lns_swap hl1 hf1
  · have := hf1 b hb
    simp at this
    omega
end Go.Proofs.YtignkkejkknddaaGreat
/- The reference's pages: SetLine.  -/
namespace Go.Proofs.YtignkkejkknddaaGreat
open Go.RowKit
set_option linter.unusedVariables false
set_option linter.unusedSimpArgs false

section
variable {t : TypeId} {W wr w : World} {H n c : Nat} {S : PgS} {A : Option Addr} {rows : List RowM}
/-- a cell of an old block is stored: in both worlds -/
theorem qt_both (h : QT t W wr H S A n c rows) {b : Nat} (i : Nat) (v : Value) (hb : b < W.heap.size) : QT t (W.setCell ⟨b, i, none⟩ v) (wr.setCell ⟨b, i, none⟩ v) H S A n c rows := by
  have hs : (W.setCell ⟨b, i, none⟩ v).heap.size = W.heap.size := by simp
  have hlow : ∀ k, W.heap.size ≤ k → (wr.setCell ⟨b, i, none⟩ v).heap[k]? = wr.heap[k]? := fun k hk => Below.heap_setCell _ _ _ _ (by simp only; omega)
  refine ⟨⟨h.keep.os, h.keep.tape, h.keep.output, by simpa [World.setCell] using h.keep.size, fun k hk => ?_⟩, by rw [hs]; exact h.ge, (hlow H h.ge).trans h.blk, h.l.same fun x hx => hlow x (h.ft x hx), h.val, fun x hx => by rw [hs]; exact h.ft x hx, h.ty⟩
  rw [hs] at hk
  have := h.keep.block k hk
  simp only [World.setCell, Array.getElem?_modify]
  rw [this]
end
section
variable {S : PgS} {w : World}
set_option maxRecDepth 100000 in
set_option maxHeartbeats 8000000 in
theorem refset_c (U : Value) (i : Int) (A0 : Option Addr) (C0 : Nat) (xs : List Cl) (sz : Int) (h : RefV w U S) (hS : S.Ok) (rd : Rd encC 3 w A0 xs) (hx : xs.length ≤ 1000000) :
    Calls Tryz.prog 83 #[U, .int .i64 i, lineV A0 xs.length C0 sz] w (NewRef (setLineS S i xs sz) w) := by
  have CP := Lib.hid (fun w' (hb : Below w.heap.size w w') => refcopy_c U S w' (h.grow hb) hS.r2 hS.small)
  have RS := Lib.hid (fun w' (h : Rd encC 3 w' A0 xs) => resize_r A0 C0 sz S.cols xs w' h hx)
  have X := Lib.hid rd
  obtain ⟨A, n, rows, rfl, hl, hv, hn⟩ := h.op
  have hr2 := hS.r2
  have hc1 := hS.c1
  have hc2 := hS.c2
  clear h hl hv hn rd
  obtain ⟨T, hT⟩ : ∃ T, T = setLineS S i xs sz := ⟨_, rfl⟩
  rw [← hT]
  replace hT := Lib.hid hT
  go_enter Tryz.func83, Tryz.ntmps83
  go_upto_region 2 with (first
    | (go_at_call 84
       (with_reducible refine (CP.out _ (by (repeat' (first | (with_reducible exact Below.refl _ _) | (with_reducible refine Below.alloc ?_ ?_ _) | (with_reducible refine below_ext ?_ ?_ _) | (with_reducible refine Below.drew ?_) | (with_reducible refine below_drewN ?_ _) | (with_reducible refine Below.setCell ?_ ?_ _) | go_size | (simp only [go_sem]; omega) | (simp [go_sem]; done) | (simp [go_sem]; omega))))).mono ?_)
       rintro _ _ ⟨V, rws, x1, rfl, rfl, hl1, hv1, hf1⟩
       obtain ⟨A1, c1, rfl, _, _⟩ := hl1.form))
  obtain ⟨W, hW⟩ : ∃ W, W = ((w.alloc (.cells #[.slice A S.rows.length n, .int .i64 S.cols] 39)).alloc (.cells #[.slice A0 xs.length C0, .int .i64 sz] 67)).alloc (.cells #[.slice none 0 0, .int .i64 0] 39) := ⟨_, rfl⟩
  have hsz : W.heap.size = w.heap.size + 1 + 1 + 1 := by rw [hW]; simp
  have hbW : Below w.heap.size w W := by rw [hW]; (repeat' (first | (with_reducible exact Below.refl _ _) | (with_reducible refine Below.alloc ?_ ?_ _) | (with_reducible refine below_ext ?_ ?_ _) | (with_reducible refine Below.drew ?_) | (with_reducible refine below_drewN ?_ _) | (with_reducible refine Below.setCell ?_ ?_ _) | go_size | (simp only [go_sem]; omega) | (simp [go_sem]; done) | (simp [go_sem]; omega)))
  have P0 : W.cell? ⟨w.heap.size, 0, none⟩ = some (.slice A S.rows.length n) := by rw [hW]; simp [go_sem]
  have P1 : W.cell? ⟨w.heap.size, 1, none⟩ = some (.int .i64 S.cols) := by rw [hW]; simp [go_sem]
  have L0 : W.cell? ⟨w.heap.size + 1, 0, none⟩ = some (.slice A0 xs.length C0) := by rw [hW]; simp [go_sem]
  have L1 : W.cell? ⟨w.heap.size + 1, 1, none⟩ = some (.int .i64 sz) := by rw [hW]; simp [go_sem]
  have Lf : ∀ i, W.frozen? ⟨w.heap.size + 1, i, none⟩ = false := by intro i; rw [hW]; simp [go_sem]
  have R0 : W.cell? ⟨w.heap.size + 1 + 1, 0, none⟩ = some (.slice none 0 0) := by rw [hW]; simp [go_sem]
  have R1 : W.cell? ⟨w.heap.size + 1 + 1, 1, none⟩ = some (.int .i64 0) := by rw [hW]; simp [go_sem]
  have Rf : ∀ i, W.frozen? ⟨w.heap.size + 1 + 1, i, none⟩ = false := by intro i; rw [hW]; simp [go_sem]
  rw [← hW] at hl1 hf1 ⊢
  clear hW
  have hQ := q_start hl1 hv1 hf1 hsz
  clear hl1 hv1 hf1
  generalize (ext W x1).alloc (.cells #[.slice A1 rws.length c1, .int .i64 S.cols] 39) = wr at hQ ⊢
  generalize w.heap.size + 1 + 1 + 1 + x1.sz = H at hQ ⊢
  have nr : rws.length = S.rows.length := by have := hQ.num; exact this
  rw [nr] at hQ ⊢
  clear nr CP
  have p0 := hQ.old (by omega) P0
  have hS0 := hQ.keep.size
  have hsp : w.heap.size < wr.heap.size := by omega
  have hbw : Below w.heap.size w wr := hbW.trans (hQ.keep.mono hbW.size)
  by_cases hi : 0 ≤ i ∧ i < S.rows.length
  · obtain ⟨j, rfl⟩ := Int.eq_ofNat_of_zero_le hi.1
    have hj : j < S.rows.length := by omega
    have hnn : newN (S.cols : Int) = S.cols := by unfold newN; omega
    have eT : T = setRowS S j (resR xs (newN (S.cols : Int)), sizeI sz) := by
      rw [hT.out, hnn]
      unfold setLineS
      have ht : thereI S.rows.length j = true := by unfold thereI; simp; omega
      rw [ht, if_pos rfl]
      rfl
    have hyl := (resR_len xs (newN (S.cols : Int))).trans hnn
    generalize resR xs (newN (S.cols : Int)) = ys at RS eT hyl
    have hpos := Lib.hid (show 0 < ys.length by omega)
    replace hyl := Lib.hid hyl
    replace eT := Lib.hid eT
    have p1 := hQ.old (by omega) P1
    have l0 := hQ.old (by omega) L0
    have l1 := hQ.old (by omega) L1
    have lf0 := hQ.oldf (by omega) (Lf 0)
    have lf1 := hQ.oldf (by omega) (Lf 1)
    have hsl : w.heap.size + 1 < wr.heap.size := by omega
    replace X := Lib.hid (X.out.below hbw)
    have hsW : w.heap.size + 1 < W.heap.size := by omega
    clear hT hnn hi
    go_upto_region 5 with (first
      | (go_at_call 112
         (with_reducible refine (RS.out _ (by repeat (first | exact X.out | exact X | refine Rd.ext ?_ _ | refine Rd.alloc ?_ _ | refine Rd.drew ?_))).mono ?_)
         intro _ _ hp
         obtain ⟨g5, k5, x5, rfl, rfl, hR5, hg5⟩ := newL_row hp hpos.out
         clear hp))
    obtain ⟨W2, hW2⟩ : ∃ W2, W2 = (W.setCell ⟨w.heap.size + 1, 0, none⟩ (.slice (some ⟨g5, 0, none⟩) ys.length k5)).setCell ⟨w.heap.size + 1, 1, none⟩ (.int .i64 sz) := ⟨_, rfl⟩
    obtain ⟨V, hV⟩ : ∃ V, V = ext ((wr.setCell ⟨w.heap.size + 1, 0, none⟩ (.slice (some ⟨g5, 0, none⟩) ys.length k5)).setCell ⟨w.heap.size + 1, 1, none⟩ (.int .i64 sz)) x5 := ⟨_, rfl⟩
    have hQ2 : QAt W2 V H S A1 S.rows.length c1 rws := by
      rw [hW2, hV]
      exact (qt_both (qt_both hQ 0 _ hsW) 1 _ (by simpa using hsW)).grow (below_of_ext _ _)
    have hR2 : RowM.At V ⟨g5, k5, ys, sz⟩ := by
      rw [hV, ← setCell_ext _ _ _ _ _ (by simpa using hsl), ← setCell_ext _ _ _ _ _ hsl]
      refine hR5.same ?_
      rw [Below.heap_setCell _ _ _ _ (by simp only; omega), Below.heap_setCell _ _ _ _ (by simp only; omega)]
    have s2 : W2.heap.size = W.heap.size := by rw [hW2]; simp
    have m0 : W2.cell? ⟨w.heap.size + 1, 0, none⟩ = some (.slice (some ⟨g5, 0, none⟩) ys.length k5) := by
      rw [hW2]; exact (World.cell?_setCell_other _ _ _ _ (by simp)).trans (World.cell?_setCell_same _ _ _ L0)
    have m1 : W2.cell? ⟨w.heap.size + 1, 1, none⟩ = some (.int .i64 sz) := by
      rw [hW2]; exact World.cell?_setCell_same _ _ _ ((World.cell?_setCell_other _ _ _ _ (by simp)).trans L1)
    have mf : ∀ q, W2.frozen? ⟨w.heap.size + 1, q, none⟩ = false := fun q => by rw [hW2, World.frozen?_setCell, World.frozen?_setCell]; exact Lf q
    have r0 : W2.cell? ⟨w.heap.size + 1 + 1, 0, none⟩ = some (.slice none 0 0) := by
      rw [hW2]; exact (World.cell?_setCell_other _ _ _ _ (by simp)).trans ((World.cell?_setCell_other _ _ _ _ (by simp)).trans R0)
    have r1 : W2.cell? ⟨w.heap.size + 1 + 1, 1, none⟩ = some (.int .i64 0) := by
      rw [hW2]; exact (World.cell?_setCell_other _ _ _ _ (by simp)).trans ((World.cell?_setCell_other _ _ _ _ (by simp)).trans R1)
    have rf : ∀ q, W2.frozen? ⟨w.heap.size + 1 + 1, q, none⟩ = false := fun q => by rw [hW2, World.frozen?_setCell, World.frozen?_setCell]; exact Rf q
    have hb2 : Below w.heap.size w W2 := by rw [hW2]; exact below_set (below_set hbW _ _ (by simp)) _ _ (by simp)
    rw [← hV]
    clear hV hW2 hR5 p0 p1 l0 l1 lf0 lf1 P0 P1 L0 L1 Lf R0 R1 Rf hbW hbw hS0 hsp hsl X
    have v0 := hQ2.old (by omega) m0
    have v1 := hQ2.old (by omega) m1
    have vf := hQ2.oldf (by omega) (mf 1)
    have hlV : w.heap.size + 1 < V.heap.size := by have := hQ2.keep.size; omega
    replace hg5 := Lib.hid hg5
    go_cut [31] (fun s wx => s = .bool (decide (sz < 0 ∨ 3 < sz)) ∧ wx = V)
    case first =>
      by_cases q1 : sz < 0
      · have d1 : decide (sz < 0) = true := decide_eq_true q1
        go_wp2
        go_meet
        exact ⟨by simp [q1], rfl⟩
      · have d1 : decide (sz < 0) = false := decide_eq_false q1
        go_wp2
        go_meet
        exact ⟨by simp [q1]; try omega, rfl⟩
    obtain ⟨rfl, hwc⟩ := hcut
    rw [hwc]
    clear hwc
    go_upto_if 31 with fail
    go_cut [] (fun wx => ∃ W3, W3.heap.size = W.heap.size ∧ Below w.heap.size w W3 ∧ QAt W3 wx H S A1 S.rows.length c1 rws ∧ W3.cell? ⟨w.heap.size + 1, 0, none⟩ = some (.slice (some ⟨g5, 0, none⟩) ys.length k5) ∧ W3.cell? ⟨w.heap.size + 1, 1, none⟩ = some (.int .i64 (sizeI sz)) ∧
      W3.cell? ⟨w.heap.size + 1 + 1, 0, none⟩ = some (.slice none 0 0) ∧ W3.cell? ⟨w.heap.size + 1 + 1, 1, none⟩ = some (.int .i64 0) ∧ (∀ q, W3.frozen? ⟨w.heap.size + 1 + 1, q, none⟩ = false) ∧ RowM.At wx ⟨g5, k5, ys, sz⟩)
    case first =>
      by_cases q1 : sz < 0 ∨ 3 < sz
      · have d1 : decide (sz < 0 ∨ 3 < sz) = true := decide_eq_true q1
        have e0 : sizeI sz = 0 := by unfold sizeI; rw [if_pos q1]
        have hfin : ∃ W3, W3.heap.size = W.heap.size ∧ Below w.heap.size w W3 ∧ QAt W3 (V.setCell ⟨w.heap.size + 1, 1, none⟩ (.int .i64 0)) H S A1 S.rows.length c1 rws ∧ W3.cell? ⟨w.heap.size + 1, 0, none⟩ = some (.slice (some ⟨g5, 0, none⟩) ys.length k5) ∧ W3.cell? ⟨w.heap.size + 1, 1, none⟩ = some (.int .i64 0) ∧
            W3.cell? ⟨w.heap.size + 1 + 1, 0, none⟩ = some (.slice none 0 0) ∧ W3.cell? ⟨w.heap.size + 1 + 1, 1, none⟩ = some (.int .i64 0) ∧ (∀ q, W3.frozen? ⟨w.heap.size + 1 + 1, q, none⟩ = false) ∧ RowM.At (V.setCell ⟨w.heap.size + 1, 1, none⟩ (.int .i64 0)) ⟨g5, k5, ys, sz⟩ := by
          refine ⟨W2.setCell ⟨w.heap.size + 1, 1, none⟩ (.int .i64 0), by simpa using s2, below_set hb2 _ _ (by simp), qt_both hQ2 1 _ (by omega), (World.cell?_setCell_other _ _ _ _ (by simp)).trans m0, World.cell?_setCell_same _ _ _ m1, (World.cell?_setCell_other _ _ _ _ (by simp)).trans r0, (World.cell?_setCell_other _ _ _ _ (by simp)).trans r1, fun q => by rw [World.frozen?_setCell]; exact rf q, hR2.same ?_⟩
          rw [Below.heap_setCell _ _ _ _ (by have := hg5.out; have := hQ.keep.size; simp only; omega)]
        replace hfin := Lib.hid hfin
        clear hQ2 hR2 m0 m1 mf r0 r1 rf
        go_wp2
        go_meet
        rw [e0]
        exact hfin.out
      · have d1 : decide (sz < 0 ∨ 3 < sz) = false := decide_eq_false q1
        have e0 : sizeI sz = sz := by unfold sizeI; rw [if_neg q1]
        have hfin := Lib.hid (⟨W2, s2, hb2, hQ2, m0, m1, r0, r1, rf, hR2⟩ : ∃ W3, W3.heap.size = W.heap.size ∧ Below w.heap.size w W3 ∧ QAt W3 V H S A1 S.rows.length c1 rws ∧ W3.cell? ⟨w.heap.size + 1, 0, none⟩ = some (.slice (some ⟨g5, 0, none⟩) ys.length k5) ∧ W3.cell? ⟨w.heap.size + 1, 1, none⟩ = some (.int .i64 sz) ∧
            W3.cell? ⟨w.heap.size + 1 + 1, 0, none⟩ = some (.slice none 0 0) ∧ W3.cell? ⟨w.heap.size + 1 + 1, 1, none⟩ = some (.int .i64 0) ∧ (∀ q, W3.frozen? ⟨w.heap.size + 1 + 1, q, none⟩ = false) ∧ RowM.At V ⟨g5, k5, ys, sz⟩)
        clear hQ2 hR2 m0 m1 mf r0 r1 rf
        go_wp2
        go_meet
        rw [e0]
        exact hfin.out
    clear hQ2 hR2 m0 m1 mf r0 r1 rf hb2 s2 v0 v1 vf hlV
    obtain ⟨W3, s3, hb3, hQ3, m0, m1, r0, r1, rf, hR3⟩ := hcut
    generalize sizeI sz = z3 at eT m1
    obtain ⟨L, rfl⟩ := hQ3.some (by omega)
    obtain ⟨g2, k2, xs2, z2, a1, a2, a3, a4, a5, a6, a7, a8, a9⟩ := hQ3.at hj
    have z0 := a8 (j * 2)
    have z1 := a8 (j * 2 + 1)
    have v0 := hQ3.old (by omega) m0
    have v1 := hQ3.old (by omega) m1
    have q0 := hQ3.c0
    have q1 := hQ3.c1
    have hK := hQ3.lt
    have hfresh : ∀ s ∈ rws, s.g ≠ g5 := fun s hs e => by
      have h1 := (hQ.l.row s hs).lt
      have h2 := hg5.out
      omega
    have hnx := hQ3.row hj (show RowM.At _ ⟨g5, k5, ys, z3⟩ from hR3) (by have := hg5.out; have := hQ.keep.size; omega) hfresh
    rw [← eT.out] at hnx
    replace hnx := Lib.hid hnx
    have hlV : w.heap.size + 1 < wc.heap.size := by have := hQ3.keep.size; omega
    replace hQ3 := Lib.hid hQ3
    clear a1 a2 a3 a8 hR3 hfresh
    go_upto_region 8 with fail
    obtain ⟨rows8, hQ4⟩ := hnx.out
    clear hnx q0 q1 hK v0 v1 a6 a7 a9 z0 z1
    generalize (wc.setCell ⟨L, j * 2, none⟩ (.slice (some ⟨g5, 0, none⟩) ys.length k5)).setCell ⟨L, j * 2 + 1, none⟩ (.int .i64 z3) = wz at hQ4 ⊢
    have hTc : T.cols = S.cols := by rw [eT.out]; rfl
    have q0 := hQ4.c0
    have q1 := hQ4.c1
    have hK := hQ4.lt
    have t0' := hQ4.old (by omega) r0
    have t1' := hQ4.old (by omega) r1
    have f0 := hQ4.oldf (by omega) (rf 0)
    have f1 := hQ4.oldf (by omega) (rf 1)
    have hs1 : w.heap.size + 1 + 1 < wz.heap.size := by have := hQ4.keep.size; omega
    obtain ⟨W4, e3, t0, t1, t4⟩ := hQ4.fin3 hb3 (by omega) (show w.heap.size + 1 + 1 < W3.heap.size by omega) r0 r1
    rw [hTc] at e3 t1 q1 t4
    replace t4 := Lib.hid t4
    clear hQ4
    go_wp2
    simp [bodyPost, go_sem, t0, t1]
    exact ⟨_, by simp [results, Tryz.f83, go_sem, t0, t1] <;> rfl, t4.out⟩
  · have eT : T = S := by
      rw [hT.out]
      unfold setLineS
      have ht : thereI S.rows.length i = false := by unfold thereI; simp; omega
      rw [ht]; rfl
    subst eT
    have q0 := hQ.c0
    have q1 := hQ.c1
    have hK := hQ.lt
    have r0 := hQ.old (by omega) R0
    have r1 := hQ.old (by omega) R1
    have rf := hQ.oldf (by omega) (Rf 0)
    have rf1 := hQ.oldf (by omega) (Rf 1)
    have hs1 : w.heap.size + 1 + 1 < wr.heap.size := by omega
    obtain ⟨W4, e3, t0, t1, t4⟩ := hQ.fin3 hbW (by omega) (show w.heap.size + 1 + 1 < W.heap.size by omega) R0 R1
    replace t4 := Lib.hid t4
    clear hT hQ RS
    by_cases i0 : i < 0
    · have d1 : decide (i < 0) = true := decide_eq_true i0
      go_wp2
      simp [bodyPost, go_sem, t0, t1]
      exact ⟨_, by simp [results, Tryz.f83, go_sem, t0, t1] <;> rfl, t4.out⟩
    · have d1 : decide (i < 0) = false := decide_eq_false i0
      have d2 : decide ((T.rows.length : Int) ≤ i) = true := decide_eq_true (by omega)
      go_wp2
      simp [bodyPost, go_sem, t0, t1]
      exact ⟨_, by simp [results, Tryz.f83, go_sem, t0, t1] <;> rfl, t4.out⟩
end
end Go.Proofs.YtignkkejkknddaaGreat
/- Pages: an act of both: what it makes, plainly and in memory.  -/
namespace Go.Proofs.YtignkkejkknddaaGreat
open Go.RowKit
set_option linter.unusedVariables false
set_option linter.unusedSimpArgs false

/-- how both end: the page p and the document's page U' are both T; U' lies in new blocks -/
def DoN (F : Nat → Prop) (p : Nat) (T : PgS) (w : World) (e : Ending) (w' : World) : Prop := ∃ U' F', e = .returned U' ∧ Keep F w w' ∧ PageAt w' F' p T ∧ RefAt w' (fun b => F' b ∨ b < w.heap.size) U' T ∧ ∀ b, F' b → F b ∨ w.heap.size ≤ b
/-- how both end: U' lies off the blocks G, too -/
def DoR (F : Nat → Prop) (p : Nat) (G : Nat → Prop) (T : PgS) (w : World) (e : Ending) (w' : World) : Prop := ∃ U' F', e = .returned U' ∧ Keep F w w' ∧ PageAt w' F' p T ∧ RefAt w' (fun b => F' b ∨ G b) U' T ∧ ∀ b, F' b → F b ∨ w.heap.size ≤ b
theorem DoN.r {F G : Nat → Prop} {p : Nat} {T : PgS} {w w' : World} {e : Ending} (h : DoN F p T w e w') (hG : ∀ b, G b → b < w.heap.size) : DoR F p G T w e w' := by
  obtain ⟨U, F', h1, h2, h3, h4, h5⟩ := h
  exact ⟨U, F', h1, h2, h3, h4.mono (fun b _ hb => hb.imp id (hG b)), h5⟩
end Go.Proofs.YtignkkejkknddaaGreat
/- Pages: what acts make is a page again.  -/
namespace Go.Proofs.YtignkkejkknddaaGreat
set_option linter.unusedVariables false
set_option linter.unusedSimpArgs false

theorem updR_ok {xs : List Cl} {p : Nat → Bool} {g : Nat → Cl → Cl} {j : Nat} (h : ∀ y ∈ xs, y.ok) (hg : ∀ i y, y ∈ xs → p i = true → (g i y).ok) : ∀ y ∈ updR xs p g j, y.ok := fun y hy => by
  obtain ⟨i, hi, rfl⟩ := List.getElem_of_mem hy
  have hi' := hi
  rw [updR_len] at hi'
  rw [updR_get xs p g j i hi']
  split
  · rename_i q
    exact hg i _ (List.getElem_mem hi') q.2
  · exact h _ (List.getElem_mem hi')
theorem eachR_ok {xs : List Cl} {l r : Int} {F : Cl → Cl} (h : ∀ y ∈ xs, y.ok) (hF : ∀ y, y.ok → (F y).ok) : ∀ y ∈ eachR xs l r F, y.ok := updR_ok h fun _ y hy _ => hF y (h y hy)
theorem num_ok (f : Fl) : 0 ≤ f.num ∧ f.num ≤ 255 := by
  obtain ⟨a, b, c, d, e⟩ := f
  cases a <;> cases b <;> cases c <;> cases d <;> cases e <;> decide
theorem applyC_ok {p : List Int} {y : Cl} (h : y.ok) : (applyC p y).ok := ⟨h.1, num_ok _⟩
theorem flipC_ok {p : List Int} {y : Cl} (h : y.ok) : (flipC p y).ok := ⟨h.1, num_ok _⟩
theorem setRowS_ok {S : PgS} (hS : S.Ok) (i : Nat) {v : List Cl × Int} (hl : v.1.length = S.cols) (hv : ∀ y ∈ v.1, y.ok) : (setRowS S i v).Ok := by
  refine ⟨by rw [setRowS_len]; exact hS.r1, by rw [setRowS_len]; exact hS.r2, hS.c1, hS.c2, fun r hr => ?_, fun r hr y hy => ?_⟩
  · rcases List.mem_or_eq_of_mem_set hr with hr | rfl
    · exact hS.wid r hr
    · exact hl
  · rcases List.mem_or_eq_of_mem_set hr with hr | rfl
    · exact hS.ok r hr y hy
    · exact hv y hy
theorem cutR_ok {xs : List Cl} {l r : Int} (h : ∀ y ∈ xs, y.ok) : ∀ y ∈ cutR xs l r, y.ok := fun y hy => h y (List.mem_of_mem_drop (List.mem_of_mem_take hy))
theorem putS_ok {S : PgS} (hS : S.Ok) (i j : Int) {y : Cl} (hy : y.ok) : (putS S i j y).Ok := by
  unfold putS
  split
  · rename_i h
    obtain ⟨a, b, rfl, rfl, ha, hb⟩ := inB_nat h
    have e : S.rows.getD ((a : Int)).toNat ([], 0) = S.rows[a] := by simp [ha]
    refine setRowS_ok hS _ (by rw [e, List.length_set]; exact hS.len ha) (fun c hc => ?_)
    rw [e] at hc
    rcases List.mem_or_eq_of_mem_set hc with hc | rfl
    · exact hS.ok _ (List.getElem_mem ha) c hc
    · exact hy
  · exact hS
end Go.Proofs.YtignkkejkknddaaGreat
