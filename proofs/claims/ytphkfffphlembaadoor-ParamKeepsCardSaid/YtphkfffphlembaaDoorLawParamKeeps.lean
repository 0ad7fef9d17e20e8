/- ParamKeeps: no call of param changes what it is handed, and its lists are memory of their own. Every list, every text. -/
import Derived.Test.YtphkfffphlembaaDoorKp
import Derived.Test.YtphkfffphlembaaDoorFrameCard
import Derived.Deep.DeepCutAuto
namespace Go.Proofs.YtphkfffphlembaaDoor
open Go.ChangeShapes Go.WideShapes Go.ChangeAt Go.RowKit
set_option linter.unusedVariables false
set_option linter.unusedSimpArgs false

theorem Clp.setFar {M : Nat} {w : World} {A : Option Addr} {xs : List Int} (h : Clp M w A xs) {p i : Nat} (hp : p < M) (v : Value) : Clp M (w.setCell ⟨p, i, none⟩ v) A xs := by
  rcases h with h | ⟨g, cur, h1, h2, h3, h4, h5⟩
  · exact .inl h
  · exact .inr ⟨g, cur, h1, h2, (set_far (by omega)).trans h3, h4, h5⟩
theorem Clp.setOwn {B g k : Nat} {w : World} {zs : List Int} (h : Clp B w (some ⟨g, 0, none⟩) zs) (hk : k < zs.length) (v : Int) : Clp B (w.setCell ⟨g, k, none⟩ (.int .i64 v)) (some ⟨g, 0, none⟩) (zs.set k v) := by
  rcases h with ⟨h1, _⟩ | ⟨g', cur, h1, h2, h3, h4, h5⟩
  · cases h1
  · injection h1 with h1
    injection h1 with h1
    subst h1
    refine .inr ⟨g, cur.setIfInBounds k (.int .i64 v), rfl, h2, by simp [World.setCell, Array.getElem?_modify, h3], by simp; exact h4, fun i hi => ?_⟩
    have hi2 : i < zs.length := by simpa using hi
    rw [Array.getElem?_setIfInBounds]
    by_cases e : k = i
    · subst e
      rw [if_pos rfl, if_pos (by omega)]
      simp
    · rw [if_neg e, h5 i hi2, List.getElem_set_ne e]
theorem Clp.at {B g : Nat} {w : World} {zs : List Int} (h : Clp B w (some ⟨g, 0, none⟩) zs) : B ≤ g ∧ g < w.heap.size ∧ (∀ i, w.frozen? ⟨g, i, none⟩ = false) ∧ ∀ i (hi : i < zs.length), w.cell? ⟨g, i, none⟩ = some (.int .i64 zs[i]) := by
  rcases h with ⟨h1, _⟩ | ⟨g', cur, h1, h2, h3, h4, h5⟩
  · cases h1
  · injection h1 with h1
    injection h1 with h1
    subst h1
    exact ⟨h2, heap_in h3, fun i => frozen_in h3, fun i hi => by rw [cell_in h3, h5 i hi]⟩
theorem ints2 {w : World} {g : Nat} (a b : Int) (hg : g = w.heap.size) : Ints (w.alloc (.cells #[.int .i64 a, .int .i64 b] 3)) (some ⟨g, 0, none⟩) [a, b] :=
  (Own.new (B := 0) (e := 3) (encI_len _) hg (xs := [a, b]) (rfl : (2 : Nat) = [a, b].length) _ rfl (Nat.zero_le _) (by simp [maxLen])).rd (encI_len _)
theorem Rd.grow {α : Type} {enc : α → List Value} {size : Nat} {w w' : World} {A : Option Addr} {xs : List α} (h : Rd enc size w A xs) (hb : Below w.heap.size w w') : Rd enc size w' A xs := by
  obtain ⟨x, rfl⟩ := ext_of hb
  exact h.ext x
theorem Rd.take {α : Type} {enc : α → List Value} {size : Nat} {w : World} {A : Option Addr} {xs : List α} (h : Rd enc size w A xs) (m : Nat) : Rd enc size w A (xs.take m) := fun h0 => by
  have hl : 0 < xs.length := by rw [List.length_take] at h0; omega
  obtain ⟨b, o, e, hb, hc⟩ := h hl
  refine ⟨b, o, e, hb, fun i hi j v hv => ?_⟩
  have hi2 : i < xs.length := by rw [List.length_take] at hi; omega
  exact hc i hi2 j v (by rw [List.getElem_take] at hv; exact hv)
set_option maxRecDepth 100000 in
set_option maxHeartbeats 8000000 in
theorem ParamKeeps_walk (W : World) (ht : Tab W) (a : Option Addr) (c : Nat) (xs : List Int) (rd : Ints W a xs) (hc : xs.length ≤ c) (hm : c ≤ maxLen) (wf : ∀ z ∈ xs, (Lit.int .i64 z).wf = true) (re : c * 8 ≤ 140737488351232) (s : ByteArray) (ws : s.size ≤ maxLen) :
    Calls Tryd.prog 8 #[.slice a xs.length c, .string s] W (Gives W (.bool true)) := by
  have AW := Lib.hid (awake_4 W ht)
  have HT := Lib.hid ht
  have RD := Lib.hid rd
  have RW := Lib.hid rd
  have TW := Lib.hid ht
  simp only [maxLen] at ws hm
  clear ht rd wf
  by_cases h60 : 60 < xs.length
  · go_enter Tryd.func8, Tryd.ntmps8
    go_wp2_with (go_at_call 10; ((with_reducible refine (AW.out).mono ?_); rintro _ _ hgets; obtain ⟨rfl, x1, rfl⟩ := hgets.get; clear hgets))
    go_returns
    exact ⟨rfl, by (repeat' (first | (with_reducible exact Below.refl _ _) | (with_reducible refine Below.alloc ?_ ?_ _) | (with_reducible refine below_ext ?_ ?_ _) | (with_reducible refine Below.drew ?_) | (with_reducible refine below_drewN ?_ _) | (with_reducible refine Below.setCell ?_ ?_ _) | go_size | (simp only [go_sem]; omega) | (simp [go_sem]; done) | (simp [go_sem]; omega)))⟩
  by_cases h300 : 300 < s.size
  · go_enter Tryd.func8, Tryd.ntmps8
    go_wp2_with (go_at_call 10; ((with_reducible refine (AW.out).mono ?_); rintro _ _ hgets; obtain ⟨rfl, x1, rfl⟩ := hgets.get; clear hgets))
    go_returns
    exact ⟨rfl, by (repeat' (first | (with_reducible exact Below.refl _ _) | (with_reducible refine Below.alloc ?_ ?_ _) | (with_reducible refine below_ext ?_ ?_ _) | (with_reducible refine Below.drew ?_) | (with_reducible refine below_drewN ?_ _) | (with_reducible refine Below.setCell ?_ ?_ _) | go_size | (simp only [go_sem]; omega) | (simp [go_sem]; done) | (simp [go_sem]; omega)))⟩
  go_enter Tryd.func8, Tryd.ntmps8
  go_upto_if 24 with (go_at_call 10; ((with_reducible refine (AW.out).mono ?_); rintro _ _ hgets; obtain ⟨rfl, x1, rfl⟩ := hgets.get; clear hgets))
  have hB1 : Below W.heap.size W (ext W x1) := below_of_ext W x1
  replace RD := Lib.hid (RD.out.ext x1)
  replace HT := Lib.hid (HT.out.ext x1)
  clear AW
  generalize ext W x1 = w1 at hB1 RD HT ⊢
  obtain ⟨x0, hrun, hb0⟩ := make_b w1 (xs.length + 4) (by omega)
  have hmk : (Instr.makeSlice 23 (.int .i64 ((xs.length : Int) + 4)) (.int .i64 ((xs.length : Int) + 4))).run Tryd.prog w1 = .ok (.slice (some ⟨w1.heap.size, 0, none⟩) (xs.length + 4) (xs.length + 4)) (ext w1 x0) := by simpa using hrun
  have hB2 : Below W.heap.size W (ext w1 x0) := hB1.trans ((below_of_ext w1 x0).mono hB1.size)
  have hg : W.heap.size ≤ w1.heap.size := hB1.size
  replace RD := Lib.hid (RD.out.ext x0)
  replace HT := Lib.hid (HT.out.ext x0)
  clear hrun hB1
  generalize ext w1 x0 = w2 at hmk hb0 hB2 RD HT
  generalize w1.heap.size = g at hmk hb0 hg
  obtain ⟨w3, hcp0, hb3, hk3⟩ := copy_b (d := xs.length + 4) (c := c) hb0 RD.out (by simp) 3
  rw [List.length_replicate] at hcp0
  rw [mixK_zero] at hb3
  have hB3 : Below W.heap.size W w3 := hB2.trans (hk3.below (fun b hb => by omega) hB2.size)
  replace hB3 := Lib.hid hB3
  replace hb3 := Lib.hid hb3
  clear hb0 hB2 hk3 RD HT
  go_wp2
  go_loopw [6] (fun i wr => ∃ (k : Nat), k ≤ 4 ∧ i = .int .i64 ((xs.length + k : Nat) : Int) ∧ Hid (Below W.heap.size W wr) ∧ Hid (Blk wr g (mixK xs k))) (fun i _ => xs.length + 4 - (intOf i).toNat)
  case atStart => exact ⟨0, by omega, rfl, hB3, hb3⟩
  case round =>
    obtain ⟨k, hk, rfl, hB, hb⟩ := hrel
    by_cases hlt : k < 4
    · have hl := mixK_len xs k
      have hcell := hb.out.cell (i := xs.length + k) (by omega)
      have hfz := hb.out.fz (i := xs.length + k)
      have hgs := hb.out.lt
      have hnew : Hid (Blk (wr.setCell ⟨g, xs.length + k, none⟩ (.int .i64 (70000 + ((xs.length + k : Nat) : Int)))) g (mixK xs (k + 1))) := Lib.hid (by
        rw [← mixK_step xs k hlt]
        exact hb.out.set)
      have hBn := Lib.hid (hB.out.setCell (p := ⟨g, xs.length + k, none⟩) hg (.int .i64 (70000 + ((xs.length + k : Nat) : Int))))
      generalize (mixK xs k)[xs.length + k] = old at hcell
      clear hl hb
      generalize hN : xs.length + k = N at hcell hfz hnew hBn ⊢
      have hN2 : N < xs.length + 4 := by omega
      have HN := Lib.hid hN
      clear hN
      go_wp2
      go_roundw
      case rel => exact ⟨k + 1, by omega, by rw [← HN.out]; go_num, hBn, hnew⟩
      case measure => simp [intOf]; omega
    · obtain rfl : k = 4 := by omega
      have HT := Lib.hid (TW.out.grow hB.out)
      have hX := Lib.hid (by have := hb.out.rd.take xs.length; rwa [mixK_take] at this : Ints wr (some ⟨g, 0, none⟩) xs)
      have GC := Lib.hid (fun x => get_c (c := xs.length + 4) 0 1 (ext wr x) (hX.out.ext x) (by omega))
      go_wp2_with (first
        | (go_at_call 14; ((with_reducible refine (fmt_c _ hX.out (by omega) (by omega) HT.out).mono ?_); rintro _ _ hgets; obtain ⟨rfl, x4, rfl⟩ := hgets.get; clear hgets))
        | (go_at_call 17; ((with_reducible refine (GC.out _).mono ?_); rintro _ _ ⟨rfl, rfl⟩)))
      have hb4 := Lib.hid (hb.out.ext x4)
      have hB4 := Lib.hid (hB.out.trans ((below_of_ext wr x4).mono hB.out.size))
      clear hb hB hX GC HT
      generalize ext wr x4 = w4 at hb4 hB4 ⊢
      have hml := mixK_len xs 4
      have MI := Lib.hid (mixK_in xs)
      have MO := Lib.hid (mixK_out xs)
      have PA := Lib.hid (fun w' => parse_c s (by omega) w')
      have PR := Lib.hid (fun w' => parse_r s (by omega) w')
      have hyl := (parseV_ok (bytesOf s)).1
      generalize parseV (bytesOf s) = ys at PA PR hyl
      generalize parseE (bytesOf s) = er at PA PR
      have SI : Hid (∀ (w' : World) (A B : Option Addr) (c d : Nat), Ints w' A ys → Ints w' B ys → Calls Tryd.prog 13 #[.slice A ys.length c, .slice B ys.length d] w' (Gives w' (.bool true))) := Lib.hid (fun w' A B c d h1 h2 => by
        have := same_ints A B c d ys ys w' h1 h2 (by omega) (by omega)
        simpa using this)
      go_loopw [57] (fun i w5 => ∃ (k : Nat), k ≤ xs.length + 4 ∧ i = .int .i64 k ∧ Hid (Below W.heap.size W w5) ∧ Hid (Blk w5 g (mixK xs 4))) (fun i _ => xs.length + 4 - (intOf i).toNat)
      case atStart => exact ⟨0, by omega, rfl, hB4, hb4⟩
      case round =>
        obtain ⟨k, hk, rfl, hB, hb⟩ := hrel
        by_cases hlt2 : k < xs.length + 4
        · have hcell := hb.out.cell (i := k) (by omega)
          have hgs := hb.out.lt
          by_cases hin : k < xs.length
          · rw [MI.out k hin (by omega)] at hcell
            have hIn : Ints wr a xs := RW.out.grow hB.out
            obtain ⟨b2, o2, rfl, hb2, hc2⟩ := hIn.cell hin
            clear hIn
            generalize xs[k] = v at hcell hc2
            go_wp2
            have e1 : decide ((k : Int) < (xs.length : Int)) = true := decide_eq_true (by omega)
            have ew : IntKind.i64.wrap (70000 + (k : Int)) = 70000 + (k : Int) := by rw [IntKind.wrap_i64]; omega
            have e4 : decide (xs.length ≤ k) = false := decide_eq_false (by omega)
            have e5 : decide (k < xs.length) = true := decide_eq_true (by omega)
            have e3 : decide ((xs.length : Int) ≤ (k : Int)) = false := decide_eq_false (by omega)
            (refine wp_region_F (S := (fun w' => w'.cell? ⟨g, k, none⟩ = some (.int .i64 v) ∧ w'.cell? ⟨b2, o2 + k, none⟩ = some (.int .i64 v))) 29 [false, false, false, false, false, false, false, false, false, false, false, false, false, false, false, false, false, false, false, false, false, false, false, false, false, false, false, false, false, false] rfl rfl (by kernel_rfl) ?_ (fun hHeld => ?_); (focus ((try dsimp only); (simp [go_sem, hcell, hc2]); done)))
            ((first | (refine AtF.take (oi := ?_) (v := ?_) 0 ?_ ?_ ?_ ?_ (Or.inl ⟨?_, ?_⟩) (by assumption) ?_; rotate_left 2; rfl; kernel_rfl; kernel_rfl; exact (fun _ _ _ h => h); rfl; (focus (intro w hSw; (try dsimp only at hSw); go_simp; (try with_reducible rfl); done))) | (refine AtF.take (oi := ?_) (v := ?_) 0 ?_ ?_ ?_ ?_ (Or.inr ⟨?_, ?_⟩) (by assumption) ?_; rotate_left 2; rfl; kernel_rfl; kernel_rfl; exact (fun _ _ _ h => h); rfl; rfl)); (try simp only [Act.put, List.setIfInBounds_toArray, List.set_cons_zero, List.set_cons_succ]); (first | (refine AtF.take (oi := ?_) (v := ?_) 1 ?_ ?_ ?_ ?_ (Or.inl ⟨?_, ?_⟩) (by assumption) ?_; rotate_left 2; rfl; kernel_rfl; kernel_rfl; exact (fun _ _ _ h => h); rfl; (focus (intro w hSw; (try dsimp only at hSw); go_simp; (try with_reducible rfl); done))) | (refine AtF.take (oi := ?_) (v := ?_) 1 ?_ ?_ ?_ ?_ (Or.inr ⟨?_, ?_⟩) (by assumption) ?_; rotate_left 2; rfl; kernel_rfl; kernel_rfl; exact (fun _ _ _ h => h); rfl; rfl)); (try simp only [Act.put, List.setIfInBounds_toArray, List.set_cons_zero, List.set_cons_succ]); (first | (refine AtF.take (oi := ?_) (v := ?_) 2 ?_ ?_ ?_ ?_ (Or.inl ⟨?_, ?_⟩) (by assumption) ?_; rotate_left 2; rfl; kernel_rfl; kernel_rfl; exact (fun _ _ _ h => h); rfl; (focus (intro w hSw; (try dsimp only at hSw); go_simp; (try with_reducible rfl); done))) | (refine AtF.take (oi := ?_) (v := ?_) 2 ?_ ?_ ?_ ?_ (Or.inr ⟨?_, ?_⟩) (by assumption) ?_; rotate_left 2; rfl; kernel_rfl; kernel_rfl; exact (fun _ _ _ h => h); rfl; rfl)); (try simp only [Act.put, List.setIfInBounds_toArray, List.set_cons_zero, List.set_cons_succ]); (first | (refine AtF.take (oi := ?_) (v := ?_) 3 ?_ ?_ ?_ ?_ (Or.inl ⟨?_, ?_⟩) (by assumption) ?_; rotate_left 2; rfl; kernel_rfl; kernel_rfl; exact (fun _ _ _ h => h); rfl; (focus (intro w hSw; (try dsimp only at hSw); go_simp; (try with_reducible rfl); done))) | (refine AtF.take (oi := ?_) (v := ?_) 3 ?_ ?_ ?_ ?_ (Or.inr ⟨?_, ?_⟩) (by assumption) ?_; rotate_left 2; rfl; kernel_rfl; kernel_rfl; exact (fun _ _ _ h => h); rfl; rfl)); (try simp only [Act.put, List.setIfInBounds_toArray, List.set_cons_zero, List.set_cons_succ]))
            (try simp only [e1, e3, e4, e5, ew, bne_self_eq_false])
            ((first | (refine AtF.take (oi := ?_) (v := ?_) 4 ?_ ?_ ?_ ?_ (Or.inl ⟨?_, ?_⟩) (by assumption) ?_; rotate_left 2; rfl; kernel_rfl; kernel_rfl; exact (fun _ _ _ h => h); rfl; (focus (intro w hSw; (try dsimp only at hSw); go_simp; (try with_reducible rfl); done))) | (refine AtF.take (oi := ?_) (v := ?_) 4 ?_ ?_ ?_ ?_ (Or.inr ⟨?_, ?_⟩) (by assumption) ?_; rotate_left 2; rfl; kernel_rfl; kernel_rfl; exact (fun _ _ _ h => h); rfl; rfl)); (try simp only [Act.put, List.setIfInBounds_toArray, List.set_cons_zero, List.set_cons_succ]); (first | (refine AtF.take (oi := ?_) (v := ?_) 5 ?_ ?_ ?_ ?_ (Or.inl ⟨?_, ?_⟩) (by assumption) ?_; rotate_left 2; rfl; kernel_rfl; kernel_rfl; exact (fun _ _ _ h => h); rfl; (focus (intro w hSw; (try dsimp only at hSw); go_simp; (try with_reducible rfl); done))) | (refine AtF.take (oi := ?_) (v := ?_) 5 ?_ ?_ ?_ ?_ (Or.inr ⟨?_, ?_⟩) (by assumption) ?_; rotate_left 2; rfl; kernel_rfl; kernel_rfl; exact (fun _ _ _ h => h); rfl; rfl)); (try simp only [Act.put, List.setIfInBounds_toArray, List.set_cons_zero, List.set_cons_succ]); (first | (refine AtF.take (oi := ?_) (v := ?_) 6 ?_ ?_ ?_ ?_ (Or.inl ⟨?_, ?_⟩) (by assumption) ?_; rotate_left 2; rfl; kernel_rfl; kernel_rfl; exact (fun _ _ _ h => h); rfl; (focus (intro w hSw; (try dsimp only at hSw); go_simp; (try with_reducible rfl); done))) | (refine AtF.take (oi := ?_) (v := ?_) 6 ?_ ?_ ?_ ?_ (Or.inr ⟨?_, ?_⟩) (by assumption) ?_; rotate_left 2; rfl; kernel_rfl; kernel_rfl; exact (fun _ _ _ h => h); rfl; rfl)); (try simp only [Act.put, List.setIfInBounds_toArray, List.set_cons_zero, List.set_cons_succ]); (first | (refine AtF.take (oi := ?_) (v := ?_) 7 ?_ ?_ ?_ ?_ (Or.inl ⟨?_, ?_⟩) (by assumption) ?_; rotate_left 2; rfl; kernel_rfl; kernel_rfl; exact (fun _ _ _ h => h); rfl; (focus (intro w hSw; (try dsimp only at hSw); go_simp; (try with_reducible rfl); done))) | (refine AtF.take (oi := ?_) (v := ?_) 7 ?_ ?_ ?_ ?_ (Or.inr ⟨?_, ?_⟩) (by assumption) ?_; rotate_left 2; rfl; kernel_rfl; kernel_rfl; exact (fun _ _ _ h => h); rfl; rfl)); (try simp only [Act.put, List.setIfInBounds_toArray, List.set_cons_zero, List.set_cons_succ]); (first | (refine AtF.take (oi := ?_) (v := ?_) 8 ?_ ?_ ?_ ?_ (Or.inl ⟨?_, ?_⟩) (by assumption) ?_; rotate_left 2; rfl; kernel_rfl; kernel_rfl; exact (fun _ _ _ h => h); rfl; (focus (intro w hSw; (try dsimp only at hSw); go_simp; (try with_reducible rfl); done))) | (refine AtF.take (oi := ?_) (v := ?_) 8 ?_ ?_ ?_ ?_ (Or.inr ⟨?_, ?_⟩) (by assumption) ?_; rotate_left 2; rfl; kernel_rfl; kernel_rfl; exact (fun _ _ _ h => h); rfl; rfl)); (try simp only [Act.put, List.setIfInBounds_toArray, List.set_cons_zero, List.set_cons_succ]); (first | (refine AtF.take (oi := ?_) (v := ?_) 9 ?_ ?_ ?_ ?_ (Or.inl ⟨?_, ?_⟩) (by assumption) ?_; rotate_left 2; rfl; kernel_rfl; kernel_rfl; exact (fun _ _ _ h => h); rfl; (focus (intro w hSw; (try dsimp only at hSw); go_simp; (try with_reducible rfl); done))) | (refine AtF.take (oi := ?_) (v := ?_) 9 ?_ ?_ ?_ ?_ (Or.inr ⟨?_, ?_⟩) (by assumption) ?_; rotate_left 2; rfl; kernel_rfl; kernel_rfl; exact (fun _ _ _ h => h); rfl; rfl)); (try simp only [Act.put, List.setIfInBounds_toArray, List.set_cons_zero, List.set_cons_succ]); (first | (refine AtF.take (oi := ?_) (v := ?_) 10 ?_ ?_ ?_ ?_ (Or.inl ⟨?_, ?_⟩) (by assumption) ?_; rotate_left 2; rfl; kernel_rfl; kernel_rfl; exact (fun _ _ _ h => h); rfl; (focus (intro w hSw; (try dsimp only at hSw); go_simp; (try with_reducible rfl); done))) | (refine AtF.take (oi := ?_) (v := ?_) 10 ?_ ?_ ?_ ?_ (Or.inr ⟨?_, ?_⟩) (by assumption) ?_; rotate_left 2; rfl; kernel_rfl; kernel_rfl; exact (fun _ _ _ h => h); rfl; rfl)); (try simp only [Act.put, List.setIfInBounds_toArray, List.set_cons_zero, List.set_cons_succ]); (first | (refine AtF.take (oi := ?_) (v := ?_) 11 ?_ ?_ ?_ ?_ (Or.inl ⟨?_, ?_⟩) (by assumption) ?_; rotate_left 2; rfl; kernel_rfl; kernel_rfl; exact (fun _ _ _ h => h); rfl; (focus (intro w hSw; (try dsimp only at hSw); go_simp; (try with_reducible rfl); done))) | (refine AtF.take (oi := ?_) (v := ?_) 11 ?_ ?_ ?_ ?_ (Or.inr ⟨?_, ?_⟩) (by assumption) ?_; rotate_left 2; rfl; kernel_rfl; kernel_rfl; exact (fun _ _ _ h => h); rfl; rfl)); (try simp only [Act.put, List.setIfInBounds_toArray, List.set_cons_zero, List.set_cons_succ]); (first | (refine AtF.take (oi := ?_) (v := ?_) 12 ?_ ?_ ?_ ?_ (Or.inl ⟨?_, ?_⟩) (by assumption) ?_; rotate_left 2; rfl; kernel_rfl; kernel_rfl; exact (fun _ _ _ h => h); rfl; (focus (intro w hSw; (try dsimp only at hSw); go_simp; (try with_reducible rfl); done))) | (refine AtF.take (oi := ?_) (v := ?_) 12 ?_ ?_ ?_ ?_ (Or.inr ⟨?_, ?_⟩) (by assumption) ?_; rotate_left 2; rfl; kernel_rfl; kernel_rfl; exact (fun _ _ _ h => h); rfl; rfl)); (try simp only [Act.put, List.setIfInBounds_toArray, List.set_cons_zero, List.set_cons_succ]); (first | (refine AtF.take (oi := ?_) (v := ?_) 13 ?_ ?_ ?_ ?_ (Or.inl ⟨?_, ?_⟩) (by assumption) ?_; rotate_left 2; rfl; kernel_rfl; kernel_rfl; exact (fun _ _ _ h => h); rfl; (focus (intro w hSw; (try dsimp only at hSw); go_simp; (try with_reducible rfl); done))) | (refine AtF.take (oi := ?_) (v := ?_) 13 ?_ ?_ ?_ ?_ (Or.inr ⟨?_, ?_⟩) (by assumption) ?_; rotate_left 2; rfl; kernel_rfl; kernel_rfl; exact (fun _ _ _ h => h); rfl; rfl)); (try simp only [Act.put, List.setIfInBounds_toArray, List.set_cons_zero, List.set_cons_succ]))
            (try simp only [e1, e3, e4, e5, ew, bne_self_eq_false])
            ((first | (refine AtF.take (oi := ?_) (v := ?_) 14 ?_ ?_ ?_ ?_ (Or.inl ⟨?_, ?_⟩) (by assumption) ?_; rotate_left 2; rfl; kernel_rfl; kernel_rfl; exact (fun _ _ _ h => h); rfl; (focus (intro w hSw; (try dsimp only at hSw); go_simp; (try with_reducible rfl); done))) | (refine AtF.take (oi := ?_) (v := ?_) 14 ?_ ?_ ?_ ?_ (Or.inr ⟨?_, ?_⟩) (by assumption) ?_; rotate_left 2; rfl; kernel_rfl; kernel_rfl; exact (fun _ _ _ h => h); rfl; rfl)); (try simp only [Act.put, List.setIfInBounds_toArray, List.set_cons_zero, List.set_cons_succ]); (first | (refine AtF.take (oi := ?_) (v := ?_) 15 ?_ ?_ ?_ ?_ (Or.inl ⟨?_, ?_⟩) (by assumption) ?_; rotate_left 2; rfl; kernel_rfl; kernel_rfl; exact (fun _ _ _ h => h); rfl; (focus (intro w hSw; (try dsimp only at hSw); go_simp; (try with_reducible rfl); done))) | (refine AtF.take (oi := ?_) (v := ?_) 15 ?_ ?_ ?_ ?_ (Or.inr ⟨?_, ?_⟩) (by assumption) ?_; rotate_left 2; rfl; kernel_rfl; kernel_rfl; exact (fun _ _ _ h => h); rfl; rfl)); (try simp only [Act.put, List.setIfInBounds_toArray, List.set_cons_zero, List.set_cons_succ]); (first | (refine AtF.take (oi := ?_) (v := ?_) 16 ?_ ?_ ?_ ?_ (Or.inl ⟨?_, ?_⟩) (by assumption) ?_; rotate_left 2; rfl; kernel_rfl; kernel_rfl; exact (fun _ _ _ h => h); rfl; (focus (intro w hSw; (try dsimp only at hSw); go_simp; (try with_reducible rfl); done))) | (refine AtF.take (oi := ?_) (v := ?_) 16 ?_ ?_ ?_ ?_ (Or.inr ⟨?_, ?_⟩) (by assumption) ?_; rotate_left 2; rfl; kernel_rfl; kernel_rfl; exact (fun _ _ _ h => h); rfl; rfl)); (try simp only [Act.put, List.setIfInBounds_toArray, List.set_cons_zero, List.set_cons_succ]); (first | (refine AtF.take (oi := ?_) (v := ?_) 17 ?_ ?_ ?_ ?_ (Or.inl ⟨?_, ?_⟩) (by assumption) ?_; rotate_left 2; rfl; kernel_rfl; kernel_rfl; exact (fun _ _ _ h => h); rfl; (focus (intro w hSw; (try dsimp only at hSw); go_simp; (try with_reducible rfl); done))) | (refine AtF.take (oi := ?_) (v := ?_) 17 ?_ ?_ ?_ ?_ (Or.inr ⟨?_, ?_⟩) (by assumption) ?_; rotate_left 2; rfl; kernel_rfl; kernel_rfl; exact (fun _ _ _ h => h); rfl; rfl)); (try simp only [Act.put, List.setIfInBounds_toArray, List.set_cons_zero, List.set_cons_succ]); (first | (refine AtF.take (oi := ?_) (v := ?_) 18 ?_ ?_ ?_ ?_ (Or.inl ⟨?_, ?_⟩) (by assumption) ?_; rotate_left 2; rfl; kernel_rfl; kernel_rfl; exact (fun _ _ _ h => h); rfl; (focus (intro w hSw; (try dsimp only at hSw); go_simp; (try with_reducible rfl); done))) | (refine AtF.take (oi := ?_) (v := ?_) 18 ?_ ?_ ?_ ?_ (Or.inr ⟨?_, ?_⟩) (by assumption) ?_; rotate_left 2; rfl; kernel_rfl; kernel_rfl; exact (fun _ _ _ h => h); rfl; rfl)); (try simp only [Act.put, List.setIfInBounds_toArray, List.set_cons_zero, List.set_cons_succ]); (first | (refine AtF.take (oi := ?_) (v := ?_) 19 ?_ ?_ ?_ ?_ (Or.inl ⟨?_, ?_⟩) (by assumption) ?_; rotate_left 2; rfl; kernel_rfl; kernel_rfl; exact (fun _ _ _ h => h); rfl; (focus (intro w hSw; (try dsimp only at hSw); go_simp; (try with_reducible rfl); done))) | (refine AtF.take (oi := ?_) (v := ?_) 19 ?_ ?_ ?_ ?_ (Or.inr ⟨?_, ?_⟩) (by assumption) ?_; rotate_left 2; rfl; kernel_rfl; kernel_rfl; exact (fun _ _ _ h => h); rfl; rfl)); (try simp only [Act.put, List.setIfInBounds_toArray, List.set_cons_zero, List.set_cons_succ]))
            (try simp only [e1, e3, e4, e5, ew, bne_self_eq_false])
            ((first | (refine AtF.take (oi := ?_) (v := ?_) 20 ?_ ?_ ?_ ?_ (Or.inl ⟨?_, ?_⟩) (by assumption) ?_; rotate_left 2; rfl; kernel_rfl; kernel_rfl; exact (fun _ _ _ h => h); rfl; (focus (intro w hSw; (try dsimp only at hSw); go_simp; (try with_reducible rfl); done))) | (refine AtF.take (oi := ?_) (v := ?_) 20 ?_ ?_ ?_ ?_ (Or.inr ⟨?_, ?_⟩) (by assumption) ?_; rotate_left 2; rfl; kernel_rfl; kernel_rfl; exact (fun _ _ _ h => h); rfl; rfl)); (try simp only [Act.put, List.setIfInBounds_toArray, List.set_cons_zero, List.set_cons_succ]); (first | (refine AtF.take (oi := ?_) (v := ?_) 21 ?_ ?_ ?_ ?_ (Or.inl ⟨?_, ?_⟩) (by assumption) ?_; rotate_left 2; rfl; kernel_rfl; kernel_rfl; exact (fun _ _ _ h => h); rfl; (focus (intro w hSw; (try dsimp only at hSw); go_simp; (try with_reducible rfl); done))) | (refine AtF.take (oi := ?_) (v := ?_) 21 ?_ ?_ ?_ ?_ (Or.inr ⟨?_, ?_⟩) (by assumption) ?_; rotate_left 2; rfl; kernel_rfl; kernel_rfl; exact (fun _ _ _ h => h); rfl; rfl)); (try simp only [Act.put, List.setIfInBounds_toArray, List.set_cons_zero, List.set_cons_succ]); (first | (refine AtF.take (oi := ?_) (v := ?_) 22 ?_ ?_ ?_ ?_ (Or.inl ⟨?_, ?_⟩) (by assumption) ?_; rotate_left 2; rfl; kernel_rfl; kernel_rfl; exact (fun _ _ _ h => h); rfl; (focus (intro w hSw; (try dsimp only at hSw); go_simp; (try with_reducible rfl); done))) | (refine AtF.take (oi := ?_) (v := ?_) 22 ?_ ?_ ?_ ?_ (Or.inr ⟨?_, ?_⟩) (by assumption) ?_; rotate_left 2; rfl; kernel_rfl; kernel_rfl; exact (fun _ _ _ h => h); rfl; rfl)); (try simp only [Act.put, List.setIfInBounds_toArray, List.set_cons_zero, List.set_cons_succ]); (first | (refine AtF.take (oi := ?_) (v := ?_) 23 ?_ ?_ ?_ ?_ (Or.inl ⟨?_, ?_⟩) (by assumption) ?_; rotate_left 2; rfl; kernel_rfl; kernel_rfl; exact (fun _ _ _ h => h); rfl; (focus (intro w hSw; (try dsimp only at hSw); go_simp; (try with_reducible rfl); done))) | (refine AtF.take (oi := ?_) (v := ?_) 23 ?_ ?_ ?_ ?_ (Or.inr ⟨?_, ?_⟩) (by assumption) ?_; rotate_left 2; rfl; kernel_rfl; kernel_rfl; exact (fun _ _ _ h => h); rfl; rfl)); (try simp only [Act.put, List.setIfInBounds_toArray, List.set_cons_zero, List.set_cons_succ]); (first | (refine AtF.take (oi := ?_) (v := ?_) 24 ?_ ?_ ?_ ?_ (Or.inl ⟨?_, ?_⟩) (by assumption) ?_; rotate_left 2; rfl; kernel_rfl; kernel_rfl; exact (fun _ _ _ h => h); rfl; (focus (intro w hSw; (try dsimp only at hSw); go_simp; (try with_reducible rfl); done))) | (refine AtF.take (oi := ?_) (v := ?_) 24 ?_ ?_ ?_ ?_ (Or.inr ⟨?_, ?_⟩) (by assumption) ?_; rotate_left 2; rfl; kernel_rfl; kernel_rfl; exact (fun _ _ _ h => h); rfl; rfl)); (try simp only [Act.put, List.setIfInBounds_toArray, List.set_cons_zero, List.set_cons_succ]); (first | (refine AtF.take (oi := ?_) (v := ?_) 25 ?_ ?_ ?_ ?_ (Or.inl ⟨?_, ?_⟩) (by assumption) ?_; rotate_left 2; rfl; kernel_rfl; kernel_rfl; exact (fun _ _ _ h => h); rfl; (focus (intro w hSw; (try dsimp only at hSw); go_simp; (try with_reducible rfl); done))) | (refine AtF.take (oi := ?_) (v := ?_) 25 ?_ ?_ ?_ ?_ (Or.inr ⟨?_, ?_⟩) (by assumption) ?_; rotate_left 2; rfl; kernel_rfl; kernel_rfl; exact (fun _ _ _ h => h); rfl; rfl)); (try simp only [Act.put, List.setIfInBounds_toArray, List.set_cons_zero, List.set_cons_succ]); (first | (refine AtF.take (oi := ?_) (v := ?_) 26 ?_ ?_ ?_ ?_ (Or.inl ⟨?_, ?_⟩) (by assumption) ?_; rotate_left 2; rfl; kernel_rfl; kernel_rfl; exact (fun _ _ _ h => h); rfl; (focus (intro w hSw; (try dsimp only at hSw); go_simp; (try with_reducible rfl); done))) | (refine AtF.take (oi := ?_) (v := ?_) 26 ?_ ?_ ?_ ?_ (Or.inr ⟨?_, ?_⟩) (by assumption) ?_; rotate_left 2; rfl; kernel_rfl; kernel_rfl; exact (fun _ _ _ h => h); rfl; rfl)); (try simp only [Act.put, List.setIfInBounds_toArray, List.set_cons_zero, List.set_cons_succ]); (first | (refine AtF.take (oi := ?_) (v := ?_) 27 ?_ ?_ ?_ ?_ (Or.inl ⟨?_, ?_⟩) (by assumption) ?_; rotate_left 2; rfl; kernel_rfl; kernel_rfl; exact (fun _ _ _ h => h); rfl; (focus (intro w hSw; (try dsimp only at hSw); go_simp; (try with_reducible rfl); done))) | (refine AtF.take (oi := ?_) (v := ?_) 27 ?_ ?_ ?_ ?_ (Or.inr ⟨?_, ?_⟩) (by assumption) ?_; rotate_left 2; rfl; kernel_rfl; kernel_rfl; exact (fun _ _ _ h => h); rfl; rfl)); (try simp only [Act.put, List.setIfInBounds_toArray, List.set_cons_zero, List.set_cons_succ]))
            (try simp only [e1, e3, e4, e5, ew, bne_self_eq_false])
            ((first | (refine AtF.take (oi := ?_) (v := ?_) 28 ?_ ?_ ?_ ?_ (Or.inl ⟨?_, ?_⟩) (by assumption) ?_; rotate_left 2; rfl; kernel_rfl; kernel_rfl; exact (fun _ _ _ h => h); rfl; (focus (intro w hSw; (try dsimp only at hSw); go_simp; (try with_reducible rfl); done))) | (refine AtF.take (oi := ?_) (v := ?_) 28 ?_ ?_ ?_ ?_ (Or.inr ⟨?_, ?_⟩) (by assumption) ?_; rotate_left 2; rfl; kernel_rfl; kernel_rfl; exact (fun _ _ _ h => h); rfl; rfl)); (try simp only [Act.put, List.setIfInBounds_toArray, List.set_cons_zero, List.set_cons_succ]))
            (try simp only [e1, e3, e4, e5, ew, bne_self_eq_false])
            (refine AtF.last (oi := ?_) ?_ ?_ (fun K hK => ?_); rotate_left 1; rfl; kernel_rfl; go_simp; skip; refine hK.out _ _ ?_; clear hK K; (try simp only [Act.put, List.setIfInBounds_toArray, List.set_cons_zero, List.set_cons_succ]))
            go_wp2
            go_roundw
            case rel => exact ⟨k + 1, by omega, by go_num, Lib.hid hB.out.drew, Lib.hid hb.out⟩
            case measure => simp [intOf]; omega
          · rw [MO.out k (by omega) (by omega)] at hcell
            go_wp2
            have e1 : decide ((k : Int) < (xs.length : Int)) = false := decide_eq_false (by omega)
            have ew : IntKind.i64.wrap (70000 + (k : Int)) = 70000 + (k : Int) := by rw [IntKind.wrap_i64]; omega
            have e4 : decide (xs.length ≤ k) = true := decide_eq_true (by omega)
            have e5 : decide (k < xs.length) = false := decide_eq_false (by omega)
            have e3 : decide ((xs.length : Int) ≤ (k : Int)) = true := decide_eq_true (by omega)
            (refine wp_region_F (S := (fun w' => w'.cell? ⟨g, k, none⟩ = some (.int .i64 (70000 + (k : Int))))) 29 [false, false, false, false, false, false, false, false, false, false, false, false, false, false, false, false, false, false, false, false, false, false, false, false, false, false, false, false, false, false] rfl rfl (by kernel_rfl) ?_ (fun hHeld => ?_); (focus ((try dsimp only); (simp [go_sem, hcell]); done)))
            ((first | (refine AtF.take (oi := ?_) (v := ?_) 0 ?_ ?_ ?_ ?_ (Or.inl ⟨?_, ?_⟩) (by assumption) ?_; rotate_left 2; rfl; kernel_rfl; kernel_rfl; exact (fun _ _ _ h => h); rfl; (focus (intro w hSw; (try dsimp only at hSw); go_simp; (try with_reducible rfl); done))) | (refine AtF.take (oi := ?_) (v := ?_) 0 ?_ ?_ ?_ ?_ (Or.inr ⟨?_, ?_⟩) (by assumption) ?_; rotate_left 2; rfl; kernel_rfl; kernel_rfl; exact (fun _ _ _ h => h); rfl; rfl)); (try simp only [Act.put, List.setIfInBounds_toArray, List.set_cons_zero, List.set_cons_succ]); (first | (refine AtF.take (oi := ?_) (v := ?_) 1 ?_ ?_ ?_ ?_ (Or.inl ⟨?_, ?_⟩) (by assumption) ?_; rotate_left 2; rfl; kernel_rfl; kernel_rfl; exact (fun _ _ _ h => h); rfl; (focus (intro w hSw; (try dsimp only at hSw); go_simp; (try with_reducible rfl); done))) | (refine AtF.take (oi := ?_) (v := ?_) 1 ?_ ?_ ?_ ?_ (Or.inr ⟨?_, ?_⟩) (by assumption) ?_; rotate_left 2; rfl; kernel_rfl; kernel_rfl; exact (fun _ _ _ h => h); rfl; rfl)); (try simp only [Act.put, List.setIfInBounds_toArray, List.set_cons_zero, List.set_cons_succ]); (first | (refine AtF.take (oi := ?_) (v := ?_) 2 ?_ ?_ ?_ ?_ (Or.inl ⟨?_, ?_⟩) (by assumption) ?_; rotate_left 2; rfl; kernel_rfl; kernel_rfl; exact (fun _ _ _ h => h); rfl; (focus (intro w hSw; (try dsimp only at hSw); go_simp; (try with_reducible rfl); done))) | (refine AtF.take (oi := ?_) (v := ?_) 2 ?_ ?_ ?_ ?_ (Or.inr ⟨?_, ?_⟩) (by assumption) ?_; rotate_left 2; rfl; kernel_rfl; kernel_rfl; exact (fun _ _ _ h => h); rfl; rfl)); (try simp only [Act.put, List.setIfInBounds_toArray, List.set_cons_zero, List.set_cons_succ]); (first | (refine AtF.take (oi := ?_) (v := ?_) 3 ?_ ?_ ?_ ?_ (Or.inl ⟨?_, ?_⟩) (by assumption) ?_; rotate_left 2; rfl; kernel_rfl; kernel_rfl; exact (fun _ _ _ h => h); rfl; (focus (intro w hSw; (try dsimp only at hSw); go_simp; (try with_reducible rfl); done))) | (refine AtF.take (oi := ?_) (v := ?_) 3 ?_ ?_ ?_ ?_ (Or.inr ⟨?_, ?_⟩) (by assumption) ?_; rotate_left 2; rfl; kernel_rfl; kernel_rfl; exact (fun _ _ _ h => h); rfl; rfl)); (try simp only [Act.put, List.setIfInBounds_toArray, List.set_cons_zero, List.set_cons_succ]))
            (try simp only [e1, e3, e4, e5, ew, bne_self_eq_false])
            ((first | (refine AtF.take (oi := ?_) (v := ?_) 4 ?_ ?_ ?_ ?_ (Or.inl ⟨?_, ?_⟩) (by assumption) ?_; rotate_left 2; rfl; kernel_rfl; kernel_rfl; exact (fun _ _ _ h => h); rfl; (focus (intro w hSw; (try dsimp only at hSw); go_simp; (try with_reducible rfl); done))) | (refine AtF.take (oi := ?_) (v := ?_) 4 ?_ ?_ ?_ ?_ (Or.inr ⟨?_, ?_⟩) (by assumption) ?_; rotate_left 2; rfl; kernel_rfl; kernel_rfl; exact (fun _ _ _ h => h); rfl; rfl)); (try simp only [Act.put, List.setIfInBounds_toArray, List.set_cons_zero, List.set_cons_succ]); (first | (refine AtF.take (oi := ?_) (v := ?_) 5 ?_ ?_ ?_ ?_ (Or.inl ⟨?_, ?_⟩) (by assumption) ?_; rotate_left 2; rfl; kernel_rfl; kernel_rfl; exact (fun _ _ _ h => h); rfl; (focus (intro w hSw; (try dsimp only at hSw); go_simp; (try with_reducible rfl); done))) | (refine AtF.take (oi := ?_) (v := ?_) 5 ?_ ?_ ?_ ?_ (Or.inr ⟨?_, ?_⟩) (by assumption) ?_; rotate_left 2; rfl; kernel_rfl; kernel_rfl; exact (fun _ _ _ h => h); rfl; rfl)); (try simp only [Act.put, List.setIfInBounds_toArray, List.set_cons_zero, List.set_cons_succ]); (first | (refine AtF.take (oi := ?_) (v := ?_) 6 ?_ ?_ ?_ ?_ (Or.inl ⟨?_, ?_⟩) (by assumption) ?_; rotate_left 2; rfl; kernel_rfl; kernel_rfl; exact (fun _ _ _ h => h); rfl; (focus (intro w hSw; (try dsimp only at hSw); go_simp; (try with_reducible rfl); done))) | (refine AtF.take (oi := ?_) (v := ?_) 6 ?_ ?_ ?_ ?_ (Or.inr ⟨?_, ?_⟩) (by assumption) ?_; rotate_left 2; rfl; kernel_rfl; kernel_rfl; exact (fun _ _ _ h => h); rfl; rfl)); (try simp only [Act.put, List.setIfInBounds_toArray, List.set_cons_zero, List.set_cons_succ]); (first | (refine AtF.take (oi := ?_) (v := ?_) 7 ?_ ?_ ?_ ?_ (Or.inl ⟨?_, ?_⟩) (by assumption) ?_; rotate_left 2; rfl; kernel_rfl; kernel_rfl; exact (fun _ _ _ h => h); rfl; (focus (intro w hSw; (try dsimp only at hSw); go_simp; (try with_reducible rfl); done))) | (refine AtF.take (oi := ?_) (v := ?_) 7 ?_ ?_ ?_ ?_ (Or.inr ⟨?_, ?_⟩) (by assumption) ?_; rotate_left 2; rfl; kernel_rfl; kernel_rfl; exact (fun _ _ _ h => h); rfl; rfl)); (try simp only [Act.put, List.setIfInBounds_toArray, List.set_cons_zero, List.set_cons_succ]); (first | (refine AtF.take (oi := ?_) (v := ?_) 8 ?_ ?_ ?_ ?_ (Or.inl ⟨?_, ?_⟩) (by assumption) ?_; rotate_left 2; rfl; kernel_rfl; kernel_rfl; exact (fun _ _ _ h => h); rfl; (focus (intro w hSw; (try dsimp only at hSw); go_simp; (try with_reducible rfl); done))) | (refine AtF.take (oi := ?_) (v := ?_) 8 ?_ ?_ ?_ ?_ (Or.inr ⟨?_, ?_⟩) (by assumption) ?_; rotate_left 2; rfl; kernel_rfl; kernel_rfl; exact (fun _ _ _ h => h); rfl; rfl)); (try simp only [Act.put, List.setIfInBounds_toArray, List.set_cons_zero, List.set_cons_succ]); (first | (refine AtF.take (oi := ?_) (v := ?_) 9 ?_ ?_ ?_ ?_ (Or.inl ⟨?_, ?_⟩) (by assumption) ?_; rotate_left 2; rfl; kernel_rfl; kernel_rfl; exact (fun _ _ _ h => h); rfl; (focus (intro w hSw; (try dsimp only at hSw); go_simp; (try with_reducible rfl); done))) | (refine AtF.take (oi := ?_) (v := ?_) 9 ?_ ?_ ?_ ?_ (Or.inr ⟨?_, ?_⟩) (by assumption) ?_; rotate_left 2; rfl; kernel_rfl; kernel_rfl; exact (fun _ _ _ h => h); rfl; rfl)); (try simp only [Act.put, List.setIfInBounds_toArray, List.set_cons_zero, List.set_cons_succ]); (first | (refine AtF.take (oi := ?_) (v := ?_) 10 ?_ ?_ ?_ ?_ (Or.inl ⟨?_, ?_⟩) (by assumption) ?_; rotate_left 2; rfl; kernel_rfl; kernel_rfl; exact (fun _ _ _ h => h); rfl; (focus (intro w hSw; (try dsimp only at hSw); go_simp; (try with_reducible rfl); done))) | (refine AtF.take (oi := ?_) (v := ?_) 10 ?_ ?_ ?_ ?_ (Or.inr ⟨?_, ?_⟩) (by assumption) ?_; rotate_left 2; rfl; kernel_rfl; kernel_rfl; exact (fun _ _ _ h => h); rfl; rfl)); (try simp only [Act.put, List.setIfInBounds_toArray, List.set_cons_zero, List.set_cons_succ]); (first | (refine AtF.take (oi := ?_) (v := ?_) 11 ?_ ?_ ?_ ?_ (Or.inl ⟨?_, ?_⟩) (by assumption) ?_; rotate_left 2; rfl; kernel_rfl; kernel_rfl; exact (fun _ _ _ h => h); rfl; (focus (intro w hSw; (try dsimp only at hSw); go_simp; (try with_reducible rfl); done))) | (refine AtF.take (oi := ?_) (v := ?_) 11 ?_ ?_ ?_ ?_ (Or.inr ⟨?_, ?_⟩) (by assumption) ?_; rotate_left 2; rfl; kernel_rfl; kernel_rfl; exact (fun _ _ _ h => h); rfl; rfl)); (try simp only [Act.put, List.setIfInBounds_toArray, List.set_cons_zero, List.set_cons_succ]); (first | (refine AtF.take (oi := ?_) (v := ?_) 12 ?_ ?_ ?_ ?_ (Or.inl ⟨?_, ?_⟩) (by assumption) ?_; rotate_left 2; rfl; kernel_rfl; kernel_rfl; exact (fun _ _ _ h => h); rfl; (focus (intro w hSw; (try dsimp only at hSw); go_simp; (try with_reducible rfl); done))) | (refine AtF.take (oi := ?_) (v := ?_) 12 ?_ ?_ ?_ ?_ (Or.inr ⟨?_, ?_⟩) (by assumption) ?_; rotate_left 2; rfl; kernel_rfl; kernel_rfl; exact (fun _ _ _ h => h); rfl; rfl)); (try simp only [Act.put, List.setIfInBounds_toArray, List.set_cons_zero, List.set_cons_succ]); (first | (refine AtF.take (oi := ?_) (v := ?_) 13 ?_ ?_ ?_ ?_ (Or.inl ⟨?_, ?_⟩) (by assumption) ?_; rotate_left 2; rfl; kernel_rfl; kernel_rfl; exact (fun _ _ _ h => h); rfl; (focus (intro w hSw; (try dsimp only at hSw); go_simp; (try with_reducible rfl); done))) | (refine AtF.take (oi := ?_) (v := ?_) 13 ?_ ?_ ?_ ?_ (Or.inr ⟨?_, ?_⟩) (by assumption) ?_; rotate_left 2; rfl; kernel_rfl; kernel_rfl; exact (fun _ _ _ h => h); rfl; rfl)); (try simp only [Act.put, List.setIfInBounds_toArray, List.set_cons_zero, List.set_cons_succ]))
            (try simp only [e1, e3, e4, e5, ew, bne_self_eq_false])
            ((first | (refine AtF.take (oi := ?_) (v := ?_) 14 ?_ ?_ ?_ ?_ (Or.inl ⟨?_, ?_⟩) (by assumption) ?_; rotate_left 2; rfl; kernel_rfl; kernel_rfl; exact (fun _ _ _ h => h); rfl; (focus (intro w hSw; (try dsimp only at hSw); go_simp; (try with_reducible rfl); done))) | (refine AtF.take (oi := ?_) (v := ?_) 14 ?_ ?_ ?_ ?_ (Or.inr ⟨?_, ?_⟩) (by assumption) ?_; rotate_left 2; rfl; kernel_rfl; kernel_rfl; exact (fun _ _ _ h => h); rfl; rfl)); (try simp only [Act.put, List.setIfInBounds_toArray, List.set_cons_zero, List.set_cons_succ]); (first | (refine AtF.take (oi := ?_) (v := ?_) 15 ?_ ?_ ?_ ?_ (Or.inl ⟨?_, ?_⟩) (by assumption) ?_; rotate_left 2; rfl; kernel_rfl; kernel_rfl; exact (fun _ _ _ h => h); rfl; (focus (intro w hSw; (try dsimp only at hSw); go_simp; (try with_reducible rfl); done))) | (refine AtF.take (oi := ?_) (v := ?_) 15 ?_ ?_ ?_ ?_ (Or.inr ⟨?_, ?_⟩) (by assumption) ?_; rotate_left 2; rfl; kernel_rfl; kernel_rfl; exact (fun _ _ _ h => h); rfl; rfl)); (try simp only [Act.put, List.setIfInBounds_toArray, List.set_cons_zero, List.set_cons_succ]); (first | (refine AtF.take (oi := ?_) (v := ?_) 16 ?_ ?_ ?_ ?_ (Or.inl ⟨?_, ?_⟩) (by assumption) ?_; rotate_left 2; rfl; kernel_rfl; kernel_rfl; exact (fun _ _ _ h => h); rfl; (focus (intro w hSw; (try dsimp only at hSw); go_simp; (try with_reducible rfl); done))) | (refine AtF.take (oi := ?_) (v := ?_) 16 ?_ ?_ ?_ ?_ (Or.inr ⟨?_, ?_⟩) (by assumption) ?_; rotate_left 2; rfl; kernel_rfl; kernel_rfl; exact (fun _ _ _ h => h); rfl; rfl)); (try simp only [Act.put, List.setIfInBounds_toArray, List.set_cons_zero, List.set_cons_succ]); (first | (refine AtF.take (oi := ?_) (v := ?_) 17 ?_ ?_ ?_ ?_ (Or.inl ⟨?_, ?_⟩) (by assumption) ?_; rotate_left 2; rfl; kernel_rfl; kernel_rfl; exact (fun _ _ _ h => h); rfl; (focus (intro w hSw; (try dsimp only at hSw); go_simp; (try with_reducible rfl); done))) | (refine AtF.take (oi := ?_) (v := ?_) 17 ?_ ?_ ?_ ?_ (Or.inr ⟨?_, ?_⟩) (by assumption) ?_; rotate_left 2; rfl; kernel_rfl; kernel_rfl; exact (fun _ _ _ h => h); rfl; rfl)); (try simp only [Act.put, List.setIfInBounds_toArray, List.set_cons_zero, List.set_cons_succ]); (first | (refine AtF.take (oi := ?_) (v := ?_) 18 ?_ ?_ ?_ ?_ (Or.inl ⟨?_, ?_⟩) (by assumption) ?_; rotate_left 2; rfl; kernel_rfl; kernel_rfl; exact (fun _ _ _ h => h); rfl; (focus (intro w hSw; (try dsimp only at hSw); go_simp; (try with_reducible rfl); done))) | (refine AtF.take (oi := ?_) (v := ?_) 18 ?_ ?_ ?_ ?_ (Or.inr ⟨?_, ?_⟩) (by assumption) ?_; rotate_left 2; rfl; kernel_rfl; kernel_rfl; exact (fun _ _ _ h => h); rfl; rfl)); (try simp only [Act.put, List.setIfInBounds_toArray, List.set_cons_zero, List.set_cons_succ]); (first | (refine AtF.take (oi := ?_) (v := ?_) 19 ?_ ?_ ?_ ?_ (Or.inl ⟨?_, ?_⟩) (by assumption) ?_; rotate_left 2; rfl; kernel_rfl; kernel_rfl; exact (fun _ _ _ h => h); rfl; (focus (intro w hSw; (try dsimp only at hSw); go_simp; (try with_reducible rfl); done))) | (refine AtF.take (oi := ?_) (v := ?_) 19 ?_ ?_ ?_ ?_ (Or.inr ⟨?_, ?_⟩) (by assumption) ?_; rotate_left 2; rfl; kernel_rfl; kernel_rfl; exact (fun _ _ _ h => h); rfl; rfl)); (try simp only [Act.put, List.setIfInBounds_toArray, List.set_cons_zero, List.set_cons_succ]))
            (try simp only [e1, e3, e4, e5, ew, bne_self_eq_false])
            ((first | (refine AtF.take (oi := ?_) (v := ?_) 20 ?_ ?_ ?_ ?_ (Or.inl ⟨?_, ?_⟩) (by assumption) ?_; rotate_left 2; rfl; kernel_rfl; kernel_rfl; exact (fun _ _ _ h => h); rfl; (focus (intro w hSw; (try dsimp only at hSw); go_simp; (try with_reducible rfl); done))) | (refine AtF.take (oi := ?_) (v := ?_) 20 ?_ ?_ ?_ ?_ (Or.inr ⟨?_, ?_⟩) (by assumption) ?_; rotate_left 2; rfl; kernel_rfl; kernel_rfl; exact (fun _ _ _ h => h); rfl; rfl)); (try simp only [Act.put, List.setIfInBounds_toArray, List.set_cons_zero, List.set_cons_succ]); (first | (refine AtF.take (oi := ?_) (v := ?_) 21 ?_ ?_ ?_ ?_ (Or.inl ⟨?_, ?_⟩) (by assumption) ?_; rotate_left 2; rfl; kernel_rfl; kernel_rfl; exact (fun _ _ _ h => h); rfl; (focus (intro w hSw; (try dsimp only at hSw); go_simp; (try with_reducible rfl); done))) | (refine AtF.take (oi := ?_) (v := ?_) 21 ?_ ?_ ?_ ?_ (Or.inr ⟨?_, ?_⟩) (by assumption) ?_; rotate_left 2; rfl; kernel_rfl; kernel_rfl; exact (fun _ _ _ h => h); rfl; rfl)); (try simp only [Act.put, List.setIfInBounds_toArray, List.set_cons_zero, List.set_cons_succ]); (first | (refine AtF.take (oi := ?_) (v := ?_) 22 ?_ ?_ ?_ ?_ (Or.inl ⟨?_, ?_⟩) (by assumption) ?_; rotate_left 2; rfl; kernel_rfl; kernel_rfl; exact (fun _ _ _ h => h); rfl; (focus (intro w hSw; (try dsimp only at hSw); go_simp; (try with_reducible rfl); done))) | (refine AtF.take (oi := ?_) (v := ?_) 22 ?_ ?_ ?_ ?_ (Or.inr ⟨?_, ?_⟩) (by assumption) ?_; rotate_left 2; rfl; kernel_rfl; kernel_rfl; exact (fun _ _ _ h => h); rfl; rfl)); (try simp only [Act.put, List.setIfInBounds_toArray, List.set_cons_zero, List.set_cons_succ]); (first | (refine AtF.take (oi := ?_) (v := ?_) 23 ?_ ?_ ?_ ?_ (Or.inl ⟨?_, ?_⟩) (by assumption) ?_; rotate_left 2; rfl; kernel_rfl; kernel_rfl; exact (fun _ _ _ h => h); rfl; (focus (intro w hSw; (try dsimp only at hSw); go_simp; (try with_reducible rfl); done))) | (refine AtF.take (oi := ?_) (v := ?_) 23 ?_ ?_ ?_ ?_ (Or.inr ⟨?_, ?_⟩) (by assumption) ?_; rotate_left 2; rfl; kernel_rfl; kernel_rfl; exact (fun _ _ _ h => h); rfl; rfl)); (try simp only [Act.put, List.setIfInBounds_toArray, List.set_cons_zero, List.set_cons_succ]); (first | (refine AtF.take (oi := ?_) (v := ?_) 24 ?_ ?_ ?_ ?_ (Or.inl ⟨?_, ?_⟩) (by assumption) ?_; rotate_left 2; rfl; kernel_rfl; kernel_rfl; exact (fun _ _ _ h => h); rfl; (focus (intro w hSw; (try dsimp only at hSw); go_simp; (try with_reducible rfl); done))) | (refine AtF.take (oi := ?_) (v := ?_) 24 ?_ ?_ ?_ ?_ (Or.inr ⟨?_, ?_⟩) (by assumption) ?_; rotate_left 2; rfl; kernel_rfl; kernel_rfl; exact (fun _ _ _ h => h); rfl; rfl)); (try simp only [Act.put, List.setIfInBounds_toArray, List.set_cons_zero, List.set_cons_succ]); (first | (refine AtF.take (oi := ?_) (v := ?_) 25 ?_ ?_ ?_ ?_ (Or.inl ⟨?_, ?_⟩) (by assumption) ?_; rotate_left 2; rfl; kernel_rfl; kernel_rfl; exact (fun _ _ _ h => h); rfl; (focus (intro w hSw; (try dsimp only at hSw); go_simp; (try with_reducible rfl); done))) | (refine AtF.take (oi := ?_) (v := ?_) 25 ?_ ?_ ?_ ?_ (Or.inr ⟨?_, ?_⟩) (by assumption) ?_; rotate_left 2; rfl; kernel_rfl; kernel_rfl; exact (fun _ _ _ h => h); rfl; rfl)); (try simp only [Act.put, List.setIfInBounds_toArray, List.set_cons_zero, List.set_cons_succ]); (first | (refine AtF.take (oi := ?_) (v := ?_) 26 ?_ ?_ ?_ ?_ (Or.inl ⟨?_, ?_⟩) (by assumption) ?_; rotate_left 2; rfl; kernel_rfl; kernel_rfl; exact (fun _ _ _ h => h); rfl; (focus (intro w hSw; (try dsimp only at hSw); go_simp; (try with_reducible rfl); done))) | (refine AtF.take (oi := ?_) (v := ?_) 26 ?_ ?_ ?_ ?_ (Or.inr ⟨?_, ?_⟩) (by assumption) ?_; rotate_left 2; rfl; kernel_rfl; kernel_rfl; exact (fun _ _ _ h => h); rfl; rfl)); (try simp only [Act.put, List.setIfInBounds_toArray, List.set_cons_zero, List.set_cons_succ]); (first | (refine AtF.take (oi := ?_) (v := ?_) 27 ?_ ?_ ?_ ?_ (Or.inl ⟨?_, ?_⟩) (by assumption) ?_; rotate_left 2; rfl; kernel_rfl; kernel_rfl; exact (fun _ _ _ h => h); rfl; (focus (intro w hSw; (try dsimp only at hSw); go_simp; (try with_reducible rfl); done))) | (refine AtF.take (oi := ?_) (v := ?_) 27 ?_ ?_ ?_ ?_ (Or.inr ⟨?_, ?_⟩) (by assumption) ?_; rotate_left 2; rfl; kernel_rfl; kernel_rfl; exact (fun _ _ _ h => h); rfl; rfl)); (try simp only [Act.put, List.setIfInBounds_toArray, List.set_cons_zero, List.set_cons_succ]))
            (try simp only [e1, e3, e4, e5, ew, bne_self_eq_false])
            ((first | (refine AtF.take (oi := ?_) (v := ?_) 28 ?_ ?_ ?_ ?_ (Or.inl ⟨?_, ?_⟩) (by assumption) ?_; rotate_left 2; rfl; kernel_rfl; kernel_rfl; exact (fun _ _ _ h => h); rfl; (focus (intro w hSw; (try dsimp only at hSw); go_simp; (try with_reducible rfl); done))) | (refine AtF.take (oi := ?_) (v := ?_) 28 ?_ ?_ ?_ ?_ (Or.inr ⟨?_, ?_⟩) (by assumption) ?_; rotate_left 2; rfl; kernel_rfl; kernel_rfl; exact (fun _ _ _ h => h); rfl; rfl)); (try simp only [Act.put, List.setIfInBounds_toArray, List.set_cons_zero, List.set_cons_succ]))
            (try simp only [e1, e3, e4, e5, ew, bne_self_eq_false])
            (refine AtF.last (oi := ?_) ?_ ?_ (fun K hK => ?_); rotate_left 1; rfl; kernel_rfl; go_simp; skip; refine hK.out _ _ ?_; clear hK K; (try simp only [Act.put, List.setIfInBounds_toArray, List.set_cons_zero, List.set_cons_succ]))
            go_wp2
            go_roundw
            case rel => exact ⟨k + 1, by omega, by go_num, Lib.hid hB.out.drew, Lib.hid hb.out⟩
            case measure => simp [intOf]; omega
        · obtain rfl : k = xs.length + 4 := by omega
          have hBs := hB.out.size
          go_wp2_with (first
            | (go_at_call 11; (with_reducible refine (PA.out wr).mono ?_); (rintro _ _ ⟨A1, x5, rfl, rfl, hC1⟩); replace hC1 := Lib.hid hC1)
            | (go_at_call 11; (with_reducible refine (PA.out (ext wr x5)).mono ?_); (rintro _ _ ⟨A2, x6, rfl, rfl, hC2⟩); replace hC2 := Lib.hid hC2)
            | (go_at_call 12; (with_reducible refine (PR.out _).mono ?_); (rintro _ _ ⟨A3, c3, x7, rfl, rfl, hD⟩); replace hD := Lib.hid hD))
          have hM : wr.heap.size ≤ (ext wr x5).heap.size := by simp
          have hC1' := Lib.hid ((hC1.out.grow (below_of_ext (ext wr x5) x6)).grow (below_of_ext (ext (ext wr x5) x6) x7))
          have hC2' := Lib.hid (hC2.out.grow (below_of_ext (ext (ext wr x5) x6) x7))
          have hD' := Lib.hid (hD.out.clp.mono (show (ext wr x5).heap.size ≤ (ext (ext wr x5) x6).heap.size by simp))
          have hB7 : Below W.heap.size W (ext (ext (ext wr x5) x6) x7) := hB.out.trans ((((below_of_ext wr x5).trans ((below_of_ext (ext wr x5) x6).mono (by simp))).trans ((below_of_ext (ext (ext wr x5) x6) x7).mono (by simp; omega))).mono hBs)
          have hlt1 : ∀ g1, A1 = some ⟨g1, 0, none⟩ → g1 < (ext wr x5).heap.size := fun g1 e => by
            subst e
            exact hC1.out.at.2.1
          have HL1 := Lib.hid hlt1
          replace hB7 := Lib.hid hB7
          have hCC := Lib.hid (hC1'.out.mono hBs)
          clear hC1 hC2 hD hB hb hlt1 hC1'
          generalize (ext wr x5).heap.size = M at hM hC2' hD' HL1
          generalize ext (ext (ext wr x5) x6) x7 = w7 at hCC hC2' hD' hB7 ⊢
          go_loopw [108] (fun i w8 => ∃ (k : Nat) (zs : List Int), k ≤ ys.length ∧ i = .int .i64 k ∧ Hid (zs.length = ys.length) ∧ Hid (Below W.heap.size W w8) ∧ Hid (Clp W.heap.size w8 A1 zs) ∧ Hid (Clp M w8 A2 ys) ∧ Hid (Clp M w8 A3 ys)) (fun i _ => ys.length - (intOf i).toNat)
          case atStart => exact ⟨0, ys, by omega, rfl, rfl, hB7, hCC, hC2', hD'⟩
          case round =>
            obtain ⟨k, zs, hk, rfl, hzl, hB, h1, h2, h3⟩ := hrel
            have hBs2 := hB.out.size
            by_cases hlt3 : k < ys.length
            · obtain ⟨g1, rfl⟩ : ∃ g1, A1 = some ⟨g1, 0, none⟩ := by
                rcases h1.out with ⟨_, e⟩ | ⟨g1, _, e, _⟩
                · have := hzl.out; subst e; simp at this; omega
                · exact ⟨g1, e⟩
              have hgM := HL1.out g1 rfl
              obtain ⟨hWg, hgs, hfz, hcl⟩ := h1.out.at
              have hcell := hcl k (by have := hzl.out; omega)
              have hfzk := hfz k
              have n1 := Lib.hid (h1.out.setOwn (k := k) (by have := hzl.out; omega) (-1))
              have n2 := Lib.hid (h2.out.setFar (p := g1) (i := k) hgM (.int .i64 (-1)))
              have n3 := Lib.hid (h3.out.setFar (p := g1) (i := k) hgM (.int .i64 (-1)))
              have nB := Lib.hid (hB.out.setCell (p := ⟨g1, k, none⟩) hWg (.int .i64 (-1)))
              have nl := Lib.hid (show (zs.set k (-1)).length = ys.length by rw [List.length_set]; exact hzl.out)
              clear hcl hfz
              generalize zs[k]'(by have := hzl.out; omega) = old at hcell
              go_wp2
              go_roundw
              case rel => exact ⟨k + 1, _, by omega, by go_num, nl, nB, n1, n2, n3⟩
              case measure => simp [intOf]; omega
            · obtain rfl : k = ys.length := by omega
              obtain ⟨c9, w9, happ, hB9⟩ := run_append_clip (w := wr.alloc (.cells #[.int .i64 5, .int .i64 6] 3)) (h1.out.grow ((Below.refl _ _).alloc (Nat.le_refl _) _)) 23 wr.heap.size 2 2 [5, 6] (ints2 5 6 rfl) rfl (by omega) (by have := hzl.out; omega) (by omega)
              rw [hzl.out] at happ
              have hBA := Lib.hid (((Below.refl wr.heap.size wr).alloc (Nat.le_refl _) (.cells #[.int .i64 5, .int .i64 6] 3)).trans (hB9.mono (by simp [go_sem])))
              have r2 := Lib.hid (h2.out.rd.grow hBA.out)
              have r3 := Lib.hid (h3.out.rd.grow hBA.out)
              clear hB9 h1 h2 h3
              replace happ := Lib.hid happ
              go_wp2_with (first
                | (at_builtin; refine append_run (.tmp 115) (.tmp 116) 23 rfl rfl _ _ _ rfl rfl happ.out ?_)
                | (go_at_call 13; ((with_reducible refine (SI.out _ _ _ _ _ r2.out r3.out).mono ?_); rintro _ _ hgets; obtain ⟨rfl, x9, rfl⟩ := hgets.get; clear hgets)))
              go_returns
              exact ⟨rfl, hB.out.trans ((hBA.out.trans ((below_of_ext w9 x9).mono hBA.out.size)).mono hBs2)⟩
theorem ParamKeeps_laid (os : Os) : laidMet Tryd.prog Rows.paramKeepsRow.laid ((laidWorld os).forCall (fun _ _ => 0) ⟨#[], #[.slice none 0 0, .string ByteArray.empty], []⟩).memory :=
  laidMet_of_run' 8 (by kernel_rfl) (by kernel_rfl)
set_option maxRecDepth 100000 in
theorem ParamKeeps_lifted (os : Os) (started : os.Started) (H : Type) (enc : TypeId × Value → H) (F : Stop.Interp) :
    ReturnsInHanded {} Tryd.checked os 8 .any ((OpenSpec.ofChange Rows.paramKeepsSpec).preRow enc Tryd.prog Tryd.f8 Rows.paramKeepsRow.domain false Rows.paramKeepsRow.laid) (((OpenSpec.ofChange Rows.paramKeepsSpec).at F).post enc Tryd.prog Tryd.f8 false true false false) := by
  obtain ⟨places, hx⟩ : ∃ places, DataW.whole enc Tryd.prog ((laidWorld os).forCall (fun _ _ => 0) ⟨#[], #[.slice none 0 0, .string ByteArray.empty], []⟩).memory Tryd.f8.params.toList Rows.paramKeepsSpec.vars false #[.slice none 0 0, .string ByteArray.empty].toList 8 = some ([.nil, .lit (.string [])], [], places) := ⟨[], by kernel_rfl⟩
  refine returnsInHanded_of_row (C := Tryd.checked) (s := OpenSpec.ofChange Rows.paramKeepsSpec) own started (by kernel_rfl) Tryd.func8
    (witness_row_at (enc := enc) (C := Tryd.checked) false (laidWorld os) #[.slice none 0 0, .string ByteArray.empty] rfl (by kernel_rfl) (by kernel_rfl) (by kernel_rfl)
      (OpenSpec.preRow_of_cond 8 hx (by kernel_rfl) (fun k hk => by cases hk) (by kernel_rfl) (ParamKeeps_laid os))) ?_
  intro W base args ds gs before hval0 hW _ _ hsz0 hL _ _
  have hval : ∀ (j : Nat) t v, Tryd.f8.params[j]? = some t → args[j]? = some v → Value.okWide Tryd.prog W .any base t v := hval0
  have hsz : (DataW.weightsEach Tryd.prog (Tryd.f8.params.toList ++ Rows.paramKeepsSpec.plain.varTypes Tryd.prog) (ds ++ gs)).all (· ≤ reachBytes) = true := hsz0
  have hW' := hW
  obtain ⟨p, q, hA0, hV, rfl, hfz, hnd⟩ := hW
  have hA : DataW.TrodAll enc Tryd.prog W 0 (fun _ => true) true Tryd.f8.params.toList args.toList ds p := hA0
  rw [Tryd.params8] at hA hval hsz
  obtain ⟨v0, vs0, d0, ds0, p0, q0, hargs, rfl, rfl, h0, r0⟩ := trodAll_cons hA
  obtain ⟨v1, vs1, d1, ds1, p1, q1, rfl, rfl, rfl, h1, r1⟩ := trodAll_cons r0
  obtain ⟨rfl, rfl, rfl⟩ := trodAll_nil r1
  obtain rfl : args = #[v0, v1] := by cases args; simp_all
  obtain ⟨rfl, rfl⟩ := trodVars_none hV
  have htab := laid_table hL
  clear hA0 hval0 hsz0
  obtain ⟨a0, c0, xs0, rfl, rd0, lc0, cm0, wf0, dd0⟩ := open_ints_rd Tryd.underlying23 Tryd.underlying3 (by kernel_rfl) (okWide_slice Tryd.underlying23 (hval 0 23 v0 rfl rfl)) h0
  have re0 : c0 * 8 ≤ 140737488351232 := by
    rcases dd0 with ⟨-, e⟩ | ⟨es, sp, rfl, e⟩
    · omega
    · have := sized_slice hsz (j := 0) (t := 23) (e := 3) rfl rfl Tryd.underlying23
      rw [show Tryd.prog.bytesOf 3 = 8 by kernel_rfl] at this
      simp only [reachBytes] at this
      omega
  obtain ⟨a1, rfl, rfl, -, w1⟩ := Go.ChangeMaps.open_string Tryd.underlying9 (hval 1 9 v1 rfl rfl) h1
  refine (ParamKeeps_walk W htab a0 c0 xs0 rd0 lc0 cm0 wf0 re0 a1 w1).mono fun e W' ⟨he, hb⟩ => ⟨_, he, ?_⟩
  exact law_post laidOut rfl (by kernel_rfl) (by kernel_rfl) Tryd.underlying4 hW' rfl hb


theorem ParamKeeps_said : Rows.ParamKeepsSaid :=
  OpenClaim.holds_of_cond 8 Tryd.f8 rfl rfl rfl rfl rfl rfl rfl ⟨rfl, rfl, rfl, rfl, rfl⟩ rfl rfl rfl rfl rfl (by kernel_rfl) Tryd.func8 (by kernel_rfl)
    (of_decide_eq_true (by kernel_rfl)) (by unfold Func.isWrapper; first | (rw [if_pos (by decide +kernel)]; kernel_rfl) | (rw [if_neg (by decide +kernel)]; exact ⟨rfl, rfl⟩))
    (fun os started H enc _ F => by rw [OpenClaim.pre_eq_preRow]; exact ParamKeeps_lifted os started H enc F)
theorem ParamKeeps_plain (f : FuncId) (fn : Func) (hf : Tryd.pinned.checked.prog.funcNamed "phosphor/phosphorlaw04.ParamKeeps" = some f) (hfn : Tryd.pinned.checked.prog.funcs[f]? = some fn) :
    false = Tryd.pinned.checked.prog.looks [] ∧ ∀ (j : Nat) t, fn.params[j]? = some t → Tryd.pinned.checked.prog.wantsStandIn t = false := by
  obtain rfl : f = 8 := Option.some.inj ((show Tryd.prog.funcNamed "phosphor/phosphorlaw04.ParamKeeps" = some 8 by kernel_rfl).symm.trans hf) |>.symm
  obtain rfl : fn = Tryd.f8 := (Option.some.inj (Tryd.func8.symm.trans hfn)).symm
  refine ⟨by kernel_rfl, fun j t ht => ?_⟩
  have hall : ∀ x ∈ Tryd.f8.params.toList, Tryd.prog.wantsStandIn x = false := by
    rw [Tryd.params8]
    simp only [List.mem_cons, List.not_mem_nil, or_false, forall_eq_or_imp, forall_eq]
    exact ⟨by kernel_rfl, by kernel_rfl⟩
  exact hall t (by simpa using Array.mem_of_getElem? ht)
theorem ParamKeeps_card : Rows.ParamKeepsCardSaid :=
  Claim7.holds_tied_plain_at .later [] _ _ _ _ ParamKeeps_said (fun _ h => by cases h) (by kernel_rfl) (fun _ h => by cases h) paramKeeps_row_tie rfl ⟨rfl, rfl⟩ (by kernel_rfl) rfl ParamKeeps_plain (by kernel_rfl)
#print axioms ParamKeeps_card

end Go.Proofs.YtphkfffphlembaaDoor
