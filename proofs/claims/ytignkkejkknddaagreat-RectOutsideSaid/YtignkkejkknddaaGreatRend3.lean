/- The reference's renditions: number by number.  -/
import Derived.Test.YtignkkejkknddaaGreatRend2
import Derived.Test.YtignkkejkknddaaGreatInts
namespace Go.Proofs.YtignkkejkknddaaGreat
open Go.RowKit
set_option linter.unusedVariables false
set_option linter.unusedSimpArgs false

def flC (f : Fl) : Array Value := #[.bool f.b, .bool f.u, .bool f.k, .bool f.r, .bool f.h]
set_option maxRecDepth 100000 in
set_option maxHeartbeats 4000000 in
theorem apply_r (r : Int) (hr0 : 0 ≤ r) (hr1 : r ≤ 255) (a : Option Addr) (c : Nat) (xs : List Int) (w : World) (hx : Ints w a xs) (hm : xs.length ≤ 9223372036854775807) :
    Calls Tryz.prog 121 #[.int .u8 r, .slice a xs.length c] w (Gives w (.int .u8 (foldR oneF (Fl.of r) xs).num)) := by
  by_cases h0 : xs = []
  · subst h0
    go_enter Tryz.func121, Tryz.ntmps121
    go_wp2_with (go_at_call 133; ((with_reducible refine (of_r _ hr0 hr1 _).mono ?_); rintro _ _ hgets; obtain ⟨rfl, _, rfl⟩ := hgets.get; clear hgets))
    go_returns
    exact ⟨rfl, by (repeat' (first | (with_reducible exact Below.refl _ _) | (with_reducible refine Below.alloc ?_ ?_ _) | (with_reducible refine below_ext ?_ ?_ _) | (with_reducible refine Below.drew ?_) | (with_reducible refine below_drewN ?_ _) | (with_reducible refine Below.setCell ?_ ?_ _) | go_size | (simp only [go_sem]; omega) | (simp [go_sem]; done) | (simp [go_sem]; omega)))⟩
  · have hl : 0 < xs.length := by rcases xs with _ | _ <;> simp_all
    have hne : ((xs.length : Int) == 0) = false := by simp; omega
    have HE := Lib.hid (show foldR oneF (Fl.of r) xs = xs.foldl oneF (Fl.of r) by unfold foldR; rw [if_neg h0])
    clear h0
    go_enter Tryz.func121, Tryz.ntmps121
    go_wp2_with (go_at_call 133; ((with_reducible refine (of_r _ hr0 hr1 _).mono ?_); rintro _ _ hgets; obtain ⟨rfl, x0, rfl⟩ := hgets.get; clear hgets))
    go_loopw [6] (fun i wr => ∃ k : Nat, k ≤ xs.length ∧ i = .int .i64 k ∧ wr = (ext w x0).alloc (.cells (flC ((xs.take k).foldl oneF (Fl.of r))) 172)) (fun i _ => xs.length - (intOf i).toNat)
    case atStart => exact ⟨0, by omega, rfl, rfl⟩
    case round =>
      obtain ⟨k, hk, rfl, rfl⟩ := hrel
      by_cases hlt : k < xs.length
      · obtain ⟨b1, o1, rfl, hb1, hc1⟩ := hx.cell hlt
        have HF := Lib.hid (foldl_take oneF (Fl.of r) xs k hlt)
        generalize (xs.take k).foldl oneF (Fl.of r) = f at HF
        obtain ⟨b, u, kk, rr, h⟩ := f
        have hcl : flC ⟨b, u, kk, rr, h⟩ = #[.bool b, .bool u, .bool kk, .bool rr, .bool h] := rfl
        simp only [hcl]
        clear hcl
        generalize hn : xs[k] = n at hc1 HF
        clear hn
        have hcase : n = 0 ∨ n = 1 ∨ n = 22 ∨ n = 4 ∨ n = 24 ∨ n = 5 ∨ n = 25 ∨ n = 7 ∨ n = 27 ∨ n = 8 ∨ n = 28 ∨ (n ≠ 0 ∧ n ≠ 1 ∧ n ≠ 22 ∧ n ≠ 4 ∧ n ≠ 24 ∧ n ≠ 5 ∧ n ≠ 25 ∧ n ≠ 7 ∧ n ≠ 27 ∧ n ≠ 8 ∧ n ≠ 28) := by omega
        rcases hcase with rfl | rfl | rfl | rfl | rfl | rfl | rfl | rfl | rfl | rfl | rfl | ⟨n0, n1, n2, n3, n4, n5, n6, n7, n8, n9, n10⟩
        all_goals
          go_wp2
          go_roundw
          case rel => exact ⟨k + 1, by omega, by go_num, by rw [HF.out]; simp [oneF, flC, Fl.no, *]⟩
          case measure => simp [intOf]; omega
      · have hk' : k = xs.length := by omega
        have HT := Lib.hid (show xs.take k = xs by rw [hk']; simp)
        rw [HT.out]
        have hv : ∀ f : Fl, flC f = #[.bool f.b, .bool f.u, .bool f.k, .bool f.r, .bool f.h] := fun _ => rfl
        rw [hv]
        clear hv hk'
        go_wp2_with (go_at_call 134; ((with_reducible refine (rend_r _ _).mono ?_); rintro _ _ hgets; obtain ⟨rfl, _, rfl⟩ := hgets.get; clear hgets))
        go_returns
        refine ⟨ret_int ?_, by (repeat' (first | (with_reducible exact Below.refl _ _) | (with_reducible refine Below.alloc ?_ ?_ _) | (with_reducible refine below_ext ?_ ?_ _) | (with_reducible refine Below.drew ?_) | (with_reducible refine below_drewN ?_ _) | (with_reducible refine Below.setCell ?_ ?_ _) | go_size | (simp only [go_sem]; omega) | (simp [go_sem]; done) | (simp [go_sem]; omega)))⟩
        rw [HE.out]

set_option maxRecDepth 100000 in
set_option maxHeartbeats 4000000 in
theorem flip_r (r : Int) (hr0 : 0 ≤ r) (hr1 : r ≤ 255) (a : Option Addr) (c : Nat) (xs : List Int) (w : World) (hx : Ints w a xs) (hm : xs.length ≤ 9223372036854775807) :
    Calls Tryz.prog 122 #[.int .u8 r, .slice a xs.length c] w (Gives w (.int .u8 (foldR turnF (Fl.of r) xs).num)) := by
  by_cases h0 : xs = []
  · subst h0
    generalize hf : Fl.of r = f
    have o := fun w' => of_r r hr0 hr1 w'
    rw [hf] at o
    have O := Lib.hid o
    clear o hf
    obtain ⟨b, u, kk, rr, h⟩ := f
    go_enter Tryz.func122, Tryz.ntmps122
    go_wp2_with (go_at_call 133; ((with_reducible refine (O.out _).mono ?_); rintro _ _ hgets; obtain ⟨rfl, x0, rfl⟩ := hgets.get; clear hgets))
    refine wp_loop_rounds 2 ?_
    rw [rounds_succ]
    go_wp2
    rw [rounds_succ]
    go_wp2_with (go_at_call 134; ((with_reducible refine (rend_r ⟨!b, !u, !kk, !rr, h⟩ _).mono ?_); rintro _ _ hgets; obtain ⟨rfl, _, rfl⟩ := hgets.get; clear hgets))
    go_returns
    exact ⟨rfl, by (repeat' (first | (with_reducible exact Below.refl _ _) | (with_reducible refine Below.alloc ?_ ?_ _) | (with_reducible refine below_ext ?_ ?_ _) | (with_reducible refine Below.drew ?_) | (with_reducible refine below_drewN ?_ _) | (with_reducible refine Below.setCell ?_ ?_ _) | go_size | (simp only [go_sem]; omega) | (simp [go_sem]; done) | (simp [go_sem]; omega)))⟩
  · have hl : 0 < xs.length := by rcases xs with _ | _ <;> simp_all
    have hne : ((xs.length : Int) == 0) = false := by simp; omega
    have HE := Lib.hid (show foldR turnF (Fl.of r) xs = xs.foldl turnF (Fl.of r) by unfold foldR; rw [if_neg h0])
    clear h0
    go_enter Tryz.func122, Tryz.ntmps122
    go_wp2_with (go_at_call 133; ((with_reducible refine (of_r _ hr0 hr1 _).mono ?_); rintro _ _ hgets; obtain ⟨rfl, x0, rfl⟩ := hgets.get; clear hgets))
    go_loopw [7, 8] (fun i _ wr => ∃ k : Nat, k ≤ xs.length ∧ i = .int .i64 k ∧ wr = (ext w x0).alloc (.cells (flC ((xs.take k).foldl turnF (Fl.of r))) 172)) (fun i _ _ => xs.length - (intOf i).toNat)
    case atStart => exact ⟨0, by omega, rfl, rfl⟩
    case round =>
      obtain ⟨k, hk, rfl, rfl⟩ := hrel
      by_cases hlt : k < xs.length
      · obtain ⟨b1, o1, rfl, hb1, hc1⟩ := hx.cell hlt
        have HF := Lib.hid (foldl_take turnF (Fl.of r) xs k hlt)
        generalize (xs.take k).foldl turnF (Fl.of r) = f at HF
        obtain ⟨b, u, kk, rr, h⟩ := f
        have hcl : flC ⟨b, u, kk, rr, h⟩ = #[.bool b, .bool u, .bool kk, .bool rr, .bool h] := rfl
        simp only [hcl]
        clear hcl
        generalize hn : xs[k] = n at hc1 HF
        clear hn
        have hcase : n = 0 ∨ n = 1 ∨ n = 4 ∨ n = 5 ∨ n = 7 ∨ n = 8 ∨ (n ≠ 0 ∧ n ≠ 1 ∧ n ≠ 4 ∧ n ≠ 5 ∧ n ≠ 7 ∧ n ≠ 8) := by omega
        have hbool : (n ≠ 0 ∧ n ≠ 1 ∧ n ≠ 4 ∧ n ≠ 5 ∧ n ≠ 7 ∧ n ≠ 8) → (n == 0) = false ∧ (n == 1) = false ∧ (n == 4) = false ∧ (n == 5) = false ∧ (n == 7) = false ∧ (n == 8) = false := by simp
        rcases hcase with rfl | rfl | rfl | rfl | rfl | rfl | hno
        rotate_right
        · obtain ⟨n0, n1, n2, n3, n4, n5⟩ := hbool hno
          have HN := Lib.hid hno
          clear hno hbool
          go_wp2
          go_roundw
          case rel =>
            obtain ⟨m0, m1, m2, m3, m4, m5⟩ := HN.out
            exact ⟨k + 1, by omega, by go_num, by rw [HF.out]; simp [turnF, flC, m0, m1, m2, m3, m4, m5]⟩
          case measure => simp [intOf]; omega
        all_goals clear hbool
        all_goals
          go_wp2
          go_roundw
          case rel => exact ⟨k + 1, by omega, by go_num, by rw [HF.out]; simp [turnF, flC, *]⟩
          case measure => simp [intOf]; omega
      · have hk' : k = xs.length := by omega
        have HT := Lib.hid (show xs.take k = xs by rw [hk']; simp)
        rw [HT.out]
        have hv : ∀ f : Fl, flC f = #[.bool f.b, .bool f.u, .bool f.k, .bool f.r, .bool f.h] := fun _ => rfl
        rw [hv]
        clear hv hk'
        go_wp2_with (go_at_call 134; ((with_reducible refine (rend_r _ _).mono ?_); rintro _ _ hgets; obtain ⟨rfl, _, rfl⟩ := hgets.get; clear hgets))
        go_returns
        refine ⟨ret_int ?_, by (repeat' (first | (with_reducible exact Below.refl _ _) | (with_reducible refine Below.alloc ?_ ?_ _) | (with_reducible refine below_ext ?_ ?_ _) | (with_reducible refine Below.drew ?_) | (with_reducible refine below_drewN ?_ _) | (with_reducible refine Below.setCell ?_ ?_ _) | go_size | (simp only [go_sem]; omega) | (simp [go_sem]; done) | (simp [go_sem]; omega)))⟩
        rw [HE.out]

end Go.Proofs.YtignkkejkknddaaGreat
