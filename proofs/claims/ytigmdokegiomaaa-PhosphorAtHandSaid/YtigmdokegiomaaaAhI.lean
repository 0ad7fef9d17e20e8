/- Designate; iso.id.  -/
import Derived.Test.YtigmdokegiomaaaAhB
import Derived.Test.YtigmdokegiomaaaRegionF
import Derived.Shelf.Strings.Prefix
namespace Go.Proofs.Ytigmdokegiomaaa
open Go.RowKit
set_option linter.unusedVariables false
set_option linter.unusedSimpArgs false

def hpf_ren : Go.Shelf.Ren := { f := fun x => match x with | 99 => 35 | 206 => 39 | n => n, t := fun x => match x with | 9 => 9 | 4 => 4 | 3 => 3 | n => n, g := fun x => have n := x; n }
theorem hpf : Go.Proofs.Lays.n99 Try.prog hpf_ren := {
  mixed := by kernel_rfl
  f99 := Try.func35.trans (congrArg some (by kernel_rfl))
  f206 := Try.func39.trans (congrArg some (by kernel_rfl))
  t3 := Try.underlying3
  a3 := Try.isAgg3
  z3 := Try.sizeOf3
  v3 := Try.zeroValue3
  t4 := Try.underlying4
  a4 := Try.isAgg4
  z4 := Try.sizeOf4
  v4 := Try.zeroValue4
  t9 := Try.underlying9
  a9 := Try.isAgg9
  z9 := Try.sizeOf9
  v9 := Try.zeroValue9 }

theorem hpf_c (s p : ByteArray) (v : Bool) (h : Lib.hasPrefix s.data.toList p.data.toList = v) (w : World) : Calls Try.prog 35 #[.string s, .string p] w (Same w (.bool v)) := by
  subst h
  refine (Any.strings_HasPrefix hpf s p w).mono ?_
  rintro e w' ⟨h1, h2⟩
  exact ⟨h1, h2.symm⟩
section
variable (a b c d gl gr sg : Int)
set_option maxHeartbeats 8000000 in
theorem des_c (g s : Int) (h1 : 1 ≤ s) (h2 : s ≤ 17) (g1 : 0 ≤ g) (g2 : g ≤ 3) (hz : g = 0 → wdB s = false) (w : World) :
    Calls Try.prog 6 #[stV a b c d gl gr sg, .int .i64 g, .bool (wdB s), .string (idB s)] w
      (Gives w (.tuple #[stV (if g = 0 then s else a) (if g = 1 then s else b) (if g = 2 then s else c) (if g = 3 then s else d) gl gr sg, .bool true])) := by
  have FI := Lib.hid (fun w' => ofind_c s h1 h2 w')
  have NU := Lib.hid (fun w' => number_c g 0 w')
  rw [show (g == max 0 (min g 3)) = true by simp; omega] at NU
  generalize idB s = id at FI
  generalize wdB s = wd at FI hz
  have hg : g = 0 ∨ g = 1 ∨ g = 2 ∨ g = 3 := by omega
  clear g1 g2 h1 h2
  unfold stV
  rcases hg with rfl | rfl | rfl | rfl
  · obtain rfl := hz rfl
    go_enter Try.func6, Try.ntmps6
    go_wp2_with (first | (go_at_call 15; ((with_reducible refine (FI.out _).mono ?_); rintro _ _ hgets; obtain ⟨rfl, x1, rfl⟩ := hgets.get; clear hgets)) | (go_at_call 16; ((with_reducible refine (NU.out _).mono ?_); rintro _ _ hgets; obtain ⟨rfl, x2, rfl⟩ := hgets.get; clear hgets)))
    simp [bodyPost, go_sem]
    exact ⟨_, by simp [results, Try.f6, go_sem] <;> rfl, rfl, by (repeat' (first | (with_reducible exact Below.refl _ _) | (with_reducible refine Below.alloc ?_ ?_ _) | (with_reducible refine below_ext ?_ ?_ _) | (with_reducible refine Below.drew ?_) | (with_reducible refine below_drewN ?_ _) | (with_reducible refine Below.setCell ?_ ?_ _) | go_size | (simp only [go_sem]; omega) | (simp [go_sem]; done) | (simp [go_sem]; omega)))⟩
  all_goals (
    go_enter Try.func6, Try.ntmps6
    go_wp2_with (first | (go_at_call 15; ((with_reducible refine (FI.out _).mono ?_); rintro _ _ hgets; obtain ⟨rfl, x1, rfl⟩ := hgets.get; clear hgets)) | (go_at_call 16; ((with_reducible refine (NU.out _).mono ?_); rintro _ _ hgets; obtain ⟨rfl, x2, rfl⟩ := hgets.get; clear hgets)))
    simp [bodyPost, go_sem]
    exact ⟨_, by simp [results, Try.f6, go_sem] <;> rfl, rfl, by (repeat' (first | (with_reducible exact Below.refl _ _) | (with_reducible refine Below.alloc ?_ ?_ _) | (with_reducible refine below_ext ?_ ?_ _) | (with_reducible refine Below.drew ?_) | (with_reducible refine below_drewN ?_ _) | (with_reducible refine Below.setCell ?_ ?_ _) | go_size | (simp only [go_sem]; omega) | (simp [go_sem]; done) | (simp [go_sem]; omega)))⟩)
end
set_option maxHeartbeats 8000000 in
theorem isoid_c (s : ByteArray) (n : Nat) (hn : n ≤ 2) (pf : Bool) (hp : Lib.hasPrefix s.data.toList [37] = pf) (hq : n = bif pf then 2 else 1) (hs : n ≤ s.size) (hsz : s.size ≤ 1000) (w : World) :
    Calls Try.prog 25 #[.string s] w (Gives w (.tuple #[.string (s.extract 0 n), .string (s.extract n s.size)])) := by
  have HP := Lib.hid (fun w' => hpf_c s ⟨#[37]⟩ pf hp w')
  clear hp
  have hw := wrap_a (n := (n : Int)) (by omega) (by omega)
  cases pf
  · simp only [cond_true, cond_false] at hq
    subst hq
    have hmin : min (1 : Int) (s.size : Int) = 1 := by omega
    go_enter Try.func25, Try.ntmps25
    go_upto_region 5 with (go_at_call 35; ((with_reducible refine (HP.out _).mono ?_); rintro _ _ ⟨rfl, rfl⟩))
    (refine wp_region_F (S := (fun w' => w.heap.size ≤ w'.heap.size)) 7 [false, false, false, false, false, false, false, false] rfl rfl (by kernel_rfl) ?_ (fun hHeld => ?_); (focus ((try dsimp only); (simp; done); done)))
    ((refine AtF.take (oi := ?_) (v := ?_) 0 ?_ ?_ ?_ ?_ (Or.inl ⟨?_, ?_⟩) (by assumption) ?_; rotate_left 2; rfl; kernel_rfl; kernel_rfl; exact (fun _ _ _ h => h); rfl; (focus (intro w hSw; (try dsimp only at hSw); go_simp; (try with_reducible rfl); done)); (try simp only [Act.put, List.setIfInBounds_toArray, List.set_cons_zero, List.set_cons_succ])); (refine AtF.take (oi := ?_) (v := ?_) 1 ?_ ?_ ?_ ?_ (Or.inl ⟨?_, ?_⟩) (by assumption) ?_; rotate_left 2; rfl; kernel_rfl; kernel_rfl; exact (fun _ _ _ h => h); rfl; (focus (intro w hSw; (try dsimp only at hSw); go_simp; (try with_reducible rfl); done)); (try simp only [Act.put, List.setIfInBounds_toArray, List.set_cons_zero, List.set_cons_succ])); (refine AtF.take (oi := ?_) (v := ?_) 3 ?_ ?_ ?_ ?_ (Or.inl ⟨?_, ?_⟩) (by assumption) ?_; rotate_left 2; rfl; kernel_rfl; kernel_rfl; exact (fun _ _ _ h => h); rfl; (focus (intro w hSw; (try dsimp only at hSw); go_simp; (try with_reducible rfl); done)); (try simp only [Act.put, List.setIfInBounds_toArray, List.set_cons_zero, List.set_cons_succ])); (refine AtF.take (oi := ?_) (v := ?_) 4 ?_ ?_ ?_ ?_ (Or.inl ⟨?_, ?_⟩) (by assumption) ?_; rotate_left 2; rfl; kernel_rfl; kernel_rfl; exact (fun _ _ _ h => h); rfl; (focus (intro w hSw; (try dsimp only at hSw); go_simp; (try with_reducible rfl); done)); (try simp only [Act.put, List.setIfInBounds_toArray, List.set_cons_zero, List.set_cons_succ])))
    (refine AtF.take (oi := ?_) (v := (.string (s.extract 0 1))) 2 ?_ ?_ ?_ ?_ ?_ (by assumption) ?_; rotate_left 1; rfl; kernel_rfl; kernel_rfl; exact (fun _ _ _ h => h); (focus ((refine Or.inl ⟨rfl, fun w hSw => ?_⟩; go_simp; (try (intro hlt; exact absurd hlt (by omega)))); done)); (try simp only [Act.put, List.setIfInBounds_toArray, List.set_cons_zero, List.set_cons_succ]))
    (refine AtF.take (oi := ?_) (v := (.string (s.extract 1 s.size))) 5 ?_ ?_ ?_ ?_ ?_ (by assumption) ?_; rotate_left 1; rfl; kernel_rfl; kernel_rfl; exact (fun _ _ _ h => h); (focus ((refine Or.inl ⟨rfl, fun w hSw => ?_⟩; go_simp; (try (intro hlt; exact absurd hlt (by omega)))); done)); (try simp only [Act.put, List.setIfInBounds_toArray, List.set_cons_zero, List.set_cons_succ]))
    ((refine AtF.take (oi := ?_) (v := ?_) 6 ?_ ?_ ?_ ?_ (Or.inl ⟨?_, ?_⟩) (by assumption) ?_; rotate_left 2; rfl; kernel_rfl; kernel_rfl; exact (fun _ _ _ h => h); rfl; (focus (intro w hSw; (try dsimp only at hSw); go_simp; (try with_reducible rfl); done)); (try simp only [Act.put, List.setIfInBounds_toArray, List.set_cons_zero, List.set_cons_succ])))
    (refine AtF.last (oi := ?_) ?_ ?_ (fun K hK => ?_); rotate_left 1; rfl; kernel_rfl; go_simp; skip; refine hK.out _ _ ?_; clear hK K; (try simp only [Act.put, List.setIfInBounds_toArray, List.set_cons_zero, List.set_cons_succ]))
    go_wp2
    go_returns
    exact ⟨rfl, by (repeat' (first | (with_reducible exact Below.refl _ _) | (with_reducible refine Below.alloc ?_ ?_ _) | (with_reducible refine below_ext ?_ ?_ _) | (with_reducible refine Below.drew ?_) | (with_reducible refine below_drewN ?_ _) | (with_reducible refine Below.setCell ?_ ?_ _) | go_size | (simp only [go_sem]; omega) | (simp [go_sem]; done) | (simp [go_sem]; omega)))⟩
  · simp only [cond_true, cond_false] at hq
    subst hq
    have hmin : min (2 : Int) (s.size : Int) = 2 := by omega
    go_enter Try.func25, Try.ntmps25
    go_upto_region 5 with (go_at_call 35; ((with_reducible refine (HP.out _).mono ?_); rintro _ _ ⟨rfl, rfl⟩))
    (refine wp_region_F (S := (fun w' => w.heap.size ≤ w'.heap.size)) 7 [false, false, false, false, false, false, false, false] rfl rfl (by kernel_rfl) ?_ (fun hHeld => ?_); (focus ((try dsimp only); (simp; done); done)))
    ((refine AtF.take (oi := ?_) (v := ?_) 0 ?_ ?_ ?_ ?_ (Or.inl ⟨?_, ?_⟩) (by assumption) ?_; rotate_left 2; rfl; kernel_rfl; kernel_rfl; exact (fun _ _ _ h => h); rfl; (focus (intro w hSw; (try dsimp only at hSw); go_simp; (try with_reducible rfl); done)); (try simp only [Act.put, List.setIfInBounds_toArray, List.set_cons_zero, List.set_cons_succ])); (refine AtF.take (oi := ?_) (v := ?_) 1 ?_ ?_ ?_ ?_ (Or.inl ⟨?_, ?_⟩) (by assumption) ?_; rotate_left 2; rfl; kernel_rfl; kernel_rfl; exact (fun _ _ _ h => h); rfl; (focus (intro w hSw; (try dsimp only at hSw); go_simp; (try with_reducible rfl); done)); (try simp only [Act.put, List.setIfInBounds_toArray, List.set_cons_zero, List.set_cons_succ])); (refine AtF.take (oi := ?_) (v := ?_) 3 ?_ ?_ ?_ ?_ (Or.inl ⟨?_, ?_⟩) (by assumption) ?_; rotate_left 2; rfl; kernel_rfl; kernel_rfl; exact (fun _ _ _ h => h); rfl; (focus (intro w hSw; (try dsimp only at hSw); go_simp; (try with_reducible rfl); done)); (try simp only [Act.put, List.setIfInBounds_toArray, List.set_cons_zero, List.set_cons_succ])); (refine AtF.take (oi := ?_) (v := ?_) 4 ?_ ?_ ?_ ?_ (Or.inl ⟨?_, ?_⟩) (by assumption) ?_; rotate_left 2; rfl; kernel_rfl; kernel_rfl; exact (fun _ _ _ h => h); rfl; (focus (intro w hSw; (try dsimp only at hSw); go_simp; (try with_reducible rfl); done)); (try simp only [Act.put, List.setIfInBounds_toArray, List.set_cons_zero, List.set_cons_succ])))
    (refine AtF.take (oi := ?_) (v := (.string (s.extract 0 2))) 2 ?_ ?_ ?_ ?_ ?_ (by assumption) ?_; rotate_left 1; rfl; kernel_rfl; kernel_rfl; exact (fun _ _ _ h => h); (focus ((refine Or.inl ⟨rfl, fun w hSw => ?_⟩; go_simp; (try (intro hlt; exact absurd hlt (by omega)))); done)); (try simp only [Act.put, List.setIfInBounds_toArray, List.set_cons_zero, List.set_cons_succ]))
    (refine AtF.take (oi := ?_) (v := (.string (s.extract 2 s.size))) 5 ?_ ?_ ?_ ?_ ?_ (by assumption) ?_; rotate_left 1; rfl; kernel_rfl; kernel_rfl; exact (fun _ _ _ h => h); (focus ((refine Or.inl ⟨rfl, fun w hSw => ?_⟩; go_simp; (try (intro hlt; exact absurd hlt (by omega)))); done)); (try simp only [Act.put, List.setIfInBounds_toArray, List.set_cons_zero, List.set_cons_succ]))
    ((refine AtF.take (oi := ?_) (v := ?_) 6 ?_ ?_ ?_ ?_ (Or.inl ⟨?_, ?_⟩) (by assumption) ?_; rotate_left 2; rfl; kernel_rfl; kernel_rfl; exact (fun _ _ _ h => h); rfl; (focus (intro w hSw; (try dsimp only at hSw); go_simp; (try with_reducible rfl); done)); (try simp only [Act.put, List.setIfInBounds_toArray, List.set_cons_zero, List.set_cons_succ])))
    (refine AtF.last (oi := ?_) ?_ ?_ (fun K hK => ?_); rotate_left 1; rfl; kernel_rfl; go_simp; skip; refine hK.out _ _ ?_; clear hK K; (try simp only [Act.put, List.setIfInBounds_toArray, List.set_cons_zero, List.set_cons_succ]))
    go_wp2
    go_returns
    exact ⟨rfl, by (repeat' (first | (with_reducible exact Below.refl _ _) | (with_reducible refine Below.alloc ?_ ?_ _) | (with_reducible refine below_ext ?_ ?_ _) | (with_reducible refine Below.drew ?_) | (with_reducible refine below_drewN ?_ _) | (with_reducible refine Below.setCell ?_ ?_ _) | go_size | (simp only [go_sem]; omega) | (simp [go_sem]; done) | (simp [go_sem]; omega)))⟩
end Go.Proofs.Ytigmdokegiomaaa
