/- A number between two others, a number of a list, decimal digits. -/
import Derived.Test.YtphkfffphlembaaDoorJoin
import Derived.Test.YtphkfffphlembaaDoorItoa
import Derived.Test.YtphkfffphlembaaDoorBytesStr
namespace Go.Proofs.YtphkfffphlembaaDoor
open Go.RowKit
set_option linter.unusedVariables false
set_option linter.unusedSimpArgs false

set_option maxRecDepth 100000 in
theorem clip_p (n a b : Int) (w : World) : Calls Tryd.prog 16 #[.int .i64 n, .int .i64 a, .int .i64 b] w (Same w (.int .i64 (max a (min n b)))) := by
  go_enter Tryd.func16, Tryd.ntmps16
  go_wp2
  go_returns
  exact ⟨rfl, rfl⟩
def rawI (xs : List Int) (i : Int) : Int := if i < 0 then 0 else xs.getD i.toNat 0
theorem rawI_in {xs : List Int} {i : Nat} (h : i < xs.length) : rawI xs i = xs[i] := by
  unfold rawI
  rw [if_neg (by omega), Int.toNat_natCast]
  simp [h]
theorem rawI_out {xs : List Int} {i : Int} (h : i < 0 ∨ (xs.length : Int) ≤ i) : rawI xs i = 0 := by
  unfold rawI
  split
  · rfl
  · rw [List.getD_eq_getElem?_getD, List.getElem?_eq_none (by omega)]
    rfl
def getI (xs : List Int) (i d : Int) : Int := if rawI xs i = 0 then d else rawI xs i
section
variable {A : Option Addr} {c : Nat} {xs : List Int}
set_option maxRecDepth 100000 in
theorem raw_c (i : Int) (w : World) (rd : Ints w A xs) (hm : xs.length ≤ 9223372036854775807) : Calls Tryd.prog 19 #[.slice A xs.length c, .int .i64 i] w (Same w (.int .i64 (rawI xs i))) := by
  by_cases h0 : i < 0
  · rw [rawI_out (.inl h0)]
    clear rd
    go_enter Tryd.func19, Tryd.ntmps19
    go_wp2
    go_returns
    exact ⟨rfl, rfl⟩
  · by_cases h1 : (xs.length : Int) ≤ i
    · rw [rawI_out (.inr h1)]
      clear rd
      go_enter Tryd.func19, Tryd.ntmps19
      go_wp2
      go_returns
      exact ⟨rfl, rfl⟩
    · obtain ⟨k, rfl⟩ : ∃ k : Nat, i = k := ⟨i.toNat, by omega⟩
      have hk : k < xs.length := by omega
      rw [rawI_in hk]
      obtain ⟨b, o, rfl, hb, hc⟩ := rd.cell hk
      clear rd
      go_enter Tryd.func19, Tryd.ntmps19
      go_wp2
      go_returns
      exact ⟨rfl, rfl⟩
set_option maxRecDepth 100000 in
theorem get_c (i d : Int) (w : World) (rd : Ints w A xs) (hm : xs.length ≤ 9223372036854775807) : Calls Tryd.prog 17 #[.slice A xs.length c, .int .i64 i, .int .i64 d] w (Same w (.int .i64 (getI xs i d))) := by
  have RA := Lib.hid (raw_c (c := c) i w rd hm)
  clear rd
  by_cases h : rawI xs i = 0
  · have e : getI xs i d = d := if_pos h
    rw [e]
    rw [h] at RA
    go_enter Tryd.func17, Tryd.ntmps17
    go_wp2_with (go_at_call 19; ((with_reducible refine (RA.out).mono ?_); rintro _ _ ⟨rfl, rfl⟩))
    go_returns
    exact ⟨rfl, rfl⟩
  · have e : getI xs i d = rawI xs i := if_neg h
    rw [e]
    generalize rawI xs i = r at h RA
    have h2 : (r != 0) = true := by simpa using h
    go_enter Tryd.func17, Tryd.ntmps17
    go_wp2_with (go_at_call 19; ((with_reducible refine (RA.out).mono ?_); rintro _ _ ⟨rfl, rfl⟩))
    go_returns
    exact ⟨rfl, rfl⟩
set_option maxRecDepth 100000 in
theorem get_r (i d : Int) (w : World) (rd : Ints w A xs) (hm : xs.length ≤ 9223372036854775807) : Calls Tryd.prog 18 #[.slice A xs.length c, .int .i64 i, .int .i64 d] w (Same w (.int .i64 (getI xs i d))) := by
  by_cases h0 : i < 0
  · rw [show getI xs i d = d from if_pos (rawI_out (.inl h0))]
    clear rd
    go_enter Tryd.func18, Tryd.ntmps18
    go_wp2
    go_returns
    exact ⟨rfl, rfl⟩
  · by_cases h1 : (xs.length : Int) ≤ i
    · rw [show getI xs i d = d from if_pos (rawI_out (.inr h1))]
      clear rd
      go_enter Tryd.func18, Tryd.ntmps18
      go_wp2
      go_returns
      exact ⟨rfl, rfl⟩
    · obtain ⟨k, rfl⟩ : ∃ k : Nat, i = k := ⟨i.toNat, by omega⟩
      have hk : k < xs.length := by omega
      obtain ⟨b, o, rfl, hb, hc⟩ := rd.cell hk
      have hr := rawI_in hk
      generalize xs[k] = v at hc hr
      by_cases hv : v = 0
      · rw [show getI xs k d = d from if_pos (hr.trans hv)]
        have h2 : (v == 0) = true := by simpa using hv
        clear rd hr
        go_enter Tryd.func18, Tryd.ntmps18
        go_wp2
        go_returns
        exact ⟨rfl, rfl⟩
      · rw [show getI xs k d = v from (if_neg (fun e => hv (hr.symm.trans e))).trans hr]
        have h2 : (v == 0) = false := by simpa using hv
        clear rd hr
        go_enter Tryd.func18, Tryd.ntmps18
        go_wp2
        go_returns
        exact ⟨rfl, rfl⟩
end
theorem strOf_one (n : Nat) : strOf [(n : Int)] = ⟨#[UInt8.ofNat n]⟩ := rfl
theorem byte_new {w : World} {g : Nat} (e : TypeId) (n : Int) (hg : g = w.heap.size) : Rd (encI .u8) 1 (w.alloc (.cells #[.int .u8 n] e)) (some ⟨g, 0, none⟩) [n] :=
  (Own.new (B := 0) (e := e) (encI_len _) hg (xs := [n]) (rfl : (1 : Nat) = [n].length) _ rfl (Nat.zero_le _) (by simp [maxLen])).rd (encI_len _)
theorem dec_len : ∀ (k u : Nat), u < 10 ^ (k + 1) → (Lib.decDigits u).length ≤ k + 1
  | 0, u, h => by rw [Lib.decDigits_one (by omega)]; simp
  | k + 1, u, h => by
    rw [Lib.decDigits]
    split
    · simp
    · have := dec_len k (u / 10) (by rw [Nat.pow_succ] at h; omega)
      rw [List.length_append, List.length_singleton]
      omega
set_option maxRecDepth 100000 in
set_option maxHeartbeats 4000000 in
theorem dec_r (u : Nat) (hu : u ≤ 65535) : ∀ w, Calls Tryd.prog 28 #[.int .i64 u] w (Gives w (.string ⟨(Lib.decDigits u).toArray⟩)) := by
  induction u using Nat.strongRecOn with
  | _ u ih =>
    intro w
    by_cases h : u < 10
    · have hd : Lib.decDigits u = [UInt8.ofNat (48 + u)] := Lib.decDigits_one h
      rw [hd]
      have hcv : (convert 43 9 (.slice (some ⟨w.heap.size, 0, none⟩) 1 1)).run Tryd.prog (w.alloc (.cells #[.int .u8 (48 + (u : Int))] 5)) = .ok (.string ⟨#[UInt8.ofNat (48 + u)]⟩) (w.alloc (.cells #[.int .u8 (48 + (u : Int))] 5)) := by
        have := conv_rd (c := 1) (byte_new (w := w) 5 (48 + (u : Int)) rfl)
        rw [show (48 + (u : Int)) = ((48 + u : Nat) : Int) by omega] at this ⊢
        rw [strOf_one] at this
        exact this
      clear ih hd
      generalize UInt8.ofNat (48 + u) = c8 at hcv ⊢
      go_enter Tryd.func28, Tryd.ntmps28
      go_wp2
      go_returns
      exact ⟨rfl, by (repeat' (first | (with_reducible exact Below.refl _ _) | (with_reducible refine Below.alloc ?_ ?_ _) | (with_reducible refine below_ext ?_ ?_ _) | (with_reducible refine Below.drew ?_) | (with_reducible refine below_drewN ?_ _) | (with_reducible refine Below.setCell ?_ ?_ _) | go_size | (simp only [go_sem]; omega) | (simp [go_sem]; done) | (simp [go_sem]; omega)))⟩
    · have hd : Lib.decDigits u = Lib.decDigits (u / 10) ++ [UInt8.ofNat (48 + u % 10)] := by rw [Lib.decDigits, dif_neg h]
      rw [hd]
      have hcv : ∀ (W : World) (g : Nat), g = W.heap.size → ∀ (x : More), (convert 43 9 (.slice (some ⟨g, 0, none⟩) 1 1)).run Tryd.prog (ext (W.alloc (.cells #[.int .u8 (48 + (u : Int) % 10)] 5)) x) = .ok (.string ⟨#[UInt8.ofNat (48 + u % 10)]⟩) (ext (W.alloc (.cells #[.int .u8 (48 + (u : Int) % 10)] 5)) x) := by
        intro W g hg x
        have := conv_rd (c := 1) ((byte_new (w := W) 5 (48 + (u : Int) % 10) hg).ext x)
        rw [show (48 + (u : Int) % 10) = ((48 + u % 10 : Nat) : Int) by omega] at this ⊢
        rw [strOf_one] at this
        exact this
      have DE : Hid (∀ w', Calls Tryd.prog 28 #[.int .i64 ((u : Int) / 10)] w' (Gives w' (.string ⟨(Lib.decDigits (u / 10)).toArray⟩))) := Lib.hid (fun w' => by
        have := ih (u / 10) (by omega) (by omega) w'
        rw [show ((u / 10 : Nat) : Int) = (u : Int) / 10 by omega] at this
        exact this)
      generalize UInt8.ofNat (48 + u % 10) = c8 at hcv ⊢
      have hcat : (⟨(Lib.decDigits (u / 10)).toArray⟩ : ByteArray) ++ ⟨#[c8]⟩ = ⟨(Lib.decDigits (u / 10) ++ [c8]).toArray⟩ := by
        apply ByteArray.ext
        simp
      have HC := Lib.hid hcat
      have e1 : IntKind.i64.wrap ((u : Int) / 10) = (u : Int) / 10 := by rw [IntKind.wrap_i64]; omega
      have e2 : (u : Int).tmod 10 = (u : Int) % 10 := Int.tmod_eq_emod_of_nonneg (by omega)
      have e3 : IntKind.i64.wrap (48 + (u : Int) % 10) = 48 + (u : Int) % 10 := by rw [IntKind.wrap_i64]; omega
      have e4 : IntKind.u8.wrap (48 + (u : Int) % 10) = 48 + (u : Int) % 10 := by rw [IntKind.wrap_u8]; omega
      have EE := Lib.hid (⟨e1, e2, e3, e4⟩ : _ ∧ _ ∧ _ ∧ _)
      have hdl := dec_len 4 (u / 10) (by omega)
      have hcl : (9223372036854775807 < (Lib.decDigits (u / 10)).length + 1) = False := eq_false (by omega)
      clear ih hd hcat e1 e2 e3 e4 hdl
      generalize Lib.decDigits (u / 10) = ds at DE HC hcl ⊢
      go_enter Tryd.func28, Tryd.ntmps28
      go_wp2
      (refine wp_region_F (S := (fun _ => True)) 10 [false, false, false, false, false, false, false, false, false, false, false] rfl rfl (by kernel_rfl) ?_ (fun hHeld => ?_); (focus ((try dsimp only); (try trivial); done)))
      ((refine AtF.take (oi := ?_) (v := ?_) 0 ?_ ?_ ?_ ?_ (Or.inl ⟨?_, ?_⟩) (by assumption) ?_; rotate_left 2; rfl; kernel_rfl; kernel_rfl; exact (fun _ _ _ h => h); rfl; (focus (intro w hSw; (try dsimp only at hSw); go_simp; (try with_reducible rfl); done)); (try simp only [Act.put, List.setIfInBounds_toArray, List.set_cons_zero, List.set_cons_succ])); (refine AtF.take (oi := ?_) (v := ?_) 1 ?_ ?_ ?_ ?_ (Or.inl ⟨?_, ?_⟩) (by assumption) ?_; rotate_left 2; rfl; kernel_rfl; kernel_rfl; exact (fun _ _ _ h => h); rfl; (focus (intro w hSw; (try dsimp only at hSw); go_simp; (try with_reducible rfl); done)); (try simp only [Act.put, List.setIfInBounds_toArray, List.set_cons_zero, List.set_cons_succ])); (refine AtF.take (oi := ?_) (v := ?_) 3 ?_ ?_ ?_ ?_ (Or.inl ⟨?_, ?_⟩) (by assumption) ?_; rotate_left 2; rfl; kernel_rfl; kernel_rfl; exact (fun _ _ _ h => h); rfl; (focus (intro w hSw; (try dsimp only at hSw); go_simp; (try with_reducible rfl); done)); (try simp only [Act.put, List.setIfInBounds_toArray, List.set_cons_zero, List.set_cons_succ])); (refine AtF.take (oi := ?_) (v := ?_) 4 ?_ ?_ ?_ ?_ (Or.inl ⟨?_, ?_⟩) (by assumption) ?_; rotate_left 2; rfl; kernel_rfl; kernel_rfl; exact (fun _ _ _ h => h); rfl; (focus (intro w hSw; (try dsimp only at hSw); go_simp; (try with_reducible rfl); done)); (try simp only [Act.put, List.setIfInBounds_toArray, List.set_cons_zero, List.set_cons_succ])); (refine AtF.take (oi := ?_) (v := ?_) 5 ?_ ?_ ?_ ?_ (Or.inl ⟨?_, ?_⟩) (by assumption) ?_; rotate_left 2; rfl; kernel_rfl; kernel_rfl; exact (fun _ _ _ h => h); rfl; (focus (intro w hSw; (try dsimp only at hSw); go_simp; (try with_reducible rfl); done)); (try simp only [Act.put, List.setIfInBounds_toArray, List.set_cons_zero, List.set_cons_succ])); (refine AtF.take (oi := ?_) (v := ?_) 6 ?_ ?_ ?_ ?_ (Or.inl ⟨?_, ?_⟩) (by assumption) ?_; rotate_left 2; rfl; kernel_rfl; kernel_rfl; exact (fun _ _ _ h => h); rfl; (focus (intro w hSw; (try dsimp only at hSw); go_simp; (try with_reducible rfl); done)); (try simp only [Act.put, List.setIfInBounds_toArray, List.set_cons_zero, List.set_cons_succ])))
      rw [EE.out.1, EE.out.2.1, EE.out.2.2.1, EE.out.2.2.2]
      clear EE
      generalize (u : Int) % 10 = rm at hcv ⊢
      have HV := Lib.hid hcv
      have HA : Hid (∀ (W : World) (g : Nat), g = W.heap.size → (convert 43 9 (.slice (some ⟨g, 0, none⟩) 1 1)).run Tryd.prog (W.alloc (.cells #[.int .u8 (48 + rm)] 5)) = .ok (.string ⟨#[c8]⟩) (W.alloc (.cells #[.int .u8 (48 + rm)] 5))) := Lib.hid (fun W g hg => by
        have := hcv W g hg ⟨#[], (W.alloc (.cells #[.int .u8 (48 + rm)] 5)).drawn⟩
        have e : ∀ V : World, ext V ⟨#[], V.drawn⟩ = V := fun V => by simp [ext]
        rwa [e] at this)
      have HD : Hid (∀ (W : World) (g : Nat), g = W.heap.size → (convert 43 9 (.slice (some ⟨g, 0, none⟩) 1 1)).run Tryd.prog (W.alloc (.cells #[.int .u8 (48 + rm)] 5)).drew = .ok (.string ⟨#[c8]⟩) (W.alloc (.cells #[.int .u8 (48 + rm)] 5)).drew) := Lib.hid (fun W g hg => HA.out W.drew g hg)
      clear hcv
      (refine AtF.either (oi := ?_) (oj := ?_) 2 7 ?_ ?_ ?_ (fun K hK => ?_) (fun K hK => ?_); rotate_left 2; rfl; rfl; kernel_rfl)
      · ((try go_simp); (go_at_call 28; ((with_reducible refine (DE.out _).mono ?_); rintro _ _ hgets; obtain ⟨rfl, x1, rfl⟩ := hgets.get; clear hgets)); (refine hK.out _ _ ?_ (fun hHeld => ?_)); (focus ((try dsimp only); (try trivial); done)); clear hK K; (try simp only [Act.put, List.setIfInBounds_toArray, List.set_cons_zero, List.set_cons_succ]))
        (refine AtF.only (oi := ?_) 7 ?_ ?_ (fun K hK => ?_); rotate_left 1; rfl; kernel_rfl; (try go_simp); skip; (refine hK.out _ _ ?_ (fun hHeld => ?_)); (focus ((try dsimp only); (try trivial); done)); clear hK K; (try simp only [Act.put, List.setIfInBounds_toArray, List.set_cons_zero, List.set_cons_succ]))
        (refine AtF.only (oi := ?_) 8 ?_ ?_ (fun K hK => ?_); rotate_left 1; rfl; kernel_rfl; (try go_simp); (rw [HA.out _ _ (by simp [go_sem])]; simp only [Result.andThen]; rw [Oper.upon_value]); (refine hK.out _ _ ?_ (fun hHeld => ?_)); (focus ((try dsimp only); (try trivial); done)); clear hK K; (try simp only [Act.put, List.setIfInBounds_toArray, List.set_cons_zero, List.set_cons_succ]))
        (refine AtF.only (oi := ?_) 9 ?_ ?_ (fun K hK => ?_); rotate_left 1; rfl; kernel_rfl; (try go_simp); skip; (refine hK.out _ _ ?_ (fun hHeld => ?_)); (focus ((try dsimp only); (try trivial); done)); clear hK K; (try simp only [Act.put, List.setIfInBounds_toArray, List.set_cons_zero, List.set_cons_succ]))
        (refine AtF.last (oi := ?_) ?_ ?_ (fun K hK => ?_); rotate_left 1; rfl; kernel_rfl; go_simp; skip; refine hK.out _ _ ?_; clear hK K; (try simp only [Act.put, List.setIfInBounds_toArray, List.set_cons_zero, List.set_cons_succ]))
        go_wp2
        go_returns
        rw [HC.out]
        exact ⟨rfl, by (repeat' (first | (with_reducible exact Below.refl _ _) | (with_reducible refine Below.alloc ?_ ?_ _) | (with_reducible refine below_ext ?_ ?_ _) | (with_reducible refine Below.drew ?_) | (with_reducible refine below_drewN ?_ _) | (with_reducible refine Below.setCell ?_ ?_ _) | go_size | (simp only [go_sem]; omega) | (simp [go_sem]; done) | (simp [go_sem]; omega)))⟩
      · ((try go_simp); skip; (refine hK.out _ _ ?_ (fun hHeld => ?_)); (focus ((try dsimp only); (try trivial); done)); clear hK K; (try simp only [Act.put, List.setIfInBounds_toArray, List.set_cons_zero, List.set_cons_succ]))
        (refine AtF.either (oi := ?_) (oj := ?_) 2 8 ?_ ?_ ?_ (fun K hK => ?_) (fun K hK => ?_); rotate_left 2; rfl; rfl; kernel_rfl)
        · ((try go_simp); (go_at_call 28; ((with_reducible refine (DE.out _).mono ?_); rintro _ _ hgets; obtain ⟨rfl, x1, rfl⟩ := hgets.get; clear hgets)); (refine hK.out _ _ ?_ (fun hHeld => ?_)); (focus ((try dsimp only); (try trivial); done)); clear hK K; (try simp only [Act.put, List.setIfInBounds_toArray, List.set_cons_zero, List.set_cons_succ]))
          (refine AtF.only (oi := ?_) 8 ?_ ?_ (fun K hK => ?_); rotate_left 1; rfl; kernel_rfl; (try go_simp); (rw [HV.out _ _ (by simp [go_sem])]; simp only [Result.andThen]; rw [Oper.upon_value]); (refine hK.out _ _ ?_ (fun hHeld => ?_)); (focus ((try dsimp only); (try trivial); done)); clear hK K; (try simp only [Act.put, List.setIfInBounds_toArray, List.set_cons_zero, List.set_cons_succ]))
          (refine AtF.only (oi := ?_) 9 ?_ ?_ (fun K hK => ?_); rotate_left 1; rfl; kernel_rfl; (try go_simp); skip; (refine hK.out _ _ ?_ (fun hHeld => ?_)); (focus ((try dsimp only); (try trivial); done)); clear hK K; (try simp only [Act.put, List.setIfInBounds_toArray, List.set_cons_zero, List.set_cons_succ]))
          (refine AtF.last (oi := ?_) ?_ ?_ (fun K hK => ?_); rotate_left 1; rfl; kernel_rfl; go_simp; skip; refine hK.out _ _ ?_; clear hK K; (try simp only [Act.put, List.setIfInBounds_toArray, List.set_cons_zero, List.set_cons_succ]))
          go_wp2
          go_returns
          rw [HC.out]
          exact ⟨rfl, by (repeat' (first | (with_reducible exact Below.refl _ _) | (with_reducible refine Below.alloc ?_ ?_ _) | (with_reducible refine below_ext ?_ ?_ _) | (with_reducible refine Below.drew ?_) | (with_reducible refine below_drewN ?_ _) | (with_reducible refine Below.setCell ?_ ?_ _) | go_size | (simp only [go_sem]; omega) | (simp [go_sem]; done) | (simp [go_sem]; omega)))⟩
        · ((try go_simp); (rw [HD.out _ _ rfl]; simp only [Result.andThen]; rw [Oper.upon_value]); (refine hK.out _ _ ?_ (fun hHeld => ?_)); (focus ((try dsimp only); (try trivial); done)); clear hK K; (try simp only [Act.put, List.setIfInBounds_toArray, List.set_cons_zero, List.set_cons_succ]))
          (refine AtF.only (oi := ?_) 2 ?_ ?_ (fun K hK => ?_); rotate_left 1; rfl; kernel_rfl; (try go_simp); (go_at_call 28; ((with_reducible refine (DE.out _).mono ?_); rintro _ _ hgets; obtain ⟨rfl, x1, rfl⟩ := hgets.get; clear hgets)); (refine hK.out _ _ ?_ (fun hHeld => ?_)); (focus ((try dsimp only); (try trivial); done)); clear hK K; (try simp only [Act.put, List.setIfInBounds_toArray, List.set_cons_zero, List.set_cons_succ]))
          (refine AtF.only (oi := ?_) 9 ?_ ?_ (fun K hK => ?_); rotate_left 1; rfl; kernel_rfl; (try go_simp); skip; (refine hK.out _ _ ?_ (fun hHeld => ?_)); (focus ((try dsimp only); (try trivial); done)); clear hK K; (try simp only [Act.put, List.setIfInBounds_toArray, List.set_cons_zero, List.set_cons_succ]))
          (refine AtF.last (oi := ?_) ?_ ?_ (fun K hK => ?_); rotate_left 1; rfl; kernel_rfl; go_simp; skip; refine hK.out _ _ ?_; clear hK K; (try simp only [Act.put, List.setIfInBounds_toArray, List.set_cons_zero, List.set_cons_succ]))
          go_wp2
          go_returns
          rw [HC.out]
          exact ⟨rfl, by (repeat' (first | (with_reducible exact Below.refl _ _) | (with_reducible refine Below.alloc ?_ ?_ _) | (with_reducible refine below_ext ?_ ?_ _) | (with_reducible refine Below.drew ?_) | (with_reducible refine below_drewN ?_ _) | (with_reducible refine Below.setCell ?_ ?_ _) | go_size | (simp only [go_sem]; omega) | (simp [go_sem]; done) | (simp [go_sem]; omega)))⟩
end Go.Proofs.YtphkfffphlembaaDoor
