/- ModeWords returns true for every input: a mode is set or not, whatever else is, and what is no mode's is no part of it. No condition. -/
import Derived.Test.YtdmfcijcecogdaaMode5
import Derived.Test.YtdmfcijcecogdaaFrame
namespace Go.Proofs.Ytdmfcijcecogdaa
open Go.ChangeShapes Go.WideShapes Go.ChangeAt Go.RowKit
set_option linter.unusedVariables false
set_option linter.unusedSimpArgs false

section
variable (m n : Nat)
def nW : Nat → Nat
  | 0 => n
  | k + 1 => withF (nW k) k (hasF m k)
def alW : Nat → Bool
  | 0 => true
  | k + 1 => alW k && (hasF m k == hasF (nW m n k) k)
end
theorem nW_next (m n k : Nat) : nW m n (k + 1) = withF (nW m n k) k (hasF m k) := rfl
theorem alW_next (m n k : Nat) : alW m n (k + 1) = (alW m n k && (hasF m k == hasF (nW m n k) k)) := rfl
theorem has_in {m k : Nat} (hk : k < 17) : hasF m k = m.testBit k := by
  unfold hasF
  rw [show inM (k : Int) = true by simp [inM]; omega]
  rfl
theorem nW_bit (m n : Nat) : ∀ k, k ≤ 17 → ∀ i, (nW m n k).testBit i = if i < k then m.testBit i else n.testBit i
  | 0, _, i => by simp [nW]
  | k + 1, hk, i => by
    have ih := nW_bit m n k (by omega) i
    rw [nW_next, has_in (by omega)]
    unfold withF
    rw [if_pos (by simp [inM]; omega), Int.toNat_natCast, test_set]
    by_cases h : i = k
    · subst h; simp
    · rw [if_neg h, ih]
      by_cases h2 : i < k
      · rw [if_pos h2, if_pos (by omega)]
      · rw [if_neg h2, if_neg (by omega)]
theorem alW_iff (m n : Nat) : ∀ k, k ≤ 17 → (alW m n k = true ↔ ∀ i, i < k → m.testBit i = n.testBit i)
  | 0, _ => by simp [alW]
  | k + 1, hk => by
    rw [alW_next, Bool.and_eq_true, alW_iff m n k (by omega), has_in (by omega), has_in (by omega), nW_bit m n k (by omega), if_neg (by omega)]
    constructor
    · rintro ⟨h1, h2⟩ i hi
      by_cases h : i = k
      · subst h; simpa using h2
      · exact h1 i (by omega)
    · intro h
      exact ⟨fun i hi => h i (by omega), by simpa using h k (by omega)⟩
theorem nW_lt {m n : Nat} (hn : n < 4294967296) : ∀ k, nW m n k < 4294967296
  | 0 => hn
  | k + 1 => withF_lt _ _ (nW_lt hn k)
theorem low_eq (a b : Nat) : a % 131072 = b % 131072 ↔ ∀ i, i < 17 → a.testBit i = b.testBit i := by
  rw [show 131072 = 2 ^ 17 by rfl]
  constructor
  · intro h i hi
    have := congrArg (fun x => Nat.testBit x i) h
    simp only [Nat.testBit_mod_two_pow] at this
    simpa [hi] using this
  · intro h
    apply Nat.eq_of_testBit_eq
    intro i
    rw [Nat.testBit_mod_two_pow, Nat.testBit_mod_two_pow]
    by_cases hi : i < 17
    · rw [h i hi]
    · simp [hi]
theorem words_end (m n : Nat) : nW m n 17 % 131072 = m % 131072 ∧ alW m n 17 = decide (m % 131072 = n % 131072) := by
  constructor
  · rw [low_eq]
    intro i hi
    rw [nW_bit m n 17 (by omega), if_pos hi]
  · rw [Bool.eq_iff_iff, alW_iff m n 17 (by omega), decide_eq_true_iff, low_eq]
attribute [irreducible] nW alW
set_option maxHeartbeats 1000000 in
theorem ModeWords_walk (w : World) (m : Int) (wm : (Lit.int .u32 m).wf = true) (n : Int) (wn : (Lit.int .u32 n).wf = true) :
    Calls Try.prog 4 #[.int .u32 m, .int .u32 n] w (Gives w (.bool true)) := by
  have bm := bounds_u32 wm
  have bn := bounds_u32 wn
  obtain ⟨M, rfl⟩ : ∃ M : Nat, m = M := ⟨m.toNat, by omega⟩
  obtain ⟨N, rfl⟩ : ∃ N : Nat, n = N := ⟨n.toNat, by omega⟩
  have hM : M < 4294967296 := by omega
  have hN : N < 4294967296 := by omega
  have C1 := Lib.hid (fun w' => clear_c M hM w')
  have C2 := Lib.hid (fun w' => clear_c N hN w')
  have C4 := Lib.hid (fun w' => clear_c (nW M N 17) (nW_lt hN 17) w')
  have E := Lib.hid (words_end M N)
  have z1 : nW M N 0 = N := by unfold nW; rfl
  have z2 : alW M N 0 = true := by unfold alW; rfl
  have z1 := Lib.hid z1
  have z2 := Lib.hid z2
  clear wm wn
  go_enter Try.func4, Try.ntmps4
  go_wp2_with (first
    | (go_at_call 14; ((with_reducible refine (awake17 _).mono ?_); rintro _ _ hgets; obtain ⟨rfl, x1, rfl⟩ := hgets.get; clear hgets))
    | (go_at_call 19; ((with_reducible refine (C1.out _).mono ?_); rintro _ _ ⟨rfl, rfl⟩))
    | (go_at_call 19; ((with_reducible refine (C2.out _).mono ?_); rintro _ _ ⟨rfl, rfl⟩)))
  go_loopw [1, 6, 7] (fun nn al i wr => ∃ j : Nat, j ≤ 17 ∧ i = .int .i64 j ∧ nn = .int .u32 (nW M N j) ∧ al = .bool (alW M N j) ∧ wr = ext w x1) (fun _ _ i _ => 17 - (intOf i).toNat)
  case atStart => exact ⟨0, by omega, rfl, by rw [z1.out], by rw [z2.out], rfl⟩
  case round =>
    obtain ⟨j, hj, rfl, rfl, rfl, rfl⟩ := hrel
    by_cases hlt : j < 17
    · have H1 := Lib.hid (fun w' => has_c M hM j w')
      have H2 := Lib.hid (fun w' => has_c (nW M N j) (nW_lt hN j) j w')
      have W := Lib.hid (fun w' => with_c (nW M N j) (nW_lt hN j) j (hasF M j) w')
      have e1 := Lib.hid (nW_next M N j)
      have e2 := Lib.hid (alW_next M N j)
      generalize withF (nW M N j) j (hasF M j) = q at W e1
      generalize hasF M j = a at H1 W e2
      generalize hasF (nW M N j) j = b at H2 e2
      generalize nW M N j = p at H2 W
      generalize alW M N j = c at e2
      cases c
      all_goals go_wp2_with (first
        | (go_at_call 17; ((with_reducible refine (H1.out _).mono ?_); rintro _ _ ⟨rfl, rfl⟩))
        | (go_at_call 17; ((with_reducible refine (H2.out _).mono ?_); rintro _ _ ⟨rfl, rfl⟩))
        | (go_at_call 15; ((with_reducible refine (W.out _).mono ?_); rintro _ _ ⟨rfl, rfl⟩)))
      all_goals go_roundw
      all_goals first
        | (refine ⟨j + 1, by omega, by go_num, ?_, ?_, by first | rfl | trivial⟩
           · rw [e1.out]
           · rw [e2.out]; simp)
        | (simp [intOf]; omega)
    · have hj' : j = 17 := by omega
      subst hj'
      obtain ⟨E1, E2⟩ := E.out
      rw [E1] at C4
      rw [E2]
      generalize nW M N 17 = p at C4
      clear E E1 E2
      have hmm : M % 131072 % 131072 = M % 131072 := by omega
      have cM : ((M % 131072 : Nat) : Int) = (M : Int) % 131072 := by omega
      have C3 := Lib.hid (show ∀ w', Calls Try.prog 19 #[.int .u32 ((M : Int) % 131072)] w' (Same w' (.int .u32 ((M : Int) % 131072))) from fun w' => by have h := clear_c (M % 131072) (by omega) w'; rw [hmm, cM] at h; exact h)
      have cN : ((N % 131072 : Nat) : Int) = (N : Int) % 131072 := by omega
      by_cases hab : M % 131072 = N % 131072
      · have hb : ((M : Int) % 131072 == (N : Int) % 131072) = true := by rw [beq_iff_eq]; omega
        rw [decide_eq_true hab]
        clear hab hmm
        rw [hb]
        go_wp2_with (first
          | (go_at_call 19; ((with_reducible refine (C1.out _).mono ?_); rintro _ _ ⟨rfl, rfl⟩))
          | (go_at_call 19; ((with_reducible refine (C4.out _).mono ?_); rintro _ _ ⟨rfl, rfl⟩))
          | (go_at_call 19; ((with_reducible refine (C3.out _).mono ?_); rintro _ _ ⟨rfl, rfl⟩)))
        all_goals go_returns
        all_goals exact ⟨rfl, by (repeat' (first | (with_reducible exact Below.refl _ _) | (with_reducible refine Below.alloc ?_ ?_ _) | (with_reducible refine below_ext ?_ ?_ _) | (with_reducible refine Below.drew ?_) | (with_reducible refine below_drewN ?_ _) | (with_reducible refine Below.setCell ?_ ?_ _) | go_size | (simp only [go_sem]; omega) | (simp [go_sem]; done) | (simp [go_sem]; omega)))⟩
      · have hb : ((M : Int) % 131072 == (N : Int) % 131072) = false := by rw [beq_eq_false_iff_ne]; omega
        rw [decide_eq_false hab]
        clear hab hmm
        rw [hb]
        go_wp2_with (first
          | (go_at_call 19; ((with_reducible refine (C1.out _).mono ?_); rintro _ _ ⟨rfl, rfl⟩))
          | (go_at_call 19; ((with_reducible refine (C4.out _).mono ?_); rintro _ _ ⟨rfl, rfl⟩))
          | (go_at_call 19; ((with_reducible refine (C3.out _).mono ?_); rintro _ _ ⟨rfl, rfl⟩)))
        all_goals go_returns
        all_goals exact ⟨rfl, by (repeat' (first | (with_reducible exact Below.refl _ _) | (with_reducible refine Below.alloc ?_ ?_ _) | (with_reducible refine below_ext ?_ ?_ _) | (with_reducible refine Below.drew ?_) | (with_reducible refine below_drewN ?_ _) | (with_reducible refine Below.setCell ?_ ?_ _) | go_size | (simp only [go_sem]; omega) | (simp [go_sem]; done) | (simp [go_sem]; omega)))⟩

set_option maxRecDepth 100000 in
theorem ModeWords_lifted (os : Os) (started : os.Started) (H : Type) (enc : TypeId × Value → H) :
    ReturnsInHanded {} Try.checked os 4 .any (Rows.modeWordsSpec.pre6 enc Try.prog Try.f4 Rows.modeWordsRow.domain false) (Rows.modeWordsSpec.post enc Try.prog Try.f4 false true false false) := by
  refine returnsInHanded_of_change_sized (C := Try.checked) own started (by kernel_rfl) Try.func4
    (ChangeSpec.witness6 (enc := enc) (C := Try.checked) false ⟨#[], #[.int .u32 0, .int .u32 0], []⟩ 8 (by kernel_rfl) (by kernel_rfl) (by kernel_rfl) (by kernel_rfl)) ?_
  intro W base args ds gs before hval0 hW hcnd hsz0 _
  have hval : ∀ (j : Nat) t v, Try.f4.params[j]? = some t → args[j]? = some v → Value.okWide Try.prog W .any base t v := hval0
  have hsz : (DataW.weightsEach Try.prog (Try.f4.params.toList ++ Rows.modeWordsSpec.plain.varTypes Try.prog) (ds ++ gs)).all (· ≤ reachBytes) = true := hsz0
  have hW' := hW
  obtain ⟨p, q, hA0, hV, rfl, hfz, hnd⟩ := hW
  have hA : DataW.TrodAll enc Try.prog W 0 (fun _ => true) true Try.f4.params.toList args.toList ds p := hA0
  rw [Try.params4] at hA hval hsz
  obtain ⟨v0, vs0, d0, ds0, p0, q0, hargs, rfl, rfl, h0, r0⟩ := trodAll_cons hA
  obtain ⟨v1, vs1, d1, ds1, p1, q1, rfl, rfl, rfl, h1, r1⟩ := trodAll_cons r0
  obtain ⟨rfl, rfl, rfl⟩ := trodAll_nil r1
  obtain rfl : args = #[v0, v1] := by cases args; simp_all
  obtain ⟨rfl, rfl⟩ := trodVars_none hV
  clear hA0 hval0 hsz0
  obtain ⟨a0, rfl, -, -, w0⟩ := open_int Try.underlying23 (hval 0 23 v0 rfl rfl) h0
  obtain ⟨a1, rfl, -, -, w1⟩ := open_int Try.underlying23 (hval 1 23 v1 rfl rfl) h1
  refine (ModeWords_walk W a0 w0 a1 w1).mono fun e W' ⟨he, hb⟩ => ⟨_, he, ?_⟩
  exact law_post laidOut rfl (by kernel_rfl) (by kernel_rfl) Try.underlying4 hW' rfl hb

theorem ModeWords_holds : Rows.ModeWordsSaid :=
  OpenClaim.holds_of_wide 4 Try.f4 rfl rfl rfl rfl rfl rfl rfl ⟨rfl, rfl, rfl, rfl, rfl⟩ rfl rfl rfl rfl rfl (by kernel_rfl) Try.func4 (by kernel_rfl)
    (of_decide_eq_true (by kernel_rfl)) (by unfold Func.isWrapper; first | (rw [if_pos (by decide +kernel)]; kernel_rfl) | (rw [if_neg (by decide +kernel)]; exact ⟨rfl, rfl⟩))
    (fun os started H enc _ => ModeWords_lifted os started H enc)
#print axioms ModeWords_holds

end Go.Proofs.Ytdmfcijcecogdaa
