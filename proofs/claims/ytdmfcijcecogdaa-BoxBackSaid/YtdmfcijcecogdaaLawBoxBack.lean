/- BoxBack returns true for every input: margins and rectangles that are told again by their own numbers are the same. No condition. -/
import Derived.Test.YtdmfcijcecogdaaFrame
import Derived.Test.YtdmfcijcecogdaaRectLaws
namespace Go.Proofs.Ytdmfcijcecogdaa
open Go.ChangeShapes Go.WideShapes Go.ChangeAt Go.RowKit
set_option linter.unusedVariables false
set_option linter.unusedSimpArgs false

set_option maxRecDepth 100000 in
set_option maxHeartbeats 4000000 in
theorem BoxBack_walk (w : World) (t l b r : Int) (wt : (Lit.int .i64 t).wf = true) (wl : (Lit.int .i64 l).wf = true) (wb : (Lit.int .i64 b).wf = true) (wr : (Lit.int .i64 r).wf = true) (a : Option Addr) (c : Nat) (xs : List Int) (rd : Rd (encI .i64) 1 w a xs) (lc : xs.length ≤ c) (cm : c ≤ maxLen) (wf : ∀ n ∈ xs, (Lit.int .i64 n).wf = true) (re : c * 8 ≤ 140737488351232) (n : Int) (wn : (Lit.int .i64 n).wf = true) :
    Calls Try.prog 9 #[.agg #[.int .i64 t, .int .i64 l, .int .i64 b, .int .i64 r], .slice a xs.length c, .int .i64 n] w (Gives w (.bool true)) := by
  unfold maxLen at cm
  have X := Lib.hid rd
  have WF := Lib.hid (wf_le wf)
  clear rd wf
  by_cases hs : (-1000000 ≤ t ∧ t ≤ 1000000) ∧ (-1000000 ≤ l ∧ l ≤ 1000000) ∧ (-1000000 ≤ b ∧ b ≤ 1000000) ∧ (-1000000 ≤ r ∧ r ≤ 1000000)
  · have c0 := fun w' => small_c t l b r w'
    rw [decide_eq_true hs] at c0
    have C0 := Lib.hid c0
    clear c0
    have c1 := fun w' (h : Ints w' a xs) => rect_c t l b r a c xs 0 w' hs.1 hs.2.1 hs.2.2.1 hs.2.2.2 h (by omega) (by omega) (by omega) WF.out
    have p1 := fun w' (h : Ints w' a xs) => place_c t l b r a c xs 0 w' hs.1 hs.2.1 hs.2.2.1 hs.2.2.2 h (by omega) (by omega) (by omega)
    by_cases ho : rectOk t l b r xs 0 = true
    · obtain ⟨x, y, z, u, e, h1, h2, h3, h4, h5, h6, -, -, -, -⟩ := rect_bd ho
      have d1 : ∀ A' w', Ints w' A' [x - t + 1, y - l + 1, z - t, u - l] → Calls Try.prog 32 #[.agg #[.int .i64 t, .int .i64 l, .int .i64 b, .int .i64 r], .slice A' 4 4, .int .i64 0] w' (Gives w' (.tuple #[.agg #[.int .i64 x, .int .i64 y, .int .i64 z, .int .i64 u], .bool true])) := by
        intro A' w' h
        have := rect_c t l b r A' 4 [x - t + 1, y - l + 1, z - t, u - l] 0 w' hs.1 hs.2.1 hs.2.2.1 hs.2.2.2 h (by simp) (by simp) (by omega) (by intro n hn; simp at hn; omega)
        rw [rect_again ⟨h1, h2, h3, h4, h5, h6⟩] at this
        exact this
      obtain ⟨X0, Y0, hX, hY, bx, by', ep, eq⟩ : ∃ X0 Y0 : Int, (-1000000 ≤ X0 ∧ X0 ≤ 1000000) ∧ (-1000000 ≤ Y0 ∧ Y0 ≤ 1000000) ∧ t ≤ X0 ∧ l ≤ Y0 ∧
          placeV t l b r xs 0 = .agg #[.int .i64 X0, .int .i64 Y0] ∧ placeV t l b r [X0 - t + 1, Y0 - l + 1] 0 = .agg #[.int .i64 X0, .int .i64 Y0] := by
        refine ⟨placeI t b (num0 xs 0 0), placeI l r (num0 xs 0 1), by unfold placeI; omega, by unfold placeI; omega, by unfold placeI; omega, by unfold placeI; omega, by unfold placeV; rw [if_neg (by omega)], ?_⟩
        unfold placeV
        rw [if_neg (by omega)]
        show Value.agg #[.int .i64 (placeI t b (placeI t b (num0 xs 0 0) - t + 1)), .int .i64 (placeI l r (placeI l r (num0 xs 0 1) - l + 1))] = _
        rw [place_again _ _ _ (by omega), place_again _ _ _ (by omega)]
      have p2 : ∀ A' w', Ints w' A' [X0 - t + 1, Y0 - l + 1] → Calls Try.prog 37 #[.agg #[.int .i64 t, .int .i64 l, .int .i64 b, .int .i64 r], .slice A' 2 2, .int .i64 0] w' (Gives w' (.agg #[.int .i64 X0, .int .i64 Y0])) := by
        intro A' w' h
        have := place_c t l b r A' 2 [X0 - t + 1, Y0 - l + 1] 0 w' hs.1 hs.2.1 hs.2.2.1 hs.2.2.2 h (by simp) (by simp) (by omega)
        rw [eq] at this
        exact this
      rw [e] at c1
      rw [ep] at p1
      have C1 := Lib.hid c1
      have P1 := Lib.hid p1
      have D1 := Lib.hid d1
      have P2 := Lib.hid p2
      obtain ⟨⟨_, _⟩, ⟨_, _⟩, ⟨_, _⟩, ⟨_, _⟩⟩ := hs
      obtain ⟨_, _⟩ := hX
      obtain ⟨_, _⟩ := hY
      clear c1 p1 d1 p2 e ep eq ho
      by_cases hl : xs.length < 2
      · go_enter Try.func9, Try.ntmps9
        go_wp2_with (first
          | (go_at_call 28; ((with_reducible refine (awake5 _).mono ?_); rintro _ _ hgets; obtain ⟨rfl, _, rfl⟩ := hgets.get; clear hgets))
          | (go_at_call 31; ((with_reducible refine (C0.out _).mono ?_); rintro _ _ hgets; obtain ⟨rfl, _, rfl⟩ := hgets.get; clear hgets))
          | (go_at_call 32; ((with_reducible refine (C1.out _ (by repeat (first | exact X.out | exact X | refine Rd.ext ?_ _ | refine Rd.alloc ?_ _ | refine Rd.drew ?_))).mono ?_); rintro _ _ hgets; obtain ⟨rfl, _, rfl⟩ := hgets.get; clear hgets))
          | (go_at_call 32; ((with_reducible refine (D1.out _ _ (by exact (Own.new (encI_len .i64) (by simp) rfl _ rfl (Nat.zero_le _) (by simp [maxLen])).rd (encI_len .i64))).mono ?_); rintro _ _ hgets; obtain ⟨rfl, _, rfl⟩ := hgets.get; clear hgets))
          | (go_at_call 37; ((with_reducible refine (P1.out _ (by repeat (first | exact X.out | exact X | refine Rd.ext ?_ _ | refine Rd.alloc ?_ _ | refine Rd.drew ?_))).mono ?_); rintro _ _ hgets; obtain ⟨rfl, _, rfl⟩ := hgets.get; clear hgets))
          | (go_at_call 37; ((with_reducible refine (P2.out _ _ (by exact (Own.new (encI_len .i64) (by simp) rfl _ rfl (Nat.zero_le _) (by simp [maxLen])).rd (encI_len .i64))).mono ?_); rintro _ _ hgets; obtain ⟨rfl, _, rfl⟩ := hgets.get; clear hgets)))
        all_goals go_returns
        all_goals refine ⟨?_, by (repeat' (first | (with_reducible exact Below.refl _ _) | (with_reducible refine Below.alloc ?_ ?_ _) | (with_reducible refine below_ext ?_ ?_ _) | (with_reducible refine Below.drew ?_) | (with_reducible refine below_drewN ?_ _) | (with_reducible refine Below.setCell ?_ ?_ _) | go_size | (simp only [go_sem]; omega) | (simp [go_sem]; done) | (simp [go_sem]; omega)))⟩
        all_goals rfl
      · obtain ⟨b0, off, rfl, hb0, hc0⟩ := Ints.cell X.out (k := 0) (by omega)
        have hc1 : w.cell? ⟨b0, off + 1, none⟩ = some (.int .i64 xs[1]) := by
          obtain ⟨b1, o1, e1, -, h⟩ := Ints.cell X.out (k := 1) (by omega)
          injection e1 with e1
          injection e1 with e1 e2 _
          subst e1 e2
          exact h
        simp only [Nat.add_zero] at hc0
        have hf0 : xs[0] ≤ 9223372036854775807 := WF.out _ (List.getElem_mem _)
        generalize xs[0] = f0 at hc0 hf0
        generalize xs[1] = l0 at hc1
        have s1 := fun w' => span_c n f0 l0 w' hf0
        have hlen : (1 : Int) < (xs.length : Int) := by omega
        have hlen0 : (0 : Int) < (xs.length : Int) := by omega
        by_cases hk : spanOk n f0 l0 = true
        · obtain ⟨F, L, e1, e2, _, _⟩ : ∃ F L : Int, spanV n f0 l0 = .tuple #[.int .i64 F, .int .i64 L, .bool true] ∧ spanV n (F + 1) L = .tuple #[.int .i64 F, .int .i64 L, .bool true] ∧ 0 ≤ F ∧ F ≤ 9223372036854775806 := by
            have hk' := hk
            simp only [spanOk, Bool.and_eq_true, decide_eq_true_eq] at hk'
            have q := spanV_yes (n := n) (f := f0) (l := l0) (a := spanA f0 - 1) (b := lastA n l0) ⟨hk'.1.1, hk'.1.2, hk'.2⟩ rfl rfl
            have h1 : 1 ≤ spanA f0 ∧ spanA f0 ≤ 9223372036854775807 := by unfold spanA; split <;> omega
            exact ⟨_, _, q, by rw [span_again hk, q], by omega, by omega⟩
          have s2 := fun w' => span_c n (F + 1) L w' (by omega)
          rw [e1] at s1
          rw [e2] at s2
          have S1 := Lib.hid s1
          have S2 := Lib.hid s2
          clear s1 s2 e1 e2 hk hf0 wn
          go_enter Try.func9, Try.ntmps9
          go_wp2_with (first
                    | (go_at_call 28; ((with_reducible refine (awake5 _).mono ?_); rintro _ _ hgets; obtain ⟨rfl, _, rfl⟩ := hgets.get; clear hgets))
                    | (go_at_call 31; ((with_reducible refine (C0.out _).mono ?_); rintro _ _ hgets; obtain ⟨rfl, _, rfl⟩ := hgets.get; clear hgets))
                    | (go_at_call 32; ((with_reducible refine (C1.out _ (by repeat (first | exact X.out | exact X | refine Rd.ext ?_ _ | refine Rd.alloc ?_ _ | refine Rd.drew ?_))).mono ?_); rintro _ _ hgets; obtain ⟨rfl, _, rfl⟩ := hgets.get; clear hgets))
                    | (go_at_call 32; ((with_reducible refine (D1.out _ _ (by exact (Own.new (encI_len .i64) (by simp) rfl _ rfl (Nat.zero_le _) (by simp [maxLen])).rd (encI_len .i64))).mono ?_); rintro _ _ hgets; obtain ⟨rfl, _, rfl⟩ := hgets.get; clear hgets))
                    | (go_at_call 37; ((with_reducible refine (P1.out _ (by repeat (first | exact X.out | exact X | refine Rd.ext ?_ _ | refine Rd.alloc ?_ _ | refine Rd.drew ?_))).mono ?_); rintro _ _ hgets; obtain ⟨rfl, _, rfl⟩ := hgets.get; clear hgets))
                    | (go_at_call 37; ((with_reducible refine (P2.out _ _ (by exact (Own.new (encI_len .i64) (by simp) rfl _ rfl (Nat.zero_le _) (by simp [maxLen])).rd (encI_len .i64))).mono ?_); rintro _ _ hgets; obtain ⟨rfl, _, rfl⟩ := hgets.get; clear hgets)))
          (refine wp_region_free (by kernel_rfl) (by kernel_rfl) ?_)
          repeat (go_big_quiet_step ((go_at_call 29; with_reducible exact Calls.free_same (S1.out _))))
          refine wpQuiet_nil ?_; rintro _ ⟨x9, rfl⟩
          go_wp2_with (go_at_call 29; ((with_reducible refine (S2.out _).mono ?_); rintro _ _ ⟨rfl, rfl⟩))
          all_goals go_returns
          all_goals refine ⟨?_, by (repeat' (first | (with_reducible exact Below.refl _ _) | (with_reducible refine Below.alloc ?_ ?_ _) | (with_reducible refine below_ext ?_ ?_ _) | (with_reducible refine Below.drew ?_) | (with_reducible refine below_drewN ?_ _) | (with_reducible refine Below.setCell ?_ ?_ _) | go_size | (simp only [go_sem]; omega) | (simp [go_sem]; done) | (simp [go_sem]; omega)))⟩
          all_goals rfl
        · have e1 : spanV n f0 l0 = .tuple #[.int .i64 0, .int .i64 0, .bool false] := by simp [spanV, hk]
          obtain ⟨F, L, C, e2⟩ : ∃ F L C, spanV n 1 0 = .tuple #[.int .i64 F, .int .i64 L, .bool C] := ⟨_, _, _, rfl⟩
          have s2 := fun w' => span_c n 1 0 w' (by omega)
          rw [e1] at s1
          rw [e2] at s2
          have S1 := Lib.hid s1
          have S2 := Lib.hid s2
          clear s1 s2 e1 e2 hk hf0 wn
          go_enter Try.func9, Try.ntmps9
          go_wp2_with (first
                    | (go_at_call 28; ((with_reducible refine (awake5 _).mono ?_); rintro _ _ hgets; obtain ⟨rfl, _, rfl⟩ := hgets.get; clear hgets))
                    | (go_at_call 31; ((with_reducible refine (C0.out _).mono ?_); rintro _ _ hgets; obtain ⟨rfl, _, rfl⟩ := hgets.get; clear hgets))
                    | (go_at_call 32; ((with_reducible refine (C1.out _ (by repeat (first | exact X.out | exact X | refine Rd.ext ?_ _ | refine Rd.alloc ?_ _ | refine Rd.drew ?_))).mono ?_); rintro _ _ hgets; obtain ⟨rfl, _, rfl⟩ := hgets.get; clear hgets))
                    | (go_at_call 32; ((with_reducible refine (D1.out _ _ (by exact (Own.new (encI_len .i64) (by simp) rfl _ rfl (Nat.zero_le _) (by simp [maxLen])).rd (encI_len .i64))).mono ?_); rintro _ _ hgets; obtain ⟨rfl, _, rfl⟩ := hgets.get; clear hgets))
                    | (go_at_call 37; ((with_reducible refine (P1.out _ (by repeat (first | exact X.out | exact X | refine Rd.ext ?_ _ | refine Rd.alloc ?_ _ | refine Rd.drew ?_))).mono ?_); rintro _ _ hgets; obtain ⟨rfl, _, rfl⟩ := hgets.get; clear hgets))
                    | (go_at_call 37; ((with_reducible refine (P2.out _ _ (by exact (Own.new (encI_len .i64) (by simp) rfl _ rfl (Nat.zero_le _) (by simp [maxLen])).rd (encI_len .i64))).mono ?_); rintro _ _ hgets; obtain ⟨rfl, _, rfl⟩ := hgets.get; clear hgets)))
          (refine wp_region_free (by kernel_rfl) (by kernel_rfl) ?_)
          repeat (go_big_quiet_step ((go_at_call 29; with_reducible exact Calls.free_same (S1.out _))))
          refine wpQuiet_nil ?_; rintro _ ⟨x9, rfl⟩
          go_wp2_with (go_at_call 29; ((with_reducible refine (S2.out _).mono ?_); rintro _ _ ⟨rfl, rfl⟩))
          all_goals go_returns
          all_goals refine ⟨?_, by (repeat' (first | (with_reducible exact Below.refl _ _) | (with_reducible refine Below.alloc ?_ ?_ _) | (with_reducible refine below_ext ?_ ?_ _) | (with_reducible refine Below.drew ?_) | (with_reducible refine below_drewN ?_ _) | (with_reducible refine Below.setCell ?_ ?_ _) | go_size | (simp only [go_sem]; omega) | (simp [go_sem]; done) | (simp [go_sem]; omega)))⟩
          all_goals rfl
    · have e : rectV t l b r xs 0 = .tuple #[.agg #[.int .i64 0, .int .i64 0, .int .i64 0, .int .i64 0], .bool false] := rectV_no (by simpa using ho)
      rw [e] at c1
      have C1 := Lib.hid c1
      clear c1 p1 e ho
      by_cases hl : xs.length < 2
      · go_enter Try.func9, Try.ntmps9
        go_wp2_with (first
                  | (go_at_call 28; ((with_reducible refine (awake5 _).mono ?_); rintro _ _ hgets; obtain ⟨rfl, _, rfl⟩ := hgets.get; clear hgets))
                  | (go_at_call 31; ((with_reducible refine (C0.out _).mono ?_); rintro _ _ hgets; obtain ⟨rfl, _, rfl⟩ := hgets.get; clear hgets))
                  | (go_at_call 32; ((with_reducible refine (C1.out _ (by repeat (first | exact X.out | exact X | refine Rd.ext ?_ _ | refine Rd.alloc ?_ _ | refine Rd.drew ?_))).mono ?_); rintro _ _ hgets; obtain ⟨rfl, _, rfl⟩ := hgets.get; clear hgets))
                  | fail)
        all_goals go_returns
        all_goals refine ⟨?_, by (repeat' (first | (with_reducible exact Below.refl _ _) | (with_reducible refine Below.alloc ?_ ?_ _) | (with_reducible refine below_ext ?_ ?_ _) | (with_reducible refine Below.drew ?_) | (with_reducible refine below_drewN ?_ _) | (with_reducible refine Below.setCell ?_ ?_ _) | go_size | (simp only [go_sem]; omega) | (simp [go_sem]; done) | (simp [go_sem]; omega)))⟩
        all_goals rfl
      · obtain ⟨b0, off, rfl, hb0, hc0⟩ := Ints.cell X.out (k := 0) (by omega)
        have hc1 : w.cell? ⟨b0, off + 1, none⟩ = some (.int .i64 xs[1]) := by
          obtain ⟨b1, o1, e1, -, h⟩ := Ints.cell X.out (k := 1) (by omega)
          injection e1 with e1
          injection e1 with e1 e2 _
          subst e1 e2
          exact h
        simp only [Nat.add_zero] at hc0
        have hf0 : xs[0] ≤ 9223372036854775807 := WF.out _ (List.getElem_mem _)
        generalize xs[0] = f0 at hc0 hf0
        generalize xs[1] = l0 at hc1
        have s1 := fun w' => span_c n f0 l0 w' hf0
        have hlen : (1 : Int) < (xs.length : Int) := by omega
        have hlen0 : (0 : Int) < (xs.length : Int) := by omega
        by_cases hk : spanOk n f0 l0 = true
        · obtain ⟨F, L, e1, e2, _, _⟩ : ∃ F L : Int, spanV n f0 l0 = .tuple #[.int .i64 F, .int .i64 L, .bool true] ∧ spanV n (F + 1) L = .tuple #[.int .i64 F, .int .i64 L, .bool true] ∧ 0 ≤ F ∧ F ≤ 9223372036854775806 := by
            have hk' := hk
            simp only [spanOk, Bool.and_eq_true, decide_eq_true_eq] at hk'
            have q := spanV_yes (n := n) (f := f0) (l := l0) (a := spanA f0 - 1) (b := lastA n l0) ⟨hk'.1.1, hk'.1.2, hk'.2⟩ rfl rfl
            have h1 : 1 ≤ spanA f0 ∧ spanA f0 ≤ 9223372036854775807 := by unfold spanA; split <;> omega
            exact ⟨_, _, q, by rw [span_again hk, q], by omega, by omega⟩
          have s2 := fun w' => span_c n (F + 1) L w' (by omega)
          rw [e1] at s1
          rw [e2] at s2
          have S1 := Lib.hid s1
          have S2 := Lib.hid s2
          clear s1 s2 e1 e2 hk hf0 wn
          go_enter Try.func9, Try.ntmps9
          go_wp2_with (first
                    | (go_at_call 28; ((with_reducible refine (awake5 _).mono ?_); rintro _ _ hgets; obtain ⟨rfl, _, rfl⟩ := hgets.get; clear hgets))
                    | (go_at_call 31; ((with_reducible refine (C0.out _).mono ?_); rintro _ _ hgets; obtain ⟨rfl, _, rfl⟩ := hgets.get; clear hgets))
                    | (go_at_call 32; ((with_reducible refine (C1.out _ (by repeat (first | exact X.out | exact X | refine Rd.ext ?_ _ | refine Rd.alloc ?_ _ | refine Rd.drew ?_))).mono ?_); rintro _ _ hgets; obtain ⟨rfl, _, rfl⟩ := hgets.get; clear hgets))
                    | fail)
          (refine wp_region_free (by kernel_rfl) (by kernel_rfl) ?_)
          repeat (go_big_quiet_step ((go_at_call 29; with_reducible exact Calls.free_same (S1.out _))))
          refine wpQuiet_nil ?_; rintro _ ⟨x9, rfl⟩
          go_wp2_with (go_at_call 29; ((with_reducible refine (S2.out _).mono ?_); rintro _ _ ⟨rfl, rfl⟩))
          all_goals go_returns
          all_goals refine ⟨?_, by (repeat' (first | (with_reducible exact Below.refl _ _) | (with_reducible refine Below.alloc ?_ ?_ _) | (with_reducible refine below_ext ?_ ?_ _) | (with_reducible refine Below.drew ?_) | (with_reducible refine below_drewN ?_ _) | (with_reducible refine Below.setCell ?_ ?_ _) | go_size | (simp only [go_sem]; omega) | (simp [go_sem]; done) | (simp [go_sem]; omega)))⟩
          all_goals rfl
        · have e1 : spanV n f0 l0 = .tuple #[.int .i64 0, .int .i64 0, .bool false] := by simp [spanV, hk]
          obtain ⟨F, L, C, e2⟩ : ∃ F L C, spanV n 1 0 = .tuple #[.int .i64 F, .int .i64 L, .bool C] := ⟨_, _, _, rfl⟩
          have s2 := fun w' => span_c n 1 0 w' (by omega)
          rw [e1] at s1
          rw [e2] at s2
          have S1 := Lib.hid s1
          have S2 := Lib.hid s2
          clear s1 s2 e1 e2 hk hf0 wn
          go_enter Try.func9, Try.ntmps9
          go_wp2_with (first
                    | (go_at_call 28; ((with_reducible refine (awake5 _).mono ?_); rintro _ _ hgets; obtain ⟨rfl, _, rfl⟩ := hgets.get; clear hgets))
                    | (go_at_call 31; ((with_reducible refine (C0.out _).mono ?_); rintro _ _ hgets; obtain ⟨rfl, _, rfl⟩ := hgets.get; clear hgets))
                    | (go_at_call 32; ((with_reducible refine (C1.out _ (by repeat (first | exact X.out | exact X | refine Rd.ext ?_ _ | refine Rd.alloc ?_ _ | refine Rd.drew ?_))).mono ?_); rintro _ _ hgets; obtain ⟨rfl, _, rfl⟩ := hgets.get; clear hgets))
                    | fail)
          (refine wp_region_free (by kernel_rfl) (by kernel_rfl) ?_)
          repeat (go_big_quiet_step ((go_at_call 29; with_reducible exact Calls.free_same (S1.out _))))
          refine wpQuiet_nil ?_; rintro _ ⟨x9, rfl⟩
          go_wp2_with (go_at_call 29; ((with_reducible refine (S2.out _).mono ?_); rintro _ _ ⟨rfl, rfl⟩))
          all_goals go_returns
          all_goals refine ⟨?_, by (repeat' (first | (with_reducible exact Below.refl _ _) | (with_reducible refine Below.alloc ?_ ?_ _) | (with_reducible refine below_ext ?_ ?_ _) | (with_reducible refine Below.drew ?_) | (with_reducible refine below_drewN ?_ _) | (with_reducible refine Below.setCell ?_ ?_ _) | go_size | (simp only [go_sem]; omega) | (simp [go_sem]; done) | (simp [go_sem]; omega)))⟩
          all_goals rfl
  · have c0 := fun w' => small_c t l b r w'
    rw [decide_eq_false hs] at c0
    have C0 := Lib.hid c0
    clear c0 hs
    go_enter Try.func9, Try.ntmps9
    go_wp2_with (first
      | (go_at_call 28; ((with_reducible refine (awake5 _).mono ?_); rintro _ _ hgets; obtain ⟨rfl, _, rfl⟩ := hgets.get; clear hgets))
      | (go_at_call 31; ((with_reducible refine (C0.out _).mono ?_); rintro _ _ hgets; obtain ⟨rfl, _, rfl⟩ := hgets.get; clear hgets)))
    go_returns
    exact ⟨rfl, by (repeat' (first | (with_reducible exact Below.refl _ _) | (with_reducible refine Below.alloc ?_ ?_ _) | (with_reducible refine below_ext ?_ ?_ _) | (with_reducible refine Below.drew ?_) | (with_reducible refine below_drewN ?_ _) | (with_reducible refine Below.setCell ?_ ?_ _) | go_size | (simp only [go_sem]; omega) | (simp [go_sem]; done) | (simp [go_sem]; omega)))⟩

set_option maxRecDepth 100000 in
theorem BoxBack_lifted (os : Os) (started : os.Started) (H : Type) (enc : TypeId × Value → H) :
    ReturnsInHanded {} Try.checked os 9 .any (Rows.boxBackSpec.pre6 enc Try.prog Try.f9 Rows.boxBackRow.domain false) (Rows.boxBackSpec.post enc Try.prog Try.f9 false true false false) := by
  refine returnsInHanded_of_change_sized (C := Try.checked) own started (by kernel_rfl) Try.func9
    (ChangeSpec.witness6 (enc := enc) (C := Try.checked) false ⟨#[], #[.agg #[.int .i64 0, .int .i64 0, .int .i64 0, .int .i64 0], .slice none 0 0, .int .i64 0], []⟩ 8 (by kernel_rfl) (by kernel_rfl) (by kernel_rfl) (by kernel_rfl)) ?_
  intro W base args ds gs before hval0 hW hcnd hsz0 _
  have hval : ∀ (j : Nat) t v, Try.f9.params[j]? = some t → args[j]? = some v → Value.okWide Try.prog W .any base t v := hval0
  have hsz : (DataW.weightsEach Try.prog (Try.f9.params.toList ++ Rows.boxBackSpec.plain.varTypes Try.prog) (ds ++ gs)).all (· ≤ reachBytes) = true := hsz0
  have hW' := hW
  obtain ⟨p, q, hA0, hV, rfl, hfz, hnd⟩ := hW
  have hA : DataW.TrodAll enc Try.prog W 0 (fun _ => true) true Try.f9.params.toList args.toList ds p := hA0
  rw [Try.params9] at hA hval hsz
  obtain ⟨v0, vs0, d0, ds0, p0, q0, hargs, rfl, rfl, h0, r0⟩ := trodAll_cons hA
  obtain ⟨v1, vs1, d1, ds1, p1, q1, rfl, rfl, rfl, h1, r1⟩ := trodAll_cons r0
  obtain ⟨v2, vs2, d2, ds2, p2, q2, rfl, rfl, rfl, h2, r2⟩ := trodAll_cons r1
  obtain ⟨rfl, rfl, rfl⟩ := trodAll_nil r2
  obtain rfl : args = #[v0, v1, v2] := by cases args; simp_all
  obtain ⟨rfl, rfl⟩ := trodVars_none hV
  clear hA0 hval0 hsz0
  obtain ⟨bt0, bl0, bb0, br0, rfl, wt0, wl0, wb0, wr0⟩ := open_box (hval 0 50 v0 rfl rfl) h0
  obtain ⟨a1, c1, xs1, rfl, rd1, lc1, cm1, wf1, dd1⟩ := open_ints_rd Try.underlying24 Try.underlying3 (by kernel_rfl) (okWide_slice Try.underlying24 (hval 1 24 v1 rfl rfl)) h1
  have re1 : c1 * 8 ≤ 140737488351232 := by
    rcases dd1 with ⟨-, e⟩ | ⟨es, sp, rfl, e⟩
    · omega
    · have := sized_slice hsz (j := 1) (t := 24) (e := 3) rfl rfl Try.underlying24
      rw [show Try.prog.bytesOf 3 = 8 by kernel_rfl] at this
      simp only [reachBytes] at this
      omega
  obtain ⟨a2, rfl, -, -, w2⟩ := open_int Try.underlying3 (hval 2 3 v2 rfl rfl) h2
  refine (BoxBack_walk W bt0 bl0 bb0 br0 wt0 wl0 wb0 wr0 a1 c1 xs1 rd1 lc1 cm1 wf1 re1 a2 w2).mono fun e W' ⟨he, hb⟩ => ⟨_, he, ?_⟩
  exact law_post laidOut rfl (by kernel_rfl) (by kernel_rfl) Try.underlying4 hW' rfl hb

theorem BoxBack_holds : Rows.BoxBackSaid :=
  OpenClaim.holds_of_wide 9 Try.f9 rfl rfl rfl rfl rfl rfl rfl ⟨rfl, rfl, rfl, rfl, rfl⟩ rfl rfl rfl rfl rfl (by kernel_rfl) Try.func9 (by kernel_rfl)
    (of_decide_eq_true (by kernel_rfl)) (by unfold Func.isWrapper; first | (rw [if_pos (by decide +kernel)]; kernel_rfl) | (rw [if_neg (by decide +kernel)]; exact ⟨rfl, rfl⟩))
    (fun os started H enc _ => BoxBack_lifted os started H enc)
#print axioms BoxBack_holds

end Go.Proofs.Ytdmfcijcecogdaa
