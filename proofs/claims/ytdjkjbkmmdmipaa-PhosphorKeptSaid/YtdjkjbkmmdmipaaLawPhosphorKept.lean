/- PhosphorKept returns true for every input: texts that are stored as macros are there as long as there is space. No condition. -/
import Derived.Test.YtdjkjbkmmdmipaaKtF
import Derived.Test.YtdjkjbkmmdmipaaFrameStrs
namespace Go.Proofs.Ytdjkjbkmmdmipaa
open Go.ChangeShapes Go.WideShapes Go.ChangeAt Go.RowKit Go.Maps
set_option linter.unusedVariables false
set_option linter.unusedSimpArgs false

theorem fz_var (w : World) : StAt (w.alloc (.cells #[.map none] 25)) w.heap.size 0 (.map []) :=
  ⟨none, heap_alloc_new w _, .inl ⟨rfl, rfl⟩, fun b e => by cases e⟩
/-- what a round leaves -/
structure KpS (w wr : World) (i l : Nat) (D : Dm) : Prop where
  st : StAt wr w.heap.size i D
  no : ∀ k : Nat, i ≤ k → has D (.int .i64 k) = false
  sum : sumD D + l = 6144
  below : Below w.heap.size w wr
  map : IsMap D
theorem litInt {a b : Nat} (h : a ≠ b) : Lit.int .i64 (a : Int) ≠ Lit.int .i64 (b : Int) := by
  intro e
  injection e with _ e
  omega
set_option maxRecDepth 100000 in
set_option maxHeartbeats 16000000 in
theorem PhosphorKept_walk (w : World) (a : Option Addr) (c : Nat) (xs : List ByteArray) (rd : Rd encS 1 w a xs) (lc : xs.length ≤ c) (cm : c ≤ maxLen) (wf : ∀ s ∈ xs, s.size ≤ maxLen) (hx : Bool) :
    Calls Try.prog 3 #[.slice a xs.length c, .bool hx] w (fun e w' => e = .returned (.bool true) ∧ Below w.heap.size w w') := by
  obtain ⟨W1, hW1⟩ : ∃ W1, W1 = w.alloc (.cells #[.map none] 25) := ⟨_, rfl⟩
  have hK0 : KpS w W1 0 6144 (.map []) := by
    rw [hW1]
    exact ⟨fz_var w, fun k _ => rfl, rfl, by (repeat' (first | (with_reducible exact Below.refl _ _) | (with_reducible refine Below.alloc ?_ ?_ _) | (with_reducible refine below_ext ?_ ?_ _) | (with_reducible refine Below.drew ?_) | (with_reducible refine below_drewN ?_ _) | (with_reducible refine Below.setCell ?_ ?_ _) | go_size | (simp only [go_sem]; omega) | (simp [go_sem]; done) | (simp [go_sem]; omega))), isMap_empty⟩
  simp only [maxLen] at cm wf
  go_enter Try.func3, Try.ntmps3
  go_upto_region 3 with fail
  rw [← hW1]
  clear hW1
  go_upto_region 4 with fail
  go_loopw [7, 6] (fun iv lv wr => ∃ (i l : Nat) (D : Dm), i ≤ xs.length ∧ i ≤ 64 ∧ iv = .int .i64 i ∧ lv = .int .i64 l ∧ Hid (KpS w wr i l D)) (fun iv _ _ => xs.length - (intOf iv).toNat)
  case atStart => exact ⟨0, 6144, .map [], by omega, by omega, rfl, rfl, Lib.hid hK0⟩
  case round =>
    obtain ⟨i, l, D, hi, hi64, rfl, rfl, hK⟩ := hrel
    have hB := hK.out.below
    have hs : sumD D ≤ 6144 := by have := hK.out.sum; omega
    have hl2 : l ≤ 6144 := by have := hK.out.sum; omega
    have hl : Hid (6144 - sumD D = l) := Lib.hid (by have := hK.out.sum; omega)
    by_cases hin : i < xs.length ∧ i < 64
    · obtain ⟨g, o, rfl, hlt, hc⟩ := rd (by omega)
      have hc1 := hc i hin.1 0 (.string xs[i]) rfl
      have hg : wr.cell? ⟨g, o + i, none⟩ = some (.string xs[i]) := by
        rw [hB.cell (p := ⟨g, o + i, none⟩) hlt]
        simpa using hc1
      have hgl : g < wr.heap.size := Nat.lt_of_lt_of_le hlt hB.size
      have hxz := wf xs[i] (List.getElem_mem _)
      have e1 : decide ((i : Int) < xs.length) = true := decide_eq_true (by omega)
      have e2 : decide ((i : Int) < 64) = true := decide_eq_true (by omega)
      generalize xs[i] = s at *
      clear hc hc1
      go_upto_if 29 with fail
      go_cut [8] (fun tv wq => ∃ t : ByteArray, tv = .string t ∧ t.size ≤ 7000 ∧ wq = wr)
      case first =>
        by_cases hbig : 7000 < s.size
        · have e3 : decide ((7000 : Int) < s.size) = true := decide_eq_true (by omega)
          have e4 : 7000 ≤ s.size := by omega
          go_wp2
          go_meet
          exact ⟨_, rfl, by simp; omega, rfl⟩
        · have e3 : decide ((7000 : Int) < s.size) = false := decide_eq_false (by omega)
          go_wp2
          go_meet
          exact ⟨_, rfl, by omega, rfl⟩
      obtain ⟨t, rfl, ht, rfl⟩ := hcut
      have HX := Lib.hid (fun w' => hex_c t ht w')
      go_upto_if 33 with fail
      go_cut [9] (fun dv wq => ∃ d : ByteArray, dv = .string d ∧ Hid (if hx = true then d.data.toList = hexL t.data.toList else d = t) ∧ Hid (Below wc.heap.size wc wq))
      case first =>
        cases hx
        · go_wp2
          go_meet
          exact ⟨t, rfl, Lib.hid rfl, Lib.hid (Below.refl _ _)⟩
        · go_wp2_with (go_at_call 4; ((with_reducible refine (HX.out _).mono ?_); rintro _ _ hgets; obtain ⟨rfl, x1, rfl⟩ := hgets.get; clear hgets))
          go_meet
          exact ⟨_, rfl, Lib.hid (by simp), Lib.hid (by (repeat' (first | (with_reducible exact Below.refl _ _) | (with_reducible refine Below.alloc ?_ ?_ _) | (with_reducible refine below_ext ?_ ?_ _) | (with_reducible refine Below.drew ?_) | (with_reducible refine below_drewN ?_ _) | (with_reducible refine Below.setCell ?_ ?_ _) | go_size | (simp only [go_sem]; omega) | (simp [go_sem]; done) | (simp [go_sem]; omega))))⟩
      obtain ⟨d, rfl, hd, hbd⟩ := hcut
      clear HX
      have hSt := hK.out.st.grow hbd.out
      have hBd := hB.trans (hbd.out.mono hB.size)
      have DF := Lib.hid (define_c w.heap.size i i D _ hSt (Nat.le_refl _) (by omega) (hK.out.no i (Nat.le_refl _)) hs t ht hx d hd.out)
      rw [hl.out] at DF
      have hno := hK.out.no i (Nat.le_refl _)
      have hmp := hK.out.map
      have hsm := hK.out.sum
      have hno' := Lib.hid hK.out.no
      have hs0 := Lib.hid hK.out.sum
      have hmp0 := Lib.hid hK.out.map
      by_cases hfit : t.size ≤ l
      · by_cases hz : t.size = 0
        · have d1 : dfE t l = 0 := if_pos hfit
          have d2 : dfD t l i D = D := if_neg (by omega)
          rw [d1, d2] at DF
          have ht0 : t = ⟨#[]⟩ := by
            have h1 : t.data.toList = [] := List.length_eq_zero_iff.1 hz
            have h2 : t.data = #[] := Array.toList_inj.1 h1
            cases t
            simp only at h2
            rw [h2]
          subst ht0
          go_upto_region 13 with ((go_at_call 5); (refine DF.out.mono ?_); (rintro _ W2 ⟨rfl, hS2, hK2⟩))
          have hB2 := hBd.trans (hK2.below (B := w.heap.size) (fun b e => by omega) hBd.size)
          have GT := Lib.hid (get_c w.heap.size (i + 1) i _ W2 hS2 (by omega) ⟨#[]⟩ false hno (atKey_of_not_has hno _))
          clear hK2 DF hK hSt hBd hbd hd hmp hno hsm
          have hF : Hid (KpS w W2 (i + 1) l D) := Lib.hid ⟨hS2, fun k hk => hno'.out k (by omega), hs0.out, hB2, hmp0.out⟩
          clear hS2 hB2
          go_wp2_with ((go_at_call 6); (refine GT.out.mono ?_); (rintro _ W3 ⟨rfl, rfl⟩))
          exact ⟨⟨i + 1, l, D, by omega, by omega, by go_num, rfl, hF⟩, by simp [intOf]; omega⟩
        · have d1 : dfE t l = 0 := if_pos hfit
          have d2 : dfD t l i D = D.put (.int .i64 i) (.lit (.string t.data.toList)) := if_pos ⟨hfit, hz⟩
          rw [d1, d2] at DF
          go_upto_region 13 with ((go_at_call 5); (refine DF.out.mono ?_); (rintro _ W2 ⟨rfl, hS2, hK2⟩))
          have hB2 := hBd.trans (hK2.below (B := w.heap.size) (fun b e => by omega) hBd.size)
          have GT := Lib.hid (get_c w.heap.size (i + 1) i _ W2 hS2 (by omega) t true (has_put_same hmp (keyL _) _) (atKey_put_same hmp (keyL _) _ _))
          clear hK2 DF hK hSt hBd hbd hd hmp hno hsm
          have n1 : (t.toList == []) = false := by
            rw [ByteArray.toList_eq]
            have : t.data.toList ≠ [] := fun e => hz (by have := congrArg List.length e; exact this)
            simpa using this
          have e3 : decide ((t.size : Int) ≤ l) = true := decide_eq_true (by omega)
          have hF : Hid (KpS w W2 (i + 1) (l - t.size) (D.put (.int .i64 i) (.lit (.string t.data.toList)))) := Lib.hid ⟨hS2, fun k hk => by rw [has_put_other (litInt (by omega))]; exact hno'.out k (by omega), by
            rw [sum_put hmp0.out (hno'.out i (Nat.le_refl _))]
            have h1 : t.data.toList.length = t.size := rfl
            have := hs0.out
            omega, hB2, hmp0.out.put _ _⟩
          clear hS2 hB2
          go_wp2_with ((go_at_call 6); (refine GT.out.mono ?_); (rintro _ W3 ⟨rfl, rfl⟩))
          exact ⟨⟨i + 1, l - t.size, _, by omega, by omega, by go_num, by go_num, hF⟩, by simp [intOf]; omega⟩
      · have d1 : dfE t l = 5 := if_neg hfit
        have d2 : dfD t l i D = D := if_neg (by omega)
        rw [d1, d2] at DF
        go_upto_region 13 with ((go_at_call 5); (refine DF.out.mono ?_); (rintro _ W2 ⟨rfl, hS2, hK2⟩))
        have hB2 := hBd.trans (hK2.below (B := w.heap.size) (fun b e => by omega) hBd.size)
        have GT := Lib.hid (get_c w.heap.size (i + 1) i _ W2 hS2 (by omega) ⟨#[]⟩ false hno (atKey_of_not_has hno _))
        clear hK2 DF hK hSt hBd hbd hd hmp hno hsm
        have e3 : decide ((t.size : Int) ≤ l) = false := decide_eq_false (by omega)
        have hF : Hid (KpS w W2 (i + 1) l D) := Lib.hid ⟨hS2, fun k hk => hno'.out k (by omega), hs0.out, hB2, hmp0.out⟩
        clear hS2 hB2
        go_wp2_with ((go_at_call 6); (refine GT.out.mono ?_); (rintro _ W3 ⟨rfl, rfl⟩))
        exact ⟨⟨i + 1, l, D, by omega, by omega, by go_num, rfl, hF⟩, by simp [intOf]; omega⟩
    · have SP := Lib.hid (space_c w.heap.size i D wr hK.out.st hs)
      rw [show (6144 : Int) - sumD D = l by have := hK.out.sum; omega] at SP
      by_cases hlen : i < xs.length
      · have e1 : decide ((i : Int) < xs.length) = true := decide_eq_true (by omega)
        have e2 : decide ((i : Int) < 64) = false := decide_eq_false (by omega)
        clear hs hl
        go_wp2_with ((go_at_call 7); (refine SP.out.mono ?_); (rintro _ W3 ⟨rfl, h3⟩))
        go_returns
        exact ⟨rfl, hB.trans (h3.mono hB.size)⟩
      · have e1 : decide ((i : Int) < xs.length) = false := decide_eq_false (by omega)
        clear hs hl
        go_wp2_with ((go_at_call 7); (refine SP.out.mono ?_); (rintro _ W3 ⟨rfl, h3⟩))
        go_returns
        exact ⟨rfl, hB.trans (h3.mono hB.size)⟩
set_option maxRecDepth 100000 in
theorem PhosphorKept_lifted (os : Os) (started : os.Started) (H : Type) (enc : TypeId × Value → H) :
    ReturnsInHanded {} Try.checked os 3 .any (Rows.phosphorKeptSpec.pre6 enc Try.prog Try.f3 Rows.phosphorKeptRow.domain false) (Rows.phosphorKeptSpec.post enc Try.prog Try.f3 false true false false) := by
  refine returnsInHanded_of_change_sized (C := Try.checked) own started (by kernel_rfl) Try.func3
    (ChangeSpec.witness6 (enc := enc) (C := Try.checked) false ⟨#[], #[.slice none 0 0, .bool false], []⟩ 8 (by kernel_rfl) (by kernel_rfl) (by kernel_rfl) (by kernel_rfl)) ?_
  intro W base args ds gs before hval0 hW hcnd hsz0 _
  have hval : ∀ (j : Nat) t v, Try.f3.params[j]? = some t → args[j]? = some v → Value.okWide Try.prog W .any base t v := hval0
  have hsz : (DataW.weightsEach Try.prog (Try.f3.params.toList ++ Rows.phosphorKeptSpec.plain.varTypes Try.prog) (ds ++ gs)).all (· ≤ reachBytes) = true := hsz0
  have hW' := hW
  obtain ⟨p, q, hA0, hV, rfl, hfz, hnd⟩ := hW
  have hA : DataW.TrodAll enc Try.prog W 0 (fun _ => true) true Try.f3.params.toList args.toList ds p := hA0
  rw [Try.params3] at hA hval hsz
  obtain ⟨v0, vs0, d0, ds0, p0, q0, hargs, rfl, rfl, h0, r0⟩ := trodAll_cons hA
  obtain ⟨v1, vs1, d1, ds1, p1, q1, rfl, rfl, rfl, h1, r1⟩ := trodAll_cons r0
  obtain ⟨rfl, rfl, rfl⟩ := trodAll_nil r1
  obtain rfl : args = #[v0, v1] := by cases args; simp_all
  obtain ⟨rfl, rfl⟩ := trodVars_none hV
  clear hA0 hval0 hsz0
  obtain ⟨a0, c0, xs0, rfl, rd0, lc0, cm0, wf0, dd0⟩ := open_strs (okWide_slice Try.underlying22 (hval 0 22 v0 rfl rfl)) h0
  obtain ⟨a1, rfl, -, -⟩ := open_bool Try.underlying4 (hval 1 4 v1 rfl rfl) h1
  refine (PhosphorKept_walk W a0 c0 xs0 rd0 lc0 cm0 wf0 a1).mono fun e W' ⟨he, hb⟩ => ⟨_, he, ?_⟩
  exact law_post laidOut rfl (by kernel_rfl) (by kernel_rfl) Try.underlying4 hW' rfl hb

theorem PhosphorKept_holds : Rows.PhosphorKeptSaid :=
  OpenClaim.holds_of_wide 3 Try.f3 rfl rfl rfl rfl rfl rfl rfl ⟨rfl, rfl, rfl, rfl, rfl⟩ rfl rfl rfl rfl rfl (by kernel_rfl) Try.func3 (by kernel_rfl)
    (of_decide_eq_true (by kernel_rfl)) (by unfold Func.isWrapper; first | (rw [if_pos (by decide +kernel)]; kernel_rfl) | (rw [if_neg (by decide +kernel)]; exact ⟨rfl, rfl⟩))
    (fun os started H enc _ => PhosphorKept_lifted os started H enc)
#print axioms PhosphorKept_holds

end Go.Proofs.Ytdjkjbkmmdmipaa
