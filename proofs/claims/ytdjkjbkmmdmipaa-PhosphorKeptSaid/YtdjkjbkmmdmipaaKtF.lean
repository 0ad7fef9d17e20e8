/- macro.Store: Define, Get, Space.  -/
import Derived.Test.YtdjkjbkmmdmipaaKtD
import Derived.Test.YtdjkjbkmmdmipaaKtE
namespace Go.Proofs.Ytdjkjbkmmdmipaa
open Go.RowKit Go.Maps
set_option linter.unusedVariables false
set_option linter.unusedSimpArgs false

/-- a map of texts, nil or not -/
def MapV (w : World) (mv : Option Nat) (n : Nat) (D : Dm) : Prop := (mv = none ∧ D = .map []) ∨ ∃ b, mv = some b ∧ OwnM w b n D
theorem MapV.keep {F : Nat → Prop} {w w' : World} {mv : Option Nat} {n : Nat} {D : Dm} (h : MapV w mv n D) (hk : Keep F w w') (hF : ∀ b, mv = some b → ¬ F b) : MapV w' mv n D := by
  rcases h with h | ⟨b, rfl, h⟩
  · exact .inl h
  · have hlt := h.lt
    obtain ⟨es, clock, h1, h2, h3, h4⟩ := h
    exact .inr ⟨b, rfl, es, clock, (hk.block b hlt (hF b rfl)).trans h1, h2, h3, h4⟩
theorem MapV.lt {w : World} {mv : Option Nat} {n : Nat} {D : Dm} (h : MapV w mv n D) : ∀ b, mv = some b → b < w.heap.size := by
  rintro b rfl
  rcases h with ⟨h, _⟩ | ⟨b', e, h⟩
  · cases h
  · cases e
    exact h.lt
theorem mcopy_v (b1 n : Nat) (mv : Option Nat) (D : Dm) (w : World) (h1 : OwnM w b1 0 (.map [])) (h : MapV w mv n D) (hne : ∀ b, mv = some b → b1 ≠ b) (hn : n ≤ 64) :
    Calls Try.prog 10 #[.map (some b1), .map mv] w (fun e w' => e = .returned (.tuple #[]) ∧ OwnM w' b1 n D ∧ Keep (· = b1) w w') := by
  rcases h with ⟨rfl, rfl⟩ | ⟨b, rfl, h⟩
  · refine (mcopy_nil b1 w).mono ?_
    rintro e w' ⟨rfl, hb⟩
    have hlt := h1.lt
    obtain ⟨es, clock, g1, g2, g3, g4⟩ := h1
    exact ⟨rfl, ⟨es, clock, (hb.block b1 hlt).trans g1, g2, by omega, g4⟩, Keep.of_below hb⟩
  · exact mcopy_c b1 b n D w h1 h (hne b rfl) hn
theorem used_v (n : Nat) (mv : Option Nat) (D : Dm) (w : World) (h : MapV w mv n D) (hs : sumD D ≤ 6144) :
    Calls Try.prog 11 #[.map mv] w (fun e w' => e = .returned (.int .i64 (sumD D)) ∧ Below w.heap.size w w') := by
  rcases h with ⟨rfl, rfl⟩ | ⟨b, rfl, h⟩
  · exact used_nil w
  · exact used_c b n D w h hs
/-- a store in a variable of one's own -/
structure StAt (w : World) (sb n : Nat) (D : Dm) : Prop where
  ex : ∃ mv, w.heap[sb]? = some (.cells #[.map mv] 25 (0, 0)) ∧ MapV w mv n D ∧ ∀ b, mv = some b → b ≠ sb
theorem StAt.grow {w w' : World} {sb n : Nat} {D : Dm} (h : StAt w sb n D) (hb : Below w.heap.size w w') : StAt w' sb n D := by
  obtain ⟨mv, h1, h2, h3⟩ := h.ex
  exact ⟨mv, (hb.block sb (heap_in h1)).trans h1, h2.keep (Keep.of_below (F := fun _ => False) hb) (fun _ _ f => f), h3⟩
theorem StAt.mono {w : World} {sb n n' : Nat} {D : Dm} (h : StAt w sb n D) (hn : n ≤ n') : StAt w sb n' D := by
  obtain ⟨mv, h1, h2, h3⟩ := h.ex
  refine ⟨mv, h1, ?_, h3⟩
  rcases h2 with h2 | ⟨b, e, h2⟩
  · exact .inl h2
  · exact .inr ⟨b, e, World.ownsMap.mono h2 hn⟩
/-- what Define answers, and what is stored then -/
def dfE (t : ByteArray) (m : Nat) : Int := if t.size ≤ m then 0 else 5
def dfD (t : ByteArray) (m i : Nat) (D : Dm) : Dm := if t.size ≤ m ∧ t.size ≠ 0 then D.put (.int .i64 i) (.lit (.string t.data.toList)) else D
theorem space_c (sb n : Nat) (D : Dm) (w : World) (h : StAt w sb n D) (hs : sumD D ≤ 6144) :
    Calls Try.prog 7 #[.pointer (some ⟨sb, 0, none⟩)] w (fun e w' => e = .returned (.int .i64 (6144 - sumD D)) ∧ Below w.heap.size w w') := by
  obtain ⟨mv, h1, h2, h3⟩ := h.ex
  have U := Lib.hid (used_v n mv D w h2 hs)
  have c0 : w.cell? ⟨sb, 0, none⟩ = some (.map mv) := by rw [cell_in h1]; rfl
  have hl := heap_in h1
  generalize sumD D = q at *
  clear h1 h2 h3 h
  go_enter Try.func7, Try.ntmps7
  go_wp2_with ((go_at_call 11); (refine U.out.mono ?_); (rintro _ W1 ⟨rfl, h1⟩))
  go_returns
  exact ⟨rfl, h1⟩
theorem get_c (sb n i : Nat) (D : Dm) (w : World) (h : StAt w sb n D) (hi : i < 64) (t : ByteArray) (ok : Bool) (ht : has D (.int .i64 i) = ok) (ha : D.atKey (.int .i64 i) (.lit (.string [])) = .lit (.string t.data.toList)) :
    Calls Try.prog 6 #[.pointer (some ⟨sb, 0, none⟩), .int .i64 i] w (fun e w' => e = .returned (.tuple #[.string t, .bool ok]) ∧ w' = w) := by
  obtain ⟨mv, h1, h2, h3⟩ := h.ex
  have c0 : w.cell? ⟨sb, 0, none⟩ = some (.map mv) := by rw [cell_in h1]; rfl
  have hl := heap_in h1
  have hwf : (Lit.int .i64 (i : Int)).wf = true := WalkArith.wf_i64 (by omega)
  clear h1 h3 h
  subst ht
  rcases h2 with ⟨rfl, rfl⟩ | ⟨b, rfl, hO⟩
  · have ht : t = ⟨#[]⟩ := by
      have : ([] : List UInt8) = t.data.toList := by injection ha with ha; injection ha
      have h2 : t.data = #[] := Array.toList_inj.1 this.symm
      cases t
      simp only at h2
      rw [h2]
    subst ht
    have LK := Maps.look_nil (w := w) (t := 23) (e := 9) (z := .string ⟨#[]⟩) true lawI Try.underlying23 (Try.zeroValue9 w) (keyOf_int_mk Try.underlying3 hwf)
    simp only [if_true] at LK
    have hh : has (DataW.map [] : Dm) (.int .i64 i) = false := rfl
    rw [hh]
    go_enter Try.func6, Try.ntmps6
    go_wp2
    go_returns
    exact ⟨rfl, rfl⟩
  · obtain ⟨v, ps, LK, hv⟩ := hO.look_ok (t := 23) (z := .string ⟨#[]⟩) (zd := .lit (.string [])) (zp := []) lawI Try.underlying23 (Try.zeroValue9 w) (plainElem_string Try.underlying9 (Nat.zero_le _)) (keyOf_int_mk Try.underlying3 hwf)
    obtain ⟨s, rfl, he, _⟩ := plainElem_string_inv Try.underlying9 hv
    rw [ha] at he
    have hst : s = t := by
      have h1 : t.data.toList = s.data.toList := by injection he with h _; injection h with h; injection h
      have h2 : t.data = s.data := Array.toList_inj.1 h1
      cases t; cases s
      simp only at h2
      rw [h2]
    subst hst
    clear hv he hO ha
    generalize has D (.int .i64 i) = ok at *
    go_enter Try.func6, Try.ntmps6
    go_wp2
    go_returns
    exact ⟨rfl, rfl⟩
/-- a map of one's own goes into the variable -/
theorem StAt.put {w W : World} {sb n k B : Nat} {D D' : Dm} (h : StAt w sb n D) (hb : Below w.heap.size w W) (hB : w.heap.size ≤ B) (hO : OwnM W B k D') :
    StAt (W.setCell ⟨sb, 0, none⟩ (.map (some B))) sb k D' ∧ Keep (· = sb) w (W.setCell ⟨sb, 0, none⟩ (.map (some B))) := by
  obtain ⟨mv, h1, _, _⟩ := h.ex
  have hl := heap_in h1
  have h2 := (hb.block sb hl).trans h1
  have hne : B ≠ sb := by omega
  refine ⟨⟨some B, ?_, .inr ⟨B, rfl, ?_⟩, fun b e => by cases e; exact hne⟩, (Keep.of_below (F := (· = sb)) hb).set (p := ⟨sb, 0, none⟩) (.inl rfl) _⟩
  · simp [World.setCell, h2, Array.getElem?_modify]
  · obtain ⟨es, clock, g1, g2, g3, g4⟩ := hO
    exact ⟨es, clock, (Below.heap_setCell _ _ _ _ (fun e => hne e)).trans g1, g2, g3, g4⟩
theorem own_mono {w w' : World} {b n : Nat} {D : Dm} (h : OwnM w b n D) (hb : Below w.heap.size w w') : OwnM w' b n D := by
  have hlt := h.lt
  obtain ⟨es, clock, g1, g2, g3, g4⟩ := h
  exact ⟨es, clock, (hb.block b hlt).trans g1, g2, g3, g4⟩
set_option maxRecDepth 100000 in
set_option maxHeartbeats 8000000 in
theorem define_c (sb n i : Nat) (D : Dm) (w : World) (h : StAt w sb n D) (hn : n ≤ i) (hi : i < 64) (hD : has D (.int .i64 i) = false) (hs : sumD D ≤ 6144) (t : ByteArray) (ht : t.size ≤ 7000) (hx : Bool) (d : ByteArray)
    (hd : if hx = true then d.data.toList = hexL t.data.toList else d = t) :
    Calls Try.prog 5 #[.pointer (some ⟨sb, 0, none⟩), .int .i64 i, .bool false, .bool hx, .string d] w
      (fun e w' => e = .returned (.int .i64 (dfE t (6144 - sumD D))) ∧ StAt w' sb (i + 1) (dfD t (6144 - sumD D) i D) ∧ Keep (· = sb) w w') := by
  obtain ⟨mv, h1, h2, h3⟩ := h.ex
  have c0 : w.cell? ⟨sb, 0, none⟩ = some (.map mv) := by rw [cell_in h1]; rfl
  have f0 : w.frozen? ⟨sb, 0, none⟩ = false := frozen_in h1
  have hl := heap_in h1
  have hwf : (Lit.int .i64 (i : Int)).wf = true := WalkArith.wf_i64 (by omega)
  have i0 : decide ((i : Int) < 0) = false := decide_eq_false (by omega)
  have i1 : decide ((64 : Int) ≤ i) = false := decide_eq_false (by omega)
  have hmm := @run_makeMap Try.prog
  have hM := Lib.hid h2
  have hMl := Lib.hid h2.lt
  have MC := Lib.hid (mcopy_v w.heap.size n mv D (w.alloc (.map #[] 0)) (World.ownsMap_made _ _ _ _) (h2.keep (Keep.of_below (F := fun _ => False) ((Below.refl _ _).alloc (Nat.le_refl _) _)) (fun _ _ f => f)) (fun b e => by have := h2.lt b e; omega) (by omega))
  have hSt := Lib.hid h
  obtain ⟨m, hm⟩ : ∃ m, m = 6144 - sumD D := ⟨_, rfl⟩
  have hm2 : Hid ((6144 : Int) - sumD D = m) := Lib.hid (by omega)
  have hm3 : m ≤ 6144 := by omega
  rw [← hm]
  have hEW : wrap64 (6144 - (sumD D : Int)) = m := by unfold RowKit.wrap64; omega
  replace hm := Lib.hid hm
  replace hs := Lib.hid hs
  clear h h1 h2 h3
  go_enter Try.func5, Try.ntmps5
  go_upto_region 6 with ((go_at_call 10); (refine MC.out.mono ?_); (rintro _ W1 ⟨rfl, hO1, hK1⟩))
  have hB1 : Below w.heap.size w W1 := ((Below.refl _ _).alloc (Nat.le_refl _) _).trans (hK1.below (B := w.heap.size) (fun b e => by omega) (by simp))
  clear hK1 MC hMl hM
  go_upto_region 7 with (at_delete
                         refine wpList_delete_own _ rfl _ _ 23 3 rfl 9 lawI Try.underlying23 _ w.heap.size n D rfl hO1 _ _ rfl (keyOf_int_mk Try.underlying3 hwf) ?_
                         intro W2 hO2 hT2)
  rw [del_of_not_has hD] at hO2
  have hB2 : Below w.heap.size w W2 := hB1.grown hT2.grown hB1.size (fun j hj => by cases hj; exact Nat.le_refl _)
  clear hT2 hB1 hO1
  have US := Lib.hid (used_c w.heap.size n D W2 hO2 hs.out)
  go_upto_region 8 with ((go_at_call 11); (refine US.out.mono ?_); (rintro _ W3 ⟨rfl, hb3⟩))
  have hB3 := hB2.trans (hb3.mono hB2.size)
  have hO3 := Lib.hid (own_mono hO2 hb3)
  clear hb3 hB2 hO2 US
  have c3 : W3.cell? ⟨sb, 0, none⟩ = some (.map mv) := (hB3.cell (p := ⟨sb, 0, none⟩) hl).trans c0
  have f3 : W3.frozen? ⟨sb, 0, none⟩ = false := (hB3.frozen (p := ⟨sb, 0, none⟩) hl).trans f0
  have hl3 : sb < W3.heap.size := Nat.lt_of_lt_of_le hl hB3.size
  replace hB3 := Lib.hid hB3
  cases hx
  · obtain rfl : t = d := by simpa using hd.symm
    by_cases hfit : t.size ≤ m
    · have e1 : decide ((m : Int) < t.size) = false := decide_eq_false (by omega)
      by_cases hz : t.size = 0
      · have n1 : (t.toList == []) = true := by
          rw [ByteArray.toList_eq]
          have : t.data.toList = [] := List.length_eq_zero_iff.1 hz
          rw [this]
          rfl
        have hF := Lib.hid (hSt.out.put hB3.out (Nat.le_refl _) (hO3.out.mono (n' := i + 1) (by omega)))
        have d1 : Hid (dfE t m = 0) := Lib.hid (if_pos hfit)
        have d2 : Hid (dfD t m i D = D) := Lib.hid (if_neg (by omega))
        go_wp2
        go_returns
        exact ⟨by rw [d1.out] <;> rfl, by rw [d2.out]; exact hF.out.1, hF.out.2⟩
      · have n1 : (t.toList == []) = false := by
          rw [ByteArray.toList_eq]
          have : t.data.toList ≠ [] := fun e => hz (by have := congrArg List.length e; exact this)
          simpa using this
        have CL := Lib.hid (fun w' => sclone_c t w' ht)
        have d1 : Hid (dfE t m = 0) := Lib.hid (if_pos hfit)
        have d2 : Hid (dfD t m i D = D.put (.int .i64 i) (.lit (.string t.data.toList))) := Lib.hid (if_pos ⟨hfit, hz⟩)
        go_upto_region 17 with (first
          | ((go_at_call 13); (refine (CL.out _).mono ?_); (rintro _ W5 ⟨rfl, h5⟩); (replace h5 := Lib.hid h5))
          | (at_mapUpdate
             refine wpList_mapUpdate_own _ rfl _ _ _ 23 rfl 3 9 lawI Try.underlying23 _ w.heap.size n D rfl (own_mono hO3.out h5.out) (by simp only [maxLen]; omega) _ _ _ rfl rfl (keyOf_int_mk Try.underlying3 hwf) _ [] (plainElem_string Try.underlying9 (by simp only [maxLen]; omega)) ?_
             intro W6 hO6 hg6))
        have hB6 : Below w.heap.size w W6 := (hB3.out.trans (h5.out.mono hB3.out.size)).grown hg6 (Nat.le_trans hB3.out.size h5.out.size) (fun j hj => by cases hj; exact Nat.le_refl _)
        have c6 : W6.cell? ⟨sb, 0, none⟩ = some (.map mv) := by
          rw [show W6.cell? ⟨sb, 0, none⟩ = w.cell? ⟨sb, 0, none⟩ from hB6.cell (p := ⟨sb, 0, none⟩) hl]
          exact c0
        have f6 : W6.frozen? ⟨sb, 0, none⟩ = false := by
          rw [show W6.frozen? ⟨sb, 0, none⟩ = w.frozen? ⟨sb, 0, none⟩ from hB6.frozen (p := ⟨sb, 0, none⟩) hl]
          exact f0
        have hF := Lib.hid (hSt.out.put hB6 (Nat.le_refl _) (hO6.mono (n' := i + 1) (by omega)))
        clear hO6 hg6 hB6
        go_wp2
        go_returns
        exact ⟨by rw [d1.out] <;> rfl, by rw [d2.out]; exact hF.out.1, hF.out.2⟩
    · have e1 : decide ((m : Int) < t.size) = true := decide_eq_true (by omega)
      have d1 : Hid (dfE t m = 5) := Lib.hid (if_neg hfit)
      have d2 : Hid (dfD t m i D = D) := Lib.hid (if_neg (by omega))
      have hF := Lib.hid ((hSt.out.grow hB3.out).mono (n' := i + 1) (by omega))
      go_wp2
      go_returns
      exact ⟨by rw [d1.out] <;> rfl, by rw [d2.out]; exact hF.out, Keep.of_below hB3.out⟩
  · have hdx : d.data.toList = hexL t.data.toList := by simpa using hd
    have DC := Lib.hid (decode_c d t.data.toList hdx m hm3 (show t.size ≤ 7000 from ht) W3)
    clear hd hdx
    by_cases hft : t.size ≤ m
    · rw [show decS t.data.toList m = t from if_pos hft, show decE t.data.toList m = 0 from if_pos hft] at DC
      go_upto_region 13 with ((go_at_call 12); (refine DC.out.mono ?_); (rintro _ W4 ⟨rfl, h4⟩))
      have hB4 := Lib.hid (hB3.out.trans (h4.mono hB3.out.size))
      have hO4 := Lib.hid (own_mono hO3.out h4)
      have c4 : W4.cell? ⟨sb, 0, none⟩ = some (.map mv) := (hB4.out.cell (p := ⟨sb, 0, none⟩) hl).trans c0
      have f4 : W4.frozen? ⟨sb, 0, none⟩ = false := (hB4.out.frozen (p := ⟨sb, 0, none⟩) hl).trans f0
      have hl4 : sb < W4.heap.size := Nat.lt_of_lt_of_le hl hB4.out.size
      clear h4 hO3 hB3 c3 f3 hl3
      by_cases hfit : t.size ≤ m
      · have e1 : decide ((m : Int) < t.size) = false := decide_eq_false (by omega)
        by_cases hz : t.size = 0
        · have n1 : (t.toList == []) = true := by
            rw [ByteArray.toList_eq]
            have : t.data.toList = [] := List.length_eq_zero_iff.1 hz
            rw [this]
            rfl
          have hF := Lib.hid (hSt.out.put hB4.out (Nat.le_refl _) (hO4.out.mono (n' := i + 1) (by omega)))
          have d1 : Hid (dfE t m = 0) := Lib.hid (if_pos hfit)
          have d2 : Hid (dfD t m i D = D) := Lib.hid (if_neg (by omega))
          go_wp2
          go_returns
          exact ⟨by rw [d1.out] <;> rfl, by rw [d2.out]; exact hF.out.1, hF.out.2⟩
        · have n1 : (t.toList == []) = false := by
            rw [ByteArray.toList_eq]
            have : t.data.toList ≠ [] := fun e => hz (by have := congrArg List.length e; exact this)
            simpa using this
          have CL := Lib.hid (fun w' => sclone_c t w' ht)
          have d1 : Hid (dfE t m = 0) := Lib.hid (if_pos hfit)
          have d2 : Hid (dfD t m i D = D.put (.int .i64 i) (.lit (.string t.data.toList))) := Lib.hid (if_pos ⟨hfit, hz⟩)
          go_upto_region 17 with (first
            | ((go_at_call 13); (refine (CL.out _).mono ?_); (rintro _ W5 ⟨rfl, h5⟩); (replace h5 := Lib.hid h5))
            | (at_mapUpdate
               refine wpList_mapUpdate_own _ rfl _ _ _ 23 rfl 3 9 lawI Try.underlying23 _ w.heap.size n D rfl (own_mono hO4.out h5.out) (by simp only [maxLen]; omega) _ _ _ rfl rfl (keyOf_int_mk Try.underlying3 hwf) _ [] (plainElem_string Try.underlying9 (by simp only [maxLen]; omega)) ?_
               intro W6 hO6 hg6))
          have hB6 : Below w.heap.size w W6 := (hB4.out.trans (h5.out.mono hB4.out.size)).grown hg6 (Nat.le_trans hB4.out.size h5.out.size) (fun j hj => by cases hj; exact Nat.le_refl _)
          have c6 : W6.cell? ⟨sb, 0, none⟩ = some (.map mv) := by
            rw [show W6.cell? ⟨sb, 0, none⟩ = w.cell? ⟨sb, 0, none⟩ from hB6.cell (p := ⟨sb, 0, none⟩) hl]
            exact c0
          have f6 : W6.frozen? ⟨sb, 0, none⟩ = false := by
            rw [show W6.frozen? ⟨sb, 0, none⟩ = w.frozen? ⟨sb, 0, none⟩ from hB6.frozen (p := ⟨sb, 0, none⟩) hl]
            exact f0
          have hF := Lib.hid (hSt.out.put hB6 (Nat.le_refl _) (hO6.mono (n' := i + 1) (by omega)))
          clear hO6 hg6 hB6
          go_wp2
          go_returns
          exact ⟨by rw [d1.out] <;> rfl, by rw [d2.out]; exact hF.out.1, hF.out.2⟩
      · exact absurd hft hfit
    · rw [show decS t.data.toList m = ⟨#[]⟩ from if_neg hft, show decE t.data.toList m = 5 from if_neg hft] at DC
      have d1 : Hid (dfE t m = 5) := Lib.hid (if_neg hft)
      have d2 : Hid (dfD t m i D = D) := Lib.hid (if_neg (by omega))
      go_wp2_with ((go_at_call 12); (refine DC.out.mono ?_); (rintro _ W4 ⟨rfl, h4⟩))
      have hB4 := hB3.out.trans (h4.mono hB3.out.size)
      have hF := Lib.hid ((hSt.out.grow hB4).mono (n' := i + 1) (by omega))
      go_returns
      exact ⟨by rw [d1.out] <;> rfl, by rw [d2.out]; exact hF.out, Keep.of_below hB4⟩
end Go.Proofs.Ytdjkjbkmmdmipaa
