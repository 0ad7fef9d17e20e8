/- The functions' table: Grow, Concat, all rows.  -/
import Derived.Test.YtngagongjejjhaaGt
import Derived.Deep.CutRange
namespace Go.Proofs.Ytngagongjejjhaa
open Go.RowKit
set_option linter.unusedVariables false
set_option linter.unusedSimpArgs false

theorem zero_cells_size (z : Array Value) (n : Nat) : (Builtin.zeroCells z n).size = n * z.size := by simp [Builtin.zeroCells]
theorem cap_cut (need old : Nat) (e : TypeId) (t : Nat) (h : need < 9223372036854775808) : need ≤ (Question.appendCap need old e).cut t ∧ (Question.appendCap need old e).cut t ≤ maxLen := by
  show need ≤ need + t % (2 ^ 63 - need) ∧ need + t % (2 ^ 63 - need) ≤ maxLen
  have := Nat.mod_lt t (show 0 < 2 ^ 63 - need by omega)
  unfold maxLen
  omega
/-- a row without cells, and room behind -/
theorem own_room {w : World} {g cap B : Nat} {cs : Array Value} (hg : g = w.heap.size) (hB : B ≤ w.heap.size) (hs : cs.size = cap * 4) (hm : cap ≤ maxLen) : Own encG 4 34 B (w.alloc (.cells cs 34)) (.slice (some ⟨g, 0, none⟩) 0 cap) [] := by
  subst hg
  exact ⟨by simp, .inr ⟨_, cap, cs, rfl, hB, heap_alloc_new _ _, Nat.zero_le _, hm, hs, by simp⟩⟩
set_option maxRecDepth 100000 in
set_option maxHeartbeats 8000000 in
theorem grow_c (w : World) : Calls Try.prog 22 #[.slice none 0 0, .int .i64 111] w (NewG [] w) := by
  go_enter Try.func22, Try.ntmps22
  go_wp2
  obtain ⟨h1, h2⟩ := cap_cut 111 0 34 (w.tape w.drawn (Question.appendCap 111 0 34)) (by omega)
  generalize (Question.appendCap 111 0 34).cut (w.tape w.drawn (Question.appendCap 111 0 34)) = cap at h1 h2 ⊢
  go_returns
  exact ⟨_, _, rfl, by (repeat' (first | (with_reducible exact Below.refl _ _) | (with_reducible refine Below.alloc ?_ ?_ _) | (with_reducible refine below_ext ?_ ?_ _) | (with_reducible refine Below.drew ?_) | (with_reducible refine below_drewN ?_ _) | (with_reducible refine Below.setCell ?_ ?_ _) | go_size | (simp only [go_sem]; omega) | (simp [go_sem]; done) | (simp [go_sem]; omega))), (own_room rfl (Nat.le_refl _) (by rw [Array.size_append, zero_cells_size, zero_cells_size]; simp; omega) h2).drew⟩

/-- a row of rows -/
structure GPart where
  a : Option Addr
  c : Nat
  l : List GRow
def encP (p : GPart) : List Value := [.slice p.a p.l.length p.c]
theorem encP_len (p : GPart) : (encP p).length = 1 := rfl
def GPart.Lies (w : World) (p : GPart) : Prop := Rd encG 4 w p.a p.l
def joinG (ps : List GPart) : List GRow := ps.flatMap GPart.l
theorem join_step (ps : List GPart) (i : Nat) (h : i < ps.length) : joinG (ps.take (i + 1)) = joinG (ps.take i) ++ ps[i].l := by
  unfold joinG
  rw [List.take_add_one, List.getElem?_eq_getElem h, List.flatMap_append]
  simp
def sumP (ps : List GPart) : Nat := (ps.map fun p => p.l.length).sum
theorem sum_step (ps : List GPart) (i : Nat) (h : i < ps.length) : sumP (ps.take (i + 1)) = sumP (ps.take i) + ps[i].l.length := by
  unfold sumP
  rw [List.take_add_one, List.getElem?_eq_getElem h, List.map_append, List.sum_append]
  simp
theorem joinG_len (ps : List GPart) : (joinG ps).length = sumP ps := by simp [joinG, sumP, List.length_flatMap]
theorem sum_le (ps : List GPart) (i : Nat) : sumP (ps.take i) ≤ sumP ps := by
  have h : sumP ps = sumP (ps.take i) + sumP (ps.drop i) := by
    unfold sumP
    rw [← List.sum_append, ← List.map_append, List.take_append_drop]
  omega
theorem wrap_g {n : Int} (h1 : -9223372036854775808 ≤ n) (h2 : n ≤ 9223372036854775807) : IntKind.i64.wrap n = n := by
  have H : IntKind.i64.wrap n = if n % 18446744073709551616 ≥ 9223372036854775808 then n % 18446744073709551616 - 18446744073709551616 else n % 18446744073709551616 := by
    simp [IntKind.wrap, IntKind.bits, IntKind.signed]
  rw [H]
  split <;> omega
set_option maxRecDepth 100000 in
set_option maxHeartbeats 8000000 in
theorem concat_c (A : Option Addr) (C : Nat) (ps : List GPart) (w : World) (rd : Rd encP 1 w A ps) (hl : ∀ p ∈ ps, p.Lies w) (hn : ps.length ≤ 1000) (hs : sumP ps = 111) : Calls Try.prog 15 #[.slice A ps.length C] w (NewG (joinG ps) w) := by
  have hlies := Lib.hid hl
  have hss := Lib.hid hs
  clear hl hs
  go_enter Try.func15, Try.ntmps15
  go_wp2
  go_loopw [3, 11] (fun sv iv wr => ∃ i s : Nat, i ≤ ps.length ∧ iv = .int .i64 i ∧ sv = .int .i64 s ∧ w = wr ∧ Hid (s = sumP (ps.take i))) (fun _ iv _ => ps.length - (intOf iv).toNat)
  case atStart => exact ⟨0, 0, by omega, rfl, rfl, rfl, Lib.hid (by simp [sumP])⟩
  case round =>
    obtain ⟨i, s, hi, rfl, rfl, rfl, hS⟩ := hrel
    by_cases hlt : i < ps.length
    · obtain ⟨b, o, rfl, hb, hc⟩ := rd (by omega)
      have h0 := hc i hlt 0 _ rfl
      simp only [Nat.add_zero, Nat.mul_one] at h0
      have hst := Lib.hid (sum_step ps i hlt)
      have hsl := sum_le ps (i + 1)
      rw [hss.out, hst.out, ← hS.out] at hsl
      generalize ps[i] = p at h0 hst hsl
      obtain ⟨pa, pc, pl⟩ := p
      simp only at h0 hst hsl
      have hw : IntKind.i64.wrap ((s : Int) + (pl.length : Int)) = ((s + pl.length : Nat) : Int) := by rw [wrap_g (by omega) (by omega)]; omega
      have hs1 : decide (((s + pl.length : Nat) : Int) < 0) = false := by simp; omega
      obtain ⟨s2, hs2⟩ : ∃ s2, s2 = s + pl.length := ⟨_, rfl⟩
      have hS2 : Hid (s2 = sumP (ps.take (i + 1))) := Lib.hid (by rw [hst.out, ← hS.out]; exact hs2)
      rw [← hs2] at hw hs1
      clear hst hsl hs2
      go_wp2
      exact ⟨⟨i + 1, s2, by omega, by go_num, rfl, by first | trivial | rfl, hS2⟩, by simp [intOf]; omega⟩
    · obtain rfl : i = ps.length := by omega
      obtain rfl : s = 111 := by
        have := hS.out
        rw [List.take_length, hss.out] at this
        exact this
      clear hS
      go_upto_region 10 with ((go_at_call 22); (with_reducible refine (grow_c _).mono ?_); (intro e1 w1 hg1); (obtain ⟨A1, c1, x1, rfl, rfl, hO1⟩ := hg1.get); clear hg1; replace hO1 := Lib.hid hO1)
      go_wp2
      go_loopw [6, 27] (fun nv iv wr => ∃ (i : Nat) (zs : List GRow) (A' : Option Addr) (c' : Nat) (x : More), i ≤ ps.length ∧ iv = .int .i64 i ∧ nv = .slice A' zs.length c' ∧ wr = ext w x ∧ Hid (zs = joinG (ps.take i)) ∧ Hid (Own encG 4 34 w.heap.size (ext w x) (.slice A' zs.length c') zs)) (fun _ iv _ => ps.length - (intOf iv).toNat)
      case atStart => exact ⟨0, [], A1, c1, x1, by omega, rfl, rfl, rfl, Lib.hid (by simp [joinG]), hO1⟩
      case round =>
        obtain ⟨i, zs, A', c', x, hi, rfl, rfl, rfl, hZ, hO⟩ := hrel
        by_cases hlt2 : i < ps.length
        · obtain ⟨b, o, rfl, hb, hc⟩ := rd (by omega)
          have h0 := hc i hlt2 0 _ rfl
          simp only [Nat.add_zero, Nat.mul_one] at h0
          have h0' := ((below_of_ext w x).cell (p := ⟨b, _, none⟩) hb).trans h0
          have hst := Lib.hid (join_step ps i hlt2)
          have hll := hlies.out _ (List.getElem_mem hlt2)
          have hlen : zs.length + ps[i].l.length ≤ 111 := by
            have h1 := sum_le ps (i + 1)
            rw [hss.out, sum_step ps i hlt2] at h1
            rw [hZ.out, joinG_len]
            exact h1
          generalize ps[i] = p at h0' hst hll hlen
          obtain ⟨pa, pc, pl⟩ := p
          unfold GPart.Lies at hll
          simp only at h0' hst hll hlen
          replace hll := Lib.hid (Rd.below hll (below_of_ext w x))
          have hbl : b < (ext w x).heap.size := Nat.lt_of_lt_of_le hb (below_of_ext w x).size
          replace hlen := Lib.hid hlen
          clear h0 hc
          go_wp2_with (at_builtin
                       refine append_rd (U := w) (.tmp 31) (.tmp 32) 38 34 _ 48 rfl rfl Try.underlying38 grow_info rfl (by omega) encG_len encG_one zs pl _ _ _ rfl rfl ?_ hO.out hll.out (by have := hlen.out; simp [maxLen]; omega) (by have := hlen.out; omega) ?_
                       · (repeat' (first | (with_reducible exact Below.refl _ _) | (with_reducible refine Below.alloc ?_ ?_ _) | (with_reducible refine below_ext ?_ ?_ _) | (with_reducible refine Below.drew ?_) | (with_reducible refine below_drewN ?_ _) | (with_reducible refine Below.setCell ?_ ?_ _) | go_size | (simp only [go_sem]; omega) | (simp [go_sem]; done) | (simp [go_sem]; omega)))
                       intro A2 c2 x2 us hus hO2)
          exact ⟨⟨i + 1, us, A2, c2, x2, by omega, by go_num, by rw [hus, List.length_append], rfl, Lib.hid (by rw [hus, hst.out, ← hZ.out]), Lib.hid hO2⟩, by simp [intOf]; omega⟩
        · obtain rfl : i = ps.length := by omega
          obtain rfl : zs = joinG ps := by rw [hZ.out, List.take_length]
          go_wp2
          go_returns
          exact ⟨A', c', rfl, by (repeat' (first | (with_reducible exact Below.refl _ _) | (with_reducible refine Below.alloc ?_ ?_ _) | (with_reducible refine below_ext ?_ ?_ _) | (with_reducible refine Below.drew ?_) | (with_reducible refine below_drewN ?_ _) | (with_reducible refine Below.setCell ?_ ?_ _) | go_size | (simp only [go_sem]; omega) | (simp [go_sem]; done) | (simp [go_sem]; omega))), hO.out⟩
def allG : List GRow := controlsL ++ (escapesL ++ (movesL ++ (settingsL ++ textsL)))
theorem allG_len : allG.length = 111 := by decide +kernel
set_option maxRecDepth 100000 in
set_option maxHeartbeats 8000000 in
theorem rows_c (w : World) : Calls Try.prog 12 #[] w (NewG allG w) := by
  have L1 : controlsL.length = 11 := by decide +kernel
  have L2 : escapesL.length = 26 := by decide +kernel
  have L3 : movesL.length = 35 := by decide +kernel
  have L4 : settingsL.length = 34 := by decide +kernel
  have L5 : textsL.length = 5 := by decide +kernel
  have C1 := Lib.hid (fun w' => controls_c w')
  have C2 := Lib.hid (fun w' => escapes_c w')
  have C3 := Lib.hid (fun w' => moves_c w')
  have C4 := Lib.hid (fun w' => settings_c w')
  have C5 := Lib.hid (fun w' => texts_c w')
  have eA : allG = controlsL ++ (escapesL ++ (movesL ++ (settingsL ++ textsL))) := rfl
  generalize controlsL = l1 at L1 C1 eA
  generalize escapesL = l2 at L2 C2 eA
  generalize movesL = l3 at L3 C3 eA
  generalize settingsL = l4 at L4 C4 eA
  generalize textsL = l5 at L5 C5 eA
  replace eA := Lib.hid eA
  replace L1 := Lib.hid L1
  replace L2 := Lib.hid L2
  replace L3 := Lib.hid L3
  replace L4 := Lib.hid L4
  replace L5 := Lib.hid L5
  have CC := Lib.hid (fun A C ps w' rd hl hn hs => concat_c A C ps w' rd hl hn hs)
  go_enter Try.func12, Try.ntmps12
  go_wp2_with (first
    | ((go_at_call 16); (with_reducible refine (C1.out _).mono ?_); (intro e1 w1 hg1); (obtain ⟨A1, c1, x1, rfl, rfl, hO1⟩ := hg1.get); clear hg1; replace hO1 := Lib.hid hO1)
    | ((go_at_call 17); (with_reducible refine (C2.out _).mono ?_); (intro e1 w1 hg1); (obtain ⟨A2, c2, x2, rfl, rfl, hO2⟩ := hg1.get); clear hg1; replace hO2 := Lib.hid hO2)
    | ((go_at_call 18); (with_reducible refine (C3.out _).mono ?_); (intro e1 w1 hg1); (obtain ⟨A3, c3, x3, rfl, rfl, hO3⟩ := hg1.get); clear hg1; replace hO3 := Lib.hid hO3)
    | ((go_at_call 19); (with_reducible refine (C4.out _).mono ?_); (intro e1 w1 hg1); (obtain ⟨A4, c4, x4, rfl, rfl, hO4⟩ := hg1.get); clear hg1; replace hO4 := Lib.hid hO4)
    | ((go_at_call 20); (with_reducible refine (C5.out _).mono ?_); (intro e1 w1 hg1); (obtain ⟨A5, c5, x5, rfl, rfl, hO5⟩ := hg1.get); clear hg1; replace hO5 := Lib.hid hO5))
  have B1 := below_of_ext (ext w x1) x2
  have B2 := B1.trans ((below_of_ext (ext (ext w x1) x2) x3).mono B1.size)
  have B3 := B2.trans ((below_of_ext (ext (ext (ext w x1) x2) x3) x4).mono B2.size)
  have B4 := B3.trans ((below_of_ext (ext (ext (ext (ext w x1) x2) x3) x4) x5).mono B3.size)
  have r1 := (hO1.out.rd encG_len).below B4
  have r2 := (hO2.out.rd encG_len).below (((below_of_ext (ext (ext w x1) x2) x3).trans ((below_of_ext (ext (ext (ext w x1) x2) x3) x4).mono (below_of_ext _ _).size)).trans ((below_of_ext (ext (ext (ext (ext w x1) x2) x3) x4) x5).mono (by simp; omega)))
  have r3 := (hO3.out.rd encG_len).below ((below_of_ext (ext (ext (ext w x1) x2) x3) x4).trans ((below_of_ext (ext (ext (ext (ext w x1) x2) x3) x4) x5).mono (below_of_ext _ _).size))
  have r4 := (hO4.out.rd encG_len).below (below_of_ext (ext (ext (ext (ext w x1) x2) x3) x4) x5)
  have r5 := hO5.out.rd encG_len
  have bW : Below w.heap.size w (ext (ext (ext (ext (ext w x1) x2) x3) x4) x5) := by (repeat' (first | (with_reducible exact Below.refl _ _) | (with_reducible refine Below.alloc ?_ ?_ _) | (with_reducible refine below_ext ?_ ?_ _) | (with_reducible refine Below.drew ?_) | (with_reducible refine below_drewN ?_ _) | (with_reducible refine Below.setCell ?_ ?_ _) | go_size | (simp only [go_sem]; omega) | (simp [go_sem]; done) | (simp [go_sem]; omega)))
  have sW : w.heap.size + x1.sz + x2.sz + x3.sz + x4.sz + x5.sz = (ext (ext (ext (ext (ext w x1) x2) x3) x4) x5).heap.size := by simp
  rw [sW]
  generalize ext (ext (ext (ext (ext w x1) x2) x3) x4) x5 = W at r1 r2 r3 r4 r5 bW
  obtain ⟨o, ho⟩ : ∃ o, o = Obj.cells #[.slice A1 l1.length c1, .slice A2 l2.length c2, .slice A3 l3.length c3, .slice A4 l4.length c4, .slice A5 l5.length c5] 38 := ⟨_, rfl⟩
  rw [← ho]
  have hR : Rd encP 1 (W.alloc o) (some ⟨W.heap.size, 0, none⟩) [⟨A1, c1, l1⟩, ⟨A2, c2, l2⟩, ⟨A3, c3, l3⟩, ⟨A4, c4, l4⟩, ⟨A5, c5, l5⟩] := by
    rw [ho]
    exact (Own.new (B := 0) (xs := [⟨A1, c1, l1⟩, ⟨A2, c2, l2⟩, ⟨A3, c3, l3⟩, ⟨A4, c4, l4⟩, ⟨A5, c5, l5⟩]) encP_len rfl rfl _ rfl (Nat.zero_le _) (by simp [maxLen])).rd encP_len
  have bA : Below W.heap.size W (W.alloc o) := by (repeat' (first | (with_reducible exact Below.refl _ _) | (with_reducible refine Below.alloc ?_ ?_ _) | (with_reducible refine below_ext ?_ ?_ _) | (with_reducible refine Below.drew ?_) | (with_reducible refine below_drewN ?_ _) | (with_reducible refine Below.setCell ?_ ?_ _) | go_size | (simp only [go_sem]; omega) | (simp [go_sem]; done) | (simp [go_sem]; omega)))
  have eJ : joinG [⟨A1, c1, l1⟩, ⟨A2, c2, l2⟩, ⟨A3, c3, l3⟩, ⟨A4, c4, l4⟩, ⟨A5, c5, l5⟩] = allG := by rw [eA.out]; simp [joinG]
  have hC := concat_c (some ⟨W.heap.size, 0, none⟩) 5 [⟨A1, c1, l1⟩, ⟨A2, c2, l2⟩, ⟨A3, c3, l3⟩, ⟨A4, c4, l4⟩, ⟨A5, c5, l5⟩] (W.alloc o) hR (by
    intro p hp
    simp only [List.mem_cons, List.not_mem_nil, or_false] at hp
    rcases hp with rfl | rfl | rfl | rfl | rfl
    · exact r1.below bA
    · exact r2.below bA
    · exact r3.below bA
    · exact r4.below bA
    · exact r5.below bA) (by simp) (by simp [sumP, L1.out, L2.out, L3.out, L4.out, L5.out])
  rw [eJ] at hC
  have bWA : Below w.heap.size w (W.alloc o) := bW.trans (bA.mono bW.size)
  generalize W.alloc o = V at hC bWA
  refine Calls.mono (by exact hC) ?_
  intro e1 w1 hg1
  obtain ⟨A6, c6, x6, rfl, rfl, hO6⟩ := hg1.get
  have fin : NewG allG w (.returned (.slice A6 allG.length c6)) (ext V x6) := ⟨A6, c6, rfl, bWA.trans ((below_of_ext V x6).mono bWA.size), hO6.mono bWA.size⟩
  replace fin := Lib.hid fin
  clear hg1 hO6 hC r1 r2 r3 r4 r5
  dsimp only
  go_wp2
  go_returns
  exact fin.out
end Go.Proofs.Ytngagongjejjhaa
