/- press: a text on an empty page: plain.  -/
import Derived.Test.YtdfiknemfpkdmaaPrH
namespace Go.Proofs.Ytdfiknemfpkdmaa
open Go.RowKit
set_option linter.unusedVariables false
set_option linter.unusedSimpArgs false

theorem at_put {T : PgS} (hT : T.Ok) {r c i j : Nat} (hr : r < T.rows.length) (hc : c < T.cols) (hi : i < T.rows.length) (hj : j < T.cols) (y : Cl) : atS (putS T r c y) i j = if i = r ∧ j = c then y else atS T i j := by
  have hlr := hT.len hr
  have hli := hT.len hi
  rw [putS_in hr hc, atS_in hi hj (by omega)]
  by_cases e : i = r
  · subst e
    rw [atS_in (S := setRowS T i (T.rows[i].1.set c y, T.rows[i].2)) (by rw [setRowS_len]; exact hi) hj (by simp [setRowS]; omega)]
    by_cases e2 : j = c
    · subst e2
      simp [setRowS]
    · rw [if_neg (fun h => e2 h.2)]
      simp [setRowS, Ne.symm e2]
  · rw [if_neg (fun h => e h.1), atS_in (S := setRowS T r (T.rows[r].1.set c y, T.rows[r].2)) (by rw [setRowS_len]; exact hi) hj (by simp [setRowS, Ne.symm e]; omega)]
    simp [setRowS, Ne.symm e]
theorem at_move {T : PgS} (hT : T.Ok) {i j : Nat} (hi : i < T.rows.length) (hj : j < T.cols) : atS (moveS T (fullP T) 1) i j = if i + 1 < T.rows.length then atS T (i + 1 : Nat) j else erC := by
  have hM := moveS_fit hT (fullP_fits hT) 1
  have h1 := atS_row hM (i := i) (j := j) (by rw [moveS_len]; exact hi) hj
  rw [move_cell hT (fullP_fits hT) 1 hi j, if_pos (by simp only [fullP]; omega)] at h1
  unfold moveSrc at h1
  split
  · rename_i h2
    rw [if_pos (by simp only [fullP]; omega), show ((i : Int) + 1).toNat = i + 1 by omega] at h1
    have h3 := atS_row hT h2 hj
    unfold rowD at h3
    rw [← h3] at h1
    exact Option.some.inj h1
  · rw [if_neg (by simp only [fullP]; omega)] at h1
    simp only [List.getElem?_replicate, if_pos hj] at h1
    exact Option.some.inj h1
theorem put_one {T : PgS} (hz : T.One) (i j : Int) (y : Cl) : (putS T i j y).One := by
  unfold putS
  split
  · rename_i h
    intro r hr
    unfold setRowS at hr
    rcases List.mem_or_eq_of_mem_set hr with hr | rfl
    · exact hz r hr
    · show (T.rows.getD i.toNat ([], 0)).2 = 0
      rw [List.getD_eq_getElem?_getD]
      rcases Nat.lt_or_ge i.toNat T.rows.length with h1 | h1
      · rw [List.getElem?_eq_getElem h1]
        exact hz _ (List.getElem_mem h1)
      · rw [List.getElem?_eq_none h1]
        rfl
  · exact hz
/-- a character without margins, on lines of single size -/
theorem glyph_plain {T : PgS} (hT : T.Ok) (hz : T.One) {y : Cu} (hy : OnPg T y) {g : Int} (hg : -2147483648 ≤ g ∧ g ≤ 2147483647) (hr : 0 ≤ y.rd ∧ y.rd ≤ 255) {P : PgS} {z : Cu}
    (hP : P = if y.wp = true then downP T { y with col := 0, wp := false } else T) (hzz : z = if y.wp = true then downC T { y with col := 0, wp := false } else y) :
    glyphP T m0 true g (onP T.rows.length T.cols y) = putS P z.row z.col ⟨g, z.rd, z.kp⟩ ∧ glyphC T m0 true g (onP T.rows.length T.cols y) = penC true T.cols z := by
  rw [onP_id hy]
  have c1 := hT.c1
  have hret : retU T m0 y = { y with col := 0, wp := false } := by
    unfold retU firstCol
    rw [innS_zero hT]
    simp
  have hy0 : OnPg T { y with col := 0, wp := false } := ⟨hy.r0, hy.r1, Int.le_refl _, by show (0 : Int) < _; omega⟩
  have e0 : g0P T m0 true y = P := by
    unfold g0P
    rw [hP, Bool.and_true]
    split
    · unfold nextP
      rw [onP_id hy, hret]
      exact (index_plain hT hy0).1
    · rfl
  have e1 : g0C T m0 true y = z := by
    unfold g0C
    rw [hzz, Bool.and_true]
    split
    · unfold nextC
      rw [onP_id hy, hret]
      exact index_done hT hz hy0
    · rfl
  have hPok : P.Ok := by
    rw [hP]
    split
    · exact downP_ok hT _
    · exact hT
  have hPone : P.One := by
    rw [hP]
    split
    · exact downP_one hT hz _
    · exact hz
  have hPl : P.rows.length = T.rows.length ∧ P.cols = T.cols := by
    rw [hP]
    split
    · exact downP_len
    · exact ⟨rfl, rfl⟩
  have hzon : OnPg P z := by
    rw [hP, hzz]
    split
    · exact downC_on hT hy0
    · exact hy
  have e2 : g1C T m0 true y = z := by
    unfold g1C
    rw [e0, e1]
    exact done_id hPok hPone hzon
  have hzrd : z.rd = y.rd := by
    rw [hzz]
    split <;> rfl
  have e3 : endU P (innS T m0) z = T.cols := by
    unfold endU
    rw [width_one hPok hPone hzon.r0 hzon.r1, innS_zero hT, hPl.2]
    simp
  have e4 : glyphP T m0 true g y = putS P z.row z.col ⟨g, z.rd, z.kp⟩ := by
    unfold glyphP
    rw [e0, e2]
  refine ⟨e4, ?_⟩
  unfold glyphC
  rw [e4, e0, e2, e3]
  have hQ : (putS P z.row z.col ⟨g, z.rd, z.kp⟩).Ok := putS_ok hPok _ _ ⟨hg, by rw [hzrd]; exact hr⟩
  have hQl : (putS P z.row z.col ⟨g, z.rd, z.kp⟩).rows.length = P.rows.length ∧ (putS P z.row z.col ⟨g, z.rd, z.kp⟩).cols = P.cols := by
    unfold putS
    split
    · exact ⟨setRowS_len _ _ _, rfl⟩
    · exact ⟨rfl, rfl⟩
  refine done_id hQ (put_one hPone _ _ _) ?_
  obtain ⟨z1, z2, z3, z4⟩ := hzon
  unfold penC
  split
  · refine ⟨z1, by rw [hQl.1]; exact z2, ?_, ?_⟩
    · show 0 ≤ z.col + 1
      omega
    · rw [hQl.2, hPl.2]
      show z.col + 1 < _
      omega
  · exact ⟨z1, by rw [hQl.1]; exact z2, z3, by rw [hQl.2]; exact z4⟩
def cellF (ts : List Int) (n l k i j : Nat) : Cl := if (i + l) * n + j < k then ⟨ts.getD ((i + l) * n + j) 0, 0, false⟩ else erC
theorem pos_one {n a b c d : Nat} (hb : b < n) (hd : d < n) (h : a * n + b = c * n + d) : a = c ∧ b = d := by
  have h1 : (a * n + b) / n = a := by rw [Nat.mul_comm, Nat.mul_add_div (by omega)]; rw [Nat.div_eq_of_lt hb]; omega
  have h2 : (c * n + d) / n = c := by rw [Nat.mul_comm, Nat.mul_add_div (by omega)]; rw [Nat.div_eq_of_lt hd]; omega
  have e : a = c := by rw [← h1, ← h2, h]
  subst e
  exact ⟨rfl, by omega⟩
theorem cell_put {ts : List Int} {n l k p c i j : Nat} {g : Int} (hk : (p + l) * n + c = k) (hc : c < n) (hj : j < n) (hg : ts.getD k 0 = g) : (if i = p ∧ j = c then ⟨g, 0, false⟩ else cellF ts n l k i j) = cellF ts n l (k + 1) i j := by
  unfold cellF
  by_cases h : i = p ∧ j = c
  · rw [if_pos h, h.1, h.2, if_pos (by omega), hk, hg]
  · rw [if_neg h]
    have hne : (i + l) * n + j ≠ k := fun e => by
      obtain ⟨e1, e2⟩ := pos_one hj hc (e.trans hk.symm)
      exact h ⟨by omega, e2⟩
    by_cases h2 : (i + l) * n + j < k
    · rw [if_pos h2, if_pos (by omega)]
    · rw [if_neg h2, if_neg (by omega)]
theorem cell_scroll {ts : List Int} {m n l k i j : Nat} (hk : k ≤ (m + l) * n) (hi : i < m) : (if i + 1 < m then cellF ts n l k (i + 1) j else erC) = cellF ts n (l + 1) k i j := by
  unfold cellF
  rw [show i + (l + 1) = i + 1 + l by omega]
  split
  · rfl
  · rename_i h
    have e : i + 1 = m := by omega
    rw [e, if_neg (by omega)]
def lostN (m n k : Nat) : Nat := (k + n - 1) / n - m
def wrY (m n k : Nat) : Cu := { cuN with row := min (((k - 1) / n : Nat) : Int) ((m : Int) - 1), col := ((if k = 0 then 0 else if k % n = 0 then n - 1 else k % n : Nat) : Int), wp := decide (0 < k ∧ k % n = 0) }
structure WrS (m n : Nat) (ts : List Int) (k : Nat) (T : PgS) (y : Cu) : Prop where
  ok : T.Ok
  one : T.One
  len : T.rows.length = m
  cols : T.cols = n
  cur : y = wrY m n k
  cell : ∀ i j : Nat, i < m → j < n → atS T i j = cellF ts n (lostN m n k) k i j
theorem wrS_start {m n : Nat} (ts : List Int) (hm : 1 ≤ m ∧ m ≤ 500) (hn : 1 ≤ n ∧ n ≤ 500) : WrS m n ts 0 (resizeS ⟨[], 0⟩ m n) cuN := by
  have hM : dimN (m : Int) = m := by unfold dimN; omega
  have hN : dimN (n : Int) = n := by unfold dimN; omega
  have hrow : ∀ i, resRow ⟨[], 0⟩ n i = (List.replicate n erC, 0) := fun i => by unfold resRow; simp
  have hok : (resizeS ⟨[], 0⟩ m n).Ok := resizeS_ok _ _ _ (fun r hr => by cases hr)
  have hlen : (resizeS ⟨[], 0⟩ m n).rows.length = m := by simp [resizeS, hM]
  have hcols : (resizeS ⟨[], 0⟩ m n).cols = n := hN
  refine ⟨hok, fun r hr => ?_, hlen, hcols, ?_, fun i j hi hj => ?_⟩
  · unfold resizeS at hr
    rw [hM, hN] at hr
    simp only [List.mem_map] at hr
    obtain ⟨i, _, rfl⟩ := hr
    rw [hrow]
  · unfold wrY cuN
    simp only [Cu.mk.injEq, and_true, true_and]
    refine ⟨?_, ?_, ?_⟩
    · rw [show (((0 - 1) / n : Nat) : Int) = 0 by simp]
      omega
    · simp
    · simp
  · have h1 := atS_row hok (i := i) (j := j) (by omega) (by omega)
    rw [rowD_in (by omega)] at h1
    have h2 : (resizeS ⟨[], 0⟩ m n).rows[i]'(by omega) = (List.replicate n erC, 0) := by
      simp only [resizeS, List.getElem_map, List.getElem_range, hN]
      exact hrow _
    rw [h2, List.getElem?_replicate, if_pos hj] at h1
    unfold cellF
    rw [if_neg (by omega)]
    exact Option.some.inj h1
theorem wrS_step {m n : Nat} {ts : List Int} {k : Nat} {T : PgS} {y : Cu} (hm : 1 ≤ m) (hn : 1 ≤ n) (h : WrS m n ts k T y) {g : Int} (hg : -2147483648 ≤ g ∧ g ≤ 2147483647) (hgk : ts.getD k 0 = g) :
    WrS m n ts (k + 1) (glyphP T m0 true g (onP T.rows.length T.cols y)) (glyphC T m0 true g (onP T.rows.length T.cols y)) := by
  obtain ⟨ok, one, len, cols, cur, cell⟩ := h
  have hdm := Nat.div_add_mod k n
  have hrn := Nat.mod_lt k (show 0 < n by omega)
  generalize hq : k / n = q at hdm
  generalize hr : k % n = r at hdm hrn
  have hkq : k = q * n + r := by rw [Nat.mul_comm]; exact hdm.symm
  have d1 : (k + 1 - 1) / n = q := by rw [Nat.add_sub_cancel]; exact hq
  have d2 : (k + 1 + n - 1) / n = q + 1 := by rw [show k + 1 + n - 1 = k + n by omega, Nat.add_div_right k (by omega), hq]
  have l2 : lostN m n (k + 1) = q + 1 - m := by unfold lostN; rw [d2]
  have m1 : (k + 1) % n = if r + 1 = n then 0 else r + 1 := by
    rw [hkq]
    split
    · rename_i e
      rw [show q * n + r + 1 = (q + 1) * n by rw [Nat.add_mul]; omega]
      exact Nat.mul_mod_left _ _
    · rw [show q * n + r + 1 = q * n + (r + 1) by omega, Nat.mul_comm, Nat.mul_add_mod, Nat.mod_eq_of_lt (by omega)]
  -- where the character goes: row p, the page P
  have key : ∀ (P : PgS) (z : Cu) (p : Nat), P = (if y.wp = true then downP T { y with col := 0, wp := false } else T) → z = (if y.wp = true then downC T { y with col := 0, wp := false } else y) → OnPg T y → y.rd = 0 →
      p < m → z.row = p → z.col = r → z.rd = 0 → z.kp = false → p + (q + 1 - m) = q → z = { cuN with row := (p : Int), col := (r : Int), wp := z.wp } → P.Ok → P.One → P.rows.length = m → P.cols = n → (∀ i j : Nat, i < m → j < n → atS P i j = cellF ts n (q + 1 - m) k i j) →
      WrS m n ts (k + 1) (glyphP T m0 true g (onP T.rows.length T.cols y)) (glyphC T m0 true g (onP T.rows.length T.cols y)) := by
    intro P z p hP hz hy hrd hp z1 z2 z3 z4 hpl hzz pok pone plen pcols pcell
    obtain ⟨e1, e2⟩ := glyph_plain ok one hy hg (by rw [hrd]; omega) hP hz
    rw [e1, e2, z1, z2, z3, z4]
    have hQl : (putS P (p : Int) (r : Int) ⟨g, 0, false⟩).rows.length = P.rows.length ∧ (putS P (p : Int) (r : Int) ⟨g, 0, false⟩).cols = P.cols := by
      unfold putS
      split
      · exact ⟨setRowS_len _ _ _, rfl⟩
      · exact ⟨rfl, rfl⟩
    refine ⟨putS_ok pok _ _ ⟨hg, by simp⟩, put_one pone _ _ _, hQl.1.trans plen, hQl.2.trans pcols, ?_, fun i j hi hj => ?_⟩
    · rw [cols]
      unfold penC wrY
      rw [d1, m1, z2]
      have hp2 : (p : Int) = min (q : Int) ((m : Int) - 1) := by omega
      rw [if_neg (show ¬ k + 1 = 0 by omega), hzz]
      by_cases hc : r + 1 = n
      · rw [if_neg (by omega), if_pos hc]
        simp only [if_true, Cu.mk.injEq, and_true, true_and]
        refine ⟨hp2, by omega, by simp⟩
      · rw [if_pos (by omega), if_neg hc]
        simp only [Cu.mk.injEq, and_true, true_and]
        refine ⟨hp2, ?_, by simp⟩
        rw [if_neg (by omega)]
        omega
    · rw [at_put pok (by omega) (by omega) (by omega) (by omega), pcell i j hi hj, l2]
      exact cell_put (by rw [hpl]; exact hkq.symm) (by omega) hj hgk
  have divq : ∀ a b : Nat, b < n → (a * n + b) / n = a := fun a b hb => by rw [Nat.mul_comm, Nat.mul_add_div (by omega), Nat.div_eq_of_lt hb]; rfl
  have yr : y.row = min (((k - 1) / n : Nat) : Int) ((m : Int) - 1) := by rw [cur]; rfl
  have yc : y.col = ((if k = 0 then 0 else if r = 0 then n - 1 else r : Nat) : Int) := by rw [cur, ← hr]; rfl
  have yw : y.wp = decide (0 < k ∧ r = 0) := by rw [cur, ← hr]; rfl
  have yrd : y.rd = 0 := by rw [cur]; rfl
  have ykp : y.kp = false := by rw [cur]; rfl
  have ye : ∀ a b : Int, y.row = a → y.col = b → y = { cuN with row := a, col := b, wp := y.wp } := fun a b ha hb => by rw [← ha, ← hb, cur]; rfl
  have yon : OnPg T y := by
    refine ⟨?_, ?_, ?_, ?_⟩
    · rw [yr]
      have : (0 : Int) ≤ (((k - 1) / n : Nat) : Int) := Int.natCast_nonneg _
      omega
    · rw [yr, len]; omega
    · rw [yc]; omega
    · rw [yc, cols]
      split
      · omega
      · split <;> omega
  rcases Nat.eq_zero_or_pos r with h0 | h0
  · subst h0
    rcases Nat.eq_zero_or_pos k with hk0 | hk0
    · -- the first one
      have hq0 : q = 0 := by rw [← hq, hk0]; simp
      have hw : y.wp = false := by rw [yw]; simp [hk0]
      have l0 : lostN m n k = 0 := by unfold lostN; rw [hk0, Nat.div_eq_of_lt (by omega)]; omega
      have y1 : y.row = 0 := by rw [yr, hk0]; simp; omega
      have y2 : y.col = 0 := by rw [yc, if_pos hk0]; rfl
      refine key T y 0 (by rw [hw]; rfl) (by rw [hw]; rfl) yon yrd (by omega) y1 y2 yrd ykp (by omega) (ye _ _ y1 y2) ok one len cols (fun i j hi hj => ?_)
      rw [cell i j hi hj, l0, hq0, show 0 + 1 - m = 0 by omega]
    · -- a line is full
      have hqp : 0 < q := by
        rcases Nat.eq_zero_or_pos q with e | e
        · rw [e] at hkq; omega
        · exact e
      obtain ⟨q', rfl⟩ : ∃ q', q = q' + 1 := ⟨q - 1, by omega⟩
      have hk1 : k = (q' + 1) * n := by omega
      have d3 : (k - 1) / n = q' := by rw [show k - 1 = q' * n + (n - 1) by rw [hk1, Nat.add_mul]; omega]; exact divq _ _ (by omega)
      have d4 : (k + n - 1) / n = q' + 1 := by rw [show k + n - 1 = (q' + 1) * n + (n - 1) by omega]; exact divq _ _ (by omega)
      have hw : y.wp = true := by rw [yw]; simp [hk0]
      have l0 : lostN m n k = q' + 1 - m := by unfold lostN; rw [d4]
      have y1 : y.row = min (q' : Int) ((m : Int) - 1) := by rw [yr, d3]
      have yz : ∀ a : Int, ({ cuN with row := a, col := (0 : Int), wp := false } : Cu) = { { y with col := 0, wp := false } with row := a } := fun a => by rw [cur]; rfl
      rcases Nat.lt_or_ge (q' + 1) m with hlt | hge
      · -- there is a row below
        have e1 : downP T { y with col := 0, wp := false } = T := by
          unfold downP
          rw [if_neg (show ¬ y.row = (T.rows.length : Int) - 1 by rw [y1, len]; omega)]
        have e2 : downC T { y with col := 0, wp := false } = { cuN with row := ((q' + 1 : Nat) : Int), col := (0 : Int), wp := false } := by
          unfold downC
          rw [yz]
          simp only [Cu.mk.injEq, and_true]
          rw [y1, len]
          omega
        refine key T { cuN with row := ((q' + 1 : Nat) : Int), col := (0 : Int), wp := false } (q' + 1) (by rw [hw, if_pos rfl, e1]) (by rw [hw, if_pos rfl, e2]) yon yrd hlt rfl rfl rfl rfl (by omega) rfl ok one len cols (fun i j hi hj => ?_)
        rw [cell i j hi hj, l0, show q' + 1 - m = 0 by omega, show q' + 1 + 1 - m = 0 by omega]
      · -- all goes up
        have e1 : downP T { y with col := 0, wp := false } = moveS T (fullP T) 1 := by
          unfold downP
          rw [if_pos (show y.row = (T.rows.length : Int) - 1 by rw [y1, len]; omega)]
        have e2 : downC T { y with col := 0, wp := false } = { cuN with row := ((m - 1 : Nat) : Int), col := (0 : Int), wp := false } := by
          unfold downC
          rw [yz]
          simp only [Cu.mk.injEq, and_true]
          rw [y1, len]
          omega
        refine key (moveS T (fullP T) 1) { cuN with row := ((m - 1 : Nat) : Int), col := (0 : Int), wp := false } (m - 1) (by rw [hw, if_pos rfl, e1]) (by rw [hw, if_pos rfl, e2]) yon yrd (by omega) rfl rfl rfl rfl (by omega) rfl (moveS_fit ok (fullP_fits ok) 1) (move_one ok one 1) (moveS_len.trans len) cols (fun i j hi hj => ?_)
        rw [at_move ok (by omega) (by omega), len, show q' + 1 + 1 - m = q' + 1 - m + 1 by omega, ← cell_scroll (m := m) (l := q' + 1 - m) (by rw [hk1, show m + (q' + 1 - m) = q' + 1 by omega]; exact Nat.le_refl _) hi]
        split
        · rename_i h1
          rw [cell (i + 1) j h1 hj, l0]
        · rfl
  · -- in the midst of a line
    have hk0 : 0 < k := by omega
    have d3 : (k - 1) / n = q := by rw [show k - 1 = q * n + (r - 1) by omega]; exact divq _ _ (by omega)
    have d4 : (k + n - 1) / n = q + 1 := by rw [show k + n - 1 = (q + 1) * n + (r - 1) by rw [Nat.add_mul]; omega]; exact divq _ _ (by omega)
    have hw : y.wp = false := by rw [yw]; simp; omega
    have l0 : lostN m n k = q + 1 - m := by unfold lostN; rw [d4]
    have y1 : y.row = ((min q (m - 1) : Nat) : Int) := by rw [yr, d3]; omega
    have y2 : y.col = (r : Int) := by rw [yc, if_neg (by omega), if_neg (by omega)]
    refine key T y (min q (m - 1)) (by rw [hw]; rfl) (by rw [hw]; rfl) yon yrd (by omega) y1 y2 yrd ykp (by omega) (ye _ _ y1 y2) ok one len cols (fun i j hi hj => ?_)
    rw [cell i j hi hj, l0]
/-- the whole text -/
theorem wrS_all {m n : Nat} {ts : List Int} (hm : 1 ≤ m ∧ m ≤ 500) (hn : 1 ≤ n ∧ n ≤ 500) (hg : ∀ g ∈ ts, -2147483648 ≤ g ∧ g ≤ 2147483647) : ∀ k, k ≤ ts.length → WrS m n ts k (textR m0 true (ts.take k) (resizeS ⟨[], 0⟩ m n) cuN).1 (textR m0 true (ts.take k) (resizeS ⟨[], 0⟩ m n) cuN).2
  | 0, _ => wrS_start ts hm hn
  | k + 1, hk => by
    have h := wrS_all hm hn hg k (by omega)
    rw [List.take_succ_eq_append_getElem (by omega), textR_snoc]
    exact wrS_step hm.1 hn.1 h (hg _ (List.getElem_mem (by omega))) (by rw [List.getD_eq_getElem?_getD, List.getElem?_eq_getElem (by omega)]; rfl)
end Go.Proofs.Ytdfiknemfpkdmaa
