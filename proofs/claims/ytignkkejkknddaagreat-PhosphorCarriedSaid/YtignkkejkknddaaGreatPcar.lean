/- What is carried to another page, erased, carried back, and turned over twice, plainly.  -/
import Derived.Test.YtignkkejkknddaaGreatRecN
import Derived.Test.YtignkkejkknddaaGreatRecH
namespace Go.Proofs.YtignkkejkknddaaGreat
open Go.RowKit
set_option linter.unusedVariables false
set_option linter.unusedSimpArgs false

def r32 (y : Cl) : Prop := 0 ≤ y.r ∧ y.r < 32
theorem begC_r (ts : List Int) (n : Nat) : r32 (begC ts n) := by
  unfold begC r32
  split
  · simp only; omega
  · simp [erC]
theorem begS_r {b : BgD} {q : List Cl × Int} (hq : q ∈ (begS b).rows) : ∀ y ∈ q.1, r32 y := by
  intro y hy
  simp only [begS, List.mem_map] at hq
  obtain ⟨k, _, rfl⟩ := hq
  simp only [begRow, List.mem_map] at hy
  obtain ⟨j, _, rfl⟩ := hy
  exact begC_r _ _
theorem bkP_r {b : BgD} {i : Nat} {q : List Cl × Int} (hq : q ∈ (bkP b i).rows) : ∀ y ∈ q.1, r32 y := by
  unfold bkP putS at hq
  split at hq
  · unfold setRowS at hq
    rcases List.mem_or_eq_of_mem_set hq with hq | rfl
    · exact begS_r hq
    · intro y hy
      rcases List.mem_or_eq_of_mem_set hy with hy | rfl
      · rw [List.getD_eq_getElem?_getD] at hy
        cases e : (begS b).rows[(0 : Int).toNat]? with
        | none => rw [e] at hy; simp at hy
        | some q => rw [e] at hy; exact begS_r (List.mem_of_getElem? e) y hy
      · simp [r32]
  · exact begS_r hq
theorem flip_twice {y : Cl} (h : r32 y) : flipC [0, 8] (flipC [0, 8] y) = y := by
  obtain ⟨g, r, k⟩ := y
  obtain ⟨h1, h2⟩ := h
  simp only at h1 h2
  obtain ⟨n, rfl⟩ := Int.eq_ofNat_of_zero_le h1
  unfold flipC
  simp only [Fl.num_of]
  congr 1
  have key : ∀ n : Fin 32, (foldR turnF (foldR turnF (Fl.of (n.1 : Int)) [0, 8]) [0, 8]).num = (n.1 : Int) := by decide
  exact key ⟨n, by omega⟩
theorem ar_fullQ {S : BkS} (hS : S.Ok) {m n : Nat} (h : ∀ h : 0 < S.pages.length, (S.pages[0]'h).rows.length = m ∧ (S.pages[0]'h).cols = n) : arK S (fullA m n) = fullA m n := by
  obtain ⟨h1, h2⟩ := h hS.p1
  have := ar_full (hS.pg _ (List.getElem_mem hS.p1))
  rw [h1, h2, arB_0 hS] at this
  exact this
section
variable {T : BkS} {m n : Nat} {t l b r : Int}
/-- a copy to the same place of another page -/
theorem copy_same (h3 : T.pages.length = 3) (ha : arK T (fullA m n) = fullA m n) (f g : Nat) (hf : f < 3) (hg : g < 3) (z1 z2 : Int) (e1 : z1 = f + 1) (e2 : z2 = g + 1) (hd : (T.pages[f]'(by omega)).rows.length = m ∧ (T.pages[f]'(by omega)).cols = n)
    (h1 : 0 ≤ t) (h2 : t < b) (h4 : b ≤ m) (h5 : 0 ≤ l) (h6 : l < r) (h7 : r ≤ n) :
    cpOk (fullA m n) [t + 1, l + 1, b, r, z1, t + 1, l + 1, z2] = true ∧ copyRS T (fullA m n) [t + 1, l + 1, b, r, z1, t + 1, l + 1, z2] = T.set g (pasteS (T.pages[g]'(by omega)) (T.pages[f]'(by omega)) ⟨t, l, b, r⟩ t l) := by
  obtain ⟨r1, r2⟩ := re_own (xs := [t + 1, l + 1, b, r, z1, t + 1, l + 1, z2]) (i := 0) (m := m) (n := n) (t := t) (l := l) (b := b) (r := r) rfl rfl rfl rfl h1 h2 h4 h5 h6 h7
  have ok : cpOk (fullA m n) [t + 1, l + 1, b, r, z1, t + 1, l + 1, z2] = true := by
    unfold cpOk
    rw [r1, show at0 [t + 1, l + 1, b, r, z1, t + 1, l + 1, z2] 4 = z1 from rfl, show at0 [t + 1, l + 1, b, r, z1, t + 1, l + 1, z2] 7 = z2 from rfl, decide_eq_true (by omega), decide_eq_true (by omega)]
    rfl
  have c1 : cpR (fullA m n) [t + 1, l + 1, b, r, z1, t + 1, l + 1, z2] 5 = t := by
    unfold cpR placeI
    rw [show num0 [t + 1, l + 1, b, r, z1, t + 1, l + 1, z2] 5 0 = t + 1 from rfl]
    rw [if_neg (by simp only [fullA]; omega)]
    simp only [fullA]
    omega
  have c2 : cpC (fullA m n) [t + 1, l + 1, b, r, z1, t + 1, l + 1, z2] 5 = l := by
    unfold cpC placeI
    rw [show num0 [t + 1, l + 1, b, r, z1, t + 1, l + 1, z2] 5 1 = l + 1 from rfl]
    rw [if_neg (by simp only [fullA]; omega)]
    simp only [fullA]
    omega
  have c3 : cpB (fullA m n) [t + 1, l + 1, b, r, z1, t + 1, l + 1, z2] t l = ⟨t, l, b, r⟩ := by
    clear c1 c2
    unfold cpB
    rw [r2]
    simp only [fullA, BxI.mk.injEq]
    refine ⟨trivial, trivial, ?_, ?_⟩ <;> omega
  have n1 : nbI T z1 = f := by unfold nbI; rw [h3]; omega
  have n2 : nbI T z2 = g := by unfold nbI; rw [h3]; omega
  refine ⟨ok, ?_⟩
  unfold copyRS
  rw [ha, if_pos ok, c1, c2, c3, show at0 [t + 1, l + 1, b, r, z1, t + 1, l + 1, z2] 4 = z1 from rfl, show at0 [t + 1, l + 1, b, r, z1, t + 1, l + 1, z2] 7 = z2 from rfl, n1, n2]
  have p1 : T.pgAt (f : Int) = T.pages[f]'(by omega) := by simp [BkS.pgAt, h3, hf]
  have p2 : T.pgAt (g : Int) = T.pages[g]'(by omega) := by simp [BkS.pgAt, h3, hg]
  have i1 : T.inP (f : Int) = true := by unfold BkS.inP; simp; omega
  have i2 : T.inP (g : Int) = true := by unfold BkS.inP; simp; omega
  unfold BkS.copy BkS.copied
  rw [p1, p2, i1, i2, hd.1, hd.2, onB_self h1 h2 h4 h5 h6 h7]
  rfl
end
section
variable {S P : PgS} {m n : Nat} {t l b r : Int}
/-- a paste to the same place, place by place -/
theorem paste_same (h1 : 0 ≤ t) (h2 : t < b) (h5 : 0 ≤ l) (h6 : l < r) : pasteS S P ⟨t, l, b, r⟩ t l = mapS S (fun i k y => if t ≤ i ∧ (i : Int) < b ∧ l ≤ k ∧ (k : Int) < r then cellAt P i k else y) := by
  unfold pasteS pasteJ
  refine mapS_congr fun i hi k hk => ?_
  unfold pasteG
  simp only
  by_cases c : t ≤ i ∧ (i : Int) < b ∧ l ≤ k ∧ (k : Int) < r
  · rw [if_pos c, if_pos (by omega)]
    congr 1 <;> omega
  · rw [if_neg c, if_neg (by omega)]
theorem wipe_same (hS : S.Ok) (xs : List Int) (hd : S.rows.length = m ∧ S.cols = n) (ok : reOk (fullA m n) xs 0 = true ∧ reB (fullA m n) xs 0 = ⟨t, l, b, r⟩) : reOk (arB S (fullA m n)) xs 0 = true ∧ rwipeS S (fullA m n) xs false = mapS S (fun i k y => if t ≤ i ∧ (i : Int) < b ∧ l ≤ k ∧ (k : Int) < r then erC else y) := by
  have ar := ar_full hS
  rw [hd.1, hd.2] at ar
  rw [ar]
  refine ⟨ok.1, ?_⟩
  unfold rwipeS rwipeF
  rw [ar, if_pos ok.1, if_neg (by decide), ok.2]
  exact each_map hS ⟨t, l, b, r⟩ (fun _ => erC)
/-- erased here, and brought back from there -/
theorem back_same (hP : P.Ok) (hS : S.Ok) (e : S.rows.length = P.rows.length ∧ S.cols = P.cols) (h1 : 0 ≤ t) (h2 : t < b) (h5 : 0 ≤ l) (h6 : l < r) :
    pasteS (mapS P (fun i k y => if t ≤ i ∧ (i : Int) < b ∧ l ≤ k ∧ (k : Int) < r then erC else y)) (pasteS S P ⟨t, l, b, r⟩ t l) ⟨t, l, b, r⟩ t l = P := by
  rw [paste_same h1 h2 h5 h6, mapS_mapS]
  refine mapS_id fun i hi k hk => ?_
  by_cases c : t ≤ i ∧ (i : Int) < b ∧ l ≤ k ∧ (k : Int) < r
  · rw [if_pos c, paste_same h1 h2 h5 h6]
    have hi' : i < S.rows.length := by omega
    have hk' : k < S.rows[i].1.length := by rw [hS.len hi', e.2, ← hP.len hi]; exact hk
    have hi2 : i < (mapS S (fun i k y => if t ≤ i ∧ (i : Int) < b ∧ l ≤ k ∧ (k : Int) < r then cellAt P i k else y)).rows.length := by rw [mapS_len]; exact hi'
    have e1 := mapS_at (g := fun i k y => if t ≤ i ∧ (i : Int) < b ∧ l ≤ k ∧ (k : Int) < r then cellAt P i k else y) hi' hi2
    rw [cellAt_in hi2 (by rw [e1]; simpa using hk')]
    simp only [e1, List.getElem_mapIdx]
    rw [if_pos c, cellAt_in hi hk]
  · rw [if_neg c, if_neg c]
/-- turned over twice -/
theorem flips_same (hP : P.Ok) (hr : ∀ q ∈ P.rows, ∀ y ∈ q.1, r32 y) (xs : List Int) (hd : P.rows.length = m ∧ P.cols = n) :
    chS (chS P (chB (arB P (fullA m n)) xs false) (chF true [0, 8])) (chB (arB (chS P (chB (arB P (fullA m n)) xs false) (chF true [0, 8])) (fullA m n)) xs false) (chF true [0, 8]) = P := by
  have hf : ∀ c : Cl, c.ok → (chF true [0, 8] c).ok := chF_ok _ _
  have ar := ar_full hP
  rw [hd.1, hd.2] at ar
  have okQ := chS_ok hP hf (chB (fullA m n) xs false)
  have eQ := chS_form hP (fullA m n) xs false hf
  have dQ : (chS P (chB (fullA m n) xs false) (chF true [0, 8])).rows.length = m ∧ (chS P (chB (fullA m n) xs false) (chF true [0, 8])).cols = n := by rw [eQ]; exact ⟨by rw [mapS_len]; exact hd.1, hd.2⟩
  have ar2 := ar_full okQ
  rw [dQ.1, dQ.2] at ar2
  rw [ar, ar2, chS_form okQ (fullA m n) xs false hf, eQ, mapS_mapS]
  refine mapS_id fun i hi k hk => ?_
  by_cases c : chIn (fullA m n) xs false i k = true
  · rw [if_pos c, if_pos c]
    exact flip_twice (hr _ (List.getElem_mem hi) _ (List.getElem_mem hk))
  · rw [if_neg c, if_neg c]
end
theorem rwipeS_ok'' {P : PgS} (hP : P.Ok) (x : BxI) (xs : List Int) (sel : Bool) : (rwipeS P x xs sel).Ok := by
  unfold rwipeS rwipeF
  split
  · cases sel
    · exact eachS_ok hP _ (fun xs l r => eachR_len xs l r _) (fun xs l r h => eachR_ok h fun _ _ => by simp [Cl.ok, erC])
    · exact eachS_ok hP _ (fun xs l r => eachR_len xs l r _) (fun xs l r h => eachR_ok h fun y hy => by
        unfold cleanC
        split
        · exact hy
        · simp [Cl.ok] at hy ⊢; omega)
  · exact hP
/-- the whole way: away, erased, back, and turned over twice -/
structure Carried (T : BkS) (m n : Nat) (t l b r u : Int) (T1 T2 T3 T4 T5 : BkS) : Prop where
  l1 : T1.pages.length = 3
  l2 : T2.pages.length = 3
  l3 : T3.pages.length = 3
  l4 : T4.pages.length = 3
  l5 : T5.pages.length = 3
  s1 : smOk (arK T (fullA m n)) [1, t + 1, l + 1, b, r] = true ∧ smV T (fullA m n) [1, t + 1, l + 1, b, r] = u
  c1 : cpOk (arK T (fullA m n)) [t + 1, l + 1, b, r, 1, t + 1, l + 1, 3] = true ∧ copyRS T (fullA m n) [t + 1, l + 1, b, r, 1, t + 1, l + 1, 3] = T1
  e1 : ∀ h, reOk (arB (T1.pages[0]'h) (fullA m n)) [t + 1, l + 1, b, r] 0 = true ∧ T1.set 0 (rwipeS (T1.pages[0]'h) (fullA m n) [t + 1, l + 1, b, r] false) = T2
  s2 : smOk (arK T2 (fullA m n)) [3, t + 1, l + 1, b, r] = true ∧ smV T2 (fullA m n) [3, t + 1, l + 1, b, r] = u
  c2 : cpOk (arK T2 (fullA m n)) [t + 1, l + 1, b, r, 3, t + 1, l + 1, 1] = true ∧ copyRS T2 (fullA m n) [t + 1, l + 1, b, r, 3, t + 1, l + 1, 1] = T3
  f1 : ∀ h, T3.set 0 (chS (T3.pages[0]'h) (chB (arB (T3.pages[0]'h) (fullA m n)) [t + 1, l + 1, b, r, 0, 8] false) (chF true ([t + 1, l + 1, b, r, 0, 8].drop 4))) = T4
  f2 : ∀ h, T4.set 0 (chS (T4.pages[0]'h) (chB (arB (T4.pages[0]'h) (fullA m n)) [t + 1, l + 1, b, r, 0, 8] false) (chF true ([t + 1, l + 1, b, r, 0, 8].drop 4))) = T5
  g0 : ∀ h h', T5.pages[0]'h = T.pages[0]'h'
  g1 : ∀ h h', T5.pages[1]'h = T.pages[1]'h'
theorem carried {T : BkS} {m n : Nat} {t l b r : Int} (hS : T.Ok) (h3 : T.pages.length = 3) (hd : ∀ (i : Nat) (h : i < T.pages.length), (T.pages[i]'h).rows.length = m ∧ (T.pages[i]'h).cols = n)
    (hr : ∀ (h : 0 < T.pages.length), ∀ q ∈ (T.pages[0]'h).rows, ∀ y ∈ q.1, r32 y) (h1 : 0 ≤ t) (h2 : t < b) (h4 : b ≤ m) (h5 : 0 ≤ l) (h6 : l < r) (h7 : r ≤ n) : ∃ u T1 T2 T3 T4 T5, Carried T m n t l b r u T1 T2 T3 T4 T5 := by
  have i0 : 0 < T.pages.length := by omega
  have i1 : 1 < T.pages.length := by omega
  have i2 : 2 < T.pages.length := by omega
  have ok0 := hS.pg _ (List.getElem_mem i0)
  have ok2 := hS.pg _ (List.getElem_mem i2)
  obtain ⟨d0, d0c⟩ := hd 0 i0
  obtain ⟨d2, d2c⟩ := hd 2 i2
  have ar : ∀ Z : BkS, Z.Ok → (∀ h : 0 < Z.pages.length, (Z.pages[0]'h).rows.length = m ∧ (Z.pages[0]'h).cols = n) → arK Z (fullA m n) = fullA m n := fun Z hZ h => ar_fullQ hZ h
  have aT := ar T hS (fun h => hd 0 _)
  obtain ⟨a1, a2⟩ := copy_same h3 aT 0 2 (by omega) (by omega) 1 3 (by omega) (by omega) (hd 0 i0) h1 h2 h4 h5 h6 h7
  obtain ⟨b1, b2⟩ := sum_own h3 aT 0 (by omega) 1 rfl (hd 0 i0) h1 h2 h4 h5 h6 h7
  -- away
  have okQ : (pasteS (T.pages[2]'i2) (T.pages[0]'i0) ⟨t, l, b, r⟩ t l).Ok := pasteJ_ok ok2 ok0
  have dQ : (pasteS (T.pages[2]'i2) (T.pages[0]'i0) ⟨t, l, b, r⟩ t l).rows.length = m ∧ (pasteS (T.pages[2]'i2) (T.pages[0]'i0) ⟨t, l, b, r⟩ t l).cols = n := ⟨by unfold pasteS; rw [pasteJ_len]; exact d2, d2c⟩
  have eQ := paste_cells (X := ⟨t, l, b, r⟩) (pr := t) (pc := l) ok2 ok0 h1 (by simp only; omega) (by simp only; omega) h5 (by simp only; omega) (by simp only; omega) h1 (by simp only; omega) h5 (by simp only; omega)
  simp only at eQ
  rw [show t + (b - t) = b by omega, show l + (r - l) = r by omega] at eQ
  have back := back_same (S := (T.pages[2]'i2)) (P := (T.pages[0]'i0)) (t := t) (l := l) (b := b) (r := r) ok0 ok2 ⟨by omega, by rw [d2c, d0c]⟩ h1 h2 h5 h6
  generalize hQ : pasteS (T.pages[2]'i2) (T.pages[0]'i0) ⟨t, l, b, r⟩ t l = Q at a2 okQ dQ eQ back
  have okT1 := hS.set 2 okQ
  have l1 : (T.set 2 Q).pages.length = 3 := by rw [BkS.set_len]; exact h3
  have p10 : ∀ h, (T.set 2 Q).pages[0]'h = (T.pages[0]'i0) := fun h => bkset_else i0 (by omega) Q h
  have p11 : ∀ h, (T.set 2 Q).pages[1]'h = (T.pages[1]'i1) := fun h => bkset_else i1 (by omega) Q h
  have p12 : ∀ h, (T.set 2 Q).pages[2]'h = Q := fun h => bkset_same i2 Q h
  generalize hT1 : T.set 2 Q = T1 at a2 okT1 l1 p10 p11 p12
  -- erased
  have rw0 := re_own (xs := [t + 1, l + 1, b, r]) (i := 0) (m := m) (n := n) (t := t) (l := l) (b := b) (r := r) rfl rfl rfl rfl h1 h2 h4 h5 h6 h7
  obtain ⟨w1, w2⟩ := wipe_same ok0 _ (hd 0 i0) rw0
  have okE := rwipeS_ok'' ok0 (fullA m n) [t + 1, l + 1, b, r] false
  have dE : (rwipeS (T.pages[0]'i0) (fullA m n) [t + 1, l + 1, b, r] false).rows.length = m ∧ (rwipeS (T.pages[0]'i0) (fullA m n) [t + 1, l + 1, b, r] false).cols = n := by rw [w2]; exact ⟨by rw [mapS_len]; exact d0, d0c⟩
  rw [← w2] at back
  generalize hE : rwipeS (T.pages[0]'i0) (fullA m n) [t + 1, l + 1, b, r] false = E at okE dE back
  have j0 : 0 < T1.pages.length := by omega
  have okT2 := okT1.set 0 okE
  have l2 : (T1.set 0 E).pages.length = 3 := by rw [BkS.set_len]; exact l1
  have p20 : ∀ h, (T1.set 0 E).pages[0]'h = E := fun h => bkset_same j0 E h
  have p21 : ∀ h, (T1.set 0 E).pages[1]'h = (T.pages[1]'i1) := fun h => (bkset_else (by omega) (by omega) E h).trans (p11 _)
  have p22 : ∀ h, (T1.set 0 E).pages[2]'h = Q := fun h => (bkset_else (by omega) (by omega) E h).trans (p12 _)
  generalize hT2 : T1.set 0 E = T2 at okT2 l2 p20 p21 p22
  have aT2 := ar T2 okT2 (fun h => by rw [p20]; exact dE)
  obtain ⟨b3, b4⟩ := sum_own l2 aT2 2 (by omega) 3 rfl (by rw [p22]; exact dQ) h1 h2 h4 h5 h6 h7
  rw [p22, eQ, ← b2] at b4
  obtain ⟨a3, a4⟩ := copy_same l2 aT2 2 0 (by omega) (by omega) 3 1 (by omega) (by omega) (by rw [p22]; exact dQ) h1 h2 h4 h5 h6 h7
  rw [p20, p22, back] at a4
  -- back
  have k0 : 0 < T2.pages.length := by omega
  have l3 : (T2.set 0 (T.pages[0]'i0)).pages.length = 3 := by rw [BkS.set_len]; exact l2
  have p30 : ∀ h, (T2.set 0 (T.pages[0]'i0)).pages[0]'h = (T.pages[0]'i0) := fun h => bkset_same k0 _ h
  have p31 : ∀ h, (T2.set 0 (T.pages[0]'i0)).pages[1]'h = (T.pages[1]'i1) := fun h => (bkset_else (by omega) (by omega) _ h).trans (p21 _)
  have fl := flips_same ok0 (hr i0) [t + 1, l + 1, b, r, 0, 8] (hd 0 i0)
  generalize hT3 : T2.set 0 (T.pages[0]'i0) = T3 at a4 l3 p30 p31
  have q0 : 0 < T3.pages.length := by omega
  generalize hR : chS (T.pages[0]'i0) (chB (arB (T.pages[0]'i0) (fullA m n)) [t + 1, l + 1, b, r, 0, 8] false) (chF true [0, 8]) = R at fl
  have l4 : (T3.set 0 R).pages.length = 3 := by rw [BkS.set_len]; exact l3
  have p40 : ∀ h, (T3.set 0 R).pages[0]'h = R := fun h => bkset_same q0 _ h
  have p41 : ∀ h, (T3.set 0 R).pages[1]'h = (T.pages[1]'i1) := fun h => (bkset_else (by omega) (by omega) _ h).trans (p31 _)
  have s0 : 0 < (T3.set 0 R).pages.length := by omega
  have l5 : ((T3.set 0 R).set 0 (T.pages[0]'i0)).pages.length = 3 := by rw [BkS.set_len]; exact l4
  exact ⟨_, T1, T2, T3, _, _, l1, l2, l3, l4, l5, ⟨by rw [aT]; exact b1, rfl⟩, ⟨by rw [aT]; exact a1, a2⟩, fun h => ⟨by rw [p10]; exact w1, by rw [p10, hE]; exact hT2⟩, ⟨by rw [aT2]; exact b3, b4⟩, ⟨by rw [aT2]; exact a3, a4⟩,
    fun h => by rw [p30]; exact congrArg _ hR, fun h => by rw [p40]; exact congrArg _ fl, fun h h' => bkset_same s0 _ h, fun h h' => (bkset_else (by omega) (by omega) _ h).trans (p41 _)⟩
end Go.Proofs.YtignkkejkknddaaGreat
