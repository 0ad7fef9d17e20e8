/- Which function a token is, awake; the plain law of names.  -/
import Derived.Test.YtngagongjejjhaaGtD
namespace Go.Proofs.Ytngagongjejjhaa
open Go.RowKit
set_option linter.unusedVariables false
set_option linter.unusedSimpArgs false

set_option maxRecDepth 100000 in
set_option maxHeartbeats 8000000 in
theorem find_c (c m : Int) (i nm : ByteArray) (lv : Int) (w : World) (ID : ∀ w', Calls Try.prog 11 #[tokV c m i] w' (Gives w' (.string nm))) (n : Nat) (hn : n < 111) (L : List GRow) (hL : L.length = 111) (RW : ∀ w', Calls Try.prog 12 #[] w' (NewG L w'))
    (h1 : (L[n]'(by omega)).k = 4 ∧ ((L[n]'(by omega)).id.toList == nm.toList) = true) (h2 : ∀ j (h : j < n), ¬ ((L[j]'(by omega)).k = 4 ∧ ((L[j]'(by omega)).id.toList == nm.toList) = true)) :
    Calls Try.prog 7 #[tokV c m i, .int .i64 lv] w (Gives w (.tuple #[.int .i64 (if lv < (L[n]'(by omega)).lv then 0 else (n : Int) + 1), .bool (!decide (lv < (L[n]'(by omega)).lv))])) := by
  have DS := Lib.hid (fun w' => desig_c c m i w')
  replace ID := Lib.hid ID
  replace RW := Lib.hid RW
  replace h2 := Lib.hid h2
  replace h1 := Lib.hid h1
  have hLh := Lib.hid hL
  obtain ⟨z, hz⟩ : ∃ z, z = L[n]'(by omega) := ⟨_, rfl⟩
  have hz1 : Hid (z.k = 4 ∧ (z.id.toList == nm.toList) = true) := Lib.hid (by rw [hz]; exact h1.out)
  rw [← hz]
  replace hz := Lib.hid hz
  clear h1
  obtain ⟨rv, hrv⟩ : ∃ rv : Int, rv = (if lv < z.lv then 0 else (n : Int) + 1) := ⟨_, rfl⟩
  obtain ⟨rb, hrb⟩ : ∃ rb : Bool, rb = !decide (lv < z.lv) := ⟨_, rfl⟩
  rw [← hrv, ← hrb]
  replace hrv := Lib.hid hrv
  replace hrb := Lib.hid hrb
  go_enter Try.func7, Try.ntmps7
  go_upto_region 5 with (first
    | (go_at_call 10; ((with_reducible refine (DS.out _).mono ?_); rintro _ _ hgets; obtain ⟨rfl, x1, rfl⟩ := hgets.get; clear hgets))
    | (go_at_call 11; ((with_reducible refine (ID.out _).mono ?_); rintro _ _ hgets; obtain ⟨rfl, x2, rfl⟩ := hgets.get; clear hgets)))
  obtain ⟨W1, eW1⟩ : ∃ W1, W1 = ext (ext (w.alloc (.cells #[.int .i64 4, .int .u8 c, .int .u8 m, .slice none 0 0, .string i, .slice none 0 0] 32)) x1) x2 := ⟨_, rfl⟩
  have hB1 : Below w.heap.size w W1 := by rw [eW1]; (repeat' (first | (with_reducible exact Below.refl _ _) | (with_reducible refine Below.alloc ?_ ?_ _) | (with_reducible refine below_ext ?_ ?_ _) | (with_reducible refine Below.drew ?_) | (with_reducible refine below_drewN ?_ _) | (with_reducible refine Below.setCell ?_ ?_ _) | go_size | (simp only [go_sem]; omega) | (simp [go_sem]; done) | (simp [go_sem]; omega)))
  have b1 : W1.heap[w.heap.size]? = some (.cells #[.int .i64 4, .int .u8 c, .int .u8 m, .slice none 0 0, .string i, .slice none 0 0] 32 (0, 0)) := by
    rw [eW1, block_ext _ _ (by simp; omega), block_ext _ _ (by simp)]
    exact heap_alloc_new _ _
  rw [← eW1]
  clear eW1 DS ID
  go_upto_region 6 with ((go_at_call 12); (with_reducible refine (RW.out _).mono ?_); (intro e1 w1 hg1); (obtain ⟨A1, c1, x3, rfl, rfl, hO1⟩ := hg1.get); clear hg1; replace hO1 := Lib.hid hO1)
  obtain ⟨W2, eW2⟩ : ∃ W2, W2 = ext W1 x3 := ⟨_, rfl⟩
  have hB2 : Below W1.heap.size W1 W2 := by rw [eW2]; (repeat' (first | (with_reducible exact Below.refl _ _) | (with_reducible refine Below.alloc ?_ ?_ _) | (with_reducible refine below_ext ?_ ?_ _) | (with_reducible refine Below.drew ?_) | (with_reducible refine below_drewN ?_ _) | (with_reducible refine Below.setCell ?_ ?_ _) | go_size | (simp only [go_sem]; omega) | (simp [go_sem]; done) | (simp [go_sem]; omega)))
  obtain ⟨g, off, rfl, hg, hcell⟩ := hO1.out.rd encG_len (by omega)
  rw [← eW2] at hg hcell ⊢
  have b2 := (hB2.block _ (Array.getElem?_eq_some_iff.1 b1).1).trans b1
  have KT := Lib.hid (fun w' (h : Below W2.heap.size W2 w') => (by
    have hb := (h.block _ (Array.getElem?_eq_some_iff.1 b2).1).trans b2
    rw [cellG hb]; rfl : w'.cell? ⟨w.heap.size, 0, none⟩ = some (.int .i64 4)))
  have BW := Lib.hid (fun w' (h : Below W2.heap.size W2 w') => (hB1.trans (hB2.mono hB1.size)).trans (h.mono (hB1.trans (hB2.mono hB1.size)).size))
  have hlw : w.heap.size < W2.heap.size := (Array.getElem?_eq_some_iff.1 b2).1
  replace hcell := Lib.hid hcell
  clear eW2 hO1 b1 b2 hB2 hB1 RW
  go_wp2
  go_loopw [23] (fun iv wr => ∃ j : Nat, j ≤ n ∧ iv = .int .i64 j ∧ Hid (Below W2.heap.size W2 wr)) (fun iv _ => 111 - (intOf iv).toNat)
  case atStart => exact ⟨0, by omega, rfl, Lib.hid (Below.refl _ _)⟩
  case round =>
    obtain ⟨j, hj, rfl, hbr⟩ := hrel
    have hj111 : j < 111 := by omega
    have hjL : j < L.length := by omega
    have k0 := (hbr.out.cell (p := ⟨g, _, none⟩) hg).trans (hcell.out j hjL 0 _ rfl)
    have k1 := (hbr.out.cell (p := ⟨g, _, none⟩) hg).trans (hcell.out j hjL 1 _ rfl)
    have k2 := (hbr.out.cell (p := ⟨g, _, none⟩) hg).trans (hcell.out j hjL 2 _ rfl)
    have k3 := (hbr.out.cell (p := ⟨g, _, none⟩) hg).trans (hcell.out j hjL 3 _ rfl)
    simp only [Nat.add_zero, ← Nat.add_assoc] at k0 k1 k2 k3
    have kt := KT.out wr hbr.out
    have kl := Nat.lt_of_lt_of_le hlw hbr.out.size
    have gl := Nat.lt_of_lt_of_le hg hbr.out.size
    have d0 : decide ((j : Int) < 111) = true := decide_eq_true (by omega)
    by_cases hjn : j = n
    · subst hjn
      rw [← hz.out] at k0 k1 k2 k3
      rw [hz1.out.1] at k0
      have e1 := hz1.out.2
      by_cases hlv : lv < z.lv
      · have d1 : decide (lv < z.lv) = true := decide_eq_true hlv
        have q1 := hrv.out
        have q2 := hrb.out
        rw [if_pos hlv] at q1
        rw [d1] at q2
        subst q1 q2
        have hw : IntKind.i64.wrap ((j : Int) + 1) = (j : Int) + 1 := wrap_g (by omega) (by omega)
        have fin := Lib.hid (BW.out wr hbr.out)
        go_wp2
        go_returns
        exact ⟨rfl, fin.out.trans (Below.mono (B := wr.heap.size) (by (repeat' (first | (with_reducible exact Below.refl _ _) | (with_reducible refine Below.alloc ?_ ?_ _) | (with_reducible refine below_ext ?_ ?_ _) | (with_reducible refine Below.drew ?_) | (with_reducible refine below_drewN ?_ _) | (with_reducible refine Below.setCell ?_ ?_ _) | go_size | (simp only [go_sem]; omega) | (simp [go_sem]; done) | (simp [go_sem]; omega)))) fin.out.size)⟩
      · have d1 : decide (lv < z.lv) = false := decide_eq_false hlv
        have q1 := hrv.out
        have q2 := hrb.out
        rw [if_neg hlv] at q1
        rw [d1] at q2
        subst q1 q2
        have hw : IntKind.i64.wrap ((j : Int) + 1) = (j : Int) + 1 := wrap_g (by omega) (by omega)
        have fin := Lib.hid (BW.out wr hbr.out)
        go_wp2
        go_returns
        exact ⟨rfl, fin.out.trans (Below.mono (B := wr.heap.size) (by (repeat' (first | (with_reducible exact Below.refl _ _) | (with_reducible refine Below.alloc ?_ ?_ _) | (with_reducible refine below_ext ?_ ?_ _) | (with_reducible refine Below.drew ?_) | (with_reducible refine below_drewN ?_ _) | (with_reducible refine Below.setCell ?_ ?_ _) | go_size | (simp only [go_sem]; omega) | (simp [go_sem]; done) | (simp [go_sem]; omega)))) fin.out.size)⟩
    · have hjn2 : j < n := by omega
      have hno := h2.out j hjn2
      generalize L[j] = r at k0 k1 k2 k3 hno
      by_cases hk : r.k = 4
      · have e1 : (r.id.toList == nm.toList) = false := Bool.eq_false_iff.2 fun e => hno ⟨hk, e⟩
        rw [hk] at k0
        go_wp2
        exact ⟨⟨j + 1, by omega, by go_num, Lib.hid (hbr.out.trans (Below.mono (B := wr.heap.size) (by (repeat' (first | (with_reducible exact Below.refl _ _) | (with_reducible refine Below.alloc ?_ ?_ _) | (with_reducible refine below_ext ?_ ?_ _) | (with_reducible refine Below.drew ?_) | (with_reducible refine below_drewN ?_ _) | (with_reducible refine Below.setCell ?_ ?_ _) | go_size | (simp only [go_sem]; omega) | (simp [go_sem]; done) | (simp [go_sem]; omega)))) hbr.out.size))⟩, by simp [intOf]; omega⟩
      · have e1 : (r.k == 4) = false := by simpa using hk
        go_wp2
        exact ⟨⟨j + 1, by omega, by go_num, Lib.hid (hbr.out.trans (Below.mono (B := wr.heap.size) (by (repeat' (first | (with_reducible exact Below.refl _ _) | (with_reducible refine Below.alloc ?_ ?_ _) | (with_reducible refine below_ext ?_ ?_ _) | (with_reducible refine Below.drew ?_) | (with_reducible refine below_drewN ?_ _) | (with_reducible refine Below.setCell ?_ ?_ _) | go_size | (simp only [go_sem]; omega) | (simp [go_sem]; done) | (simp [go_sem]; omega)))) hbr.out.size))⟩, by simp [intOf]; omega⟩
def isG (nm : List UInt8) (r : GRow) : Bool := r.k == 4 && r.id.data.toList == nm
theorem isG_iff (nm : ByteArray) (r : GRow) : isG nm.data.toList r = true ↔ (r.k = 4 ∧ (r.id.toList == nm.toList) = true) := by
  unfold isG
  rw [ByteArray.toList_eq, ByteArray.toList_eq]
  simp
theorem first_G (nm : ByteArray) (n : Nat) (hn : n < 111) (h1 : (allG[n]?.map (isG nm.data.toList)) = some true) (h2 : (allG.take n).all (fun r => !isG nm.data.toList r) = true) :
    ((allG[n]'(by rw [allG_len]; exact hn)).k = 4 ∧ ((allG[n]'(by rw [allG_len]; exact hn)).id.toList == nm.toList) = true) ∧ ∀ j (h : j < n), ¬ ((allG[j]'(by rw [allG_len]; omega)).k = 4 ∧ ((allG[j]'(by rw [allG_len]; omega)).id.toList == nm.toList) = true) := by
  refine ⟨?_, fun j h hc => ?_⟩
  · rw [← isG_iff]
    rw [List.getElem?_eq_getElem (by rw [allG_len]; exact hn)] at h1
    simpa using h1
  · rw [← isG_iff] at hc
    have := List.all_eq_true.1 h2 (allG[j]'(by rw [allG_len]; omega)) (by
      rw [List.mem_iff_getElem]
      exact ⟨j, by rw [List.length_take, allG_len]; omega, by simp⟩)
    rw [hc] at this
    cases this
theorem find1_c (w : World) : Calls Try.prog 7 #[tokV 104 63 ⟨#[]⟩, .int .i64 1] w (Gives w (.tuple #[.int .i64 71, .bool true])) := by
  obtain ⟨h1, h2⟩ := first_G ⟨#[63, 104]⟩ 70 (by omega) (by decide +kernel) (by decide +kernel)
  have hl : (allG[70]'(by rw [allG_len]; omega)).lv = 1 := by decide +kernel
  have := find_c 104 63 ⟨#[]⟩ ⟨#[63, 104]⟩ 1 w gid1_c 70 (by omega) allG allG_len rows_c h1 h2
  rw [hl] at this
  exact this
theorem find2_c (w : World) : Calls Try.prog 7 #[tokV 122 0 ⟨#[42]⟩, .int .i64 3] w (Gives w (.tuple #[.int .i64 0, .bool false])) := by
  obtain ⟨h1, h2⟩ := first_G ⟨#[42, 122]⟩ 97 (by omega) (by decide +kernel) (by decide +kernel)
  have hl : (allG[97]'(by rw [allG_len]; omega)).lv = 4 := by decide +kernel
  have := find_c 122 0 ⟨#[42]⟩ ⟨#[42, 122]⟩ 3 w gid2_c 97 (by omega) allG allG_len rows_c h1 h2
  rw [hl] at this
  exact this
theorem count_c (w : World) : Calls Try.prog 8 #[] w (Gives w (.int .i64 112)) := by
  go_enter Try.func8, Try.ntmps8
  go_wp2
  go_returns
  exact ⟨rfl, by (repeat' (first | (with_reducible exact Below.refl _ _) | (with_reducible refine Below.alloc ?_ ?_ _) | (with_reducible refine below_ext ?_ ?_ _) | (with_reducible refine Below.drew ?_) | (with_reducible refine below_drewN ?_ _) | (with_reducible refine Below.setCell ?_ ?_ _) | go_size | (simp only [go_sem]; omega) | (simp [go_sem]; done) | (simp [go_sem]; omega)))⟩
def decsetN : ByteArray := ⟨#[68, 69, 67, 83, 69, 84]⟩
theorem cl71 : (clG 71).nm = decsetN := by decide +kernel
set_option maxRecDepth 100000 in
set_option maxHeartbeats 8000000 in
theorem awake_23 (w : World) : Calls Try.prog 4 #[] w (Gives w (.bool true)) := by
  have F1 := Lib.hid (fun w' => find1_c w')
  have F2 := Lib.hid (fun w' => find2_c w')
  have CN := Lib.hid (fun w' => count_c w')
  have NM := Lib.hid (fun w' => name_c 71 w' (by omega))
  rw [cl71] at NM
  unfold decsetN at NM
  go_enter Try.func4, Try.ntmps4
  go_wp2_with (first
    | (go_at_call 7; ((with_reducible refine (F1.out _).mono ?_); rintro _ _ hgets; obtain ⟨rfl, x1, rfl⟩ := hgets.get; clear hgets))
    | (go_at_call 7; ((with_reducible refine (F2.out _).mono ?_); rintro _ _ hgets; obtain ⟨rfl, x2, rfl⟩ := hgets.get; clear hgets))
    | (go_at_call 8; ((with_reducible refine (CN.out _).mono ?_); rintro _ _ hgets; obtain ⟨rfl, x3, rfl⟩ := hgets.get; clear hgets))
    | (go_at_call 5; ((with_reducible refine (NM.out _).mono ?_); rintro _ _ hgets; obtain ⟨rfl, x4, rfl⟩ := hgets.get; clear hgets)))
  go_returns
  exact ⟨rfl, by (repeat' (first | (with_reducible exact Below.refl _ _) | (with_reducible refine Below.alloc ?_ ?_ _) | (with_reducible refine below_ext ?_ ?_ _) | (with_reducible refine Below.drew ?_) | (with_reducible refine below_drewN ?_ _) | (with_reducible refine Below.setCell ?_ ?_ _) | go_size | (simp only [go_sem]; omega) | (simp [go_sem]; done) | (simp [go_sem]; omega)))⟩
/-- all clauses, the last one with them -/
def tabG : List GRow := allG ++ [scsG]
theorem tab_len : tabG.length = 112 := by decide +kernel
theorem tab_ok : tabG.all (fun r => !(r.nm.data.toList == []) && decide (0 < r.lv) && decide (r.lv ≤ 5)) = true := by decide +kernel
theorem tab_nodup : (tabG.map fun r => r.nm.data.toList.map UInt8.toNat).Nodup := by decide +kernel
theorem cl_there {a : Int} (h1 : 1 ≤ a) (h2 : a ≤ 112) : ∃ (i : Nat) (h : i < tabG.length), a = (i : Int) + 1 ∧ clG a = tabG[i] := by
  refine ⟨(a - 1).toNat, by rw [tab_len]; omega, by omega, ?_⟩
  unfold clG
  by_cases e : a = 112
  · subst e
    rw [if_pos rfl]
    have : tabG[111]? = some scsG := by
      unfold tabG
      rw [List.getElem?_append_right (by rw [allG_len]; omega), allG_len]
      rfl
    obtain ⟨h, e⟩ := List.getElem?_eq_some_iff.1 this
    exact e.symm
  · rw [if_neg e, if_pos (by omega)]
    unfold tabG
    rw [List.getD_eq_getElem?_getD, List.getElem?_eq_getElem (by rw [allG_len]; omega), List.getElem_append_left (by rw [allG_len]; omega)]
    rfl
theorem cl_not {a : Int} (h : ¬ (1 ≤ a ∧ a ≤ 112)) : clG a = noG := by
  unfold clG
  rw [if_neg (by omega), if_neg (by omega)]
theorem cl_props {a : Int} (h1 : 1 ≤ a) (h2 : a ≤ 112) : ((clG a).nm.toList == (⟨#[]⟩ : ByteArray).toList) = false ∧ 0 < (clG a).lv ∧ (clG a).lv ≤ 5 := by
  obtain ⟨i, hi, -, e⟩ := cl_there h1 h2
  have := List.all_eq_true.1 tab_ok _ (List.getElem_mem hi)
  rw [← e] at this
  simp only [Bool.and_eq_true, decide_eq_true_eq] at this
  refine ⟨?_, this.1.2, this.2⟩
  rw [ByteArray.toList_eq, ByteArray.toList_eq]
  simpa using this.1.1
theorem cl_differ {a b : Int} (h1 : 1 ≤ a) (h2 : a ≤ 112) (hab : a ≠ b) : ((clG a).nm.toList == (clG b).nm.toList) = false := by
  by_cases hb : 1 ≤ b ∧ b ≤ 112
  · obtain ⟨i, hi, ea, e⟩ := cl_there h1 h2
    obtain ⟨j, hj, eb, e'⟩ := cl_there hb.1 hb.2
    have hne : i ≠ j := by omega
    rw [e, e', ByteArray.toList_eq, ByteArray.toList_eq]
    refine Bool.eq_false_iff.2 fun hc => hne ?_
    have hc : tabG[i].nm.data.toList = tabG[j].nm.data.toList := by simpa using hc
    have li : i < (tabG.map fun r => r.nm.data.toList.map UInt8.toNat).length := by simpa using hi
    have lj : j < (tabG.map fun r => r.nm.data.toList.map UInt8.toNat).length := by simpa using hj
    exact (List.getElem_inj (xs := tabG.map fun r => r.nm.data.toList.map UInt8.toNat) (h₀ := li) (h₁ := lj) tab_nodup).1 (by simp [hc])
  · rw [cl_not hb]
    exact (cl_props h1 h2).1
end Go.Proofs.Ytngagongjejjhaa
