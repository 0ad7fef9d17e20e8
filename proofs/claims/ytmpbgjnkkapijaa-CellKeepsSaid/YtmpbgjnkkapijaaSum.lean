/- Checksums of rows of cells. -/
import Derived.Test.YtmpbgjnkkapijaaCell
namespace Go.Proofs.Ytmpbgjnkkapijaa
open Go.RowKit
set_option linter.unusedVariables false
set_option linter.unusedSimpArgs false

def sumW (cs : List Cl) : Int := (cs.map Cl.weight).sum
theorem sumW_take (cs : List Cl) (k : Nat) (h : k < cs.length) : sumW (cs.take (k + 1)) = sumW (cs.take k) + Cl.weight cs[k] := by
  unfold sumW
  rw [List.take_succ_eq_append_getElem h, List.map_append, List.sum_append]
  simp
/-- a row, as it lies among rows -/
structure Rw where
  a : Option Addr
  c : Nat
  cs : List Cl
def encR (r : Rw) : List Value := [.slice r.a r.cs.length r.c]
def sumR (rows : List Rw) : Int := (rows.map fun r => sumW r.cs).sum
theorem sumR_take (rows : List Rw) (k : Nat) (h : k < rows.length) : sumR (rows.take (k + 1)) = sumR (rows.take k) + sumW rows[k].cs := by
  unfold sumR
  rw [List.take_succ_eq_append_getElem h, List.map_append, List.sum_append]
  simp
theorem Rd.cell3 {w : World} {a : Option Addr} {cs : List Cl} (h : Rd encC 3 w a cs) {k : Nat} (hk : k < cs.length) :
    ∃ b off, a = some ⟨b, off, none⟩ ∧ b < w.heap.size ∧ w.cell? ⟨b, off + k * 3, none⟩ = some (.int .i32 cs[k].g) ∧ w.cell? ⟨b, off + k * 3 + 1, none⟩ = some (.int .u8 cs[k].r) ∧ w.cell? ⟨b, off + k * 3 + 2, none⟩ = some (.bool cs[k].k) := by
  obtain ⟨b, off, e, hlt, hc⟩ := h (by omega)
  exact ⟨b, off, e, hlt, hc k hk 0 _ rfl, hc k hk 1 _ rfl, hc k hk 2 _ rfl⟩
theorem Rd.cell1 {α : Type} {enc : α → List Value} {w : World} {a : Option Addr} {xs : List α} (h : Rd enc 1 w a xs) {k : Nat} (hk : k < xs.length) {v : Value} (hv : enc xs[k] = [v]) :
    ∃ b off, a = some ⟨b, off, none⟩ ∧ b < w.heap.size ∧ w.cell? ⟨b, off + k, none⟩ = some v := by
  obtain ⟨b, off, e, hlt, hc⟩ := h (by omega)
  exact ⟨b, off, e, hlt, by simpa using hc k hk 0 v (by rw [hv]; rfl)⟩

/-- rows that can be read -/
def RowsOk (w : World) (rows : List Rw) : Prop := ∀ r ∈ rows, Rd encC 3 w r.a r.cs ∧ r.cs.length ≤ 9223372036854775807 ∧ ∀ c ∈ r.cs, c.ok

set_option maxRecDepth 100000 in
set_option maxHeartbeats 4000000 in
theorem sum_c (A : Option Addr) (C : Nat) (rows : List Rw) (w : World) (hA : Rd encR 1 w A rows) (hm : rows.length ≤ 9223372036854775807) (hok : RowsOk w rows) :
    Calls Try.prog 18 #[.slice A rows.length C] w (Gives w (.int .i64 (sumR rows % 65536))) := by
  have OK := Lib.hid hok
  have HA := Lib.hid hA
  clear hok hA
  go_enter Try.func18, Try.ntmps18
  go_wp2
  go_loopw [3, 10] (fun v i wr => ∃ k : Nat, k ≤ rows.length ∧ i = .int .i64 k ∧ v = .int .u16 (sumR (rows.take k) % 65536) ∧ Below w.heap.size w wr) (fun _ i _ => rows.length - (intOf i).toNat)
  case atStart => exact ⟨0, by omega, rfl, by simp [sumR], Below.refl _ _⟩
  case round =>
    obtain ⟨k, hk, rfl, rfl, hB⟩ := hrel
    obtain ⟨x, rfl⟩ := ext_of hB
    clear hB
    by_cases hlt : k < rows.length
    · obtain ⟨b1, o1, rfl, hb1, hc1⟩ := HA.out.cell1 hlt rfl
      have HF := Lib.hid (sumR_take rows k hlt)
      obtain ⟨r1, r2, r3⟩ := OK.out rows[k] (List.getElem_mem hlt)
      generalize rows[k] = row at hc1 HF r1 r2 r3
      obtain ⟨ra, rc, cs⟩ := row
      have R1 := Lib.hid r1
      have R3 := Lib.hid r3
      clear r1 r3
      simp only at hc1 HF r2 R1 R3
      generalize sumR (rows.take k) = S at HF
      go_wp2
      go_loopw [3, 16] (fun v i wr => ∃ j : Nat, j ≤ cs.length ∧ i = .int .i64 j ∧ v = .int .u16 ((S + sumW (cs.take j)) % 65536) ∧ Below w.heap.size w wr) (fun _ i _ => cs.length - (intOf i).toNat)
      case atStart => exact ⟨0, by omega, rfl, by simp [sumW], by (repeat' (first | (with_reducible exact Below.refl _ _) | (with_reducible refine Below.alloc ?_ ?_ _) | (with_reducible refine below_ext ?_ ?_ _) | (with_reducible refine Below.drew ?_) | (with_reducible refine below_drewN ?_ _) | (with_reducible refine Below.setCell ?_ ?_ _) | go_size | (simp only [go_sem]; omega) | (simp [go_sem]; done) | (simp [go_sem]; omega)))⟩
      case round =>
        obtain ⟨j, hj, rfl, rfl, hB⟩ := hrel
        obtain ⟨x', rfl⟩ := ext_of hB
        clear hB
        by_cases hlt2 : j < cs.length
        · obtain ⟨b2, o2, rfl, hb2, d0, d1, d2⟩ := R1.out.cell3 hlt2
          have HG := Lib.hid (sumW_take cs j hlt2)
          obtain ⟨g1, g2⟩ := R3.out cs[j] (List.getElem_mem hlt2)
          have CW := Lib.hid (fun w' => cweight_c cs[j].g cs[j].r cs[j].k g1 g2 w')
          generalize cs[j] = cc at d0 d1 d2 HG CW
          clear g1 g2
          generalize hcw : Cl.weight cc = ww at HG
          obtain ⟨g, r, kk⟩ := cc
          simp only at d0 d1 d2 CW
          rw [hcw] at CW
          clear hcw
          generalize sumW (cs.take j) = T at HG
          go_wp2_with (go_at_call 16; ((with_reducible refine (CW.out _).mono ?_); rintro _ _ hgets; obtain ⟨rfl, _, rfl⟩ := hgets.get; clear hgets))
          go_roundw
          case rel =>
            refine ⟨j + 1, by omega, by go_num, ?_, by (repeat' (first | (with_reducible exact Below.refl _ _) | (with_reducible refine Below.alloc ?_ ?_ _) | (with_reducible refine below_ext ?_ ?_ _) | (with_reducible refine Below.drew ?_) | (with_reducible refine below_drewN ?_ _) | (with_reducible refine Below.setCell ?_ ?_ _) | go_size | (simp only [go_sem]; omega) | (simp [go_sem]; done) | (simp [go_sem]; omega)))⟩
            rw [HG.out]
            congr 1
            simp only [IntKind.wrap_u16]
            omega
          case measure => simp [intOf]; omega
        · have HT := Lib.hid (show cs.take j = cs from List.take_of_length_le (by omega))
          go_wp2
          go_roundw
          case rel =>
            refine ⟨k + 1, by omega, by go_num, ?_, by (repeat' (first | (with_reducible exact Below.refl _ _) | (with_reducible refine Below.alloc ?_ ?_ _) | (with_reducible refine below_ext ?_ ?_ _) | (with_reducible refine Below.drew ?_) | (with_reducible refine below_drewN ?_ _) | (with_reducible refine Below.setCell ?_ ?_ _) | go_size | (simp only [go_sem]; omega) | (simp [go_sem]; done) | (simp [go_sem]; omega)))⟩
            rw [HF.out, HT.out]
          case measure => simp [intOf]; omega
    · have HT := Lib.hid (show rows.take k = rows from List.take_of_length_le (by omega))
      go_wp2
      go_returns
      refine ⟨ret_int ?_, by (repeat' (first | (with_reducible exact Below.refl _ _) | (with_reducible refine Below.alloc ?_ ?_ _) | (with_reducible refine below_ext ?_ ?_ _) | (with_reducible refine Below.drew ?_) | (with_reducible refine below_drewN ?_ _) | (with_reducible refine Below.setCell ?_ ?_ _) | go_size | (simp only [go_sem]; omega) | (simp [go_sem]; done) | (simp [go_sem]; omega)))⟩
      rw [HT.out]

theorem wsum_cl (c : Cl) : 0 ≤ Cl.weight c ∧ Cl.weight c ≤ 65535 + 248 + 4 := by
  have := wsum_bd (Fl.of c.r) 5
  have h : 0 ≤ bi c.k 4 ∧ bi c.k 4 ≤ 4 := by cases c.k <;> simp [bi]
  unfold Cl.weight Fl.weight
  omega

set_option maxHeartbeats 1000000 in
theorem sum_r (A : Option Addr) (C : Nat) (cs : List Cl) (w : World) (hA : Rd encC 3 w A cs) (hm : cs.length ≤ 9223372036854775807) (hok : ∀ c ∈ cs, c.ok) :
    Calls Try.prog 21 #[.slice A cs.length C] w (Gives w (.int .i64 (sumW cs % 65536))) := by
  have R3 := Lib.hid hok
  have R1 := Lib.hid hA
  clear hok hA
  go_enter Try.func21, Try.ntmps21
  go_wp2
  go_loopw [3, 4] (fun v i wr => ∃ j : Nat, j ≤ cs.length ∧ i = .int .i64 j ∧ v = .int .i64 (sumW (cs.take j) % 65536) ∧ Below w.heap.size w wr) (fun _ i _ => cs.length - (intOf i).toNat)
  case atStart => exact ⟨0, by omega, rfl, by simp [sumW], Below.refl _ _⟩
  case round =>
    obtain ⟨j, hj, rfl, rfl, hB⟩ := hrel
    obtain ⟨x', rfl⟩ := ext_of hB
    clear hB
    by_cases hlt2 : j < cs.length
    · obtain ⟨b2, o2, rfl, hb2, d0, d1, d2⟩ := R1.out.cell3 hlt2
      have HG := Lib.hid (sumW_take cs j hlt2)
      obtain ⟨g1, g2⟩ := R3.out cs[j] (List.getElem_mem hlt2)
      have CW := Lib.hid (fun w' => cweight_r cs[j].g cs[j].r cs[j].k g1 g2 w')
      generalize cs[j] = cc at d0 d1 d2 HG CW
      clear g1 g2
      obtain ⟨w0, w1⟩ := wsum_cl cc
      generalize hcw : Cl.weight cc = ww at HG w0 w1
      obtain ⟨g, r, kk⟩ := cc
      simp only at d0 d1 d2 CW
      rw [hcw] at CW
      clear hcw
      generalize sumW (cs.take j) = T at HG
      have t0 : 0 ≤ T % 65536 := by omega
      have t1 : T % 65536 < 65536 := by omega
      go_wp2_with (go_at_call 17; ((with_reducible refine (CW.out _).mono ?_); rintro _ _ hgets; obtain ⟨rfl, _, rfl⟩ := hgets.get; clear hgets))
      go_roundw
      case rel =>
        refine ⟨j + 1, by omega, by go_num, ?_, by (repeat' (first | (with_reducible exact Below.refl _ _) | (with_reducible refine Below.alloc ?_ ?_ _) | (with_reducible refine below_ext ?_ ?_ _) | (with_reducible refine Below.drew ?_) | (with_reducible refine below_drewN ?_ _) | (with_reducible refine Below.setCell ?_ ?_ _) | go_size | (simp only [go_sem]; omega) | (simp [go_sem]; done) | (simp [go_sem]; omega)))⟩
        rw [HG.out]
        congr 1
        omega
      case measure => simp [intOf]; omega
    · have HT := Lib.hid (show cs.take j = cs from List.take_of_length_le (by omega))
      go_wp2
      go_returns
      refine ⟨ret_int ?_, by (repeat' (first | (with_reducible exact Below.refl _ _) | (with_reducible refine Below.alloc ?_ ?_ _) | (with_reducible refine below_ext ?_ ?_ _) | (with_reducible refine Below.drew ?_) | (with_reducible refine below_drewN ?_ _) | (with_reducible refine Below.setCell ?_ ?_ _) | go_size | (simp only [go_sem]; omega) | (simp [go_sem]; done) | (simp [go_sem]; omega)))⟩
      rw [HT.out]

set_option maxHeartbeats 400000 in
theorem negated_c (A : Option Addr) (C : Nat) (rows : List Rw) (w : World) (hA : Rd encR 1 w A rows) (hm : rows.length ≤ 9223372036854775807) (hok : RowsOk w rows) :
    Calls Try.prog 22 #[.slice A rows.length C] w (Gives w (.int .i64 ((65536 - sumR rows % 65536) % 65536))) := by
  have S := Lib.hid (sum_c A C rows w hA hm hok)
  have t0 : 0 ≤ sumR rows % 65536 := by omega
  have t1 : sumR rows % 65536 < 65536 := by omega
  clear hA hok
  generalize sumR rows % 65536 = s at S t0 t1
  go_enter Try.func22, Try.ntmps22
  go_wp2_with (go_at_call 18; ((with_reducible refine (S.out).mono ?_); rintro _ _ hgets; obtain ⟨rfl, _, rfl⟩ := hgets.get; clear hgets))
  go_returns
  refine ⟨ret_int ?_, by (repeat' (first | (with_reducible exact Below.refl _ _) | (with_reducible refine Below.alloc ?_ ?_ _) | (with_reducible refine below_ext ?_ ?_ _) | (with_reducible refine Below.drew ?_) | (with_reducible refine below_drewN ?_ _) | (with_reducible refine Below.setCell ?_ ?_ _) | go_size | (simp only [go_sem]; omega) | (simp [go_sem]; done) | (simp [go_sem]; omega)))⟩
  rfl

set_option maxHeartbeats 400000 in
theorem cut_no (A : Option Addr) (C n : Nat) (N : Int) (w : World) (hn : (n : Int) ≤ N) (hm : n ≤ 9223372036854775807) :
    Calls Try.prog 19 #[.slice A n C, .int .i64 N] w (Same w (.slice A n C)) := by
  have hn' : ¬ N < n := by omega
  go_enter Try.func19, Try.ntmps19
  go_wp2
  go_returns
  exact ⟨rfl, rfl⟩
set_option maxHeartbeats 400000 in
theorem cut_yes (A : Option Addr) (C n N : Nat) (w : World) (hn : N < n) (hm : n ≤ 9223372036854775807) (hc : n ≤ C) (hcm : C ≤ 9223372036854775807) :
    Calls Try.prog 19 #[.slice A n C, .int .i64 N] w (Same w (.slice A N C)) := by
  have h1 : N ≤ C := by omega
  go_enter Try.func19, Try.ntmps19
  go_wp2
  go_returns
  exact ⟨rfl, rfl⟩
end Go.Proofs.Ytmpbgjnkkapijaa
