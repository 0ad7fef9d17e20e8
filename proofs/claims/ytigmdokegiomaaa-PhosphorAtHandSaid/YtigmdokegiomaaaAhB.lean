/- The sets' table: of, Id, Find; number; the state's Left, Right, Once.  -/
import Derived.Test.YtigmdokegiomaaaAhA
import Derived.Lib.MinMax
namespace Go.Proofs.Ytigmdokegiomaaa
open Go.RowKit
set_option linter.unusedVariables false
set_option linter.unusedSimpArgs false

def rowK (x : Nat) : CRow := rowsK.getD x zeroK
theorem row_at (x : Nat) (hx : x < 24) (w : World) : (Instr.index 52 rowsV (.int .i64 x)).run Try.prog w = .ok (rowK x).v w := by
  have : x = 0 ∨ x = 1 ∨ x = 2 ∨ x = 3 ∨ x = 4 ∨ x = 5 ∨ x = 6 ∨ x = 7 ∨ x = 8 ∨ x = 9 ∨ x = 10 ∨ x = 11 ∨ x = 12 ∨ x = 13 ∨ x = 14 ∨ x = 15 ∨ x = 16 ∨ x = 17 ∨ x = 18 ∨ x = 19 ∨ x = 20 ∨ x = 21 ∨ x = 22 ∨ x = 23 := by omega
  rcases this with rfl | rfl | rfl | rfl | rfl | rfl | rfl | rfl | rfl | rfl | rfl | rfl | rfl | rfl | rfl | rfl | rfl | rfl | rfl | rfl | rfl | rfl | rfl | rfl
  all_goals (show _ = _; kernel_rfl)
theorem row_f (a b c d : Value) (w : World) : (Instr.field 40 (.agg #[a, b, c, d]) 1).run Try.prog w = .ok b w ∧ (Instr.field 40 (.agg #[a, b, c, d]) 2).run Try.prog w = .ok c w := ⟨by kernel_rfl, by kernel_rfl⟩
theorem row_f1 (a b c d : Value) (w : World) : (Instr.field 40 (.agg #[a, b, c, d]) 1).run Try.prog w = .ok b w := (row_f a b c d w).1
theorem row_f2 (a b c d : Value) (w : World) : (Instr.field 40 (.agg #[a, b, c, d]) 2).run Try.prog w = .ok c w := (row_f a b c d w).2
attribute [local go_sem] row_f1 row_f2
theorem wrap_a {n : Int} (h1 : -9223372036854775808 ≤ n) (h2 : n ≤ 9223372036854775807) : IntKind.i64.wrap n = n := by
  have H : IntKind.i64.wrap n = if n % 18446744073709551616 ≥ 9223372036854775808 then n % 18446744073709551616 - 18446744073709551616 else n % 18446744073709551616 := by
    simp [IntKind.wrap, IntKind.bits, IntKind.signed]
  rw [H]
  split <;> omega
theorem wpList_index {P : Program} {ops : Array Oper} {rest : List Oper} {d : Option Nat} {ty : TypeId} {pos : String} {after : Array Edge} {t : TypeId} {x y : Operand} {a : Act} {w : World} {Q : Exit → Act → World → Prop} (v : Value)
    (h : (Instr.index t (a.eval x) (a.eval y)).run P w = .ok v w) (k : wpList P ops Q rest (a.put d v) w) : wpList P ops Q ({ dst := d, op := .index t x y, type := ty, pos := pos, after := after, guard := none } :: rest) a w := by
  refine wpList_plain rfl fun K hK => ?_
  unfold Oper.wp execOp
  simp only [Sem.run_bind, h, Result.andThen_ok, Sem.run_pure]
  exact hK _ _ k
theorem is_c (s : Int) (h1 : 1 ≤ s) (h2 : s ≤ 17) (w : World) : Calls Try.prog 27 #[.int .i64 s] w (Gives w (.bool true)) := by
  have d1 : decide (1 ≤ s) = true := decide_eq_true h1
  have d2 : decide (s ≤ 17) = true := decide_eq_true h2
  go_enter Try.func27, Try.ntmps27
  go_wp2
  go_returns
  exact ⟨rfl, by (repeat' (first | (with_reducible exact Below.refl _ _) | (with_reducible refine Below.alloc ?_ ?_ _) | (with_reducible refine below_ext ?_ ?_ _) | (with_reducible refine Below.drew ?_) | (with_reducible refine below_drewN ?_ _) | (with_reducible refine Below.setCell ?_ ?_ _) | go_size | (simp only [go_sem]; omega) | (simp [go_sem]; done) | (simp [go_sem]; omega)))⟩
set_option maxRecDepth 100000 in
set_option maxHeartbeats 4000000 in
theorem of_c (k : Nat) (hk : k < 17) (w : World) : Calls Try.prog 14 #[.int .i64 ((k : Int) + 1)] w (Gives w (rowK k).v) := by
  have IS := Lib.hid (fun w' => is_c ((k : Int) + 1) (by omega) (by omega) w')
  have RW := Lib.hid (fun w' => rows_c w')
  have R := fun w' => row_at k (by omega) w'
  have hw : IntKind.i64.wrap ((k : Int) + 1 - 1) = k := by rw [wrap_a (by omega) (by omega)]; omega
  generalize rowK k = r at R ⊢
  obtain ⟨ss, ii, ww, nn⟩ := r
  unfold CRow.v at R ⊢
  simp only at R ⊢
  go_enter Try.func14, Try.ntmps14
  go_upto_region 3 with (go_at_call 27; ((with_reducible refine (IS.out _).mono ?_); rintro _ _ hgets; obtain ⟨rfl, x1, rfl⟩ := hgets.get; clear hgets))
  go_wp2_with (go_at_call 28; ((with_reducible refine (RW.out _).mono ?_); rintro _ _ hgets; obtain ⟨rfl, x2, rfl⟩ := hgets.get; clear hgets))
  simp [bodyPost, go_sem]
  exact ⟨_, by simp [results, Try.f14, go_sem] <;> rfl, rfl, by (repeat' (first | (with_reducible exact Below.refl _ _) | (with_reducible refine Below.alloc ?_ ?_ _) | (with_reducible refine below_ext ?_ ?_ _) | (with_reducible refine Below.drew ?_) | (with_reducible refine below_drewN ?_ _) | (with_reducible refine Below.setCell ?_ ?_ _) | go_size | (simp only [go_sem]; omega) | (simp [go_sem]; done) | (simp [go_sem]; omega)))⟩
def idB (s : Int) : ByteArray := (rowK (s - 1).toNat).id
def wdB (s : Int) : Bool := (rowK (s - 1).toNat).wd
set_option maxRecDepth 100000 in
set_option maxHeartbeats 4000000 in
theorem id_c (s : Int) (h1 : 1 ≤ s) (h2 : s ≤ 17) (w : World) : Calls Try.prog 4 #[.int .i64 s] w (Gives w (.tuple #[.string (idB s), .bool (wdB s)])) := by
  obtain ⟨k, rfl⟩ : ∃ k : Nat, s = (k : Int) + 1 := ⟨(s - 1).toNat, by omega⟩
  have e : ((k : Int) + 1 - 1).toNat = k := by omega
  unfold idB wdB
  rw [e]
  have OF := Lib.hid (fun w' => of_c k (by omega) w')
  unfold CRow.v at OF
  generalize rowK k = r at OF
  clear h1 h2 e
  go_enter Try.func4, Try.ntmps4
  go_wp2_with (go_at_call 14; ((with_reducible refine (OF.out _).mono ?_); rintro _ _ hgets; obtain ⟨rfl, x1, rfl⟩ := hgets.get; clear hgets))
  go_returns
  exact ⟨rfl, by (repeat' (first | (with_reducible exact Below.refl _ _) | (with_reducible refine Below.alloc ?_ ?_ _) | (with_reducible refine below_ext ?_ ?_ _) | (with_reducible refine Below.drew ?_) | (with_reducible refine below_drewN ?_ _) | (with_reducible refine Below.setCell ?_ ?_ _) | go_size | (simp only [go_sem]; omega) | (simp [go_sem]; done) | (simp [go_sem]; omega)))⟩
def hitK (wd : Bool) (id : ByteArray) (x : Nat) : Bool := ((rowK x).id.toList == id.toList) && ((rowK x).wd == wd)
set_option maxRecDepth 100000 in
set_option maxHeartbeats 8000000 in
theorem cfind_c (wd : Bool) (id : ByteArray) (n : Nat) (hn : n < 24) (h1 : hitK wd id n = true) (h2 : ∀ j, j < n → hitK wd id j = false) (w : World) :
    Calls Try.prog 15 #[.bool wd, .string id] w (Gives w (.tuple #[.int .i64 (rowK n).s, .bool true])) := by
  have RW := Lib.hid (fun w' => rows_c w')
  replace h1 := Lib.hid h1
  replace h2 := Lib.hid h2
  obtain ⟨z, hz⟩ : ∃ z, z = rowK n := ⟨_, rfl⟩
  rw [← hz]
  replace hz := Lib.hid hz
  go_enter Try.func15, Try.ntmps15
  go_wp2_with (go_at_call 28; ((with_reducible refine (RW.out _).mono ?_); rintro _ _ hgets; obtain ⟨rfl, x1, rfl⟩ := hgets.get; clear hgets))
  go_loopw [9] (fun iv wr => ∃ j : Nat, j ≤ n ∧ iv = .int .i64 j ∧ Hid (Below w.heap.size w wr)) (fun iv _ => 24 - (intOf iv).toNat)
  case atStart => exact ⟨0, by omega, rfl, Lib.hid (by (repeat' (first | (with_reducible exact Below.refl _ _) | (with_reducible refine Below.alloc ?_ ?_ _) | (with_reducible refine below_ext ?_ ?_ _) | (with_reducible refine Below.drew ?_) | (with_reducible refine below_drewN ?_ _) | (with_reducible refine Below.setCell ?_ ?_ _) | go_size | (simp only [go_sem]; omega) | (simp [go_sem]; done) | (simp [go_sem]; omega))))⟩
  case round =>
    obtain ⟨j, hj, rfl, hbr⟩ := hrel
    have hj24 : j < 24 := by omega
    have R := fun w' => row_at j hj24 w'
    have d0 : decide ((j : Int) < 24) = true := decide_eq_true (by omega)
    have hb2 := hbr.out.size
    by_cases hjn : j = n
    · subst hjn
      have hh := h1.out
      unfold hitK at hh
      rw [← hz.out] at hh R
      simp only [Bool.and_eq_true] at hh
      obtain ⟨e1, e2⟩ := hh
      obtain ⟨ss, ii, ww, nn⟩ := z
      unfold CRow.v at R
      simp only at e1 e2 R
      go_wp2
      go_returns
      exact ⟨rfl, hbr.out.trans (Below.mono (B := wr.heap.size) (by (repeat' (first | (with_reducible exact Below.refl _ _) | (with_reducible refine Below.alloc ?_ ?_ _) | (with_reducible refine below_ext ?_ ?_ _) | (with_reducible refine Below.drew ?_) | (with_reducible refine below_drewN ?_ _) | (with_reducible refine Below.setCell ?_ ?_ _) | go_size | (simp only [go_sem]; omega) | (simp [go_sem]; done) | (simp [go_sem]; omega)))) hbr.out.size)⟩
    · have hh := h2.out j (by omega)
      unfold hitK at hh
      generalize rowK j = r at hh R
      obtain ⟨ss, ii, ww, nn⟩ := r
      unfold CRow.v at R
      simp only at hh R
      rcases Bool.eq_false_or_eq_true (ii.toList == id.toList) with e1 | e1
      · have e2 : (ww == wd) = false := by rw [e1] at hh; simpa using hh
        clear hh
        go_wp2
        exact ⟨⟨j + 1, by omega, by go_num, Lib.hid (hbr.out.trans (Below.mono (B := wr.heap.size) (by (repeat' (first | (with_reducible exact Below.refl _ _) | (with_reducible refine Below.alloc ?_ ?_ _) | (with_reducible refine below_ext ?_ ?_ _) | (with_reducible refine Below.drew ?_) | (with_reducible refine below_drewN ?_ _) | (with_reducible refine Below.setCell ?_ ?_ _) | go_size | (simp only [go_sem]; omega) | (simp [go_sem]; done) | (simp [go_sem]; omega)))) hbr.out.size))⟩, by simp [intOf]; omega⟩
      · clear hh
        go_wp2
        exact ⟨⟨j + 1, by omega, by go_num, Lib.hid (hbr.out.trans (Below.mono (B := wr.heap.size) (by (repeat' (first | (with_reducible exact Below.refl _ _) | (with_reducible refine Below.alloc ?_ ?_ _) | (with_reducible refine below_ext ?_ ?_ _) | (with_reducible refine Below.drew ?_) | (with_reducible refine below_drewN ?_ _) | (with_reducible refine Below.setCell ?_ ?_ _) | go_size | (simp only [go_sem]; omega) | (simp [go_sem]; done) | (simp [go_sem]; omega)))) hbr.out.size))⟩, by simp [intOf]; omega⟩
def hitD (wd : Bool) (id : List UInt8) (x : Nat) : Bool := ((rowK x).id.data.toList == id) && ((rowK x).wd == wd)
theorem hit_eq (wd : Bool) (id : ByteArray) (x : Nat) : hitK wd id x = hitD wd id.data.toList x := by
  unfold hitK hitD
  rw [ByteArray.toList_eq, ByteArray.toList_eq]
theorem find_all : ((List.range 17).all fun k => hitD (rowK k).wd (rowK k).id.data.toList k && ((List.range k).all fun j => !hitD (rowK k).wd (rowK k).id.data.toList j) && ((rowK k).s == (k : Int) + 1)) = true := by decide +kernel
theorem ofind_c (s : Int) (h1 : 1 ≤ s) (h2 : s ≤ 17) (w : World) : Calls Try.prog 15 #[.bool (wdB s), .string (idB s)] w (Gives w (.tuple #[.int .i64 s, .bool true])) := by
  obtain ⟨k, rfl⟩ : ∃ k : Nat, s = (k : Int) + 1 := ⟨(s - 1).toNat, by omega⟩
  have e : ((k : Int) + 1 - 1).toNat = k := by omega
  have h := List.all_eq_true.1 find_all k (List.mem_range.2 (by omega))
  simp only [Bool.and_eq_true, beq_iff_eq, List.all_eq_true, List.mem_range, Bool.not_eq_true'] at h
  unfold idB wdB
  rw [e]
  have := cfind_c (rowK k).wd (rowK k).id k (by omega) (by rw [hit_eq]; exact h.1.1) (fun j hj => by rw [hit_eq]; exact h.1.2 j hj) w
  rwa [h.2] at this
set_option maxHeartbeats 4000000 in
theorem clip_a (n l m : Int) (w : World) : Calls Try.prog 29 #[.int .i64 n, .int .i64 l, .int .i64 m] w (Gives w (.int .i64 (max l (min n m)))) := by
  go_enter Try.func29, Try.ntmps29
  go_wp2
  go_returns
  exact ⟨rfl, by (repeat' (first | (with_reducible exact Below.refl _ _) | (with_reducible refine Below.alloc ?_ ?_ _) | (with_reducible refine below_ext ?_ ?_ _) | (with_reducible refine Below.drew ?_) | (with_reducible refine below_drewN ?_ _) | (with_reducible refine Below.setCell ?_ ?_ _) | go_size | (simp only [go_sem]; omega) | (simp [go_sem]; done) | (simp [go_sem]; omega)))⟩
set_option maxHeartbeats 4000000 in
theorem number_c (g l : Int) (w : World) : Calls Try.prog 16 #[.int .i64 g, .int .i64 l] w (Gives w (.bool (g == max l (min g 3)))) := by
  have CL := Lib.hid (fun w' => clip_a g l 3 w')
  generalize max l (min g 3) = m at CL ⊢
  go_enter Try.func16, Try.ntmps16
  go_wp2_with (go_at_call 29; ((with_reducible refine (CL.out _).mono ?_); rintro _ _ hgets; obtain ⟨rfl, x1, rfl⟩ := hgets.get; clear hgets))
  go_returns
  exact ⟨rfl, by (repeat' (first | (with_reducible exact Below.refl _ _) | (with_reducible refine Below.alloc ?_ ?_ _) | (with_reducible refine below_ext ?_ ?_ _) | (with_reducible refine Below.drew ?_) | (with_reducible refine below_drewN ?_ _) | (with_reducible refine Below.setCell ?_ ?_ _) | go_size | (simp only [go_sem]; omega) | (simp [go_sem]; done) | (simp [go_sem]; omega)))⟩
def stV (a b c d gl gr sg : Int) : Value := .agg #[.int .i64 a, .int .i64 b, .int .i64 c, .int .i64 d, .int .i64 gl, .int .i64 gr, .int .i64 sg]
section
variable (a b c d gl gr sg : Int)
set_option maxHeartbeats 4000000 in
theorem new_a (w : World) : Calls Try.prog 5 #[] w (Gives w (stV 1 1 4 4 0 2 0)) := by
  unfold stV
  go_enter Try.func5, Try.ntmps5
  go_wp2
  simp [bodyPost, go_sem]
  exact ⟨_, by simp [results, Try.f5, go_sem] <;> rfl, rfl, by (repeat' (first | (with_reducible exact Below.refl _ _) | (with_reducible refine Below.alloc ?_ ?_ _) | (with_reducible refine below_ext ?_ ?_ _) | (with_reducible refine Below.drew ?_) | (with_reducible refine below_drewN ?_ _) | (with_reducible refine Below.setCell ?_ ?_ _) | go_size | (simp only [go_sem]; omega) | (simp [go_sem]; done) | (simp [go_sem]; omega)))⟩
set_option maxHeartbeats 8000000 in
theorem left_a (g : Int) (h1 : 0 ≤ g) (h2 : g ≤ 3) (w : World) : Calls Try.prog 7 #[stV a b c d gl gr sg, .int .i64 g] w (Gives w (stV a b c d g gr sg)) := by
  have NU := Lib.hid (fun w' => number_c g 0 w')
  rw [show (g == max 0 (min g 3)) = true by simp; omega] at NU
  unfold stV
  go_enter Try.func7, Try.ntmps7
  go_wp2_with (go_at_call 16; ((with_reducible refine (NU.out _).mono ?_); rintro _ _ hgets; obtain ⟨rfl, x1, rfl⟩ := hgets.get; clear hgets))
  simp [bodyPost, go_sem]
  exact ⟨_, by simp [results, Try.f7, go_sem] <;> rfl, rfl, by (repeat' (first | (with_reducible exact Below.refl _ _) | (with_reducible refine Below.alloc ?_ ?_ _) | (with_reducible refine below_ext ?_ ?_ _) | (with_reducible refine Below.drew ?_) | (with_reducible refine below_drewN ?_ _) | (with_reducible refine Below.setCell ?_ ?_ _) | go_size | (simp only [go_sem]; omega) | (simp [go_sem]; done) | (simp [go_sem]; omega)))⟩
set_option maxHeartbeats 8000000 in
theorem right_a (g : Int) (h1 : 1 ≤ g) (h2 : g ≤ 3) (w : World) : Calls Try.prog 8 #[stV a b c d gl gr sg, .int .i64 g] w (Gives w (stV a b c d gl g sg)) := by
  have NU := Lib.hid (fun w' => number_c g 1 w')
  rw [show (g == max 1 (min g 3)) = true by simp; omega] at NU
  unfold stV
  go_enter Try.func8, Try.ntmps8
  go_wp2_with (go_at_call 16; ((with_reducible refine (NU.out _).mono ?_); rintro _ _ hgets; obtain ⟨rfl, x1, rfl⟩ := hgets.get; clear hgets))
  simp [bodyPost, go_sem]
  exact ⟨_, by simp [results, Try.f8, go_sem] <;> rfl, rfl, by (repeat' (first | (with_reducible exact Below.refl _ _) | (with_reducible refine Below.alloc ?_ ?_ _) | (with_reducible refine below_ext ?_ ?_ _) | (with_reducible refine Below.drew ?_) | (with_reducible refine below_drewN ?_ _) | (with_reducible refine Below.setCell ?_ ?_ _) | go_size | (simp only [go_sem]; omega) | (simp [go_sem]; done) | (simp [go_sem]; omega)))⟩
set_option maxHeartbeats 8000000 in
theorem once_a (g : Int) (h1 : 2 ≤ g) (h2 : g ≤ 3) (w : World) : Calls Try.prog 11 #[stV a b c d gl gr sg, .int .i64 g] w (Gives w (stV a b c d gl gr g)) := by
  have NU := Lib.hid (fun w' => number_c g 2 w')
  rw [show (g == max 2 (min g 3)) = true by simp; omega] at NU
  unfold stV
  go_enter Try.func11, Try.ntmps11
  go_wp2_with (go_at_call 16; ((with_reducible refine (NU.out _).mono ?_); rintro _ _ hgets; obtain ⟨rfl, x1, rfl⟩ := hgets.get; clear hgets))
  simp [bodyPost, go_sem]
  exact ⟨_, by simp [results, Try.f11, go_sem] <;> rfl, rfl, by (repeat' (first | (with_reducible exact Below.refl _ _) | (with_reducible refine Below.alloc ?_ ?_ _) | (with_reducible refine below_ext ?_ ?_ _) | (with_reducible refine Below.drew ?_) | (with_reducible refine below_drewN ?_ _) | (with_reducible refine Below.setCell ?_ ?_ _) | go_size | (simp only [go_sem]; omega) | (simp [go_sem]; done) | (simp [go_sem]; omega)))⟩
set_option maxHeartbeats 4000000 in
theorem mleft_a (h1 : 0 ≤ gl) (h2 : gl ≤ 3) (w : World) : Calls Try.prog 17 #[stV a b c d gl gr sg] w (Gives w (.int .i64 gl)) := by
  have NU := Lib.hid (fun w' => number_c gl 0 w')
  rw [show (gl == max 0 (min gl 3)) = true by simp; omega] at NU
  unfold stV
  go_enter Try.func17, Try.ntmps17
  go_wp2_with (go_at_call 16; ((with_reducible refine (NU.out _).mono ?_); rintro _ _ hgets; obtain ⟨rfl, x1, rfl⟩ := hgets.get; clear hgets))
  go_returns
  exact ⟨rfl, by (repeat' (first | (with_reducible exact Below.refl _ _) | (with_reducible refine Below.alloc ?_ ?_ _) | (with_reducible refine below_ext ?_ ?_ _) | (with_reducible refine Below.drew ?_) | (with_reducible refine below_drewN ?_ _) | (with_reducible refine Below.setCell ?_ ?_ _) | go_size | (simp only [go_sem]; omega) | (simp [go_sem]; done) | (simp [go_sem]; omega)))⟩
set_option maxHeartbeats 4000000 in
theorem mright_a (h1 : 0 ≤ gr) (h2 : gr ≤ 3) (w : World) : Calls Try.prog 18 #[stV a b c d gl gr sg] w (Gives w (.int .i64 gr)) := by
  have NU := Lib.hid (fun w' => number_c gr 0 w')
  rw [show (gr == max 0 (min gr 3)) = true by simp; omega] at NU
  unfold stV
  go_enter Try.func18, Try.ntmps18
  go_wp2_with (go_at_call 16; ((with_reducible refine (NU.out _).mono ?_); rintro _ _ hgets; obtain ⟨rfl, x1, rfl⟩ := hgets.get; clear hgets))
  go_returns
  exact ⟨rfl, by (repeat' (first | (with_reducible exact Below.refl _ _) | (with_reducible refine Below.alloc ?_ ?_ _) | (with_reducible refine below_ext ?_ ?_ _) | (with_reducible refine Below.drew ?_) | (with_reducible refine below_drewN ?_ _) | (with_reducible refine Below.setCell ?_ ?_ _) | go_size | (simp only [go_sem]; omega) | (simp [go_sem]; done) | (simp [go_sem]; omega)))⟩
end
end Go.Proofs.Ytigmdokegiomaaa
