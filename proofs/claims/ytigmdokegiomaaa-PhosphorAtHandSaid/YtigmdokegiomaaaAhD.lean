/- The program's glyph.  -/
import Derived.Test.YtigmdokegiomaaaAhC
import Derived.Shelf.Strings.Search1
import Derived.Shelf.Small.Strs
namespace Go.Proofs.Ytigmdokegiomaaa
open Go.RowKit
set_option linter.unusedVariables false
set_option linter.unusedSimpArgs false

def ibx_ren : Go.Shelf.Ren := ⟨fun | 137 => 32 | 217 => 38 | 266 => 41 | n => n, fun | 9 => 9 | 5 => 5 | 3 => 3 | n => n, fun | n => n⟩
theorem ibx_lays : Go.Proofs.Lays.n137 Try.prog ibx_ren := {
  mixed := by kernel_rfl
  f137 := Try.func32.trans (congrArg some (by kernel_rfl))
  f217 := Try.func38.trans (congrArg some (by kernel_rfl))
  f266 := Try.func41.trans (congrArg some (by kernel_rfl))
  t3 := Try.underlying3
  a3 := Try.isAgg3
  z3 := Try.sizeOf3
  v3 := Try.zeroValue3
  t5 := Try.underlying5
  a5 := Try.isAgg5
  z5 := Try.sizeOf5
  v5 := Try.zeroValue5
  t9 := Try.underlying9
  a9 := Try.isAgg9
  z9 := Try.sizeOf9
  v9 := Try.zeroValue9 }
theorem ib_c (s : ByteArray) (c : Int) (v : Int) (h : Lib.indexByte s.data.toList c.toNat.toUInt8 = v) (w : World) :
    Calls Try.prog 32 #[.string s, .int .u8 c] w (Same w (.int .i64 v)) := by
  subst h
  refine (Any.strings_IndexByte ibx_lays s c w).mono ?_
  rintro e w' ⟨h1, h2⟩
  exact ⟨h1, h2.symm⟩
theorem place_all : ((List.range 128).all fun c => Lib.indexByte placesB.data.toList ((c : Int).toNat.toUInt8) == placeI (c : Int)) = true := by decide +kernel
theorem place_c (c : Int) (h1 : 0 ≤ c) (h2 : c < 128) (w : World) : Calls Try.prog 32 #[.string placesB, .int .u8 c] w (Same w (.int .i64 (placeI c))) := by
  obtain ⟨j, rfl⟩ := Int.eq_ofNat_of_zero_le h1
  refine ib_c placesB j _ ?_ w
  have := List.all_eq_true.1 place_all j (List.mem_range.2 (by omega))
  simpa using this
theorem andnot_all : ((List.range 256).all fun d => bits BinOp.andNot IntKind.u8 (d : Int) 128 == ((d % 128 : Nat) : Int)) = true := by decide +kernel
theorem andnot_c (d : Int) (h1 : 0 ≤ d) (h2 : d < 256) : bits BinOp.andNot IntKind.u8 d 128 = d % 128 := by
  obtain ⟨j, rfl⟩ := Int.eq_ofNat_of_zero_le h1
  have := List.all_eq_true.1 andnot_all j (List.mem_range.2 (by omega))
  simp only [beq_iff_eq] at this
  rw [this]
  omega
theorem wrap_u8 {n : Int} (h1 : 0 ≤ n) (h2 : n < 256) : IntKind.u8.wrap n = n := by
  have H : IntKind.u8.wrap n = n % 256 := by simp [IntKind.wrap, IntKind.bits, IntKind.signed]
  rw [H]
  omega
theorem wrap_i32 {n : Int} (h1 : 0 ≤ n) (h2 : n < 2147483648) : IntKind.i32.wrap n = n := by
  have H : IntKind.i32.wrap n = if n % 4294967296 ≥ 2147483648 then n % 4294967296 - 4294967296 else n % 4294967296 := by
    simp [IntKind.wrap, IntKind.bits, IntKind.signed]
  rw [H]
  split <;> omega
theorem place_in (c : Int) : placeI c ≤ 11 ∧ -1 ≤ placeI c := by
  unfold placeI
  split
  · rename_i i h
    have h1 := (List.findIdx?_eq_some_iff_findIdx_eq.1 h).1
    have : placesB.data.toList.length = 12 := rfl
    omega
  · omega
set_option maxRecDepth 100000 in
set_option maxHeartbeats 16000000 in
theorem glyph_c (s d c : Int) (h1 : 1 ≤ s) (h2 : s ≤ 17) (h3 : 0 ≤ d) (h4 : d < 256) (hc : c = d % 128) (w : World) : Calls Try.prog 19 #[.int .i64 s, .int .u8 d] w (Gives w (.int .i32 (charG s c))) := by
  have IS := Lib.hid (fun w' => is_c s h1 h2 w')
  have hb := andnot_c d h3 h4
  rw [← hc] at hb
  have hc0 : 0 ≤ c ∧ c < 128 := by omega
  replace hc := Lib.hid hc
  clear h3 h4
  have hi0 : IntKind.i32.wrap c = c := wrap_i32 (by omega) (by omega)
  have hi1 : IntKind.i32.wrap (c + 128) = c + 128 := wrap_i32 (by omega) (by omega)
  have hl0 : IntKind.i64.wrap c = c := wrap_a (by omega) (by omega)
  by_cases a1 : c < 32
  · have q : charG s c = 0 := if_pos a1
    have b1 : decide (c < 32) = true := decide_eq_true a1
    rw [q]
    clear q
    go_enter Try.func19, Try.ntmps19
    go_wp2_with (first
      | (go_at_call 27; ((with_reducible refine (IS.out _).mono ?_); rintro _ _ hgets; obtain ⟨rfl, x1, rfl⟩ := hgets.get; clear hgets)))
    go_returns
    exact ⟨rfl, by (repeat' (first | (with_reducible exact Below.refl _ _) | (with_reducible refine Below.alloc ?_ ?_ _) | (with_reducible refine below_ext ?_ ?_ _) | (with_reducible refine Below.drew ?_) | (with_reducible refine below_drewN ?_ _) | (with_reducible refine Below.setCell ?_ ?_ _) | go_size | (simp only [go_sem]; omega) | (simp [go_sem]; done) | (simp [go_sem]; omega)))⟩
  have b1 : decide (c < 32) = false := decide_eq_false a1
  by_cases a2 : c = 127 ∧ s ≠ 5
  · have q : charG s c = 0 := by unfold charG; rw [if_neg a1, if_pos a2]
    have b2 : (c == 127) = true := by simp [a2.1]
    have b3 : (s != 5) = true := by simp [a2.2]
    rw [q]
    clear q a2
    go_enter Try.func19, Try.ntmps19
    go_wp2_with (first
      | (go_at_call 27; ((with_reducible refine (IS.out _).mono ?_); rintro _ _ hgets; obtain ⟨rfl, x1, rfl⟩ := hgets.get; clear hgets)))
    go_returns
    exact ⟨rfl, by (repeat' (first | (with_reducible exact Below.refl _ _) | (with_reducible refine Below.alloc ?_ ?_ _) | (with_reducible refine below_ext ?_ ?_ _) | (with_reducible refine Below.drew ?_) | (with_reducible refine below_drewN ?_ _) | (with_reducible refine Below.setCell ?_ ?_ _) | go_size | (simp only [go_sem]; omega) | (simp [go_sem]; done) | (simp [go_sem]; omega)))⟩
  by_cases a3 : s = 5
  · have q : charG s c = c + 128 := by unfold charG; rw [if_neg a1, if_neg a2, if_pos a3]
    rw [q]
    clear q a2
    subst a3
    have b3 : ((5 : Int) != 5) = false := by simp
    generalize hb2 : (c == 127) = b2
    cases b2
    all_goals (
      go_enter Try.func19, Try.ntmps19
      go_wp2_with (first
        | (go_at_call 27; ((with_reducible refine (IS.out _).mono ?_); rintro _ _ hgets; obtain ⟨rfl, x1, rfl⟩ := hgets.get; clear hgets)))
      go_returns
      exact ⟨rfl, by (repeat' (first | (with_reducible exact Below.refl _ _) | (with_reducible refine Below.alloc ?_ ?_ _) | (with_reducible refine below_ext ?_ ?_ _) | (with_reducible refine Below.drew ?_) | (with_reducible refine below_drewN ?_ _) | (with_reducible refine Below.setCell ?_ ?_ _) | go_size | (simp only [go_sem]; omega) | (simp [go_sem]; done) | (simp [go_sem]; omega)))⟩)
  have b3 : (s == 5) = false := by simpa using a3
  have b3' : (s != 5) = true := by simp [a3]
  have b2 : (c == 127) = false := by simp; exact fun e => a2 ⟨e, a3⟩
  by_cases a4 : c = 32
  · have q : charG s c = 32 := by unfold charG; rw [if_neg a1, if_neg a2, if_neg a3, if_pos a4]
    rw [q]
    have b4 : (c == 32) = true := by simp [a4]
    clear q a2 a3
    go_enter Try.func19, Try.ntmps19
    go_wp2_with (first
      | (go_at_call 27; ((with_reducible refine (IS.out _).mono ?_); rintro _ _ hgets; obtain ⟨rfl, x1, rfl⟩ := hgets.get; clear hgets)))
    go_returns
    exact ⟨rfl, by (repeat' (first | (with_reducible exact Below.refl _ _) | (with_reducible refine Below.alloc ?_ ?_ _) | (with_reducible refine below_ext ?_ ?_ _) | (with_reducible refine Below.drew ?_) | (with_reducible refine below_drewN ?_ _) | (with_reducible refine Below.setCell ?_ ?_ _) | go_size | (simp only [go_sem]; omega) | (simp [go_sem]; done) | (simp [go_sem]; omega)))⟩
  have b4 : (c == 32) = false := by simpa using a4
  by_cases a5 : s = 2 ∧ 95 ≤ c
  · have q : charG s c = draw2.getD (c - 95).toNat 65533 := by unfold charG; rw [if_neg a1, if_neg a2, if_neg a3, if_neg a4, if_pos a5]
    rw [q]
    have b5 : (s == 2) = true := by simp [a5.1]
    have b6 : decide (95 ≤ c) = true := decide_eq_true a5.2
    have hw : IntKind.u8.wrap (c - 95) = ((c - 95).toNat : Int) := by rw [wrap_u8 (by omega) (by omega)]; omega
    have hw2 : IntKind.i64.wrap ((c - 95).toNat : Int) = ((c - 95).toNat : Int) := wrap_a (by omega) (by omega)
    have NT := Lib.hid (fun w' => nth_c drawB draw2 draw_runes (c - 95).toNat (by omega) w')
    generalize (c - 95).toNat = n at hw hw2 NT ⊢
    clear q a2 a3 a4 a5
    go_enter Try.func19, Try.ntmps19
    go_wp2_with (first
      | (go_at_call 27; ((with_reducible refine (IS.out _).mono ?_); rintro _ _ hgets; obtain ⟨rfl, x1, rfl⟩ := hgets.get; clear hgets))
      | ((go_at_call 30); (refine Calls.mono (by exact NT.out _) ?_); rintro _ _ hgets; obtain ⟨rfl, x9, rfl⟩ := hgets.get; clear hgets))
    go_returns
    exact ⟨rfl, by (repeat' (first | (with_reducible exact Below.refl _ _) | (with_reducible refine Below.alloc ?_ ?_ _) | (with_reducible refine below_ext ?_ ?_ _) | (with_reducible refine Below.drew ?_) | (with_reducible refine below_drewN ?_ _) | (with_reducible refine Below.setCell ?_ ?_ _) | go_size | (simp only [go_sem]; omega) | (simp [go_sem]; done) | (simp [go_sem]; omega)))⟩
  by_cases a6 : s = 3
  · have q : charG s c = tech2.getD (c - 33).toNat 65533 := by unfold charG; rw [if_neg a1, if_neg a2, if_neg a3, if_neg a4, if_neg a5, if_pos a6]
    rw [q]
    subst a6
    have hw : IntKind.u8.wrap (c - 32) = c - 32 := wrap_u8 (by omega) (by omega)
    have hw1 : IntKind.u8.wrap (c - 32 - 1) = ((c - 33).toNat : Int) := by rw [wrap_u8 (by omega) (by omega)]; omega
    have hw2 : IntKind.i64.wrap ((c - 33).toNat : Int) = ((c - 33).toNat : Int) := wrap_a (by omega) (by omega)
    have NT := Lib.hid (fun w' => nth_c techB tech2 tech_runes (c - 33).toNat (by omega) w')
    generalize (c - 33).toNat = n at hw1 hw2 NT ⊢
    clear q a2 a3 a4 a5 b3 b3'
    go_enter Try.func19, Try.ntmps19
    go_wp2_with (first
      | (go_at_call 27; ((with_reducible refine (IS.out _).mono ?_); rintro _ _ hgets; obtain ⟨rfl, x1, rfl⟩ := hgets.get; clear hgets))
      | ((go_at_call 30); (refine Calls.mono (by exact NT.out _) ?_); rintro _ _ hgets; obtain ⟨rfl, x9, rfl⟩ := hgets.get; clear hgets))
    go_returns
    exact ⟨rfl, by (repeat' (first | (with_reducible exact Below.refl _ _) | (with_reducible refine Below.alloc ?_ ?_ _) | (with_reducible refine below_ext ?_ ?_ _) | (with_reducible refine Below.drew ?_) | (with_reducible refine below_drewN ?_ _) | (with_reducible refine Below.setCell ?_ ?_ _) | go_size | (simp only [go_sem]; omega) | (simp [go_sem]; done) | (simp [go_sem]; omega)))⟩
  have b6 : (s == 3) = false := by simpa using a6
  have b5 : (s == 2) = false ∨ ((s == 2) = true ∧ decide (95 ≤ c) = false) := by
    by_cases e : s = 2
    · exact .inr ⟨by simp [e], decide_eq_false fun h => a5 ⟨e, h⟩⟩
    · exact .inl (by simpa using e)
  by_cases a7 : s = 4
  · have q : charG s c = suppC c := by unfold charG; rw [if_neg a1, if_neg a2, if_neg a3, if_neg a4, if_neg a5, if_neg a6, if_pos a7]
    rw [q]
    subst a7
    have SU := Lib.hid (fun w' => supp_c c (by omega) (by omega) w')
    generalize suppC c = v at SU ⊢
    clear q a2 a3 a4 a5 a6 b3 b3' b5 b6
    go_enter Try.func19, Try.ntmps19
    go_wp2_with (first
      | (go_at_call 27; ((with_reducible refine (IS.out _).mono ?_); rintro _ _ hgets; obtain ⟨rfl, x1, rfl⟩ := hgets.get; clear hgets))
      | (go_at_call 31; ((with_reducible refine (SU.out _).mono ?_); rintro _ _ hgets; obtain ⟨rfl, x2, rfl⟩ := hgets.get; clear hgets)))
    go_returns
    exact ⟨rfl, by (repeat' (first | (with_reducible exact Below.refl _ _) | (with_reducible refine Below.alloc ?_ ?_ _) | (with_reducible refine below_ext ?_ ?_ _) | (with_reducible refine Below.drew ?_) | (with_reducible refine below_drewN ?_ _) | (with_reducible refine Below.setCell ?_ ?_ _) | go_size | (simp only [go_sem]; omega) | (simp [go_sem]; done) | (simp [go_sem]; omega)))⟩
  have b7 : (s == 4) = false := by simpa using a7
  have PL := Lib.hid (fun w' => place_c c hc0.1 hc0.2 w')
  have pin := place_in c
  have NA := Lib.hid (fun w' => isnat_c s w')
  by_cases a8 : 0 ≤ placeI c ∧ 6 ≤ s
  · have q : charG s c = (rowI natR s []).getD (placeI c).toNat 65533 := by unfold charG; rw [if_neg a1, if_neg a2, if_neg a3, if_neg a4, if_neg a5, if_neg a6, if_neg a7, if_pos a8]
    rw [q]
    obtain ⟨p, hp⟩ := Int.eq_ofNat_of_zero_le a8.1
    rw [hp] at PL pin ⊢
    have hrn : runesFrom (natBytes s).size (natBytes s) 0 = rowI natR s [] := by
      obtain ⟨k, rfl⟩ : ∃ k : Nat, s = (k : Int) + 6 := ⟨(s - 6).toNat, by omega⟩
      have := List.all_eq_true.1 nat_runes k (List.mem_range.2 (by omega))
      simpa using this
    have NM := Lib.hid (fun w' => national_c s a8.2 h2 w')
    have NT := Lib.hid (fun w' => nth_c (natBytes s) (rowI natR s []) hrn p (by omega) w')
    rw [show (decide (6 ≤ s) && decide (s ≤ 17)) = true by simp; omega] at NA
    rw [show ((p : Int)).toNat = p by simp] at *
    generalize natBytes s = B at NM NT
    generalize rowI natR s [] = R at NT ⊢
    have b8 : decide (0 ≤ (p : Int)) = true := by simp
    have b9 : (s == 2) = false := by simp; omega
    clear q a2 a3 a4 a5 a6 a7 a8 hrn b5 hp
    go_enter Try.func19, Try.ntmps19
    go_wp2_with (first
      | (go_at_call 27; ((with_reducible refine (IS.out _).mono ?_); rintro _ _ hgets; obtain ⟨rfl, x1, rfl⟩ := hgets.get; clear hgets))
      | ((go_at_call 32); (refine Calls.mono (by exact PL.out _) ?_); rintro _ _ ⟨rfl, rfl⟩)
      | (go_at_call 33; ((with_reducible refine (NA.out _).mono ?_); rintro _ _ hgets; obtain ⟨rfl, x3, rfl⟩ := hgets.get; clear hgets))
      | (go_at_call 34; ((with_reducible refine (NM.out _).mono ?_); rintro _ _ hgets; obtain ⟨rfl, x4, rfl⟩ := hgets.get; clear hgets))
      | ((go_at_call 30); (refine Calls.mono (by exact NT.out _) ?_); rintro _ _ hgets; obtain ⟨rfl, x9, rfl⟩ := hgets.get; clear hgets))
    go_returns
    exact ⟨rfl, by (repeat' (first | (with_reducible exact Below.refl _ _) | (with_reducible refine Below.alloc ?_ ?_ _) | (with_reducible refine below_ext ?_ ?_ _) | (with_reducible refine Below.drew ?_) | (with_reducible refine below_drewN ?_ _) | (with_reducible refine Below.setCell ?_ ?_ _) | go_size | (simp only [go_sem]; omega) | (simp [go_sem]; done) | (simp [go_sem]; omega)))⟩
  · have q : charG s c = c := by unfold charG; rw [if_neg a1, if_neg a2, if_neg a3, if_neg a4, if_neg a5, if_neg a6, if_neg a7, if_neg a8]
    rw [q]
    have b8 : decide (0 ≤ placeI c) = false ∨ (decide (0 ≤ placeI c) = true ∧ (decide (6 ≤ s) && decide (s ≤ 17)) = false) := by
      by_cases e : 0 ≤ placeI c
      · exact .inr ⟨decide_eq_true e, by simp; omega⟩
      · exact .inl (decide_eq_false e)
    generalize (decide (6 ≤ s) && decide (s ≤ 17)) = nb at NA b8
    generalize placeI c = p at PL pin b8
    clear q a2 a3 a4 a5 a6 a7 a8
    rcases b5 with b5 | ⟨b5, b5'⟩ <;> rcases b8 with b8 | ⟨b8, rfl⟩
    all_goals (
      go_enter Try.func19, Try.ntmps19
      go_wp2_with (first
        | (go_at_call 27; ((with_reducible refine (IS.out _).mono ?_); rintro _ _ hgets; obtain ⟨rfl, x1, rfl⟩ := hgets.get; clear hgets))
        | ((go_at_call 32); (refine Calls.mono (by exact PL.out _) ?_); rintro _ _ ⟨rfl, rfl⟩)
        | (go_at_call 33; ((with_reducible refine (NA.out _).mono ?_); rintro _ _ hgets; obtain ⟨rfl, x3, rfl⟩ := hgets.get; clear hgets)))
      go_returns
      exact ⟨rfl, by (repeat' (first | (with_reducible exact Below.refl _ _) | (with_reducible refine Below.alloc ?_ ?_ _) | (with_reducible refine below_ext ?_ ?_ _) | (with_reducible refine Below.drew ?_) | (with_reducible refine below_drewN ?_ _) | (with_reducible refine Below.setCell ?_ ?_ _) | go_size | (simp only [go_sem]; omega) | (simp [go_sem]; done) | (simp [go_sem]; omega)))⟩)
end Go.Proofs.Ytigmdokegiomaaa
