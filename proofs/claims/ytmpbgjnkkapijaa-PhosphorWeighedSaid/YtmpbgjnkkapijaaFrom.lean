/- A rendition out of its letters: what the program and the reference return. -/
import Derived.Test.YtmpbgjnkkapijaaFroms
import Derived.Test.YtmpbgjnkkapijaaParams
import Derived.Shelf.Strings.Search1
import Derived.Shelf.Small.Strs
namespace Go.Proofs.Ytmpbgjnkkapijaa
open Go.RowKit
set_option linter.unusedVariables false
set_option linter.unusedSimpArgs false

def ibx_ren : Go.Shelf.Ren := ⟨fun | 137 => 58 | 217 => 61 | 266 => 63 | n => n, fun | 9 => 9 | 5 => 5 | 3 => 3 | n => n, fun | n => n⟩
theorem ibx_lays : Go.Proofs.Lays.n137 Try.prog ibx_ren := {
  mixed := by kernel_rfl
  f137 := Try.func58.trans (congrArg some (by kernel_rfl))
  f217 := Try.func61.trans (congrArg some (by kernel_rfl))
  f266 := Try.func63.trans (congrArg some (by kernel_rfl))
  t3 := Try.underlying3
  a3 := Try.isAgg3
  z3 := Try.sizeOf3
  v3 := Try.zeroValue3
  t5 := Try.underlying5
  a5 := Try.isAgg5
  z5 := Try.sizeOf5
  v5 := Try.zeroValue5
  t9 := Try.underlying9
  a9 := Try.isAgg9
  z9 := Try.sizeOf9
  v9 := Try.zeroValue9 }
theorem ib_c (s : ByteArray) (c : Int) (v : Int) (h : Lib.indexByte s.data.toList c.toNat.toUInt8 = v) (w : World) :
    Calls Try.prog 58 #[.string s, .int .u8 c] w (Same w (.int .i64 v)) := by
  subst h
  refine (Any.strings_IndexByte ibx_lays s c w).mono ?_
  rintro e w' ⟨h1, h2⟩
  exact ⟨h1, h2.symm⟩

set_option maxRecDepth 100000 in
set_option maxHeartbeats 8000000 in
theorem letters_r (r : Int) (hr0 : 0 ≤ r) (hr1 : r ≤ 255) (w : World) :
    Calls Try.prog 45 #[.int .u8 r] w (Gives w (.string ⟨(lettersTo (Fl.of r) 5).toArray⟩)) := by
  have o := fun w' => of_r r hr0 hr1 w'
  generalize Fl.of r = f at o
  obtain ⟨b, u, k, r', h⟩ := f
  cases b <;> cases u <;> cases k <;> cases r' <;> cases h
  all_goals
    have O := Lib.hid o
    clear o
    go_enter Try.func45, Try.ntmps45
    go_wp2_with (go_at_call 38; ((with_reducible refine (O.out _).mono ?_); rintro _ _ hgets; obtain ⟨rfl, x0, rfl⟩ := hgets.get; clear hgets))
    go_returns
    exact ⟨rfl, by (repeat' (first | (with_reducible exact Below.refl _ _) | (with_reducible refine Below.alloc ?_ ?_ _) | (with_reducible refine below_ext ?_ ?_ _) | (with_reducible refine Below.drew ?_) | (with_reducible refine below_drewN ?_ _) | (with_reducible refine Below.setCell ?_ ?_ _) | go_size | (simp only [go_sem]; omega) | (simp [go_sem]; done) | (simp [go_sem]; omega)))⟩

def orderL : List UInt8 := [98, 117, 107, 114, 104]
def idx (k : Nat) (c : UInt8) : Int := Lib.indexByte (orderL.drop k) c
theorem idx_of (k : Nat) (hk : k ≤ 5) (c : UInt8) : idx k c = match posOf c with
    | none => -1
    | some p => if p < k then -1 else ((p - k : Nat) : Int) := by
  have hk' : k = 0 ∨ k = 1 ∨ k = 2 ∨ k = 3 ∨ k = 4 ∨ k = 5 := by omega
  by_cases h0 : c = 98
  · subst h0; rcases hk' with rfl | rfl | rfl | rfl | rfl | rfl <;> decide
  by_cases h1 : c = 117
  · subst h1; rcases hk' with rfl | rfl | rfl | rfl | rfl | rfl <;> decide
  by_cases h2 : c = 107
  · subst h2; rcases hk' with rfl | rfl | rfl | rfl | rfl | rfl <;> decide
  by_cases h3 : c = 114
  · subst h3; rcases hk' with rfl | rfl | rfl | rfl | rfl | rfl <;> decide
  by_cases h4 : c = 104
  · subst h4; rcases hk' with rfl | rfl | rfl | rfl | rfl | rfl <;> decide
  have e0 : ((98 : UInt8) == c) = false := by simpa using fun h => h0 h.symm
  have e1 : ((117 : UInt8) == c) = false := by simpa using fun h => h1 h.symm
  have e2 : ((107 : UInt8) == c) = false := by simpa using fun h => h2 h.symm
  have e3 : ((114 : UInt8) == c) = false := by simpa using fun h => h3 h.symm
  have e4 : ((104 : UInt8) == c) = false := by simpa using fun h => h4 h.symm
  have hp : posOf c = none := by simp [posOf, h0, h1, h2, h3, h4]
  rw [hp]
  rcases hk' with rfl | rfl | rfl | rfl | rfl | rfl <;> simp [idx, orderL, Lib.indexByte, e0, e1, e2, e3, e4]
theorem ib_0 (c : UInt8) (w : World) : Calls Try.prog 58 #[.string (({ data := #[98, 117, 107, 114, 104] } : ByteArray).extract 0 5), .int .u8 c.toNat] w (Same w (.int .i64 (idx 0 c))) :=
  ib_c _ _ _ (by rw [Int.toNat_natCast]; show Lib.indexByte _ (UInt8.ofNat c.toNat) = _; rw [UInt8.ofNat_toNat]; rfl) w
theorem ib_1 (c : UInt8) (w : World) : Calls Try.prog 58 #[.string (({ data := #[98, 117, 107, 114, 104] } : ByteArray).extract 1 5), .int .u8 c.toNat] w (Same w (.int .i64 (idx 1 c))) :=
  ib_c _ _ _ (by rw [Int.toNat_natCast]; show Lib.indexByte _ (UInt8.ofNat c.toNat) = _; rw [UInt8.ofNat_toNat]; rfl) w
theorem ib_2 (c : UInt8) (w : World) : Calls Try.prog 58 #[.string (({ data := #[98, 117, 107, 114, 104] } : ByteArray).extract 2 5), .int .u8 c.toNat] w (Same w (.int .i64 (idx 2 c))) :=
  ib_c _ _ _ (by rw [Int.toNat_natCast]; show Lib.indexByte _ (UInt8.ofNat c.toNat) = _; rw [UInt8.ofNat_toNat]; rfl) w
theorem ib_3 (c : UInt8) (w : World) : Calls Try.prog 58 #[.string (({ data := #[98, 117, 107, 114, 104] } : ByteArray).extract 3 5), .int .u8 c.toNat] w (Same w (.int .i64 (idx 3 c))) :=
  ib_c _ _ _ (by rw [Int.toNat_natCast]; show Lib.indexByte _ (UInt8.ofNat c.toNat) = _; rw [UInt8.ofNat_toNat]; rfl) w
theorem ib_4 (c : UInt8) (w : World) : Calls Try.prog 58 #[.string (({ data := #[98, 117, 107, 114, 104] } : ByteArray).extract 4 5), .int .u8 c.toNat] w (Same w (.int .i64 (idx 4 c))) :=
  ib_c _ _ _ (by rw [Int.toNat_natCast]; show Lib.indexByte _ (UInt8.ofNat c.toNat) = _; rw [UInt8.ofNat_toNat]; rfl) w
theorem ib_5 (c : UInt8) (w : World) : Calls Try.prog 58 #[.string ByteArray.empty, .int .u8 c.toNat] w (Same w (.int .i64 (idx 5 c))) :=
  ib_c _ _ _ (by rw [Int.toNat_natCast]; show Lib.indexByte _ (UInt8.ofNat c.toNat) = _; rw [UInt8.ofNat_toNat]; rfl) w
theorem from_step (k : Nat) (hk : k ≤ 5) (f : Fl) (c : UInt8) (cs : List UInt8) :
    (idx k c = -1 ∧ fromF k f (c :: cs) = none) ∨ ∃ p, k ≤ p ∧ p < 5 ∧ idx k c = ((p - k : Nat) : Int) ∧ fromF k f (c :: cs) = fromF (p + 1) (setF f p) cs := by
  rw [idx_of k hk]
  simp only [fromF]
  cases hp : posOf c with
  | none => exact .inl ⟨rfl, rfl⟩
  | some p =>
    simp only
    by_cases h : p < k
    · rw [if_pos h, if_pos h]; exact .inl ⟨rfl, rfl⟩
    · rw [if_neg h, if_neg h]; exact .inr ⟨p, by omega, (posOf_some hp).1, rfl, rfl⟩

def FromRes : Option Fl → Value
  | some f => .tuple #[.int .u8 f.num, .int .i64 0]
  | none => .tuple #[.int .u8 0, .int .i64 3]

set_option maxRecDepth 100000 in
set_option maxHeartbeats 8000000 in
theorem froms_c (s : ByteArray) (hs : s.size ≤ 9223372036854775807) (w : World) :
    Calls Try.prog 44 #[.string s] w (Gives w (FromRes (fromF 0 Fl.no s.data.toList))) := by
  have i0 : ∀ w, (Instr.index 79 (.agg #[.int .i64 1, .int .i64 4, .int .i64 5, .int .i64 7, .int .i64 8]) (.int .i64 0)).run Try.prog w = .ok (.int .i64 1) w := fun _ => by kernel_rfl
  have i1 : ∀ w, (Instr.index 79 (.agg #[.int .i64 1, .int .i64 4, .int .i64 5, .int .i64 7, .int .i64 8]) (.int .i64 1)).run Try.prog w = .ok (.int .i64 4) w := fun _ => by kernel_rfl
  have i2 : ∀ w, (Instr.index 79 (.agg #[.int .i64 1, .int .i64 4, .int .i64 5, .int .i64 7, .int .i64 8]) (.int .i64 2)).run Try.prog w = .ok (.int .i64 5) w := fun _ => by kernel_rfl
  have i3 : ∀ w, (Instr.index 79 (.agg #[.int .i64 1, .int .i64 4, .int .i64 5, .int .i64 7, .int .i64 8]) (.int .i64 3)).run Try.prog w = .ok (.int .i64 7) w := fun _ => by kernel_rfl
  have i4 : ∀ w, (Instr.index 79 (.agg #[.int .i64 1, .int .i64 4, .int .i64 5, .int .i64 7, .int .i64 8]) (.int .i64 4)).run Try.prog w = .ok (.int .i64 8) w := fun _ => by kernel_rfl
  go_enter Try.func44, Try.ntmps44
  go_wp2
  go_loopw [4, 5, 10] (fun r nxt cnt wr => ∃ (i nx : Nat) (f : Fl), i ≤ s.size ∧ nx ≤ 5 ∧ cnt = .int .i64 i ∧ nxt = .int .i64 nx ∧ r = .int .u8 f.num ∧ Below w.heap.size w wr ∧ Hid (fromF nx f (s.data.toList.drop i) = fromF 0 Fl.no s.data.toList)) (fun _ _ cnt _ => s.size - (intOf cnt).toNat)
  case atStart => exact ⟨0, 0, Fl.no, by omega, by omega, rfl, rfl, rfl, Below.refl _ _, rfl⟩
  case round =>
    obtain ⟨i, nx, f, hi, hn, rfl, rfl, rfl, hB, hr⟩ := hrel
    obtain ⟨x, rfl⟩ := ext_of hB
    clear hB
    have os := Lib.hid (or_set f)
    by_cases hlt : i < s.size
    · have hd := show s.data.toList.drop i = s[i] :: s.data.toList.drop (i + 1) from (List.drop_eq_getElem_cons (by simpa using hlt))
      replace hr := hr.out
      rw [hd] at hr
      clear hd
      have hnx : nx = 0 ∨ nx = 1 ∨ nx = 2 ∨ nx = 3 ∨ nx = 4 ∨ nx = 5 := by omega
      rcases hnx with rfl | rfl | rfl | rfl | rfl | rfl
      · rcases from_step 0 (by omega) f s[i] (s.data.toList.drop (i + 1)) with ⟨ix, hf⟩ | ⟨p, hp1, hp2, ix, hf⟩
        · rw [hf] at hr
          replace hr := Lib.hid hr
          clear hf
          go_wp2
          (refine wp_region_free (by kernel_rfl) (by kernel_rfl) ?_)
          repeat (go_big_quiet_step ((go_at_call 58; with_reducible exact Calls.free_same (ib_0 _ _))))
          refine wpQuiet_nil ?_; rintro _ ⟨x2, rfl⟩
          go_wp2
          go_returns
          refine ⟨?_, by (repeat' (first | (with_reducible exact Below.refl _ _) | (with_reducible refine Below.alloc ?_ ?_ _) | (with_reducible refine below_ext ?_ ?_ _) | (with_reducible refine Below.drew ?_) | (with_reducible refine below_drewN ?_ _) | (with_reducible refine Below.setCell ?_ ?_ _) | go_size | (simp only [go_sem]; omega) | (simp [go_sem]; done) | (simp [go_sem]; omega)))⟩
          rw [← hr.out]
          rfl
        · rw [hf] at hr
          replace hr := Lib.hid hr
          clear hf
          obtain rfl | rfl | rfl | rfl | rfl := (show p = 0 ∨ p = 1 ∨ p = 2 ∨ p = 3 ∨ p = 4 by omega)
          · replace ix : idx 0 s[i] = 0 := ix
            have hpt : partI 1 = 1 := rfl
            go_wp2
            (refine wp_region_free (by kernel_rfl) (by kernel_rfl) ?_)
            repeat (go_big_quiet_step ((go_at_call 58; with_reducible exact Calls.free_same (ib_0 _ _))))
            refine wpQuiet_nil ?_; rintro _ ⟨x2, rfl⟩
            go_wp2_with (first
              | (go_at_call 54; ((with_reducible refine (nums_c _).mono ?_); rintro _ _ ⟨rfl, rfl⟩))
              | (go_at_call 55; ((with_reducible refine (part_c _ _).mono ?_); rintro _ _ ⟨rfl, rfl⟩)))
            go_roundw
            case rel => exact ⟨i + 1, 1, setF f 0, by omega, by omega, by go_num, by go_num, by rw [← os.out.1], by (repeat' (first | (with_reducible exact Below.refl _ _) | (with_reducible refine Below.alloc ?_ ?_ _) | (with_reducible refine below_ext ?_ ?_ _) | (with_reducible refine Below.drew ?_) | (with_reducible refine below_drewN ?_ _) | (with_reducible refine Below.setCell ?_ ?_ _) | go_size | (simp only [go_sem]; omega) | (simp [go_sem]; done) | (simp [go_sem]; omega))), hr⟩
            case measure => simp [intOf]; omega
          · replace ix : idx 0 s[i] = 1 := ix
            have hpt : partI 4 = 2 := rfl
            go_wp2
            (refine wp_region_free (by kernel_rfl) (by kernel_rfl) ?_)
            repeat (go_big_quiet_step ((go_at_call 58; with_reducible exact Calls.free_same (ib_0 _ _))))
            refine wpQuiet_nil ?_; rintro _ ⟨x2, rfl⟩
            go_wp2_with (first
              | (go_at_call 54; ((with_reducible refine (nums_c _).mono ?_); rintro _ _ ⟨rfl, rfl⟩))
              | (go_at_call 55; ((with_reducible refine (part_c _ _).mono ?_); rintro _ _ ⟨rfl, rfl⟩)))
            go_roundw
            case rel => exact ⟨i + 1, 2, setF f 1, by omega, by omega, by go_num, by go_num, by rw [← os.out.2.1], by (repeat' (first | (with_reducible exact Below.refl _ _) | (with_reducible refine Below.alloc ?_ ?_ _) | (with_reducible refine below_ext ?_ ?_ _) | (with_reducible refine Below.drew ?_) | (with_reducible refine below_drewN ?_ _) | (with_reducible refine Below.setCell ?_ ?_ _) | go_size | (simp only [go_sem]; omega) | (simp [go_sem]; done) | (simp [go_sem]; omega))), hr⟩
            case measure => simp [intOf]; omega
          · replace ix : idx 0 s[i] = 2 := ix
            have hpt : partI 5 = 4 := rfl
            go_wp2
            (refine wp_region_free (by kernel_rfl) (by kernel_rfl) ?_)
            repeat (go_big_quiet_step ((go_at_call 58; with_reducible exact Calls.free_same (ib_0 _ _))))
            refine wpQuiet_nil ?_; rintro _ ⟨x2, rfl⟩
            go_wp2_with (first
              | (go_at_call 54; ((with_reducible refine (nums_c _).mono ?_); rintro _ _ ⟨rfl, rfl⟩))
              | (go_at_call 55; ((with_reducible refine (part_c _ _).mono ?_); rintro _ _ ⟨rfl, rfl⟩)))
            go_roundw
            case rel => exact ⟨i + 1, 3, setF f 2, by omega, by omega, by go_num, by go_num, by rw [← os.out.2.2.1], by (repeat' (first | (with_reducible exact Below.refl _ _) | (with_reducible refine Below.alloc ?_ ?_ _) | (with_reducible refine below_ext ?_ ?_ _) | (with_reducible refine Below.drew ?_) | (with_reducible refine below_drewN ?_ _) | (with_reducible refine Below.setCell ?_ ?_ _) | go_size | (simp only [go_sem]; omega) | (simp [go_sem]; done) | (simp [go_sem]; omega))), hr⟩
            case measure => simp [intOf]; omega
          · replace ix : idx 0 s[i] = 3 := ix
            have hpt : partI 7 = 8 := rfl
            go_wp2
            (refine wp_region_free (by kernel_rfl) (by kernel_rfl) ?_)
            repeat (go_big_quiet_step ((go_at_call 58; with_reducible exact Calls.free_same (ib_0 _ _))))
            refine wpQuiet_nil ?_; rintro _ ⟨x2, rfl⟩
            go_wp2_with (first
              | (go_at_call 54; ((with_reducible refine (nums_c _).mono ?_); rintro _ _ ⟨rfl, rfl⟩))
              | (go_at_call 55; ((with_reducible refine (part_c _ _).mono ?_); rintro _ _ ⟨rfl, rfl⟩)))
            go_roundw
            case rel => exact ⟨i + 1, 4, setF f 3, by omega, by omega, by go_num, by go_num, by rw [← os.out.2.2.2.1], by (repeat' (first | (with_reducible exact Below.refl _ _) | (with_reducible refine Below.alloc ?_ ?_ _) | (with_reducible refine below_ext ?_ ?_ _) | (with_reducible refine Below.drew ?_) | (with_reducible refine below_drewN ?_ _) | (with_reducible refine Below.setCell ?_ ?_ _) | go_size | (simp only [go_sem]; omega) | (simp [go_sem]; done) | (simp [go_sem]; omega))), hr⟩
            case measure => simp [intOf]; omega
          · replace ix : idx 0 s[i] = 4 := ix
            have hpt : partI 8 = 16 := rfl
            go_wp2
            (refine wp_region_free (by kernel_rfl) (by kernel_rfl) ?_)
            repeat (go_big_quiet_step ((go_at_call 58; with_reducible exact Calls.free_same (ib_0 _ _))))
            refine wpQuiet_nil ?_; rintro _ ⟨x2, rfl⟩
            go_wp2_with (first
              | (go_at_call 54; ((with_reducible refine (nums_c _).mono ?_); rintro _ _ ⟨rfl, rfl⟩))
              | (go_at_call 55; ((with_reducible refine (part_c _ _).mono ?_); rintro _ _ ⟨rfl, rfl⟩)))
            go_roundw
            case rel => exact ⟨i + 1, 5, setF f 4, by omega, by omega, by go_num, by go_num, by rw [← os.out.2.2.2.2], by (repeat' (first | (with_reducible exact Below.refl _ _) | (with_reducible refine Below.alloc ?_ ?_ _) | (with_reducible refine below_ext ?_ ?_ _) | (with_reducible refine Below.drew ?_) | (with_reducible refine below_drewN ?_ _) | (with_reducible refine Below.setCell ?_ ?_ _) | go_size | (simp only [go_sem]; omega) | (simp [go_sem]; done) | (simp [go_sem]; omega))), hr⟩
            case measure => simp [intOf]; omega
      · rcases from_step 1 (by omega) f s[i] (s.data.toList.drop (i + 1)) with ⟨ix, hf⟩ | ⟨p, hp1, hp2, ix, hf⟩
        · rw [hf] at hr
          replace hr := Lib.hid hr
          clear hf
          go_wp2
          (refine wp_region_free (by kernel_rfl) (by kernel_rfl) ?_)
          repeat (go_big_quiet_step ((go_at_call 58; with_reducible exact Calls.free_same (ib_1 _ _))))
          refine wpQuiet_nil ?_; rintro _ ⟨x2, rfl⟩
          go_wp2
          go_returns
          refine ⟨?_, by (repeat' (first | (with_reducible exact Below.refl _ _) | (with_reducible refine Below.alloc ?_ ?_ _) | (with_reducible refine below_ext ?_ ?_ _) | (with_reducible refine Below.drew ?_) | (with_reducible refine below_drewN ?_ _) | (with_reducible refine Below.setCell ?_ ?_ _) | go_size | (simp only [go_sem]; omega) | (simp [go_sem]; done) | (simp [go_sem]; omega)))⟩
          rw [← hr.out]
          rfl
        · rw [hf] at hr
          replace hr := Lib.hid hr
          clear hf
          obtain rfl | rfl | rfl | rfl := (show p = 1 ∨ p = 2 ∨ p = 3 ∨ p = 4 by omega)
          · replace ix : idx 1 s[i] = 0 := ix
            have hpt : partI 4 = 2 := rfl
            go_wp2
            (refine wp_region_free (by kernel_rfl) (by kernel_rfl) ?_)
            repeat (go_big_quiet_step ((go_at_call 58; with_reducible exact Calls.free_same (ib_1 _ _))))
            refine wpQuiet_nil ?_; rintro _ ⟨x2, rfl⟩
            go_wp2_with (first
              | (go_at_call 54; ((with_reducible refine (nums_c _).mono ?_); rintro _ _ ⟨rfl, rfl⟩))
              | (go_at_call 55; ((with_reducible refine (part_c _ _).mono ?_); rintro _ _ ⟨rfl, rfl⟩)))
            go_roundw
            case rel => exact ⟨i + 1, 2, setF f 1, by omega, by omega, by go_num, by go_num, by rw [← os.out.2.1], by (repeat' (first | (with_reducible exact Below.refl _ _) | (with_reducible refine Below.alloc ?_ ?_ _) | (with_reducible refine below_ext ?_ ?_ _) | (with_reducible refine Below.drew ?_) | (with_reducible refine below_drewN ?_ _) | (with_reducible refine Below.setCell ?_ ?_ _) | go_size | (simp only [go_sem]; omega) | (simp [go_sem]; done) | (simp [go_sem]; omega))), hr⟩
            case measure => simp [intOf]; omega
          · replace ix : idx 1 s[i] = 1 := ix
            have hpt : partI 5 = 4 := rfl
            go_wp2
            (refine wp_region_free (by kernel_rfl) (by kernel_rfl) ?_)
            repeat (go_big_quiet_step ((go_at_call 58; with_reducible exact Calls.free_same (ib_1 _ _))))
            refine wpQuiet_nil ?_; rintro _ ⟨x2, rfl⟩
            go_wp2_with (first
              | (go_at_call 54; ((with_reducible refine (nums_c _).mono ?_); rintro _ _ ⟨rfl, rfl⟩))
              | (go_at_call 55; ((with_reducible refine (part_c _ _).mono ?_); rintro _ _ ⟨rfl, rfl⟩)))
            go_roundw
            case rel => exact ⟨i + 1, 3, setF f 2, by omega, by omega, by go_num, by go_num, by rw [← os.out.2.2.1], by (repeat' (first | (with_reducible exact Below.refl _ _) | (with_reducible refine Below.alloc ?_ ?_ _) | (with_reducible refine below_ext ?_ ?_ _) | (with_reducible refine Below.drew ?_) | (with_reducible refine below_drewN ?_ _) | (with_reducible refine Below.setCell ?_ ?_ _) | go_size | (simp only [go_sem]; omega) | (simp [go_sem]; done) | (simp [go_sem]; omega))), hr⟩
            case measure => simp [intOf]; omega
          · replace ix : idx 1 s[i] = 2 := ix
            have hpt : partI 7 = 8 := rfl
            go_wp2
            (refine wp_region_free (by kernel_rfl) (by kernel_rfl) ?_)
            repeat (go_big_quiet_step ((go_at_call 58; with_reducible exact Calls.free_same (ib_1 _ _))))
            refine wpQuiet_nil ?_; rintro _ ⟨x2, rfl⟩
            go_wp2_with (first
              | (go_at_call 54; ((with_reducible refine (nums_c _).mono ?_); rintro _ _ ⟨rfl, rfl⟩))
              | (go_at_call 55; ((with_reducible refine (part_c _ _).mono ?_); rintro _ _ ⟨rfl, rfl⟩)))
            go_roundw
            case rel => exact ⟨i + 1, 4, setF f 3, by omega, by omega, by go_num, by go_num, by rw [← os.out.2.2.2.1], by (repeat' (first | (with_reducible exact Below.refl _ _) | (with_reducible refine Below.alloc ?_ ?_ _) | (with_reducible refine below_ext ?_ ?_ _) | (with_reducible refine Below.drew ?_) | (with_reducible refine below_drewN ?_ _) | (with_reducible refine Below.setCell ?_ ?_ _) | go_size | (simp only [go_sem]; omega) | (simp [go_sem]; done) | (simp [go_sem]; omega))), hr⟩
            case measure => simp [intOf]; omega
          · replace ix : idx 1 s[i] = 3 := ix
            have hpt : partI 8 = 16 := rfl
            go_wp2
            (refine wp_region_free (by kernel_rfl) (by kernel_rfl) ?_)
            repeat (go_big_quiet_step ((go_at_call 58; with_reducible exact Calls.free_same (ib_1 _ _))))
            refine wpQuiet_nil ?_; rintro _ ⟨x2, rfl⟩
            go_wp2_with (first
              | (go_at_call 54; ((with_reducible refine (nums_c _).mono ?_); rintro _ _ ⟨rfl, rfl⟩))
              | (go_at_call 55; ((with_reducible refine (part_c _ _).mono ?_); rintro _ _ ⟨rfl, rfl⟩)))
            go_roundw
            case rel => exact ⟨i + 1, 5, setF f 4, by omega, by omega, by go_num, by go_num, by rw [← os.out.2.2.2.2], by (repeat' (first | (with_reducible exact Below.refl _ _) | (with_reducible refine Below.alloc ?_ ?_ _) | (with_reducible refine below_ext ?_ ?_ _) | (with_reducible refine Below.drew ?_) | (with_reducible refine below_drewN ?_ _) | (with_reducible refine Below.setCell ?_ ?_ _) | go_size | (simp only [go_sem]; omega) | (simp [go_sem]; done) | (simp [go_sem]; omega))), hr⟩
            case measure => simp [intOf]; omega
      · rcases from_step 2 (by omega) f s[i] (s.data.toList.drop (i + 1)) with ⟨ix, hf⟩ | ⟨p, hp1, hp2, ix, hf⟩
        · rw [hf] at hr
          replace hr := Lib.hid hr
          clear hf
          go_wp2
          (refine wp_region_free (by kernel_rfl) (by kernel_rfl) ?_)
          repeat (go_big_quiet_step ((go_at_call 58; with_reducible exact Calls.free_same (ib_2 _ _))))
          refine wpQuiet_nil ?_; rintro _ ⟨x2, rfl⟩
          go_wp2
          go_returns
          refine ⟨?_, by (repeat' (first | (with_reducible exact Below.refl _ _) | (with_reducible refine Below.alloc ?_ ?_ _) | (with_reducible refine below_ext ?_ ?_ _) | (with_reducible refine Below.drew ?_) | (with_reducible refine below_drewN ?_ _) | (with_reducible refine Below.setCell ?_ ?_ _) | go_size | (simp only [go_sem]; omega) | (simp [go_sem]; done) | (simp [go_sem]; omega)))⟩
          rw [← hr.out]
          rfl
        · rw [hf] at hr
          replace hr := Lib.hid hr
          clear hf
          obtain rfl | rfl | rfl := (show p = 2 ∨ p = 3 ∨ p = 4 by omega)
          · replace ix : idx 2 s[i] = 0 := ix
            have hpt : partI 5 = 4 := rfl
            go_wp2
            (refine wp_region_free (by kernel_rfl) (by kernel_rfl) ?_)
            repeat (go_big_quiet_step ((go_at_call 58; with_reducible exact Calls.free_same (ib_2 _ _))))
            refine wpQuiet_nil ?_; rintro _ ⟨x2, rfl⟩
            go_wp2_with (first
              | (go_at_call 54; ((with_reducible refine (nums_c _).mono ?_); rintro _ _ ⟨rfl, rfl⟩))
              | (go_at_call 55; ((with_reducible refine (part_c _ _).mono ?_); rintro _ _ ⟨rfl, rfl⟩)))
            go_roundw
            case rel => exact ⟨i + 1, 3, setF f 2, by omega, by omega, by go_num, by go_num, by rw [← os.out.2.2.1], by (repeat' (first | (with_reducible exact Below.refl _ _) | (with_reducible refine Below.alloc ?_ ?_ _) | (with_reducible refine below_ext ?_ ?_ _) | (with_reducible refine Below.drew ?_) | (with_reducible refine below_drewN ?_ _) | (with_reducible refine Below.setCell ?_ ?_ _) | go_size | (simp only [go_sem]; omega) | (simp [go_sem]; done) | (simp [go_sem]; omega))), hr⟩
            case measure => simp [intOf]; omega
          · replace ix : idx 2 s[i] = 1 := ix
            have hpt : partI 7 = 8 := rfl
            go_wp2
            (refine wp_region_free (by kernel_rfl) (by kernel_rfl) ?_)
            repeat (go_big_quiet_step ((go_at_call 58; with_reducible exact Calls.free_same (ib_2 _ _))))
            refine wpQuiet_nil ?_; rintro _ ⟨x2, rfl⟩
            go_wp2_with (first
              | (go_at_call 54; ((with_reducible refine (nums_c _).mono ?_); rintro _ _ ⟨rfl, rfl⟩))
              | (go_at_call 55; ((with_reducible refine (part_c _ _).mono ?_); rintro _ _ ⟨rfl, rfl⟩)))
            go_roundw
            case rel => exact ⟨i + 1, 4, setF f 3, by omega, by omega, by go_num, by go_num, by rw [← os.out.2.2.2.1], by (repeat' (first | (with_reducible exact Below.refl _ _) | (with_reducible refine Below.alloc ?_ ?_ _) | (with_reducible refine below_ext ?_ ?_ _) | (with_reducible refine Below.drew ?_) | (with_reducible refine below_drewN ?_ _) | (with_reducible refine Below.setCell ?_ ?_ _) | go_size | (simp only [go_sem]; omega) | (simp [go_sem]; done) | (simp [go_sem]; omega))), hr⟩
            case measure => simp [intOf]; omega
          · replace ix : idx 2 s[i] = 2 := ix
            have hpt : partI 8 = 16 := rfl
            go_wp2
            (refine wp_region_free (by kernel_rfl) (by kernel_rfl) ?_)
            repeat (go_big_quiet_step ((go_at_call 58; with_reducible exact Calls.free_same (ib_2 _ _))))
            refine wpQuiet_nil ?_; rintro _ ⟨x2, rfl⟩
            go_wp2_with (first
              | (go_at_call 54; ((with_reducible refine (nums_c _).mono ?_); rintro _ _ ⟨rfl, rfl⟩))
              | (go_at_call 55; ((with_reducible refine (part_c _ _).mono ?_); rintro _ _ ⟨rfl, rfl⟩)))
            go_roundw
            case rel => exact ⟨i + 1, 5, setF f 4, by omega, by omega, by go_num, by go_num, by rw [← os.out.2.2.2.2], by (repeat' (first | (with_reducible exact Below.refl _ _) | (with_reducible refine Below.alloc ?_ ?_ _) | (with_reducible refine below_ext ?_ ?_ _) | (with_reducible refine Below.drew ?_) | (with_reducible refine below_drewN ?_ _) | (with_reducible refine Below.setCell ?_ ?_ _) | go_size | (simp only [go_sem]; omega) | (simp [go_sem]; done) | (simp [go_sem]; omega))), hr⟩
            case measure => simp [intOf]; omega
      · rcases from_step 3 (by omega) f s[i] (s.data.toList.drop (i + 1)) with ⟨ix, hf⟩ | ⟨p, hp1, hp2, ix, hf⟩
        · rw [hf] at hr
          replace hr := Lib.hid hr
          clear hf
          go_wp2
          (refine wp_region_free (by kernel_rfl) (by kernel_rfl) ?_)
          repeat (go_big_quiet_step ((go_at_call 58; with_reducible exact Calls.free_same (ib_3 _ _))))
          refine wpQuiet_nil ?_; rintro _ ⟨x2, rfl⟩
          go_wp2
          go_returns
          refine ⟨?_, by (repeat' (first | (with_reducible exact Below.refl _ _) | (with_reducible refine Below.alloc ?_ ?_ _) | (with_reducible refine below_ext ?_ ?_ _) | (with_reducible refine Below.drew ?_) | (with_reducible refine below_drewN ?_ _) | (with_reducible refine Below.setCell ?_ ?_ _) | go_size | (simp only [go_sem]; omega) | (simp [go_sem]; done) | (simp [go_sem]; omega)))⟩
          rw [← hr.out]
          rfl
        · rw [hf] at hr
          replace hr := Lib.hid hr
          clear hf
          obtain rfl | rfl := (show p = 3 ∨ p = 4 by omega)
          · replace ix : idx 3 s[i] = 0 := ix
            have hpt : partI 7 = 8 := rfl
            go_wp2
            (refine wp_region_free (by kernel_rfl) (by kernel_rfl) ?_)
            repeat (go_big_quiet_step ((go_at_call 58; with_reducible exact Calls.free_same (ib_3 _ _))))
            refine wpQuiet_nil ?_; rintro _ ⟨x2, rfl⟩
            go_wp2_with (first
              | (go_at_call 54; ((with_reducible refine (nums_c _).mono ?_); rintro _ _ ⟨rfl, rfl⟩))
              | (go_at_call 55; ((with_reducible refine (part_c _ _).mono ?_); rintro _ _ ⟨rfl, rfl⟩)))
            go_roundw
            case rel => exact ⟨i + 1, 4, setF f 3, by omega, by omega, by go_num, by go_num, by rw [← os.out.2.2.2.1], by (repeat' (first | (with_reducible exact Below.refl _ _) | (with_reducible refine Below.alloc ?_ ?_ _) | (with_reducible refine below_ext ?_ ?_ _) | (with_reducible refine Below.drew ?_) | (with_reducible refine below_drewN ?_ _) | (with_reducible refine Below.setCell ?_ ?_ _) | go_size | (simp only [go_sem]; omega) | (simp [go_sem]; done) | (simp [go_sem]; omega))), hr⟩
            case measure => simp [intOf]; omega
          · replace ix : idx 3 s[i] = 1 := ix
            have hpt : partI 8 = 16 := rfl
            go_wp2
            (refine wp_region_free (by kernel_rfl) (by kernel_rfl) ?_)
            repeat (go_big_quiet_step ((go_at_call 58; with_reducible exact Calls.free_same (ib_3 _ _))))
            refine wpQuiet_nil ?_; rintro _ ⟨x2, rfl⟩
            go_wp2_with (first
              | (go_at_call 54; ((with_reducible refine (nums_c _).mono ?_); rintro _ _ ⟨rfl, rfl⟩))
              | (go_at_call 55; ((with_reducible refine (part_c _ _).mono ?_); rintro _ _ ⟨rfl, rfl⟩)))
            go_roundw
            case rel => exact ⟨i + 1, 5, setF f 4, by omega, by omega, by go_num, by go_num, by rw [← os.out.2.2.2.2], by (repeat' (first | (with_reducible exact Below.refl _ _) | (with_reducible refine Below.alloc ?_ ?_ _) | (with_reducible refine below_ext ?_ ?_ _) | (with_reducible refine Below.drew ?_) | (with_reducible refine below_drewN ?_ _) | (with_reducible refine Below.setCell ?_ ?_ _) | go_size | (simp only [go_sem]; omega) | (simp [go_sem]; done) | (simp [go_sem]; omega))), hr⟩
            case measure => simp [intOf]; omega
      · rcases from_step 4 (by omega) f s[i] (s.data.toList.drop (i + 1)) with ⟨ix, hf⟩ | ⟨p, hp1, hp2, ix, hf⟩
        · rw [hf] at hr
          replace hr := Lib.hid hr
          clear hf
          go_wp2
          (refine wp_region_free (by kernel_rfl) (by kernel_rfl) ?_)
          repeat (go_big_quiet_step ((go_at_call 58; with_reducible exact Calls.free_same (ib_4 _ _))))
          refine wpQuiet_nil ?_; rintro _ ⟨x2, rfl⟩
          go_wp2
          go_returns
          refine ⟨?_, by (repeat' (first | (with_reducible exact Below.refl _ _) | (with_reducible refine Below.alloc ?_ ?_ _) | (with_reducible refine below_ext ?_ ?_ _) | (with_reducible refine Below.drew ?_) | (with_reducible refine below_drewN ?_ _) | (with_reducible refine Below.setCell ?_ ?_ _) | go_size | (simp only [go_sem]; omega) | (simp [go_sem]; done) | (simp [go_sem]; omega)))⟩
          rw [← hr.out]
          rfl
        · rw [hf] at hr
          replace hr := Lib.hid hr
          clear hf
          obtain rfl : p = 4 := by omega
          · replace ix : idx 4 s[i] = 0 := ix
            have hpt : partI 8 = 16 := rfl
            go_wp2
            (refine wp_region_free (by kernel_rfl) (by kernel_rfl) ?_)
            repeat (go_big_quiet_step ((go_at_call 58; with_reducible exact Calls.free_same (ib_4 _ _))))
            refine wpQuiet_nil ?_; rintro _ ⟨x2, rfl⟩
            go_wp2_with (first
              | (go_at_call 54; ((with_reducible refine (nums_c _).mono ?_); rintro _ _ ⟨rfl, rfl⟩))
              | (go_at_call 55; ((with_reducible refine (part_c _ _).mono ?_); rintro _ _ ⟨rfl, rfl⟩)))
            go_roundw
            case rel => exact ⟨i + 1, 5, setF f 4, by omega, by omega, by go_num, by go_num, by rw [← os.out.2.2.2.2], by (repeat' (first | (with_reducible exact Below.refl _ _) | (with_reducible refine Below.alloc ?_ ?_ _) | (with_reducible refine below_ext ?_ ?_ _) | (with_reducible refine Below.drew ?_) | (with_reducible refine below_drewN ?_ _) | (with_reducible refine Below.setCell ?_ ?_ _) | go_size | (simp only [go_sem]; omega) | (simp [go_sem]; done) | (simp [go_sem]; omega))), hr⟩
            case measure => simp [intOf]; omega
      · rcases from_step 5 (by omega) f s[i] (s.data.toList.drop (i + 1)) with ⟨ix, hf⟩ | ⟨p, hp1, hp2, ix, hf⟩
        · rw [hf] at hr
          replace hr := Lib.hid hr
          clear hf
          go_wp2
          (refine wp_region_free (by kernel_rfl) (by kernel_rfl) ?_)
          repeat (go_big_quiet_step ((go_at_call 58; with_reducible exact Calls.free_same (ib_5 _ _))))
          refine wpQuiet_nil ?_; rintro _ ⟨x2, rfl⟩
          go_wp2
          go_returns
          refine ⟨?_, by (repeat' (first | (with_reducible exact Below.refl _ _) | (with_reducible refine Below.alloc ?_ ?_ _) | (with_reducible refine below_ext ?_ ?_ _) | (with_reducible refine Below.drew ?_) | (with_reducible refine below_drewN ?_ _) | (with_reducible refine Below.setCell ?_ ?_ _) | go_size | (simp only [go_sem]; omega) | (simp [go_sem]; done) | (simp [go_sem]; omega)))⟩
          rw [← hr.out]
          rfl
        · exact absurd hp2 (by omega)
    · replace hr := hr.out
      rw [List.drop_of_length_le (by simpa using hlt)] at hr
      replace hr := Lib.hid hr
      go_wp2
      go_returns
      refine ⟨?_, by (repeat' (first | (with_reducible exact Below.refl _ _) | (with_reducible refine Below.alloc ?_ ?_ _) | (with_reducible refine below_ext ?_ ?_ _) | (with_reducible refine Below.drew ?_) | (with_reducible refine below_drewN ?_ _) | (with_reducible refine Below.setCell ?_ ?_ _) | go_size | (simp only [go_sem]; omega) | (simp [go_sem]; done) | (simp [go_sem]; omega)))⟩
      rw [← hr.out]
      rfl

def FromRef : Option Fl → Value
  | some f => .tuple #[.int .u8 f.num, .bool true]
  | none => .tuple #[.int .u8 0, .bool false]
theorem str_yes {l : List UInt8} {s : ByteArray} (h : l = s.data.toList) : (l == s.toList) = true := by
  rw [ByteArray.toList_eq, h]; simp
theorem str_no {l : List UInt8} {s : ByteArray} (h : ¬ l = s.data.toList) : (l == s.toList) = false := by
  rw [ByteArray.toList_eq]; simpa using h
theorem of_num {n : Nat} (h : n < 32) : (Fl.of n).num = n := by
  rw [← and31 (r := n) (by omega)]
  omega
theorem from_none {s : List UInt8} (h : ∀ j : Nat, j < 32 → lettersTo (Fl.of j) 5 ≠ s) : fromF 0 Fl.no s = none := by
  cases hf : fromF 0 Fl.no s with
  | none => rfl
  | some g =>
    have h1 := Fl.num_bd g
    have := h g.num.toNat (by omega)
    rw [show ((g.num.toNat : Nat) : Int) = g.num by omega, Fl.num_of] at this
    exact absurd (from_only hf).symm this
theorem from_found {s : List UInt8} {n : Nat} (hn : n < 32) (h : lettersTo (Fl.of n) 5 = s) : FromRef (fromF 0 Fl.no s) = .tuple #[.int .u8 n, .bool true] := by
  subst h
  rw [from_letters]
  unfold FromRef
  simp only
  rw [of_num hn]
set_option maxRecDepth 100000 in
set_option maxHeartbeats 8000000 in
theorem froms_r (s : ByteArray) (w : World) :
    Calls Try.prog 46 #[.string s] w (Gives w (FromRef (fromF 0 Fl.no s.data.toList))) := by
  go_enter Try.func46, Try.ntmps46
  go_wp2
  go_loopw [4] (fun i wr => ∃ n : Nat, n ≤ 32 ∧ i = .int .i64 n ∧ Below w.heap.size w wr ∧ Hid (∀ j : Nat, j < n → lettersTo (Fl.of j) 5 ≠ s.data.toList)) (fun i _ => 32 - (intOf i).toNat)
  case atStart => exact ⟨0, by omega, rfl, Below.refl _ _, fun j hj => by omega⟩
  case round =>
    obtain ⟨n, hn, rfl, hB, hr⟩ := hrel
    obtain ⟨x, rfl⟩ := ext_of hB
    clear hB
    by_cases hlt : n < 32
    · have L := Lib.hid (fun w' => letters_r n (by omega) (by omega) w')
      by_cases he : lettersTo (Fl.of n) 5 = s.data.toList
      · have hf := Lib.hid (from_found hlt he)
        have hq := str_yes (s := s) he
        generalize lettersTo (Fl.of n) 5 = l at L hq
        clear he
        go_wp2_with (go_at_call 45; ((with_reducible refine (L.out _).mono ?_); rintro _ _ hgets; obtain ⟨rfl, _, rfl⟩ := hgets.get; clear hgets))
        go_returns
        refine ⟨?_, by (repeat' (first | (with_reducible exact Below.refl _ _) | (with_reducible refine Below.alloc ?_ ?_ _) | (with_reducible refine below_ext ?_ ?_ _) | (with_reducible refine Below.drew ?_) | (with_reducible refine below_drewN ?_ _) | (with_reducible refine Below.setCell ?_ ?_ _) | go_size | (simp only [go_sem]; omega) | (simp [go_sem]; done) | (simp [go_sem]; omega)))⟩
        rw [hf.out]
        rfl
      · have hq := str_no (s := s) he
        have HE2 := Lib.hid he
        generalize lettersTo (Fl.of n) 5 = l at L hq
        clear he
        go_wp2_with (go_at_call 45; ((with_reducible refine (L.out _).mono ?_); rintro _ _ hgets; obtain ⟨rfl, _, rfl⟩ := hgets.get; clear hgets))
        refine ⟨⟨n + 1, by omega, by go_num, by (repeat' (first | (with_reducible exact Below.refl _ _) | (with_reducible refine Below.alloc ?_ ?_ _) | (with_reducible refine below_ext ?_ ?_ _) | (with_reducible refine Below.drew ?_) | (with_reducible refine below_drewN ?_ _) | (with_reducible refine Below.setCell ?_ ?_ _) | go_size | (simp only [go_sem]; omega) | (simp [go_sem]; done) | (simp [go_sem]; omega))), fun j hj => ?_⟩, by simp [intOf]; omega⟩
        rcases Nat.lt_or_ge j n with h1 | h1
        · exact hr.out j h1
        · obtain rfl : j = n := by omega
          exact HE2.out
    · have hf := Lib.hid (from_none (s := s.data.toList) (fun j hj => hr.out j (by omega)))
      go_wp2
      go_returns
      refine ⟨?_, by (repeat' (first | (with_reducible exact Below.refl _ _) | (with_reducible refine Below.alloc ?_ ?_ _) | (with_reducible refine below_ext ?_ ?_ _) | (with_reducible refine Below.drew ?_) | (with_reducible refine below_drewN ?_ _) | (with_reducible refine Below.setCell ?_ ?_ _) | go_size | (simp only [go_sem]; omega) | (simp [go_sem]; done) | (simp [go_sem]; omega)))⟩
      rw [hf.out]
      rfl
end Go.Proofs.Ytmpbgjnkkapijaa
