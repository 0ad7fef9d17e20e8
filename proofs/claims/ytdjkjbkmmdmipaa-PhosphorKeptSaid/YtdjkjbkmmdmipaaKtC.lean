/- reply.FromHex of two digits; macro.piece of a text that begins with two.  -/
import Derived.Test.YtdjkjbkmmdmipaaKtB
import Derived.Test.YtdjkjbkmmdmipaaBytesStr
namespace Go.Proofs.Ytdjkjbkmmdmipaa
open Go.RowKit
set_option linter.unusedVariables false
set_option linter.unusedSimpArgs false

theorem or_all : ((List.range 16).all fun a => (List.range 16).all fun b => bits BinOp.or IntKind.i64 (wrap64 ((a : Int) * 16)) (b : Int) % 256 == ((16 * a + b : Nat) : Int)) = true := by decide +kernel
theorem or_four (a b : Nat) (h : a < 16) (h2 : b < 16) : bits BinOp.or IntKind.i64 (wrap64 ((a : Int) * 16)) (b : Int) % 256 = ((16 * a + b : Nat) : Int) := by
  have := List.all_eq_true.1 (List.all_eq_true.1 or_all a (List.mem_range.2 h)) b (List.mem_range.2 h2)
  exact beq_iff_eq.1 this
theorem byte_infoK : (Try.prog.info? 5).map (fun i => (i.zero, i.size, i.bytes)) = some (some (.int .u8 0), 1, 1) := by kernel_rfl
theorem byte_newK {w : World} {g : Nat} (e : TypeId) (n : Int) (hg : g = w.heap.size) : Rd (encI .u8) 1 (w.alloc (.cells #[.int .u8 n] e)) (some ⟨g, 0, none⟩) [n] :=
  (Own.new (B := 0) (e := e) (encI_len _) hg (xs := [n]) (rfl : (1 : Nat) = [n].length) _ rfl (Nat.zero_le _) (by simp [maxLen])).rd (encI_len _)
/-- a text of two digits -/
def twoS (a b : Nat) : ByteArray := ⟨#[digK a, digK b]⟩
theorem two_at0 (a b : Nat) (w : World) : (Instr.index 9 (.string (twoS a b)) (.int .i64 0)).run Try.prog w = .ok (.int .u8 ((digK a).toNat : Int)) w := by kernel_rfl
theorem two_at1 (a b : Nat) (w : World) : (Instr.index 9 (.string (twoS a b)) (.int .i64 1)).run Try.prog w = .ok (.int .u8 ((digK b).toNat : Int)) w := by kernel_rfl
theorem two_len (a b : Nat) : (twoS a b).size = 2 := rfl
set_option maxRecDepth 100000 in
set_option maxHeartbeats 8000000 in
theorem fromhex_c (a b : Nat) (ha : a < 16) (hb : b < 16) (w : World) : Calls Try.prog 21 #[.string (twoS a b)] w (Gives w (.tuple #[.string (strOf [((16 * a + b : Nat) : Int)]), .int .i64 0])) := by
  have DA := Lib.hid (fun w' => digit_c a ha w')
  have DB := Lib.hid (fun w' => digit_c b hb w')
  have X0 := two_at0 a b
  have X1 := two_at1 a b
  have EQ := or_four a b ha hb
  have hl := two_len a b
  have a0 : decide ((a : Int) < 0) = false := by simp
  have b0 : decide ((b : Int) < 0) = false := by simp
  generalize twoS a b = s at *
  generalize ((digK a).toNat : Int) = c1 at *
  generalize ((digK b).toNat : Int) = c2 at *
  generalize ((16 * a + b : Nat) : Int) = q at *
  clear ha hb
  generalize (a : Int) = x at *
  generalize (b : Int) = y at *
  go_enter Try.func21, Try.ntmps21
  go_wp2
  go_loopw [5, 4] (fun iv ov wr => (iv = .int .i64 0 ∧ ov = .slice none 0 0 ∧ wr = w) ∨ (iv = .int .i64 2 ∧ ∃ A c, ov = .slice A 1 c ∧ Hid (Own (encI .u8) 1 5 w.heap.size wr (.slice A 1 c) [q]) ∧ Hid (Below w.heap.size w wr))) (fun iv ov _ => 2 - (intOf iv).toNat)
  case atStart => exact .inl ⟨rfl, rfl, rfl⟩
  case round =>
    rcases hrel with ⟨rfl, rfl, rfl⟩ | ⟨rfl, A, c, rfl, hO, hB⟩
    · go_upto_region 7 with fail
      (refine wp_region_free (by kernel_rfl) (by kernel_rfl) ?_)
      repeat (go_big_quiet_step (first
        | ((go_at_call 28; with_reducible exact Calls.free (DA.out _)))
        | ((go_at_call 28; with_reducible exact Calls.free (DB.out _)))))
      refine wpQuiet_nil ?_; rintro _ ⟨x1, rfl⟩
      go_wp2_with (at_builtin
                   refine append_rd (U := wr) (.tmp 33) (.tmp 39) 34 5 _ 1 rfl rfl Try.underlying34 byte_infoK rfl (by omega) (encI_len _) (encI_one _) [] [q] _ _ _ rfl rfl ?_ (Own.nil _ _ _ _ _) (byte_newK _ _ (by simp [go_sem])) (by simp [maxLen]) (by simp) ?_
                   · (repeat' (first | (with_reducible exact Below.refl _ _) | (with_reducible refine Below.alloc ?_ ?_ _) | (with_reducible refine below_ext ?_ ?_ _) | (with_reducible refine Below.drew ?_) | (with_reducible refine below_drewN ?_ _) | (with_reducible refine Below.setCell ?_ ?_ _) | go_size | (simp only [go_sem]; omega) | (simp [go_sem]; done) | (simp [go_sem]; omega)))
                   rintro A1 c1 x2 zs rfl hO)
      exact ⟨.inr ⟨by first | rfl | go_num, _, _, rfl, Lib.hid hO, Lib.hid (by (repeat' (first | (with_reducible exact Below.refl _ _) | (with_reducible refine Below.alloc ?_ ?_ _) | (with_reducible refine below_ext ?_ ?_ _) | (with_reducible refine Below.drew ?_) | (with_reducible refine below_drewN ?_ _) | (with_reducible refine Below.setCell ?_ ?_ _) | go_size | (simp only [go_sem]; omega) | (simp [go_sem]; done) | (simp [go_sem]; omega))))⟩, by simp [intOf]⟩
    · have CN := conv_rd (c := c) (hO.out.rd (encI_len _))
      simp only [List.length_cons, List.length_nil, Nat.zero_add] at CN
      have hB' := hB.out
      go_wp2
      go_returns
      exact ⟨rfl, hB'⟩
def tailS (s : ByteArray) : ByteArray := s.extract 2 s.size
theorem dig_not : ((List.range 16).all fun k => ((digK k).toNat : Int) != 33) = true := by decide +kernel
theorem u8_mk (x : UInt8) : ((16 * (x.toNat / 16) + x.toNat % 16 : Nat) : Int) = (x.toNat : Int) := by omega
theorem strOf_u8 (x : UInt8) : strOf [(x.toNat : Int)] = ⟨#[x]⟩ := by
  show ByteArray.push ByteArray.empty (UInt8.ofNat ((x.toNat : Int)).toNat) = _
  rw [Int.toNat_natCast, UInt8.ofNat_toNat]
  rfl
section
variable {s : ByteArray} {x : UInt8} {r : List UInt8}
theorem hx_size (hs : s.data.toList = hexL (x :: r)) : s.size = 2 * r.length + 2 := by
  have h := congrArg List.length hs
  rw [hexL_length] at h
  simp only [List.length_cons] at h
  have : s.data.toList.length = s.size := rfl
  omega
theorem hx_two (hs : s.data.toList = hexL (x :: r)) : s.extract 0 2 = twoS (x.toNat / 16) (x.toNat % 16) := by
  have : (s.extract 0 2).data.toList = (s.data.toList.drop 0).take 2 := by simp
  rw [hs] at this
  unfold twoS
  rw [← show (s.extract 0 2).data = #[digK (x.toNat / 16), digK (x.toNat % 16)] from Array.toList_inj.1 (by rw [this]; rfl)]
theorem hx_tail (hs : s.data.toList = hexL (x :: r)) : (tailS s).data.toList = hexL r := by
  have h2 := hx_size hs
  have : (tailS s).data.toList = (s.data.toList.drop 2).take (s.size - 2) := by unfold tailS; simp
  rw [this, hs]
  show (hexL r).take (s.size - 2) = hexL r
  rw [List.take_of_length_le (by rw [hexL_length]; omega)]
theorem hx_at0 (hs : s.data.toList = hexL (x :: r)) (w : World) : (Instr.index 9 (.string s) (.int .i64 0)).run Try.prog w = .ok (.int .u8 ((digK (x.toNat / 16)).toNat : Int)) w := by
  have h2 := hx_size hs
  have h1 : s[0] = digK (x.toNat / 16) := by
    have : s.data.toList[0]? = some (digK (x.toNat / 16)) := by rw [hs]; rfl
    have h3 : s.data.toList[0]? = some s[0] := List.getElem?_eq_getElem _
    rw [h3] at this
    exact Option.some.inj this
  simp [go_sem, h2, h1]
  intro h
  omega
end
set_option maxRecDepth 100000 in
set_option maxHeartbeats 8000000 in
theorem piece_c (s : ByteArray) (x : UInt8) (r : List UInt8) (hs : s.data.toList = hexL (x :: r)) (w : World) :
    Calls Try.prog 15 #[.string s] w (Gives w (.tuple #[.string ⟨#[x]⟩, .int .i64 1, .string (tailS s), .bool true])) := by
  have hx8 : x.toNat < 256 := x.toNat_lt
  have FH := Lib.hid (fun w' => fromhex_c (x.toNat / 16) (x.toNat % 16) (by omega) (by omega) w')
  rw [u8_mk, strOf_u8, ← hx_two hs] at FH
  have R0 := hx_at0 hs
  have hz := hx_size hs
  have n0 := List.all_eq_true.1 dig_not (x.toNat / 16) (List.mem_range.2 (by omega))
  generalize ((digK (x.toNat / 16)).toNat : Int) = c at *
  clear hs hx8
  obtain ⟨z, hz2⟩ : ∃ z : Int, z = s.size := ⟨_, rfl⟩
  have l1 : decide ((s.size : Int) < 2) = false := decide_eq_false (by omega)
  have l2 : 2 ≤ s.size := by omega
  have n1 : (c == 33) = false := by simpa using n0
  clear hz hz2 n0
  unfold tailS
  go_enter Try.func15, Try.ntmps15
  go_upto_region 4 with fail
  go_upto_region 5 with (go_at_call 21; ((with_reducible refine (FH.out _).mono ?_); rintro _ _ hgets; obtain ⟨rfl, x1, rfl⟩ := hgets.get; clear hgets))
  (refine wp_region_free (by kernel_rfl) (by kernel_rfl) ?_)
  repeat (go_big_quiet_step (first | fail))
  refine wpQuiet_nil ?_; rintro _ ⟨x2, rfl⟩
  go_wp2
  go_returns
  exact ⟨rfl, by (repeat' (first | (with_reducible exact Below.refl _ _) | (with_reducible refine Below.alloc ?_ ?_ _) | (with_reducible refine below_ext ?_ ?_ _) | (with_reducible refine Below.drew ?_) | (with_reducible refine below_drewN ?_ _) | (with_reducible refine Below.setCell ?_ ?_ _) | go_size | (simp only [go_sem]; omega) | (simp [go_sem]; done) | (simp [go_sem]; omega)))⟩
theorem repeat_one (s : ByteArray) (w : World) : Calls Try.prog 18 #[.string s, .int .i64 1] w (Gives w (.string s)) := by
  go_enter Try.func18, Try.ntmps18
  go_wp2
  all_goals first | go_returns | go_ret
  all_goals exact ⟨rfl, by (repeat' (first | (with_reducible exact Below.refl _ _) | (with_reducible refine Below.alloc ?_ ?_ _) | (with_reducible refine below_ext ?_ ?_ _) | (with_reducible refine Below.drew ?_) | (with_reducible refine below_drewN ?_ _) | (with_reducible refine Below.setCell ?_ ?_ _) | go_size | (simp only [go_sem]; omega) | (simp [go_sem]; done) | (simp [go_sem]; omega)))⟩
end Go.Proofs.Ytdjkjbkmmdmipaa
