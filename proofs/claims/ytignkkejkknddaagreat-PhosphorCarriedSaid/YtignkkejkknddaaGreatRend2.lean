/- Renditions: what the functions of rend and of the reference return.  -/
import Derived.Test.YtignkkejkknddaaGreatOwn
namespace Go.Proofs.YtignkkejkknddaaGreat
open Go.RowKit
set_option linter.unusedVariables false
set_option linter.unusedSimpArgs false

/-- A rendition, part by part: bold, underlined, blinking, reverse, hidden. -/
structure Fl where
  b : Bool
  u : Bool
  k : Bool
  r : Bool
  h : Bool
  deriving DecidableEq
def bi (x : Bool) (n : Int) : Int := if x then n else 0
def Fl.num (f : Fl) : Int := bi f.b 1 + bi f.u 2 + bi f.k 4 + bi f.r 8 + bi f.h 16
def Fl.of (r : Int) : Fl := ⟨r % 2 == 1, r / 2 % 2 == 1, r / 4 % 2 == 1, r / 8 % 2 == 1, r / 16 % 2 == 1⟩
def Fl.no : Fl := ⟨false, false, false, false, false⟩
def Fl.cells (f : Fl) : Array Value := #[.bool f.b, .bool f.u, .bool f.k, .bool f.r, .bool f.h]
def oneF (f : Fl) (n : Int) : Fl :=
  if n = 0 then Fl.no else if n = 1 then { f with b := true } else if n = 22 then { f with b := false } else if n = 4 then { f with u := true } else if n = 24 then { f with u := false }
  else if n = 5 then { f with k := true } else if n = 25 then { f with k := false } else if n = 7 then { f with r := true } else if n = 27 then { f with r := false }
  else if n = 8 then { f with h := true } else if n = 28 then { f with h := false } else f
def turnF (f : Fl) (n : Int) : Fl :=
  if n = 0 then ⟨!f.b, !f.u, !f.k, !f.r, f.h⟩ else if n = 1 then { f with b := !f.b } else if n = 4 then { f with u := !f.u } else if n = 5 then { f with k := !f.k }
  else if n = 7 then { f with r := !f.r } else if n = 8 then { f with h := !f.h } else f
def partI (n : Int) : Int := if n = 1 then 1 else if n = 4 then 2 else if n = 5 then 4 else if n = 7 then 8 else if n = 8 then 16 else 0
def endedI (n : Int) : Int := if n = 22 then 1 else if n = 24 then 2 else if n = 25 then 4 else if n = 27 then 8 else if n = 28 then 16 else 0

theorem Fl.num_of (f : Fl) : Fl.of f.num = f := by
  obtain ⟨b, u, k, r, h⟩ := f
  cases b <;> cases u <;> cases k <;> cases r <;> cases h <;> decide
theorem and31_all : ∀ k : Fin 256, (k.val : Int) % 32 = (Fl.of (k.val : Int)).num := by decide +kernel
theorem and31 {r : Int} (h : 0 ≤ r ∧ r ≤ 255) : r % 32 = (Fl.of r).num := by
  have := and31_all ⟨r.toNat, by omega⟩
  simpa [show ((r.toNat : Nat) : Int) = r by omega] using this
theorem one_all (f : Fl) : ∀ m ∈ [(1 : Int), 4, 5, 7, 8, 22, 24, 25, 27, 28, 2], bits .andNot .u8 (bits .or .u8 f.num (partI m)) (endedI m) = (oneF f m).num := by
  obtain ⟨b, u, k, r, h⟩ := f
  cases b <;> cases u <;> cases k <;> cases r <;> cases h <;> decide +kernel
theorem turn_all (f : Fl) : ∀ m ∈ [(1 : Int), 4, 5, 7, 8, 2], bits .xor .u8 f.num (partI m) = (turnF f m).num := by
  obtain ⟨b, u, k, r, h⟩ := f
  cases b <;> cases u <;> cases k <;> cases r <;> cases h <;> decide +kernel
theorem turn_zero (f : Fl) : bits .xor .u8 f.num 15 = (turnF f 0).num := by
  obtain ⟨b, u, k, r, h⟩ := f
  cases b <;> cases u <;> cases k <;> cases r <;> cases h <;> decide +kernel
theorem one_bits (f : Fl) (n : Int) (h0 : n ≠ 0) : bits .andNot .u8 (bits .or .u8 f.num (partI n)) (endedI n) = (oneF f n).num := by
  by_cases h : n ∈ [(1 : Int), 4, 5, 7, 8, 22, 24, 25, 27, 28]
  · simp at h
    exact one_all f n (by simp; omega)
  · simp at h
    have e1 : partI n = partI 2 := by unfold partI; simp [h]
    have e2 : endedI n = endedI 2 := by unfold endedI; simp [h]
    have e3 : oneF f n = oneF f 2 := by unfold oneF; simp [h, h0]
    rw [e1, e2, e3]
    exact one_all f 2 (by simp)
theorem turn_bits (f : Fl) (n : Int) (h0 : n ≠ 0) : bits .xor .u8 f.num (partI n) = (turnF f n).num := by
  by_cases h : n ∈ [(1 : Int), 4, 5, 7, 8]
  · simp at h
    exact turn_all f n (by simp; omega)
  · simp at h
    have e1 : partI n = partI 2 := by unfold partI; simp [h]
    have e3 : turnF f n = turnF f 2 := by unfold turnF; simp [h, h0]
    rw [e1, e3]
    exact turn_all f 2 (by simp)

set_option maxHeartbeats 400000 in
theorem part_c (n : Int) (w : World) : Calls Tryz.prog 148 #[.int .i64 n] w (Same w (.int .u8 (partI n))) := by
  go_enter Tryz.func148, Tryz.ntmps148
  go_wp2
  all_goals go_returns
  all_goals refine ⟨ret_int ?_, rfl⟩
  all_goals unfold partI
  all_goals simp_all

set_option maxHeartbeats 400000 in
theorem ended_c (n : Int) (w : World) : Calls Tryz.prog 149 #[.int .i64 n] w (Same w (.int .u8 (endedI n))) := by
  by_cases h : n ∈ [(22 : Int), 24, 25, 27, 28]
  · simp at h
    rcases h with rfl | rfl | rfl | rfl | rfl
    all_goals
      go_enter Tryz.func149, Tryz.ntmps149
      go_wp2
      go_returns
      exact ⟨rfl, rfl⟩
  · simp at h
    obtain ⟨h1, h2, h3, h4, h5⟩ := h
    go_enter Tryz.func149, Tryz.ntmps149
    go_wp2
    go_returns
    refine ⟨ret_int ?_, rfl⟩
    unfold endedI
    simp [h1, h2, h3, h4, h5]

set_option maxHeartbeats 400000 in
theorem one_c (f : Fl) (n : Int) (w : World) : Calls Tryz.prog 144 #[.int .u8 f.num, .int .i64 n] w (Same w (.int .u8 (oneF f n).num)) := by
  by_cases h : n = 0
  · subst h
    go_enter Tryz.func144, Tryz.ntmps144
    go_wp2
    go_returns
    exact ⟨rfl, rfl⟩
  · have hb := Lib.hid (one_bits f n h)
    go_enter Tryz.func144, Tryz.ntmps144
    go_wp2_with (first | (go_at_call 148; ((with_reducible refine (part_c _ _).mono ?_); rintro _ _ ⟨rfl, rfl⟩)) | (go_at_call 149; ((with_reducible refine (ended_c _ _).mono ?_); rintro _ _ ⟨rfl, rfl⟩)))
    go_returns
    exact ⟨ret_int hb.out, rfl⟩

set_option maxHeartbeats 400000 in
theorem turn_c (f : Fl) (n : Int) (w : World) : Calls Tryz.prog 145 #[.int .u8 f.num, .int .i64 n] w (Same w (.int .u8 (turnF f n).num)) := by
  by_cases h : n = 0
  · subst h
    have hb := Lib.hid (turn_zero f)
    go_enter Tryz.func145, Tryz.ntmps145
    go_wp2
    go_returns
    exact ⟨ret_int hb.out, rfl⟩
  · have hb := Lib.hid (turn_bits f n h)
    go_enter Tryz.func145, Tryz.ntmps145
    go_wp2_with (go_at_call 148; ((with_reducible refine (part_c _ _).mono ?_); rintro _ _ ⟨rfl, rfl⟩))
    go_returns
    exact ⟨ret_int hb.out, rfl⟩

def foldR (F : Fl → Int → Fl) (f : Fl) (xs : List Int) : Fl := if xs = [] then F f 0 else xs.foldl F f
theorem foldl_take (F : Fl → Int → Fl) (f : Fl) (xs : List Int) (k : Nat) (h : k < xs.length) : (xs.take (k + 1)).foldl F f = F ((xs.take k).foldl F f) xs[k] := by
  rw [List.take_succ_eq_append_getElem h, List.foldl_append]; rfl

end Go.Proofs.YtignkkejkknddaaGreat
/- Renditions: the loops over the numbers, and what turns a rendition into parts and back.  -/
namespace Go.Proofs.YtignkkejkknddaaGreat
open Go.RowKit
set_option linter.unusedVariables false
set_option linter.unusedSimpArgs false

set_option maxHeartbeats 1000000 in
theorem each_one (r : Int) (hr0 : 0 ≤ r) (hr1 : r ≤ 255) (a : Option Addr) (c : Nat) (xs : List Int) (w : World) (hx : Ints w a xs) (hm : xs.length ≤ 9223372036854775807) :
    Calls Tryz.prog 143 #[.int .u8 r, .slice a xs.length c, .func (.func 144) #[] #[]] w (Same w (.int .u8 (foldR oneF (Fl.of r) xs).num)) := by
  have hand := and31 ⟨hr0, hr1⟩
  by_cases h0 : xs = []
  · subst h0
    have H := Lib.hid hand
    have hb := fun w => one_c (Fl.of r) 0 w
    rw [← hand] at hb
    have HB := Lib.hid hb
    clear hb hand
    go_enter Tryz.func143, Tryz.ntmps143
    go_wp2_with (go_at_call 144; ((with_reducible refine (HB.out _).mono ?_); rintro _ _ ⟨rfl, rfl⟩))
    go_returns
    exact ⟨rfl, rfl⟩
  · have hl : 0 < xs.length := by rcases xs with _ | _ <;> simp_all
    have hne : ((xs.length : Int) == 0) = false := by simp; omega
    have H := Lib.hid hand
    have HE := Lib.hid (show foldR oneF (Fl.of r) xs = xs.foldl oneF (Fl.of r) by unfold foldR; rw [if_neg h0])
    clear hand h0
    go_enter Tryz.func143, Tryz.ntmps143
    go_wp2
    go_loop [0, 19] (fun v i => ∃ k : Nat, k ≤ xs.length ∧ i = .int .i64 k ∧ v = .int .u8 ((xs.take k).foldl oneF (Fl.of r)).num) (fun _ i => xs.length - (intOf i).toNat)
    case atStart => exact ⟨0, by omega, rfl, by rw [H.out]; rfl⟩
    case round =>
      obtain ⟨k, hk, rfl, rfl⟩ := hrel
      by_cases hlt : k < xs.length
      · obtain ⟨b1, o1, rfl, hb1, hc1⟩ := hx.cell hlt
        have HF := Lib.hid (foldl_take oneF (Fl.of r) xs k hlt)
        go_wp2_with (go_at_call 144; ((with_reducible refine (one_c _ _ _).mono ?_); rintro _ _ ⟨rfl, rfl⟩))
        go_round
        case rel => exact ⟨k + 1, by omega, by go_num, by rw [HF.out]⟩
        case measure => simp [intOf]; omega
      · go_wp2
        go_returns
        refine ⟨ret_int ?_, rfl⟩
        rw [HE.out, List.take_of_length_le (by omega)]

set_option maxHeartbeats 1000000 in
theorem each_turn (r : Int) (hr0 : 0 ≤ r) (hr1 : r ≤ 255) (a : Option Addr) (c : Nat) (xs : List Int) (w : World) (hx : Ints w a xs) (hm : xs.length ≤ 9223372036854775807) :
    Calls Tryz.prog 143 #[.int .u8 r, .slice a xs.length c, .func (.func 145) #[] #[]] w (Same w (.int .u8 (foldR turnF (Fl.of r) xs).num)) := by
  have hand := and31 ⟨hr0, hr1⟩
  by_cases h0 : xs = []
  · subst h0
    have H := Lib.hid hand
    have hb := fun w => turn_c (Fl.of r) 0 w
    rw [← hand] at hb
    have HB := Lib.hid hb
    clear hb hand
    go_enter Tryz.func143, Tryz.ntmps143
    go_wp2_with (go_at_call 145; ((with_reducible refine (HB.out _).mono ?_); rintro _ _ ⟨rfl, rfl⟩))
    go_returns
    exact ⟨rfl, rfl⟩
  · have hl : 0 < xs.length := by rcases xs with _ | _ <;> simp_all
    have hne : ((xs.length : Int) == 0) = false := by simp; omega
    have H := Lib.hid hand
    have HE := Lib.hid (show foldR turnF (Fl.of r) xs = xs.foldl turnF (Fl.of r) by unfold foldR; rw [if_neg h0])
    clear hand h0
    go_enter Tryz.func143, Tryz.ntmps143
    go_wp2
    go_loop [0, 19] (fun v i => ∃ k : Nat, k ≤ xs.length ∧ i = .int .i64 k ∧ v = .int .u8 ((xs.take k).foldl turnF (Fl.of r)).num) (fun _ i => xs.length - (intOf i).toNat)
    case atStart => exact ⟨0, by omega, rfl, by rw [H.out]; rfl⟩
    case round =>
      obtain ⟨k, hk, rfl, rfl⟩ := hrel
      by_cases hlt : k < xs.length
      · obtain ⟨b1, o1, rfl, hb1, hc1⟩ := hx.cell hlt
        have HF := Lib.hid (foldl_take turnF (Fl.of r) xs k hlt)
        go_wp2_with (go_at_call 145; ((with_reducible refine (turn_c _ _ _).mono ?_); rintro _ _ ⟨rfl, rfl⟩))
        go_round
        case rel => exact ⟨k + 1, by omega, by go_num, by rw [HF.out]⟩
        case measure => simp [intOf]; omega
      · go_wp2
        go_returns
        refine ⟨ret_int ?_, rfl⟩
        rw [HE.out, List.take_of_length_le (by omega)]

set_option maxHeartbeats 400000 in
theorem apply_c (r : Int) (hr0 : 0 ≤ r) (hr1 : r ≤ 255) (a : Option Addr) (c : Nat) (xs : List Int) (w : World) (hx : Ints w a xs) (hm : xs.length ≤ 9223372036854775807) :
    Calls Tryz.prog 140 #[.int .u8 r, .slice a xs.length c] w (Same w (.int .u8 (foldR oneF (Fl.of r) xs).num)) := by
  have E := Lib.hid (fun w' (h : Ints w' a xs) => each_one r hr0 hr1 a c xs w' h hm)
  have X := Lib.hid hx
  clear hx
  go_enter Tryz.func140, Tryz.ntmps140
  go_wp2_with (go_at_call 143; ((with_reducible refine (E.out _ (by repeat (first | exact X.out | exact X | refine Rd.ext ?_ _ | refine Rd.alloc ?_ _ | refine Rd.drew ?_))).mono ?_); rintro _ _ ⟨rfl, rfl⟩))
  go_returns
  exact ⟨rfl, rfl⟩
set_option maxHeartbeats 400000 in
theorem flip_c (r : Int) (hr0 : 0 ≤ r) (hr1 : r ≤ 255) (a : Option Addr) (c : Nat) (xs : List Int) (w : World) (hx : Ints w a xs) (hm : xs.length ≤ 9223372036854775807) :
    Calls Tryz.prog 141 #[.int .u8 r, .slice a xs.length c] w (Same w (.int .u8 (foldR turnF (Fl.of r) xs).num)) := by
  have E := Lib.hid (fun w' (h : Ints w' a xs) => each_turn r hr0 hr1 a c xs w' h hm)
  have X := Lib.hid hx
  clear hx
  go_enter Tryz.func141, Tryz.ntmps141
  go_wp2_with (go_at_call 143; ((with_reducible refine (E.out _ (by repeat (first | exact X.out | exact X | refine Rd.ext ?_ _ | refine Rd.alloc ?_ _ | refine Rd.drew ?_))).mono ?_); rintro _ _ ⟨rfl, rfl⟩))
  go_returns
  exact ⟨rfl, rfl⟩

def Fl.v (f : Fl) : Value := .agg #[.bool f.b, .bool f.u, .bool f.k, .bool f.r, .bool f.h]
end Go.Proofs.YtignkkejkknddaaGreat
