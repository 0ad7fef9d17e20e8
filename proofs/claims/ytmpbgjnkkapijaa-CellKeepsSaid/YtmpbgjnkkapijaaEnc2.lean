/- Runs as bytes: what the program's function returns. -/
import Derived.Test.YtmpbgjnkkapijaaEnc
namespace Go.Proofs.Ytmpbgjnkkapijaa
open Go.RowKit
set_option linter.unusedVariables false
set_option linter.unusedSimpArgs false

set_option maxRecDepth 100000 in
set_option maxHeartbeats 4000000 in
theorem bytes_c (g r : Int) (k : Bool) (n : Nat) (hg : -2147483648 ≤ g ∧ g ≤ 2147483647) (hr : 0 ≤ r ∧ r ≤ 255) (hn : n ≤ 255) (w : World) :
    Calls Try.prog 52 #[.agg #[.int .i32 g, .int .u8 r, .bool k, .int .i64 n]] w (Gives w (.agg #[.int .u8 n, .int .u8 (g % 4294967296 / 16777216), .int .u8 (g % 4294967296 / 65536 % 256), .int .u8 (g % 4294967296 / 256 % 256), .int .u8 (g % 4294967296 % 256), .int .u8 r, .int .u8 (bi k 1)])) := by
  obtain ⟨g0, g1⟩ := hg
  obtain ⟨r0, r1⟩ := hr
  rw [show g % 4294967296 % 256 = g % 256 by omega]
  cases k
  all_goals
    go_enter Try.func52, Try.ntmps52
    go_wp2
    go_returns
    exact ⟨rfl, by (repeat' (first | (with_reducible exact Below.refl _ _) | (with_reducible refine Below.alloc ?_ ?_ _) | (with_reducible refine below_ext ?_ ?_ _) | (with_reducible refine Below.drew ?_) | (with_reducible refine below_drewN ?_ _) | (with_reducible refine Below.setCell ?_ ?_ _) | go_size | (simp only [go_sem]; omega) | (simp [go_sem]; done) | (simp [go_sem]; omega)))⟩

/-- a list of bytes of the call's own -/
def NewB (U : World) (l : List Int) (s : Value) (wx : World) : Prop := ∃ A c, s = .slice A l.length c ∧ Below U.heap.size U wx ∧ Own (encI .u8) 1 5 U.heap.size wx (.slice A l.length c) l
def NewBs (w : World) (l : List Int) (e : Ending) (w' : World) : Prop := ∃ s, e = .returned s ∧ NewB w l s w'
theorem NewB.get {U wx : World} {l : List Int} {s : Value} (h : NewB U l s wx) : ∃ A c x, s = .slice A l.length c ∧ wx = ext U x ∧ Own (encI .u8) 1 5 U.heap.size (ext U x) (.slice A l.length c) l := by
  obtain ⟨A, c, rfl, hB, hO⟩ := h
  obtain ⟨x, rfl⟩ := ext_of hB
  exact ⟨A, c, x, rfl, rfl, hO⟩
theorem byte_info : (Try.prog.info? 5).map (fun i => (i.zero, i.size, i.bytes)) = some (some (.int .u8 0), 1, 1) := by kernel_rfl
theorem seven_new {w : World} {g : Nat} (e : TypeId) (a b c d f h i : Int) (hg : g = w.heap.size) : Rd (encI .u8) 1 (w.alloc (.cells #[.int .u8 a, .int .u8 b, .int .u8 c, .int .u8 d, .int .u8 f, .int .u8 h, .int .u8 i] e)) (some ⟨g, 0, none⟩) [a, b, c, d, f, h, i] :=
  (Own.new (B := 0) (e := e) (encI_len _) hg (xs := [a, b, c, d, f, h, i]) (rfl : (7 : Nat) = [a, b, c, d, f, h, i].length) _ rfl (Nat.zero_le _) (by simp [maxLen])).rd (encI_len _)
theorem Rd.cell4 {w : World} {a : Option Addr} {cs : List Rn} (h : Rd encRn 4 w a cs) {k : Nat} (hk : k < cs.length) :
    ∃ b off, a = some ⟨b, off, none⟩ ∧ b < w.heap.size ∧ w.cell? ⟨b, off + k * 4, none⟩ = some (.int .i32 cs[k].c.g) ∧ w.cell? ⟨b, off + k * 4 + 1, none⟩ = some (.int .u8 cs[k].c.r) ∧ w.cell? ⟨b, off + k * 4 + 2, none⟩ = some (.bool cs[k].c.k) ∧ w.cell? ⟨b, off + k * 4 + 3, none⟩ = some (.int .i64 cs[k].n) := by
  obtain ⟨b, off, e, hlt, hc⟩ := h (by omega)
  exact ⟨b, off, e, hlt, hc k hk 0 _ rfl, hc k hk 1 _ rfl, hc k hk 2 _ rfl, hc k hk 3 _ rfl⟩
theorem encL_take (rs : List Rn) (k : Nat) (h : k < rs.length) : encL (rs.take (k + 1)) = encL (rs.take k) ++ encRun rs[k] := by
  rw [List.take_succ_eq_append_getElem h, encL_append]
  simp [encL]

set_option maxRecDepth 100000 in
set_option maxHeartbeats 4000000 in
theorem encode_c (a : Option Addr) (c : Nat) (xs : List Cl) (w : World) (hx : Rd encC 3 w a xs) (hm : xs.length ≤ 26000) (hok : ∀ x ∈ xs, x.ok) :
    Calls Try.prog 24 #[.slice a xs.length c] w (NewBs w (encL (runsL xs))) := by
  have R := Lib.hid (runs_c a c xs w hx hm)
  have OK := Lib.hid (runs_ok xs hok)
  have hl : (runsL xs).length ≤ 26000 := by have := runs_len xs; omega
  clear hx hok
  generalize runsL xs = L at R OK hl
  go_enter Try.func24, Try.ntmps24
  go_wp2_with (go_at_call 51; (with_reducible refine R.out.mono ?_); rintro _ _ ⟨s, rfl, hN⟩; obtain ⟨A, cc, x1, rfl, rfl, hO⟩ := hN.get; clear hN; have X := Lib.hid (hO.rd encRn_len); clear hO)
  generalize hU : ext w x1 = U at X
  have hUB : Below w.heap.size w U := by subst hU; (repeat' (first | (with_reducible exact Below.refl _ _) | (with_reducible refine Below.alloc ?_ ?_ _) | (with_reducible refine below_ext ?_ ?_ _) | (with_reducible refine Below.drew ?_) | (with_reducible refine below_drewN ?_ _) | (with_reducible refine Below.setCell ?_ ?_ _) | go_size | (simp only [go_sem]; omega) | (simp [go_sem]; done) | (simp [go_sem]; omega)))
  have hUs := hUB.size
  clear hU
  go_loopw [3, 10] (fun v i wr => ∃ k : Nat, k ≤ L.length ∧ i = .int .i64 k ∧ NewB U (encL (L.take k)) v wr) (fun _ i _ => L.length - (intOf i).toNat)
  case atStart => exact ⟨0, by omega, rfl, none, 0, rfl, Below.refl _ _, Own.nil _ _ _ _ _⟩
  case round =>
    obtain ⟨k, hk, rfl, hN⟩ := hrel
    obtain ⟨B, bc, x, rfl, rfl, hO⟩ := hN.get
    clear hN
    by_cases hlt : k < L.length
    · obtain ⟨b1, o1, rfl, hb1, d0, d1, d2, d3⟩ := X.out.cell4 hlt
      have HS := Lib.hid (encL_take L k hlt)
      have q1 := OK.out L[k] (List.getElem_mem hlt)
      have hel : (encL (L.take k)).length ≤ 182000 := by rw [encL_len]; simp; omega
      generalize encL (L.take k) = E at hO HS hel
      generalize L[k] = q at d0 d1 d2 d3 HS q1
      obtain ⟨⟨qg, qr, qk⟩, qn⟩ := q
      obtain ⟨⟨q1, q2⟩, q3, q4⟩ := q1
      have BY := Lib.hid (fun w' => bytes_c qg qr qk qn q1 q2 q4 w')
      simp only [encRun] at d0 d1 d2 d3 HS
      generalize qg % 4294967296 / 16777216 = e1 at BY HS
      generalize qg % 4294967296 / 65536 % 256 = e2 at BY HS
      generalize qg % 4294967296 / 256 % 256 = e3 at BY HS
      generalize qg % 4294967296 % 256 = e4 at BY HS
      generalize bi qk 1 = e6 at BY HS
      replace hO := Lib.hid hO
      clear q1 q2 q3 q4
      go_wp2_with (first
        | (go_at_call 52; ((with_reducible refine (BY.out _).mono ?_); rintro _ _ hgets; obtain ⟨rfl, x2, rfl⟩ := hgets.get; clear hgets))
        | (at_builtin
           refine append_rd (U := U) (.tmp 16) (.tmp 17) 37 5 _ 1 rfl rfl Try.underlying37 byte_info rfl (by omega) (encI_len _) (encI_one _) E [(qn : Int), e1, e2, e3, e4, qr, e6] _ _ _ rfl rfl ?_ (((hO.out.alloc _).ext _).alloc _) (seven_new _ _ _ _ _ _ _ _ (by simp [go_sem])) (by simp [maxLen]; omega) (by simp; omega) ?_
           · (repeat' (first | (with_reducible exact Below.refl _ _) | (with_reducible refine Below.alloc ?_ ?_ _) | (with_reducible refine below_ext ?_ ?_ _) | (with_reducible refine Below.drew ?_) | (with_reducible refine below_drewN ?_ _) | (with_reducible refine Below.setCell ?_ ?_ _) | go_size | (simp only [go_sem]; omega) | (simp [go_sem]; done) | (simp [go_sem]; omega)))
           intro A' c' x3 zs hz1 hO1
           have hO2 := Lib.hid hO1
           have hz := Lib.hid hz1
           clear hO1 hz1))
      go_roundw
      case rel => exact ⟨k + 1, by omega, by go_num, by rw [HS.out, ← hz.out]; exact ⟨_, _, rfl, by (repeat' (first | (with_reducible exact Below.refl _ _) | (with_reducible refine Below.alloc ?_ ?_ _) | (with_reducible refine below_ext ?_ ?_ _) | (with_reducible refine Below.drew ?_) | (with_reducible refine below_drewN ?_ _) | (with_reducible refine Below.setCell ?_ ?_ _) | go_size | (simp only [go_sem]; omega) | (simp [go_sem]; done) | (simp [go_sem]; omega))), hO2.out⟩⟩
      case measure => simp [intOf]; omega
    · have e := Lib.hid (show encL (L.take k) = encL L by rw [List.take_of_length_le (by omega)])
      generalize encL (L.take k) = E at hO e
      replace hO := Lib.hid hO
      go_wp2
      go_returns
      refine ⟨_, rfl, ?_⟩
      rw [← e.out]
      exact ⟨_, _, rfl, hUB.trans ((below_of_ext _ _).mono hUs), hO.out.mono hUs⟩
end Go.Proofs.Ytmpbgjnkkapijaa
