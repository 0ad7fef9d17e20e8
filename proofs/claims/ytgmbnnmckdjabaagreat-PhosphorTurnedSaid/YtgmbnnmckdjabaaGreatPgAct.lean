/- Pages: an act of the laws.  -/
import Derived.Test.YtgmbnnmckdjabaaGreatPgA
import Derived.Test.YtgmbnnmckdjabaaGreatLineB
namespace Go.Proofs.YtgmbnnmckdjabaaGreat
open Go.RowKit
set_option linter.unusedVariables false
set_option linter.unusedSimpArgs false

theorem ext_nil (w : World) : w = ext w ⟨#[], w.drawn⟩ := by simp [ext]
/-- an act: its numbers, its cell, its lists -/
structure ActD where
  kd : Int
  n : Int
  b : BxI
  r : Int
  c : Int
  y : Cl
  pa : Option Addr
  pc : Nat
  ps : List Int
  ra : Option Addr
  rc : Nat
  rw : List Cl
def ActD.cells (a : ActD) : List Value := [.int .i64 a.kd, .int .i64 a.n, .int .i64 a.b.t, .int .i64 a.b.l, .int .i64 a.b.b, .int .i64 a.b.r, .int .i64 a.r, .int .i64 a.c, .int .i32 a.y.g, .int .u8 a.y.r, .bool a.y.k, .slice a.pa a.ps.length a.pc, .slice a.ra a.rw.length a.rc]
def ActD.v (a : ActD) : Value := .agg a.cells.toArray
/-- what is true of every act that is handed over -/
structure ActD.Ok (a : ActD) (w : World) : Prop where
  r1 : -9223372036854775808 ≤ a.r
  c1 : -9223372036854775808 ≤ a.c
  y : a.y.ok
  ps : Ints w a.pa a.ps
  pl : a.ps.length ≤ a.pc
  pm : a.pc ≤ 9223372036854775807
  pn : a.pa = none → a.pc = 0
  rw : Rd encC 3 w a.ra a.rw
  rl : a.rw.length ≤ a.rc
  rm : a.rc ≤ 9223372036854775807
  rn : a.ra = none → a.rc = 0
  ro : ∀ y ∈ a.rw, y.ok
/-- no more than is played -/
def ActD.few (a : ActD) : ActD := { a with ps := a.ps.take 8, rw := a.rw.take 60, n := if a.kd = 14 then clampR a.n (-1) 30 else a.n, c := if a.kd = 14 then clampR a.c (-1) 30 else a.c }
theorem Rd.take' {α : Type} {enc : α → List Value} {size : Nat} {w : World} {a : Option Addr} {xs : List α} (h : Rd enc size w a xs) (k : Nat) : Rd enc size w a (xs.take k) := fun h0 => by
  have h1 : 0 < xs.length := by rw [List.length_take] at h0; omega
  obtain ⟨b, off, e, hlt, hc⟩ := h h1
  refine ⟨b, off, e, hlt, fun i hi j v hv => ?_⟩
  rw [List.length_take] at hi
  rw [List.getElem_take] at hv
  exact hc i (by omega) j v hv
theorem ActD.Ok.few {a : ActD} {w : World} (h : a.Ok w) : a.few.Ok w := by
  have e1 : a.few.ps.length ≤ a.ps.length := by simp [ActD.few]; omega
  have e2 : a.few.rw.length ≤ a.rw.length := by simp [ActD.few]; omega
  refine ⟨h.r1, ?_, h.y, h.ps.take' 8, Nat.le_trans e1 h.pl, h.pm, h.pn, h.rw.take' 60, Nat.le_trans e2 h.rl, h.rm, h.rn, fun y hy => h.ro y (List.mem_of_mem_take hy)⟩
  have := h.c1
  simp only [ActD.few]
  split
  · unfold clampR; split <;> (try split) <;> omega
  · exact this
theorem ActD.Ok.below {a : ActD} {w w' : World} (h : a.Ok w) (hb : Below w.heap.size w w') : a.Ok w' := { h with ps := h.ps.below hb, rw := h.rw.below hb }
set_option maxRecDepth 100000 in
set_option maxHeartbeats 8000000 in
theorem few_c (a : ActD) (w : World) (h : a.Ok w) : Calls Tryz.prog 27 #[a.v] w (Gives w a.few.v) := by
  obtain ⟨kd, n, ⟨t, l, b, r⟩, pr, pc', ⟨cg, cr, ck⟩, pa, pc, ps, ra, rc, rw⟩ := a
  have hpl := h.pl
  have hpm := h.pm
  have hpn := h.pn
  have hrl := h.rl
  have hrm := h.rm
  have hrn := h.rn
  simp only at hpl hpm hpn hrl hrm hrn
  have CA := Lib.hid (fun n w' => clamp_l n (-1) 30 w')
  have e : ActD.v ⟨kd, n, ⟨t, l, b, r⟩, pr, pc', ⟨cg, cr, ck⟩, pa, pc, ps, ra, rc, rw⟩ = .agg #[.int .i64 kd, .int .i64 n, .int .i64 t, .int .i64 l, .int .i64 b, .int .i64 r, .int .i64 pr, .int .i64 pc', .int .i32 cg, .int .u8 cr, .bool ck, .slice pa ps.length pc, .slice ra rw.length rc] := rfl
  rw [e]
  have e2 : (ActD.few ⟨kd, n, ⟨t, l, b, r⟩, pr, pc', ⟨cg, cr, ck⟩, pa, pc, ps, ra, rc, rw⟩).v = .agg #[.int .i64 kd, .int .i64 (if kd = 14 then clampR n (-1) 30 else n), .int .i64 t, .int .i64 l, .int .i64 b, .int .i64 r, .int .i64 pr, .int .i64 (if kd = 14 then clampR pc' (-1) 30 else pc'), .int .i32 cg, .int .u8 cr, .bool ck, .slice pa (ps.take 8).length pc, .slice ra (rw.take 60).length rc] := rfl
  rw [e2]
  clear e e2 h
  obtain ⟨pk, hpk⟩ : ∃ pk, pk = (ps.take 8).length := ⟨_, rfl⟩
  obtain ⟨rk, hrk⟩ : ∃ rk, rk = (rw.take 60).length := ⟨_, rfl⟩
  rw [← hpk, ← hrk]
  rw [List.length_take] at hpk hrk
  generalize ps.length = pl at *
  generalize rw.length = rl at *
  replace hpk := Lib.hid hpk
  replace hrk := Lib.hid hrk
  obtain ⟨n', hn'⟩ : ∃ n', n' = if kd = 14 then clampR n (-1) 30 else n := ⟨_, rfl⟩
  obtain ⟨c', hc'⟩ : ∃ c', c' = if kd = 14 then clampR pc' (-1) 30 else pc' := ⟨_, rfl⟩
  rw [← hn', ← hc']
  replace hn' := Lib.hid hn'
  replace hc' := Lib.hid hc'
  go_enter Tryz.func27, Tryz.ntmps27
  go_upto_if 6 with fail
  go_cut [] (fun wx => wx = (w.alloc (.cells #[.int .i64 kd, .int .i64 n, .int .i64 t, .int .i64 l, .int .i64 b, .int .i64 r, .int .i64 pr, .int .i64 pc', .int .i32 cg, .int .u8 cr, .bool ck, .slice pa pk pc, .slice ra rl rc] 60)).alloc (.cells #[.int .i64 0, .int .i64 0, .int .i64 0, .int .i64 0, .int .i64 0, .int .i64 0, .int .i64 0, .int .i64 0, .int .i32 0, .int .u8 0, .bool false, .slice none 0 0, .slice none 0 0] 60))
  case first =>
    by_cases q : 8 < pl
    · have hpc : 8 ≤ pc := by omega
      have hk : pk = 8 := by have := hpk.out; omega
      subst hk
      obtain ⟨ad, rfl⟩ : ∃ ad, pa = some ad := by
        cases pa with
        | none => have := hpn rfl; omega
        | some ad => exact ⟨ad, rfl⟩
      go_wp2
      go_meet
      rfl
    · have hk : pk = pl := by have := hpk.out; omega
      subst hk
      go_wp2
      go_meet
      rfl
  subst hcut
  go_upto_if 14 with fail
  go_cut [] (fun wx => wx = (w.alloc (.cells #[.int .i64 kd, .int .i64 n, .int .i64 t, .int .i64 l, .int .i64 b, .int .i64 r, .int .i64 pr, .int .i64 pc', .int .i32 cg, .int .u8 cr, .bool ck, .slice pa pk pc, .slice ra rk rc] 60)).alloc (.cells #[.int .i64 0, .int .i64 0, .int .i64 0, .int .i64 0, .int .i64 0, .int .i64 0, .int .i64 0, .int .i64 0, .int .i32 0, .int .u8 0, .bool false, .slice none 0 0, .slice none 0 0] 60))
  case first =>
    by_cases q : 60 < rl
    · have hpc : 60 ≤ rc := by omega
      have hk : rk = 60 := by have := hrk.out; omega
      subst hk
      obtain ⟨ad, rfl⟩ : ∃ ad, ra = some ad := by
        cases ra with
        | none => have := hrn rfl; omega
        | some ad => exact ⟨ad, rfl⟩
      go_wp2
      go_meet
      rfl
    · have hk : rk = rl := by have := hrk.out; omega
      subst hk
      go_wp2
      go_meet
      rfl
  subst hcut
  go_upto_if 21 with fail
  go_cut [] (fun wx => ∃ x, wx = ext ((w.alloc (.cells #[.int .i64 kd, .int .i64 n', .int .i64 t, .int .i64 l, .int .i64 b, .int .i64 r, .int .i64 pr, .int .i64 c', .int .i32 cg, .int .u8 cr, .bool ck, .slice pa pk pc, .slice ra rk rc] 60)).alloc (.cells #[.int .i64 0, .int .i64 0, .int .i64 0, .int .i64 0, .int .i64 0, .int .i64 0, .int .i64 0, .int .i64 0, .int .i32 0, .int .u8 0, .bool false, .slice none 0 0, .slice none 0 0] 60)) x)
  case first =>
    by_cases q : kd = 14
    · subst q
      have C1 := Lib.hid (fun w' => CA.out n w')
      have C2 := Lib.hid (fun w' => CA.out pc' w')
      go_wp2_with (first | (go_at_call 19; ((with_reducible refine (C1.out _).mono ?_); rintro _ _ hgets; obtain ⟨rfl, x1, rfl⟩ := hgets.get; clear hgets)) | (go_at_call 19; ((with_reducible refine (C2.out _).mono ?_); rintro _ _ hgets; obtain ⟨rfl, x2, rfl⟩ := hgets.get; clear hgets)))
      go_meet
      have e1 := hn'.out
      have e2 := hc'.out
      simp only [if_true] at e1 e2
      rw [e1, e2]
      exact ⟨_, ext_ext _ _ _⟩
    · have q1 : (kd == 14) = false := by simpa using q
      go_wp2
      go_meet
      have e1 := hn'.out
      have e2 := hc'.out
      rw [if_neg q] at e1 e2
      rw [e1, e2]
      exact ⟨_, ext_nil _⟩
  obtain ⟨x, rfl⟩ := hcut
  go_wp2
  go_returns
  exact ⟨rfl, by (repeat' (first | (with_reducible exact Below.refl _ _) | (with_reducible refine Below.alloc ?_ ?_ _) | (with_reducible refine below_ext ?_ ?_ _) | (with_reducible refine Below.drew ?_) | (with_reducible refine below_drewN ?_ _) | (with_reducible refine Below.setCell ?_ ?_ _) | go_size | (simp only [go_sem]; omega) | (simp [go_sem]; done) | (simp [go_sem]; omega)))⟩
end Go.Proofs.YtgmbnnmckdjabaaGreat
