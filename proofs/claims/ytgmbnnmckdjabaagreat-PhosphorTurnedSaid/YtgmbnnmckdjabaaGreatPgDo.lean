/- Pages: an act of both.  -/
import Derived.Test.YtgmbnnmckdjabaaGreatPgDo1
import Derived.Test.YtgmbnnmckdjabaaGreatPgDo2
import Derived.Test.YtgmbnnmckdjabaaGreatPgDo3
namespace Go.Proofs.YtgmbnnmckdjabaaGreat
open Go.RowKit
set_option linter.unusedVariables false
set_option linter.unusedSimpArgs false

section
variable {F G : Nat → Prop} {p : Nat} {S : PgS} {w : World}
set_option maxRecDepth 100000 in
set_option maxHeartbeats 8000000 in
theorem do_none (U : Value) (h : PageAt w F p S) (hS : S.Ok) (h' : RefAt w (fun b => F b ∨ G b) U S) (a : ActD) (hk : ∀ i : Nat, 1 ≤ i → i ≤ 14 → a.kd ≠ i) :
    Calls Tryz.prog 26 #[.pointer (some ⟨p, 0, none⟩), U, a.v] w (DoR F p G S w) := by
  obtain ⟨kd, n, ⟨t, l, b, r⟩, pr, pc', ⟨cg, cr, ck⟩, pa, pc, ps, ra, rc, rw⟩ := a
  simp only at hk
  have q1 : (kd == 1) = false := by have := hk 1 (by omega) (by omega); simpa using this
  have q2 : (kd == 2) = false := by have := hk 2 (by omega) (by omega); simpa using this
  have q3 : (kd == 3) = false := by have := hk 3 (by omega) (by omega); simpa using this
  have q4 : (kd == 4) = false := by have := hk 4 (by omega) (by omega); simpa using this
  have q5 : (kd == 5) = false := by have := hk 5 (by omega) (by omega); simpa using this
  have q6 : (kd == 6) = false := by have := hk 6 (by omega) (by omega); simpa using this
  have q7 : (kd == 7) = false := by have := hk 7 (by omega) (by omega); simpa using this
  have q8 : (kd == 8) = false := by have := hk 8 (by omega) (by omega); simpa using this
  have q9 : (kd == 9) = false := by have := hk 9 (by omega) (by omega); simpa using this
  have q10 : (kd == 10) = false := by have := hk 10 (by omega) (by omega); simpa using this
  have q11 : (kd == 11) = false := by have := hk 11 (by omega) (by omega); simpa using this
  have q12 : (kd == 12) = false := by have := hk 12 (by omega) (by omega); simpa using this
  have q13 : (kd == 13) = false := by have := hk 13 (by omega) (by omega); simpa using this
  have q14 : (kd == 14) = false := by have := hk 14 (by omega) (by omega); simpa using this
  obtain ⟨V, rows, rfl, h1, h2, h3⟩ := h'
  obtain ⟨A, c, rfl, _, _⟩ := h1.form
  show Calls Tryz.prog 26 #[.pointer (some ⟨p, 0, none⟩), .agg #[.slice A rows.length c, .int .i64 S.cols], .agg #[.int .i64 kd, .int .i64 n, .int .i64 t, .int .i64 l, .int .i64 b, .int .i64 r, .int .i64 pr, .int .i64 pc', .int .i32 cg, .int .u8 cr, .bool ck, .slice pa ps.length pc, .slice ra rw.length rc]] w _
  have hfin := Lib.hid (fun w' (hb : Below w.heap.size w w') => (⟨_, F, rfl, Keep.of_below hb, h.grow hb, ⟨_, rows, rfl, h1.grow hb, h2, h3⟩, fun b hb => .inl hb⟩ : DoR F p G S w (.returned (.agg #[.slice A rows.length c, .int .i64 S.cols])) w'))
  clear h h1 h2 h3 hk
  go_enter Tryz.func26, Tryz.ntmps26
  go_wp2
  go_returns
  refine hfin.out _ ?_
  (repeat' (first | (with_reducible exact Below.refl _ _) | (with_reducible refine Below.alloc ?_ ?_ _) | (with_reducible refine below_ext ?_ ?_ _) | (with_reducible refine Below.drew ?_) | (with_reducible refine below_drewN ?_ _) | (with_reducible refine Below.setCell ?_ ?_ _) | go_size | (simp only [go_sem]; omega) | (simp [go_sem]; done) | (simp [go_sem]; omega)))
/-- an act of both, whatever it is -/
theorem do_c (U : Value) (h : PageAt w F p S) (hS : S.Ok) (h' : RefAt w (fun b => F b ∨ G b) U S) (hG : ∀ b, G b → b < w.heap.size) (a : ActD) (ha : a.Ok w) (hA : 0 < a.ps.length → ∀ q o, a.pa = some ⟨q, o, none⟩ → ¬ F q) (hB : 0 < a.rw.length → ∀ q o, a.ra = some ⟨q, o, none⟩ → ¬ F q) (h60 : a.rw.length ≤ 60) :
    Calls Tryz.prog 26 #[.pointer (some ⟨p, 0, none⟩), U, a.v] w (DoR F p G (doS S a) w) := by
  by_cases k1 : a.kd = 1
  · exact (do_k1 U h hS (h'.mono fun b _ hb => .inl hb) a ha hA hB k1 h60).mono fun _ _ q => q.r hG
  by_cases k2 : a.kd = 2
  · exact (do_k2 U h hS (h'.mono fun b _ hb => .inl hb) a ha hA hB k2 h60).mono fun _ _ q => q.r hG
  by_cases k3 : a.kd = 3
  · exact (do_k3 U h hS (h'.mono fun b _ hb => .inl hb) a ha hA hB k3 h60).mono fun _ _ q => q.r hG
  by_cases k4 : a.kd = 4
  · exact (do_k4 U h hS (h'.mono fun b _ hb => .inl hb) a ha hA hB k4 h60).mono fun _ _ q => q.r hG
  by_cases k5 : a.kd = 5
  · exact (do_k5 U h hS (h'.mono fun b _ hb => .inl hb) a ha hA hB k5 h60).mono fun _ _ q => q.r hG
  by_cases k6 : a.kd = 6
  · exact (do_k6 U h hS (h'.mono fun b _ hb => .inl hb) a ha hA hB k6 h60).mono fun _ _ q => q.r hG
  by_cases k7 : a.kd = 7
  · exact (do_k7 U h hS (h'.mono fun b _ hb => .inl hb) a ha hA hB k7 h60).mono fun _ _ q => q.r hG
  by_cases k8 : a.kd = 8
  · exact (do_k8 U h hS (h'.mono fun b _ hb => .inl hb) a ha hA hB k8 h60).mono fun _ _ q => q.r hG
  by_cases k9 : a.kd = 9
  · exact (do_k9 U h hS (h'.mono fun b _ hb => .inl hb) a ha hA hB k9 h60).mono fun _ _ q => q.r hG
  by_cases k10 : a.kd = 10
  · exact (do_k10 U h hS (h'.mono fun b _ hb => .inl hb) a ha hA hB k10 h60).mono fun _ _ q => q.r hG
  by_cases k11 : a.kd = 11
  · exact (do_k11 U h hS (h'.mono fun b _ hb => .inl hb) a ha hA hB k11 h60).mono fun _ _ q => q.r hG
  by_cases k12 : a.kd = 12
  · exact (do_k12 U h hS (h'.mono fun b _ hb => .inl hb) a ha hA hB k12 h60).mono fun _ _ q => q.r hG
  by_cases k13 : a.kd = 13
  · exact (do_k13 U h hS (h'.mono fun b _ hb => .inl hb) a ha hA hB k13 h60).mono fun _ _ q => q.r hG
  by_cases k14 : a.kd = 14
  · exact (do_k14 U h hS (h'.mono fun b _ hb => .inl hb) a ha hA hB k14 h60).mono fun _ _ q => q.r hG
  have e : doS S a = S := by
    unfold doS
    simp only [k1, k2, k3, k4, k5, k6, k7, k8, k9, k10, k11, k12, k13, k14, if_false]
  rw [e]
  refine do_none U h hS h' a (fun i h1 h2 => ?_)
  have : i = 1 ∨ i = 2 ∨ i = 3 ∨ i = 4 ∨ i = 5 ∨ i = 6 ∨ i = 7 ∨ i = 8 ∨ i = 9 ∨ i = 10 ∨ i = 11 ∨ i = 12 ∨ i = 13 ∨ i = 14 := by omega
  rcases this with rfl | rfl | rfl | rfl | rfl | rfl | rfl | rfl | rfl | rfl | rfl | rfl | rfl | rfl <;> assumption
end
end Go.Proofs.YtgmbnnmckdjabaaGreat
