/- Lines: a line of its own and the span of it. -/
import Derived.Test.YtdlngbmgcedbpaaLine3
namespace Go.Proofs.Ytdlngbmgcedbpaa
open Go.RowKit
set_option linter.unusedVariables false
set_option linter.unusedSimpArgs false

/-- the span of a row that lies in block g -/
def cutV (g c : Nat) (n f t : Int) : Value := if spanN n f t = 0 then .slice none 0 0 else .slice (some ⟨g, (spanA f).toNat * 3, none⟩) (spanN n f t).toNat (c - (spanA f).toNat)
def PartL (w : World) (xs : List Cl) (sz f t : Int) (e : Ending) (w' : World) : Prop := ∃ A' c' x, w' = ext w x ∧ Own encC 3 87 w.heap.size (ext w x) (.slice A' xs.length c') xs ∧
  ((xs.length = 0 ∧ e = .returned (.tuple #[lineV A' xs.length c' sz, .slice none 0 0])) ∨ ∃ g, A' = some ⟨g, 0, none⟩ ∧ e = .returned (.tuple #[lineV A' xs.length c' sz, cutV g c' xs.length f t]))
theorem wrap_i64 {m : Int} (h0 : -9223372036854775808 ≤ m) (h1 : m ≤ 9223372036854775807) : IntKind.i64.wrap m = m := by
  have H : IntKind.i64.wrap m = if m % 18446744073709551616 ≥ 9223372036854775808 then m % 18446744073709551616 - 18446744073709551616 else m % 18446744073709551616 := by
    simp [IntKind.wrap, IntKind.bits, IntKind.signed]
  rw [H]
  split <;> omega
theorem PartL.of {w w' : World} {A : Option Addr} {c B : Nat} {xs : List Cl} {sz f t : Int} {S : Value} (hb : Below w.heap.size w w') (hB : w.heap.size ≤ B) (h : Own encC 3 87 B w' (.slice A xs.length c) xs)
    (h0 : xs.length = 0 → S = .slice none 0 0) (h1 : ∀ g, A = some ⟨g, 0, none⟩ → S = cutV g c xs.length f t) : PartL w xs sz f t (.returned (.tuple #[lineV A xs.length c sz, S])) w' := by
  obtain ⟨x, rfl⟩ := ext_of hb
  refine ⟨A, c, x, rfl, h.mono hB, ?_⟩
  rcases h.2 with ⟨_, hn⟩ | ⟨g, cap, cur, hv, _⟩
  · exact .inl ⟨hn, by rw [h0 hn]⟩
  · injection hv with hv
    exact .inr ⟨g, hv, by rw [h1 g hv]⟩
theorem Own.at0 {α : Type} {enc : α → List Value} {size : Nat} {e : TypeId} {B : Nat} {w : World} {A : Option Addr} {n c : Nat} {xs : List α} (h : Own enc size e B w (.slice A n c) xs) (h0 : 0 < xs.length) : ∃ g, A = some ⟨g, 0, none⟩ ∧ xs.length ≤ c ∧ c ≤ maxLen := by
  rcases h.2 with ⟨_, hn⟩ | ⟨g, cap, cur, hv, _, _, h1, h2, _⟩
  · omega
  · injection hv with e1 e2 e3
    subst e1 e3
    exact ⟨g, rfl, h1, h2⟩
set_option maxRecDepth 100000 in
set_option maxHeartbeats 4000000 in
theorem part_l (A : Option Addr) (C : Nat) (sz : Int) (xs : List Cl) (f t : Int) (w : World) (rd : Rd encC 3 w A xs) (hC : A = none → C = 0) (hm : xs.length ≤ 1000000) (hf : f ≤ 9223372036854775807) :
    Calls Try.prog 97 #[lineV A xs.length C sz, .int .i64 f, .int .i64 t] w (PartL w xs sz f t) := by
  have CP := Lib.hid (fun w' (h : Rd encC 3 w' A xs) => copy_l A C sz xs w' h hC (by omega) (by simp [maxLen]; omega))
  have SP := Lib.hid (fun w' => span_c xs.length f t w' (by omega) (by omega) hf)
  have X := Lib.hid rd
  clear rd hC
  have hsp : spanN xs.length f t = 0 ∨ (0 < spanN xs.length f t ∧ spanA f + spanN xs.length f t ≤ xs.length ∧ 0 ≤ spanA f) := by unfold spanN spanA; omega
  generalize hN : spanN xs.length f t = N at SP hsp
  generalize hA : spanA f = a at SP hsp
  rcases hsp with rfl | ⟨h0, h1, h2⟩
  · go_enter Try.func97, Try.ntmps97
    go_wp2_with (first
      | (go_at_call 67
         (with_reducible refine (CP.out _ (by repeat (first | exact X.out | exact X | refine Rd.ext ?_ _ | refine Rd.alloc ?_ _ | refine Rd.drew ?_))).mono ?_)
         rintro _ _ ⟨A1, c1, x1, rfl, rfl, hO1⟩
         have hO := Lib.hid hO1
         clear hO1)
      | (go_at_call 117; ((with_reducible refine (SP.out _).mono ?_); rintro _ _ ⟨rfl, rfl⟩)))
    go_returns
    exact PartL.of (by (repeat' (first | (with_reducible exact Below.refl _ _) | (with_reducible refine Below.alloc ?_ ?_ _) | (with_reducible refine below_ext ?_ ?_ _) | (with_reducible refine Below.drew ?_) | (with_reducible refine below_drewN ?_ _) | (with_reducible refine Below.setCell ?_ ?_ _) | go_size | (simp only [go_sem]; omega) | (simp [go_sem]; done) | (simp [go_sem]; omega)))) (by first | (simp [go_sem]; done) | (simp [go_sem]; omega)) ((own_swap (w := w.alloc (.cells #[.slice A xs.length C, .int .i64 sz] 70)) (o := (.cells #[.slice none 0 0, .int .i64 0] 70)) (by simpa [go_sem] using hO.out)).alloc _) (fun _ => rfl) (fun g _ => by unfold cutV; rw [hN, if_pos rfl])
  · obtain ⟨a', rfl⟩ := Int.eq_ofNat_of_zero_le h2
    obtain ⟨N', rfl⟩ := Int.eq_ofNat_of_zero_le (Int.le_of_lt h0)
    have hn0 : 0 < xs.length := by omega
    have q0 : ((N' : Int) == 0) = false := by simp; omega
    go_enter Try.func97, Try.ntmps97
    go_upto_region 5 with (first
      | (go_at_call 67
         (with_reducible refine (CP.out _ (by repeat (first | exact X.out | exact X | refine Rd.ext ?_ _ | refine Rd.alloc ?_ _ | refine Rd.drew ?_))).mono ?_)
         rintro _ _ ⟨A1, c1, x1, rfl, rfl, hO1⟩
         obtain ⟨g, rfl, hc1, hc2⟩ := hO1.at0 hn0
         have hO := Lib.hid hO1
         clear hO1)
      | (go_at_call 117; ((with_reducible refine (SP.out _).mono ?_); rintro _ _ ⟨rfl, rfl⟩)))
    simp only [maxLen] at hc2
    have w1 : IntKind.i64.wrap ((a' : Int) + (N' : Int)) = (a' : Int) + (N' : Int) := wrap_i64 (by omega) (by omega)
    have i1 : (a' : Int) ≤ (a' : Int) + (N' : Int) := by omega
    have i2 : (a' : Int) + (N' : Int) ≤ (c1 : Int) := by omega
    have i3 : (0 : Int) ≤ (a' : Int) := by omega
    have hcap : ¬ c1 = a' := by omega
    go_region_held3 (fun w' => w'.cell? ⟨w.heap.size + 1 + 1 + x1.sz, 0, none⟩ = some (.slice (some ⟨g, 0, none⟩) xs.length c1) ∧ w'.cell? ⟨w.heap.size + 1 + 1 + x1.sz, 1, none⟩ = some (.int .i64 sz)) ((refine ⟨?_, ?_⟩ <;> simp [go_sem])) (fail)
    all_goals go_wp2
    all_goals go_returns
    all_goals exact PartL.of (by (repeat' (first | (with_reducible exact Below.refl _ _) | (with_reducible refine Below.alloc ?_ ?_ _) | (with_reducible refine below_ext ?_ ?_ _) | (with_reducible refine Below.drew ?_) | (with_reducible refine below_drewN ?_ _) | (with_reducible refine Below.setCell ?_ ?_ _) | go_size | (simp only [go_sem]; omega) | (simp [go_sem]; done) | (simp [go_sem]; omega)))) (by first | (simp [go_sem]; done) | (simp [go_sem]; omega)) (((own_swap (w := w.alloc (.cells #[.slice A xs.length C, .int .i64 sz] 70)) (o := (.cells #[.slice none 0 0, .int .i64 0] 70)) (by simpa [go_sem] using hO.out)).alloc _).drew) (fun h => by omega) (fun g' e => by
      injection e with e
      injection e with e
      subst e
      unfold cutV
      rw [hN, hA, if_neg (by omega), Int.toNat_natCast, Int.toNat_natCast, show ((a' : Int) + (N' : Int)).toNat - a' = N' by omega])
end Go.Proofs.Ytdlngbmgcedbpaa
