/- Numbers out of lists, margins, and the loops of the law's own helpers. -/
import Derived.Test.YtdlngbmgcedbpaaBox
namespace Go.Proofs.Ytdlngbmgcedbpaa
open Go.RowKit
set_option linter.unusedVariables false
set_option linter.unusedSimpArgs false

theorem getD_out {xs : List Int} {k : Nat} (h : xs.length ≤ k) : xs.getD k 0 = 0 := by simp [List.getD_eq_getElem?_getD, List.getElem?_eq_none h]
/-- the number at a place of a list; 0: none -/
def at0 (xs : List Int) (i : Int) : Int := if i < 0 then 0 else xs.getD i.toNat 0
def num0 (xs : List Int) (i m : Int) : Int := if i < 0 then 0 else xs.getD (i.toNat + m.toNat) 0

def spanA (f : Int) : Int := if f = 0 then 1 else f
def lastA (n l : Int) : Int := if l = 0 ∨ n < l then n else l
def spanOk (n f l : Int) : Bool := decide (0 ≤ f) && decide (0 ≤ l) && decide (spanA f < lastA n l)
def spanV (n f l : Int) : Value :=
  .tuple #[.int .i64 (if spanOk n f l then spanA f - 1 else 0), .int .i64 (if spanOk n f l then lastA n l else 0), .bool (spanOk n f l)]
theorem tuple3_eq {k : IntKind} {a b a' b' : Int} {c c' : Bool} (h1 : a = a') (h2 : b = b') (h3 : c = c') : Value.tuple #[.int k a, .int k b, .bool c] = .tuple #[.int k a', .int k b', .bool c'] := by
  subst h1 h2 h3; rfl
theorem spanV_no {n f l : Int} (h : f < 0 ∨ l < 0 ∨ lastA n l ≤ spanA f) : spanV n f l = .tuple #[.int .i64 0, .int .i64 0, .bool false] := by
  have e : spanOk n f l = false := by unfold spanOk; simp; omega
  unfold spanV; simp [e]
theorem spanV_yes {n f l a b : Int} (h : 0 ≤ f ∧ 0 ≤ l ∧ spanA f < lastA n l) (ha : a = spanA f - 1) (hb : b = lastA n l) : spanV n f l = .tuple #[.int .i64 a, .int .i64 b, .bool true] := by
  have e : spanOk n f l = true := by unfold spanOk; simp; omega
  unfold spanV; simp [e, ha, hb]

def sideF (f l : Int) : Int := if f < 0 ∨ l < 0 then 0 else max f 1 - 1
def sideL (n f l : Int) : Int := if f < 0 ∨ l < 0 then 0 else lastA n l
def sideOk (n f l : Int) : Bool := decide (0 ≤ f ∧ 0 ≤ l ∧ max f 1 ≤ lastA n l)
set_option maxHeartbeats 1000000 in
theorem clamp_r (t l b r x y : Int) (w : World) (hb : -1000000 ≤ b ∧ b ≤ 1000000) (hr : -1000000 ≤ r ∧ r ≤ 1000000) :
    Calls Try.prog 26 #[.agg #[.int .i64 t, .int .i64 l, .int .i64 b, .int .i64 r], .agg #[.int .i64 x, .int .i64 y]] w
     (Gives w (if b ≤ t ∨ r ≤ l then .agg #[.int .i64 t, .int .i64 l] else .agg #[.int .i64 (clampI t b x), .int .i64 (clampI l r y)])) := by
  obtain ⟨hb1, hb2⟩ := hb
  obtain ⟨hr1, hr2⟩ := hr
  go_enter Try.func26, Try.ntmps26
  go_wp2_with (go_at_call 81; ((with_reducible refine (empty_r _ _ _ _ _).mono ?_); rintro _ _ hgets; obtain ⟨rfl, _, rfl⟩ := hgets.get; clear hgets))
  · go_returns
    refine ⟨?_, by (repeat' (first | (with_reducible exact Below.refl _ _) | (with_reducible refine Below.alloc ?_ ?_ _) | (with_reducible refine below_ext ?_ ?_ _) | (with_reducible refine Below.drew ?_) | (with_reducible refine below_drewN ?_ _) | (with_reducible refine Below.setCell ?_ ?_ _) | go_size | (simp only [go_sem]; omega) | (simp [go_sem]; done) | (simp [go_sem]; omega)))⟩
    rfl
  · (refine wp_region_tail 14 (by kernel_rfl) (by kernel_rfl) ?_; simp only [List.take_succ_cons, List.take_zero, List.drop_succ_cons, List.drop_zero])
    repeat (go_big_quiet_step ((go_at_call 82; with_reducible exact Calls.free_same (near_r _ _ _ _ (by omega)))))
    refine wpQuiet_nil ?_; rintro _ ⟨x2, rfl⟩
    go_wp2
    go_returns
    refine ⟨?_, by (repeat' (first | (with_reducible exact Below.refl _ _) | (with_reducible refine Below.alloc ?_ ?_ _) | (with_reducible refine below_ext ?_ ?_ _) | (with_reducible refine Below.drew ?_) | (with_reducible refine below_drewN ?_ _) | (with_reducible refine Below.setCell ?_ ?_ _) | go_size | (simp only [go_sem]; omega) | (simp [go_sem]; done) | (simp [go_sem]; omega)))⟩
    refine ret_of (agg2_eq ?_ ?_)
    all_goals (unfold nearI clampI; repeat' split)
    all_goals omega

end Go.Proofs.Ytdlngbmgcedbpaa
