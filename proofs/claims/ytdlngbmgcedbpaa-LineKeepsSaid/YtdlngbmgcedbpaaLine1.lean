/- Lines: spans, copies of rows. -/
import Derived.Test.YtdlngbmgcedbpaaClk
import Derived.OpenShut
import Derived.Laws.Cover3
namespace Go.Proofs.Ytdlngbmgcedbpaa
open Go.RowKit
set_option linter.unusedVariables false
set_option linter.unusedSimpArgs false

/-- a call that returns a row of its own -/
def NewCs (w : World) (xs : List Cl) (e : Ending) (w' : World) : Prop := ∃ A' c' x, e = .returned (.slice A' xs.length c') ∧ w' = ext w x ∧ Own encC 3 87 w.heap.size (ext w x) (.slice A' xs.length c') xs
/-- a span within n cells: its first column, and how many -/
def spanA (f : Int) : Int := max f 0
def spanN (n f t : Int) : Int := max f (max 0 (min t n)) - max f 0
set_option maxRecDepth 100000 in
theorem span_c (n f t : Int) (w : World) (h0 : 0 ≤ n) (hn : n ≤ 9223372036854775807) (hf : f ≤ 9223372036854775807) :
    Calls Try.prog 117 #[.int .i64 n, .int .i64 f, .int .i64 t] w (Same w (.tuple #[.int .i64 (spanA f), .int .i64 (spanN n f t)])) := by
  unfold spanA spanN
  have h1 : 0 ≤ max f 0 := by omega
  go_enter Try.func117, Try.ntmps117
  go_wp2
  go_returns
  exact ⟨rfl, rfl⟩
set_option maxRecDepth 100000 in
theorem clip_c (a : Option Addr) (n c : Nat) (w : World) (hc : n ≤ c) (hm : c ≤ 9223372036854775807) :
    Calls Try.prog 98 #[.slice a n c] w (Same w (.slice a n n)) := by
  cases a
  · go_enter Try.func98, Try.ntmps98
    go_wp2
    go_returns
    exact ⟨rfl, rfl⟩
  · go_enter Try.func98, Try.ntmps98
    go_wp2
    go_returns
    exact ⟨rfl, rfl⟩
@[go_sem] theorem cells_nil (a : Option Addr) (n c : Nat) (w : World) : (binOp .eql 68 (.slice a n c) (.slice none 0 0)).run Try.prog w = .ok (.bool a.isNone) w := by
  have h := run_equal_slice_nil (P := Try.prog) (w := w) 68 87 a n c Try.underlying68
  simp [binOp, h]
set_option maxRecDepth 100000 in
theorem clone_c (A : Option Addr) (C : Nat) (xs : List Cl) (w : World) (rd : Rd encC 3 w A xs) (hC : A = none → C = 0) (hm : xs.length * 8 ≤ 140737488355328) (h63 : xs.length ≤ maxLen) :
    Calls Try.prog 100 #[.slice A xs.length C] w (NewCs w xs) := by
  cases A with
  | none =>
    have hx : xs = [] := by
      rcases Nat.eq_zero_or_pos xs.length with h | h
      · exact List.eq_nil_of_length_eq_zero h
      · obtain ⟨b, o, e, _⟩ := rd h
        cases e
    subst hx
    obtain rfl := hC rfl
    go_enter Try.func100, Try.ntmps100
    go_wp2
    go_returns
    exact ⟨none, 0, ⟨#[], w.drawn⟩, rfl, by simp [ext], Own.nil _ _ _ _ _⟩
  | some ad =>
    have X := Lib.hid rd
    clear rd hC
    go_enter Try.func100, Try.ntmps100
    go_wp2_with (first
      | (at_builtin
         refine append_rd (U := w) (.tmp 5) (.tmp 6) _ 87 _ 8 rfl rfl Try.underlying68 cell_info rfl (by omega) encC_len encC_one [] xs _ (some ad) C rfl rfl ?_ (Own.new encC_len (by simp) rfl #[] rfl (Nat.le_refl _) (by simp [maxLen])) (by repeat (first | exact X.out | exact X | refine Rd.ext ?_ _ | refine Rd.alloc ?_ _ | refine Rd.drew ?_)) (by first | (simp; done) | (simp; omega)) (by first | (simp; done) | (simp; omega)) ?_
         · (repeat' (first | (with_reducible exact Below.refl _ _) | (with_reducible refine Below.alloc ?_ ?_ _) | (with_reducible refine below_ext ?_ ?_ _) | (with_reducible refine Below.drew ?_) | (with_reducible refine below_drewN ?_ _) | (with_reducible refine Below.setCell ?_ ?_ _) | go_size | (simp only [go_sem]; omega) | (simp [go_sem]; done) | (simp [go_sem]; omega)))
         intro A' c' x3 zs hz hO))
    rw [List.nil_append] at hz
    subst hz
    go_wp2_with fail
    all_goals go_returns
    all_goals exact ⟨A', c', x3, rfl, rfl, hO⟩
end Go.Proofs.Ytdlngbmgcedbpaa
