/- Lines: spans, copies of rows.  -/
import Derived.Test.YtignkkejkknddaaGreatClk
import Derived.OpenShut
import Derived.Laws.Cover3
import Derived.Deep.RegionHeld3
namespace Go.Proofs.YtignkkejkknddaaGreat
open Go.RowKit
set_option linter.unusedVariables false
set_option linter.unusedSimpArgs false

/-- a call that returns a row of its own -/
def NewCs (w : World) (xs : List Cl) (e : Ending) (w' : World) : Prop := ∃ A' c' x, e = .returned (.slice A' xs.length c') ∧ w' = ext w x ∧ Own encC 3 60 w.heap.size (ext w x) (.slice A' xs.length c') xs
/-- a span within n cells: its first column, and how many -/
def spanA (f : Int) : Int := max f 0
def spanN (n f t : Int) : Int := max f (max 0 (min t n)) - max f 0
set_option maxRecDepth 100000 in
theorem span_c (n f t : Int) (w : World) (h0 : 0 ≤ n) (hn : n ≤ 9223372036854775807) (hf : f ≤ 9223372036854775807) :
    Calls Tryz.prog 131 #[.int .i64 n, .int .i64 f, .int .i64 t] w (Same w (.tuple #[.int .i64 (spanA f), .int .i64 (spanN n f t)])) := by
  unfold spanA spanN
  have h1 : 0 ≤ max f 0 := by omega
  go_enter Tryz.func131, Tryz.ntmps131
  go_wp2
  go_returns
  exact ⟨rfl, rfl⟩
set_option maxRecDepth 100000 in
theorem clip_c (a : Option Addr) (n c : Nat) (w : World) (hc : n ≤ c) (hm : c ≤ 9223372036854775807) :
    Calls Tryz.prog 115 #[.slice a n c] w (Same w (.slice a n n)) := by
  cases a
  · go_enter Tryz.func115, Tryz.ntmps115
    go_wp2
    go_returns
    exact ⟨rfl, rfl⟩
  · go_enter Tryz.func115, Tryz.ntmps115
    go_wp2
    go_returns
    exact ⟨rfl, rfl⟩
@[go_sem] theorem cells_nil (a : Option Addr) (n c : Nat) (w : World) : (binOp .eql 65 (.slice a n c) (.slice none 0 0)).run Tryz.prog w = .ok (.bool a.isNone) w := by
  have h := run_equal_slice_nil (P := Tryz.prog) (w := w) 65 60 a n c Tryz.underlying65
  simp [binOp, h]
set_option maxRecDepth 100000 in
theorem clone_c (A : Option Addr) (C : Nat) (xs : List Cl) (w : World) (rd : Rd encC 3 w A xs) (hC : A = none → C = 0) (hm : xs.length * 8 ≤ 140737488355328) (h63 : xs.length ≤ maxLen) :
    Calls Tryz.prog 103 #[.slice A xs.length C] w (NewCs w xs) := by
  cases A with
  | none =>
    have hx : xs = [] := by
      rcases Nat.eq_zero_or_pos xs.length with h | h
      · exact List.eq_nil_of_length_eq_zero h
      · obtain ⟨b, o, e, _⟩ := rd h
        cases e
    subst hx
    obtain rfl := hC rfl
    go_enter Tryz.func103, Tryz.ntmps103
    go_wp2
    go_returns
    exact ⟨none, 0, ⟨#[], w.drawn⟩, rfl, by simp [ext], Own.nil _ _ _ _ _⟩
  | some ad =>
    have X := Lib.hid rd
    clear rd hC
    go_enter Tryz.func103, Tryz.ntmps103
    go_wp2_with (first
      | (at_builtin
         refine append_rd (U := w) (.tmp 5) (.tmp 6) _ 60 _ 8 rfl rfl Tryz.underlying65 cell_info rfl (by omega) encC_len encC_one [] xs _ (some ad) C rfl rfl ?_ (Own.new encC_len (by simp) rfl #[] rfl (Nat.le_refl _) (by simp [maxLen])) (by repeat (first | exact X.out | exact X | refine Rd.ext ?_ _ | refine Rd.alloc ?_ _ | refine Rd.drew ?_)) (by first | (simp; done) | (simp; omega)) (by first | (simp; done) | (simp; omega)) ?_
         · (repeat' (first | (with_reducible exact Below.refl _ _) | (with_reducible refine Below.alloc ?_ ?_ _) | (with_reducible refine below_ext ?_ ?_ _) | (with_reducible refine Below.drew ?_) | (with_reducible refine below_drewN ?_ _) | (with_reducible refine Below.setCell ?_ ?_ _) | go_size | (simp only [go_sem]; omega) | (simp [go_sem]; done) | (simp [go_sem]; omega)))
         intro A' c' x3 zs hz hO))
    rw [List.nil_append] at hz
    subst hz
    go_wp2_with fail
    all_goals go_returns
    all_goals exact ⟨A', c', x3, rfl, rfl, hO⟩
end Go.Proofs.YtignkkejkknddaaGreat
/- Lines: copies, widths.  -/
namespace Go.Proofs.YtignkkejkknddaaGreat
open Go.RowKit
set_option linter.unusedVariables false
set_option linter.unusedSimpArgs false

/-- a line as a value -/
abbrev lineV (A : Option Addr) (n c : Nat) (sz : Int) : Value := .agg #[.slice A n c, .int .i64 sz]
/-- a call that returns a line whose row is its own -/
def NewL (w : World) (xs : List Cl) (sz : Int) (e : Ending) (w' : World) : Prop := ∃ A' c' x, e = .returned (lineV A' xs.length c' sz) ∧ w' = ext w x ∧ Own encC 3 60 w.heap.size (ext w x) (.slice A' xs.length c') xs
theorem NewL.of {w w' : World} {A : Option Addr} {c : Nat} {xs : List Cl} {sz : Int} {B : Nat} (hb : Below w.heap.size w w') (hB : w.heap.size ≤ B) (h : Own encC 3 60 B w' (.slice A xs.length c) xs) : NewL w xs sz (.returned (lineV A xs.length c sz)) w' := by
  obtain ⟨x, rfl⟩ := ext_of hb
  exact ⟨A, c, x, rfl, rfl, h.mono hB⟩
theorem own_set_far {α : Type} {enc : α → List Value} {size : Nat} {e : TypeId} {B : Nat} {w : World} {v : Value} {xs : List α} (h : Own enc size e B w v xs) (b i : Nat) (hb : b < B) (u : Value) : Own enc size e B (w.setCell ⟨b, i, none⟩ u) v xs := by
  refine ⟨h.1, ?_⟩
  rcases h.2 with hn | ⟨g, cap, cur, rfl, hB, hg, rest⟩
  · exact .inl hn
  · refine .inr ⟨g, cap, cur, rfl, hB, ?_, rest⟩
    rw [Below.heap_setCell _ _ _ _ (fun e => by simp at e; omega)]
    exact hg

set_option maxRecDepth 100000 in
set_option maxHeartbeats 4000000 in
theorem copy_l (A : Option Addr) (C : Nat) (sz : Int) (xs : List Cl) (w : World) (rd : Rd encC 3 w A xs) (hC : A = none → C = 0) (hm : xs.length * 8 ≤ 140737488355328) (h63 : xs.length ≤ maxLen) :
    Calls Tryz.prog 62 #[lineV A xs.length C sz] w (NewL w xs sz) := by
  have CL := Lib.hid (fun w' (h : Rd encC 3 w' A xs) => clone_c A C xs w' h hC hm h63)
  have X := Lib.hid rd
  clear rd hC hm h63
  go_enter Tryz.func62, Tryz.ntmps62
  go_wp2
  go_region_held3 (fun w' => w'.cell? ⟨w.heap.size, 0, none⟩ = some (.slice A xs.length C) ∧ w'.cell? ⟨w.heap.size, 1, none⟩ = some (.int .i64 sz)) ((refine ⟨?_, ?_⟩ <;> simp [go_sem])) ((first
    | (go_at_call 103
       (with_reducible refine (CL.out _ (by repeat (first | exact X.out | exact X | refine Rd.ext ?_ _ | refine Rd.alloc ?_ _ | refine Rd.drew ?_))).mono ?_)
       rintro _ _ ⟨A1, c1, x1, rfl, rfl, hO1⟩
       have hO := Lib.hid hO1
       clear hO1)))
  all_goals go_wp2
  all_goals go_returns
  all_goals exact NewL.of (by (repeat' (first | (with_reducible exact Below.refl _ _) | (with_reducible refine Below.alloc ?_ ?_ _) | (with_reducible refine below_ext ?_ ?_ _) | (with_reducible refine Below.drew ?_) | (with_reducible refine below_drewN ?_ _) | (with_reducible refine Below.setCell ?_ ?_ _) | go_size | (simp only [go_sem]; omega) | (simp [go_sem]; done) | (simp [go_sem]; omega)))) (by first | (simp [go_sem]; done) | (simp [go_sem]; omega)) (own_swap (w := w.alloc (.cells #[.slice A xs.length C, .int .i64 sz] 67)) (o := .cells #[.slice none 0 0, .int .i64 0] 67) (by simpa [go_sem] using hO.out))
end Go.Proofs.YtignkkejkknddaaGreat
/- Lines: a law's own copy, sizes, widths.  -/
namespace Go.Proofs.YtignkkejkknddaaGreat
open Go.RowKit
set_option linter.unusedVariables false
set_option linter.unusedSimpArgs false

theorem Rd.take {α : Type} {enc : α → List Value} {size : Nat} {w : World} {a : Option Addr} {xs : List α} (h : Rd enc size w a xs) (k : Nat) : Rd enc size w a (xs.take k) := fun h0 => by
  have h1 : 0 < xs.length := by simp at h0; omega
  obtain ⟨b, off, e, hlt, hc⟩ := h h1
  refine ⟨b, off, e, hlt, fun i hi j v hv => hc i (by simp at hi; omega) j v ?_⟩
  simpa using hv
end Go.Proofs.YtignkkejkknddaaGreat
/- Lines: a line of its own and the span of it.  -/
namespace Go.Proofs.YtignkkejkknddaaGreat
open Go.RowKit
set_option linter.unusedVariables false
set_option linter.unusedSimpArgs false

/-- the span of a row that lies in block g -/
def cutV (g c : Nat) (n f t : Int) : Value := if spanN n f t = 0 then .slice none 0 0 else .slice (some ⟨g, (spanA f).toNat * 3, none⟩) (spanN n f t).toNat (c - (spanA f).toNat)
def PartL (w : World) (xs : List Cl) (sz f t : Int) (e : Ending) (w' : World) : Prop := ∃ A' c' x, w' = ext w x ∧ Own encC 3 60 w.heap.size (ext w x) (.slice A' xs.length c') xs ∧
  ((xs.length = 0 ∧ e = .returned (.tuple #[lineV A' xs.length c' sz, .slice none 0 0])) ∨ ∃ g, A' = some ⟨g, 0, none⟩ ∧ e = .returned (.tuple #[lineV A' xs.length c' sz, cutV g c' xs.length f t]))
theorem wrap_i64 {m : Int} (h0 : -9223372036854775808 ≤ m) (h1 : m ≤ 9223372036854775807) : IntKind.i64.wrap m = m := by
  have H : IntKind.i64.wrap m = if m % 18446744073709551616 ≥ 9223372036854775808 then m % 18446744073709551616 - 18446744073709551616 else m % 18446744073709551616 := by
    simp [IntKind.wrap, IntKind.bits, IntKind.signed]
  rw [H]
  split <;> omega
theorem PartL.of {w w' : World} {A : Option Addr} {c B : Nat} {xs : List Cl} {sz f t : Int} {S : Value} (hb : Below w.heap.size w w') (hB : w.heap.size ≤ B) (h : Own encC 3 60 B w' (.slice A xs.length c) xs)
    (h0 : xs.length = 0 → S = .slice none 0 0) (h1 : ∀ g, A = some ⟨g, 0, none⟩ → S = cutV g c xs.length f t) : PartL w xs sz f t (.returned (.tuple #[lineV A xs.length c sz, S])) w' := by
  obtain ⟨x, rfl⟩ := ext_of hb
  refine ⟨A, c, x, rfl, h.mono hB, ?_⟩
  rcases h.2 with ⟨_, hn⟩ | ⟨g, cap, cur, hv, _⟩
  · exact .inl ⟨hn, by rw [h0 hn]⟩
  · injection hv with hv
    exact .inr ⟨g, hv, by rw [h1 g hv]⟩
theorem Own.at0 {α : Type} {enc : α → List Value} {size : Nat} {e : TypeId} {B : Nat} {w : World} {A : Option Addr} {n c : Nat} {xs : List α} (h : Own enc size e B w (.slice A n c) xs) (h0 : 0 < xs.length) : ∃ g, A = some ⟨g, 0, none⟩ ∧ xs.length ≤ c ∧ c ≤ maxLen := by
  rcases h.2 with ⟨_, hn⟩ | ⟨g, cap, cur, hv, _, _, h1, h2, _⟩
  · omega
  · injection hv with e1 e2 e3
    subst e1 e3
    exact ⟨g, rfl, h1, h2⟩
set_option maxRecDepth 100000 in
set_option maxHeartbeats 4000000 in
theorem part_l (A : Option Addr) (C : Nat) (sz : Int) (xs : List Cl) (f t : Int) (w : World) (rd : Rd encC 3 w A xs) (hC : A = none → C = 0) (hm : xs.length ≤ 1000000) (hf : f ≤ 9223372036854775807) :
    Calls Tryz.prog 114 #[lineV A xs.length C sz, .int .i64 f, .int .i64 t] w (PartL w xs sz f t) := by
  have CP := Lib.hid (fun w' (h : Rd encC 3 w' A xs) => copy_l A C sz xs w' h hC (by omega) (by simp [maxLen]; omega))
  have SP := Lib.hid (fun w' => span_c xs.length f t w' (by omega) (by omega) hf)
  have X := Lib.hid rd
  clear rd hC
  have hsp : spanN xs.length f t = 0 ∨ (0 < spanN xs.length f t ∧ spanA f + spanN xs.length f t ≤ xs.length ∧ 0 ≤ spanA f) := by unfold spanN spanA; omega
  generalize hN : spanN xs.length f t = N at SP hsp
  generalize hA : spanA f = a at SP hsp
  rcases hsp with rfl | ⟨h0, h1, h2⟩
  · go_enter Tryz.func114, Tryz.ntmps114
    go_wp2_with (first
      | (go_at_call 62
         (with_reducible refine (CP.out _ (by repeat (first | exact X.out | exact X | refine Rd.ext ?_ _ | refine Rd.alloc ?_ _ | refine Rd.drew ?_))).mono ?_)
         rintro _ _ ⟨A1, c1, x1, rfl, rfl, hO1⟩
         have hO := Lib.hid hO1
         clear hO1)
      | (go_at_call 131; ((with_reducible refine (SP.out _).mono ?_); rintro _ _ ⟨rfl, rfl⟩)))
    go_returns
    exact PartL.of (by (repeat' (first | (with_reducible exact Below.refl _ _) | (with_reducible refine Below.alloc ?_ ?_ _) | (with_reducible refine below_ext ?_ ?_ _) | (with_reducible refine Below.drew ?_) | (with_reducible refine below_drewN ?_ _) | (with_reducible refine Below.setCell ?_ ?_ _) | go_size | (simp only [go_sem]; omega) | (simp [go_sem]; done) | (simp [go_sem]; omega)))) (by first | (simp [go_sem]; done) | (simp [go_sem]; omega)) ((own_swap (w := w.alloc (.cells #[.slice A xs.length C, .int .i64 sz] 67)) (o := (.cells #[.slice none 0 0, .int .i64 0] 67)) (by simpa [go_sem] using hO.out)).alloc _) (fun _ => rfl) (fun g _ => by unfold cutV; rw [hN, if_pos rfl])
  · obtain ⟨a', rfl⟩ := Int.eq_ofNat_of_zero_le h2
    obtain ⟨N', rfl⟩ := Int.eq_ofNat_of_zero_le (Int.le_of_lt h0)
    have hn0 : 0 < xs.length := by omega
    have q0 : ((N' : Int) == 0) = false := by simp; omega
    go_enter Tryz.func114, Tryz.ntmps114
    go_upto_region 5 with (first
      | (go_at_call 62
         (with_reducible refine (CP.out _ (by repeat (first | exact X.out | exact X | refine Rd.ext ?_ _ | refine Rd.alloc ?_ _ | refine Rd.drew ?_))).mono ?_)
         rintro _ _ ⟨A1, c1, x1, rfl, rfl, hO1⟩
         obtain ⟨g, rfl, hc1, hc2⟩ := hO1.at0 hn0
         have hO := Lib.hid hO1
         clear hO1)
      | (go_at_call 131; ((with_reducible refine (SP.out _).mono ?_); rintro _ _ ⟨rfl, rfl⟩)))
    simp only [maxLen] at hc2
    have w1 : IntKind.i64.wrap ((a' : Int) + (N' : Int)) = (a' : Int) + (N' : Int) := wrap_i64 (by omega) (by omega)
    have i1 : (a' : Int) ≤ (a' : Int) + (N' : Int) := by omega
    have i2 : (a' : Int) + (N' : Int) ≤ (c1 : Int) := by omega
    have i3 : (0 : Int) ≤ (a' : Int) := by omega
    have hcap : ¬ c1 = a' := by omega
    go_region_held3 (fun w' => w'.cell? ⟨w.heap.size + 1 + 1 + x1.sz, 0, none⟩ = some (.slice (some ⟨g, 0, none⟩) xs.length c1) ∧ w'.cell? ⟨w.heap.size + 1 + 1 + x1.sz, 1, none⟩ = some (.int .i64 sz)) ((refine ⟨?_, ?_⟩ <;> simp [go_sem])) (fail)
    all_goals go_wp2
    all_goals go_returns
    all_goals exact PartL.of (by (repeat' (first | (with_reducible exact Below.refl _ _) | (with_reducible refine Below.alloc ?_ ?_ _) | (with_reducible refine below_ext ?_ ?_ _) | (with_reducible refine Below.drew ?_) | (with_reducible refine below_drewN ?_ _) | (with_reducible refine Below.setCell ?_ ?_ _) | go_size | (simp only [go_sem]; omega) | (simp [go_sem]; done) | (simp [go_sem]; omega)))) (by first | (simp [go_sem]; done) | (simp [go_sem]; omega)) (((own_swap (w := w.alloc (.cells #[.slice A xs.length C, .int .i64 sz] 67)) (o := (.cells #[.slice none 0 0, .int .i64 0] 67)) (by simpa [go_sem] using hO.out)).alloc _).drew) (fun h => by omega) (fun g' e => by
      injection e with e
      injection e with e
      subst e
      unfold cutV
      rw [hN, hA, if_neg (by omega), Int.toNat_natCast, Int.toNat_natCast, show ((a' : Int) + (N' : Int)).toNat - a' = N' by omega])
end Go.Proofs.YtignkkejkknddaaGreat
