/- Lines: what is done with the cells of a span. -/
import Derived.Test.YtdlngbmgcedbpaaLine13
import Derived.Test.YtdlngbmgcedbpaaRend2
namespace Go.Proofs.Ytdlngbmgcedbpaa
open Go.RowKit
set_option linter.unusedVariables false
set_option linter.unusedSimpArgs false

theorem put_d (c y : Cl) (w : World) : Calls Try.prog 107 #[cellV c, cellV y] w (Gives w (cellV c)) := by
  go_enter Try.func107, Try.ntmps107
  go_wp2
  go_returns
  exact ⟨rfl, by (repeat' (first | (with_reducible exact Below.refl _ _) | (with_reducible refine Below.alloc ?_ ?_ _) | (with_reducible refine below_ext ?_ ?_ _) | (with_reducible refine Below.drew ?_) | (with_reducible refine below_drewN ?_ _) | (with_reducible refine Below.setCell ?_ ?_ _) | go_size | (simp only [go_sem]; omega) | (simp [go_sem]; done) | (simp [go_sem]; omega)))⟩
@[go_sem] theorem cell_f0 (a b c : Value) (w : World) : (Instr.field 87 (.agg #[a, b, c]) 0).run Try.prog w = .ok a w := by kernel_rfl
def cleanC (y : Cl) : Cl := if y.k then y else ⟨32, y.r, y.k⟩
set_option maxRecDepth 100000 in
theorem clean_d (y : Cl) (w : World) : Calls Try.prog 109 #[cellV y] w (Gives w (cellV (cleanC y))) := by
  obtain ⟨g, r, k⟩ := y
  cases k
  · go_enter Try.func109, Try.ntmps109
    go_wp2_with (go_at_call 108; ((with_reducible refine (erased_c _).mono ?_); rintro _ _ hgets; obtain ⟨rfl, x1, rfl⟩ := hgets.get; clear hgets))
    go_returns
    exact ⟨rfl, by (repeat' (first | (with_reducible exact Below.refl _ _) | (with_reducible refine Below.alloc ?_ ?_ _) | (with_reducible refine below_ext ?_ ?_ _) | (with_reducible refine Below.drew ?_) | (with_reducible refine below_drewN ?_ _) | (with_reducible refine Below.setCell ?_ ?_ _) | go_size | (simp only [go_sem]; omega) | (simp [go_sem]; done) | (simp [go_sem]; omega)))⟩
  · go_enter Try.func109, Try.ntmps109
    go_wp2_with (go_at_call 108; ((with_reducible refine (erased_c _).mono ?_); rintro _ _ hgets; obtain ⟨rfl, x1, rfl⟩ := hgets.get; clear hgets))
    go_returns
    exact ⟨rfl, by (repeat' (first | (with_reducible exact Below.refl _ _) | (with_reducible refine Below.alloc ?_ ?_ _) | (with_reducible refine below_ext ?_ ?_ _) | (with_reducible refine Below.drew ?_) | (with_reducible refine below_drewN ?_ _) | (with_reducible refine Below.setCell ?_ ?_ _) | go_size | (simp only [go_sem]; omega) | (simp [go_sem]; done) | (simp [go_sem]; omega)))⟩
def keepC (b : Bool) (y : Cl) : Cl := ⟨y.g, y.r, b⟩
set_option maxRecDepth 100000 in
theorem keep_d (b : Bool) (y : Cl) (p : Nat) (w : World) (h : w.cell? ⟨p, 0, none⟩ = some (.bool b)) (hp : p < w.heap.size) : Calls Try.prog 112 #[cellV y, .pointer (some ⟨p, 0, none⟩)] w (Gives w (cellV (keepC b y))) := by
  obtain ⟨g, r, k⟩ := y
  go_enter Try.func112, Try.ntmps112
  go_wp2
  go_returns
  exact ⟨rfl, by (repeat' (first | (with_reducible exact Below.refl _ _) | (with_reducible refine Below.alloc ?_ ?_ _) | (with_reducible refine below_ext ?_ ?_ _) | (with_reducible refine Below.drew ?_) | (with_reducible refine below_drewN ?_ _) | (with_reducible refine Below.setCell ?_ ?_ _) | go_size | (simp only [go_sem]; omega) | (simp [go_sem]; done) | (simp [go_sem]; omega)))⟩
def applyC (p : List Int) (y : Cl) : Cl := ⟨y.g, (foldR oneF (Fl.of y.r) p).num, y.k⟩
def flipC (p : List Int) (y : Cl) : Cl := ⟨y.g, (foldR turnF (Fl.of y.r) p).num, y.k⟩
set_option maxRecDepth 100000 in
theorem apply_d (a : Option Addr) (c : Nat) (p : List Int) (y : Cl) (w : World) (hy : y.ok) (hx : Ints w a p) (hm : p.length ≤ 9223372036854775807) : Calls Try.prog 110 #[.slice a p.length c, cellV y] w (Gives w (cellV (applyC p y))) := by
  obtain ⟨g, r, k⟩ := y
  have E := Lib.hid (fun w' h => apply_c r hy.2.1 hy.2.2 a c p w' h hm)
  have X := Lib.hid hx
  clear hx hy
  unfold applyC
  go_enter Try.func110, Try.ntmps110
  go_wp2_with (go_at_call 121; ((with_reducible refine (E.out _ (by repeat (first | exact X.out | exact X | refine Rd.ext ?_ _ | refine Rd.alloc ?_ _ | refine Rd.drew ?_))).mono ?_); rintro _ _ ⟨rfl, rfl⟩))
  go_returns
  exact ⟨rfl, by (repeat' (first | (with_reducible exact Below.refl _ _) | (with_reducible refine Below.alloc ?_ ?_ _) | (with_reducible refine below_ext ?_ ?_ _) | (with_reducible refine Below.drew ?_) | (with_reducible refine below_drewN ?_ _) | (with_reducible refine Below.setCell ?_ ?_ _) | go_size | (simp only [go_sem]; omega) | (simp [go_sem]; done) | (simp [go_sem]; omega)))⟩
set_option maxRecDepth 100000 in
theorem flip_d (a : Option Addr) (c : Nat) (p : List Int) (y : Cl) (w : World) (hy : y.ok) (hx : Ints w a p) (hm : p.length ≤ 9223372036854775807) : Calls Try.prog 111 #[.slice a p.length c, cellV y] w (Gives w (cellV (flipC p y))) := by
  obtain ⟨g, r, k⟩ := y
  have E := Lib.hid (fun w' h => flip_c r hy.2.1 hy.2.2 a c p w' h hm)
  have X := Lib.hid hx
  clear hx hy
  unfold flipC
  go_enter Try.func111, Try.ntmps111
  go_wp2_with (go_at_call 122; ((with_reducible refine (E.out _ (by repeat (first | exact X.out | exact X | refine Rd.ext ?_ _ | refine Rd.alloc ?_ _ | refine Rd.drew ?_))).mono ?_); rintro _ _ ⟨rfl, rfl⟩))
  go_returns
  exact ⟨rfl, by (repeat' (first | (with_reducible exact Below.refl _ _) | (with_reducible refine Below.alloc ?_ ?_ _) | (with_reducible refine below_ext ?_ ?_ _) | (with_reducible refine Below.drew ?_) | (with_reducible refine below_drewN ?_ _) | (with_reducible refine Below.setCell ?_ ?_ _) | go_size | (simp only [go_sem]; omega) | (simp [go_sem]; done) | (simp [go_sem]; omega)))⟩
end Go.Proofs.Ytdlngbmgcedbpaa
