/- Lines: the reference's deeds. -/
import Derived.Test.YtdlngbmgcedbpaaRow
import Derived.Test.YtdlngbmgcedbpaaRend3
namespace Go.Proofs.Ytdlngbmgcedbpaa
open Go.RowKit
set_option linter.unusedVariables false
set_option linter.unusedSimpArgs false

/-- what a deed does with a cell -/
inductive Deed : Int → Cl → List Int → (Cl → Cl) → Prop
  | fill (c : Cl) (p : List Int) : Deed 1 c p fun _ => c
  | clean (c : Cl) (p : List Int) : Deed 2 c p cleanC
  | change (c : Cl) (p : List Int) : Deed 3 c p (applyC p)
  | flip (c : Cl) (p : List Int) : Deed 4 c p (flipC p)
  | keep (c : Cl) (p : List Int) : Deed 5 c p (keepC c.k)
set_option maxRecDepth 100000 in
set_option maxHeartbeats 4000000 in
theorem one_r (d : Int) (c : Cl) (a : Option Addr) (cp : Nat) (p : List Int) (F : Cl → Cl) (hd : Deed d c p F) (y : Cl) (w : World) (hy : y.ok) (hx : Ints w a p) (hm : p.length ≤ 9223372036854775807) :
    Calls Try.prog 103 #[.int .i64 d, cellV y, cellV c, .slice a p.length cp] w (Gives w (cellV (F y))) := by
  obtain ⟨g, r, k⟩ := y
  obtain ⟨cg, cr, ck⟩ := c
  have X := Lib.hid hx
  clear hx
  cases hd
  · go_enter Try.func103, Try.ntmps103
    go_wp2
    go_returns
    exact ⟨rfl, by (repeat' (first | (with_reducible exact Below.refl _ _) | (with_reducible refine Below.alloc ?_ ?_ _) | (with_reducible refine below_ext ?_ ?_ _) | (with_reducible refine Below.drew ?_) | (with_reducible refine below_drewN ?_ _) | (with_reducible refine Below.setCell ?_ ?_ _) | go_size | (simp only [go_sem]; omega) | (simp [go_sem]; done) | (simp [go_sem]; omega)))⟩
  · cases k
    · go_enter Try.func103, Try.ntmps103
      go_wp2
      go_returns
      exact ⟨rfl, by (repeat' (first | (with_reducible exact Below.refl _ _) | (with_reducible refine Below.alloc ?_ ?_ _) | (with_reducible refine below_ext ?_ ?_ _) | (with_reducible refine Below.drew ?_) | (with_reducible refine below_drewN ?_ _) | (with_reducible refine Below.setCell ?_ ?_ _) | go_size | (simp only [go_sem]; omega) | (simp [go_sem]; done) | (simp [go_sem]; omega)))⟩
    · go_enter Try.func103, Try.ntmps103
      go_wp2
      go_returns
      exact ⟨rfl, by (repeat' (first | (with_reducible exact Below.refl _ _) | (with_reducible refine Below.alloc ?_ ?_ _) | (with_reducible refine below_ext ?_ ?_ _) | (with_reducible refine Below.drew ?_) | (with_reducible refine below_drewN ?_ _) | (with_reducible refine Below.setCell ?_ ?_ _) | go_size | (simp only [go_sem]; omega) | (simp [go_sem]; done) | (simp [go_sem]; omega)))⟩
  · have E := Lib.hid (fun w' h => apply_r r hy.2.1 hy.2.2 a cp p w' h hm)
    clear hy
    unfold applyC
    go_enter Try.func103, Try.ntmps103
    go_wp2_with (go_at_call 119; (with_reducible refine (E.out _ ?_).mono ?_); (focus ((repeat (first | (with_reducible exact X.out) | (with_reducible exact X) | (with_reducible refine Rd.ext ?_ _) | (with_reducible refine Rd.alloc ?_ _) | (with_reducible refine Rd.drew ?_))); done)); rintro _ _ hgets; obtain ⟨rfl, x1, rfl⟩ := hgets.get; clear hgets)
    go_returns
    exact ⟨rfl, by (repeat' (first | (with_reducible exact Below.refl _ _) | (with_reducible refine Below.alloc ?_ ?_ _) | (with_reducible refine below_ext ?_ ?_ _) | (with_reducible refine Below.drew ?_) | (with_reducible refine below_drewN ?_ _) | (with_reducible refine Below.setCell ?_ ?_ _) | go_size | (simp only [go_sem]; omega) | (simp [go_sem]; done) | (simp [go_sem]; omega)))⟩
  · have E := Lib.hid (fun w' h => flip_r r hy.2.1 hy.2.2 a cp p w' h hm)
    clear hy
    unfold flipC
    go_enter Try.func103, Try.ntmps103
    go_wp2_with (go_at_call 120; (with_reducible refine (E.out _ ?_).mono ?_); (focus ((repeat (first | (with_reducible exact X.out) | (with_reducible exact X) | (with_reducible refine Rd.ext ?_ _) | (with_reducible refine Rd.alloc ?_ _) | (with_reducible refine Rd.drew ?_))); done)); rintro _ _ hgets; obtain ⟨rfl, x1, rfl⟩ := hgets.get; clear hgets)
    go_returns
    exact ⟨rfl, by (repeat' (first | (with_reducible exact Below.refl _ _) | (with_reducible refine Below.alloc ?_ ?_ _) | (with_reducible refine below_ext ?_ ?_ _) | (with_reducible refine Below.drew ?_) | (with_reducible refine below_drewN ?_ _) | (with_reducible refine Below.setCell ?_ ?_ _) | go_size | (simp only [go_sem]; omega) | (simp [go_sem]; done) | (simp [go_sem]; omega)))⟩
  · go_enter Try.func103, Try.ntmps103
    go_wp2
    go_returns
    exact ⟨rfl, by (repeat' (first | (with_reducible exact Below.refl _ _) | (with_reducible refine Below.alloc ?_ ?_ _) | (with_reducible refine below_ext ?_ ?_ _) | (with_reducible refine Below.drew ?_) | (with_reducible refine below_drewN ?_ _) | (with_reducible refine Below.setCell ?_ ?_ _) | go_size | (simp only [go_sem]; omega) | (simp [go_sem]; done) | (simp [go_sem]; omega)))⟩
end Go.Proofs.Ytdlngbmgcedbpaa
