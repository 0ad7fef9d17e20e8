/- The fixed fact of the layer param; a slice of the law's own. -/
import Derived.Test.YtphkfffphlembaaDoorFmtB
import Derived.Test.YtphkfffphlembaaDoorRefP
namespace Go.Proofs.YtphkfffphlembaaDoor
open Go.RowKit
set_option linter.unusedVariables false
set_option linter.unusedSimpArgs false

theorem ints3 {w : World} {g : Nat} (a b c : Int) (hg : g = w.heap.size) : Ints (w.alloc (.cells #[.int .i64 a, .int .i64 b, .int .i64 c] 3)) (some ⟨g, 0, none⟩) [a, b, c] :=
  (Own.new (B := 0) (e := 3) (encI_len _) hg (xs := [a, b, c]) (rfl : (3 : Nat) = [a, b, c].length) _ rfl (Nat.zero_le _) (by simp [maxLen])).rd (encI_len _)
set_option maxRecDepth 100000 in
theorem awake_4 (w : World) (ht : Tab w) : Calls Tryd.prog 10 #[] w (Gives w (.bool true)) := by
  have HT := Lib.hid ht
  have p1 : parseV (bytesOf ⟨#[49, 59, 59, 57, 57, 57, 57, 57]⟩) = [1, 0, 65535] := by decide
  have p2 : parseE (bytesOf ⟨#[49, 59, 59, 57, 57, 57, 57, 57]⟩) = 0 := by decide
  have p3 : fmtL [1, 0, 70000] = [49, 59, 48, 59, 54, 53, 53, 51, 53] := by
    have d1 : Lib.decDigits 1 = [49] := by rw [Lib.decDigits_one (by omega)]; rfl
    have d0 : Lib.decDigits 0 = [48] := by rw [Lib.decDigits_one (by omega)]; rfl
    have d6 : Lib.decDigits 65535 = [54, 53, 53, 51, 53] := by
      rw [Lib.decDigits, dif_neg (by omega), Lib.decDigits, dif_neg (by omega), Lib.decDigits, dif_neg (by omega), Lib.decDigits_two (by omega) (by omega)]; rfl
    show joinS [Lib.decDigits 1, Lib.decDigits 0, Lib.decDigits 65535] = _
    rw [d1, d0, d6]; rfl
  have PA := Lib.hid (fun w' => parse_c ⟨#[49, 59, 59, 57, 57, 57, 57, 57]⟩ (by decide) w')
  rw [p1, p2] at PA
  have FM : Hid (∀ (w' : World) (g : Nat), Ints w' (some ⟨g, 0, none⟩) [1, 0, 70000] → Tab w' → Calls Tryd.prog 14 #[.slice (some ⟨g, 0, none⟩) 3 3] w' (Gives w' (.string ⟨#[49, 59, 48, 59, 54, 53, 53, 51, 53]⟩))) := Lib.hid (fun w' g rd ht' => by
    have := fmt_c (c := 3) w' rd (by decide) (by decide) ht'
    rw [p3] at this
    exact this)
  have SI : Hid (∀ (w' : World) (A : Option Addr) (g : Nat), Ints w' A [1, 0, 65535] → Ints w' (some ⟨g, 0, none⟩) [1, 0, 65535] → Calls Tryd.prog 13 #[.slice A 3 3, .slice (some ⟨g, 0, none⟩) 3 3] w' (Gives w' (.bool true))) := Lib.hid (fun w' A g h1 h2 => same_ints A (some ⟨g, 0, none⟩) 3 3 [1, 0, 65535] [1, 0, 65535] w' h1 h2 (by decide) (by decide))
  clear ht p1 p2 p3
  go_enter Tryd.func10, Tryd.ntmps10
  go_wp2_with (first
    | (go_at_call 11; (with_reducible refine (PA.out _).mono ?_); (rintro _ _ ⟨A1, x1, rfl, rfl, hC⟩); replace hC := Lib.hid hC)
    | (go_at_call 13; ((with_reducible refine (SI.out _ _ _ (hC.out.rd.alloc _) (ints3 1 0 65535 (by simp [go_sem]))).mono ?_); rintro _ _ hgets; obtain ⟨rfl, x2, rfl⟩ := hgets.get; clear hgets))
    | (go_at_call 14; ((with_reducible refine (FM.out _ _ (ints3 1 0 70000 (by simp [go_sem])) ((((HT.out.ext _).alloc _).ext _).alloc _)).mono ?_); rintro _ _ hgets; obtain ⟨rfl, x3, rfl⟩ := hgets.get; clear hgets)))
  go_returns
  exact ⟨rfl, by (repeat' (first | (with_reducible exact Below.refl _ _) | (with_reducible refine Below.alloc ?_ ?_ _) | (with_reducible refine below_ext ?_ ?_ _) | (with_reducible refine Below.drew ?_) | (with_reducible refine below_drewN ?_ _) | (with_reducible refine Below.setCell ?_ ?_ _) | go_size | (simp only [go_sem]; omega) | (simp [go_sem]; done) | (simp [go_sem]; omega)))⟩
end Go.Proofs.YtphkfffphlembaaDoor
