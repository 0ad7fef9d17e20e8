/- Rows as bytes: what the reference's function returns. -/
import Derived.Test.YtmpbgjnkkapijaaEnc2
namespace Go.Proofs.Ytmpbgjnkkapijaa
open Go.RowKit
set_option linter.unusedVariables false
set_option linter.unusedSimpArgs false

theorem merge_stop {c : Cl} {n : Nat} {ys : List Cl} (h : ∀ y t, ys = y :: t → ¬ (c = y ∧ n < 255)) : merge ⟨c, n⟩ ys = ⟨c, n⟩ :: runsL ys := by
  rcases ys with _ | ⟨y, t⟩
  · rfl
  · unfold merge
    rw [if_neg (h y t rfl)]
    rfl
attribute [local go_sem ↓] cell_eql
set_option maxRecDepth 100000 in
set_option maxHeartbeats 8000000 in
theorem encode_r (a : Option Addr) (c : Nat) (xs : List Cl) (w : World) (hx : Rd encC 3 w a xs) (hm : xs.length ≤ 4000) (hok : ∀ x ∈ xs, x.ok) :
    Calls Try.prog 25 #[.slice a xs.length c] w (NewBs w (encL (runsL xs))) := by
  have X := Lib.hid hx
  have OK := Lib.hid hok
  clear hx hok
  have hL : (encL (runsL xs)).length ≤ 28000 := by rw [encL_len]; have := runs_len xs; omega
  go_enter Try.func25, Try.ntmps25
  go_wp2
  go_loopw [3, 4] (fun v iv wr => ∃ (i : Nat) (l : List Int), i ≤ xs.length ∧ iv = .int .i64 i ∧ NewB w l v wr ∧ Hid (l ++ encL (runsL (xs.drop i)) = encL (runsL xs))) (fun _ iv _ => xs.length - (intOf iv).toNat)
  case atStart => exact ⟨0, [], by omega, rfl, ⟨none, 0, rfl, Below.refl _ _, Own.nil _ _ _ _ _⟩, rfl⟩
  case round =>
    obtain ⟨i, E, hi, rfl, hN, hr⟩ := hrel
    obtain ⟨B, bc, x, rfl, rfl, hO⟩ := hN.get
    clear hN
    have hel : E.length ≤ 28000 := by have := congrArg List.length hr.out; simp only [List.length_append] at this; omega
    replace hO := Lib.hid hO
    by_cases hlt : i < xs.length
    · have q1 := OK.out xs[i] (List.getElem_mem hlt)
      obtain ⟨b1, o1, rfl, hb1, d0, d1, d2⟩ := X.out.cell3 hlt
      have hdr := Lib.hid (show runsL (xs.drop i) = merge ⟨xs[i], 1⟩ (xs.drop (i + 1)) by rw [List.drop_eq_getElem_cons hlt]; rfl)
      generalize xs[i] = y at d0 d1 d2 q1 hdr
      obtain ⟨yg, yr, yk⟩ := y
      obtain ⟨⟨q1, q2⟩, q3, q4⟩ := q1
      simp only at d0 d1 d2 q1 q2 q3 q4
      go_wp2
      go_loopw [5] (fun nv wr => ∃ (n : Nat) (x' : More), 1 ≤ n ∧ n ≤ 255 ∧ i + n ≤ xs.length ∧ nv = .int .i64 n ∧ wr = ext (ext w x) x' ∧ Hid (merge ⟨⟨yg, yr, yk⟩, n⟩ (xs.drop (i + n)) = runsL (xs.drop i))) (fun nv _ => 255 - (intOf nv).toNat)
      case atStart => exact ⟨1, ⟨#[], _⟩, by omega, by omega, by omega, rfl, by simp [ext]; rfl, hdr.out.symm⟩
      case round =>
        obtain ⟨n, x', n1, n2, n3, rfl, rfl, hmg⟩ := hrel
        by_cases hn : i + n < xs.length
        · obtain ⟨b2, o2, hbe, hb2, f0, f1, f2⟩ := X.out.cell3 hn
          injection hbe with hbe
          injection hbe with hbe1 hbe2
          subst hbe1 hbe2
          have hd := Lib.hid (show xs.drop (i + n) = xs[i + n] :: xs.drop (i + n + 1) from List.drop_eq_getElem_cons hn)
          generalize xs[i + n] = z at f0 f1 f2 hd
          obtain ⟨zg, zr, zk⟩ := z
          simp only at f0 f1 f2
          have hb1 : decide ((i : Int) + (n : Int) < (xs.length : Int)) = true := by simp; omega
          by_cases h255 : n < 255
          · have hb2 : decide ((n : Int) < 255) = true := by simp; omega
            by_cases he : (⟨zg, zr, zk⟩ : Cl) = ⟨yg, yr, yk⟩
            · have he2 := eqC_t he
              have HM := Lib.hid (show merge ⟨⟨yg, yr, yk⟩, n + 1⟩ (xs.drop (i + (n + 1))) = runsL (xs.drop i) by
                rw [← hmg.out, hd.out, merge, if_pos ⟨he.symm, h255⟩, Nat.add_assoc])
              clear he
              go_wp2
              (refine wp_region_free (by kernel_rfl) (by kernel_rfl) ?_)
              repeat (go_big_quiet_step (fail))
              refine wpQuiet_nil ?_; rintro _ ⟨x2, rfl⟩
              go_wp2
              go_roundw
              case rel => exact ⟨n + 1, _, by omega, by omega, by omega, by go_num, ext_ext _ _ _, HM.out⟩
              case measure => simp [intOf]; omega
            · have he2 := eqC_f he
              have HF := Lib.hid (show runsL (xs.drop i) = ⟨⟨yg, yr, yk⟩, n⟩ :: runsL (xs.drop (i + n)) by
                rw [← hmg.out]; exact merge_stop (fun y t h hh => he (by rw [hd.out] at h; injection h with h _; rw [h]; exact hh.1.symm)))
              clear he
              go_wp2
              (refine wp_region_free (by kernel_rfl) (by kernel_rfl) ?_)
              repeat (go_big_quiet_step (fail))
              refine wpQuiet_nil ?_; rintro _ ⟨x2, rfl⟩
              by_cases hg : yg < 0
              · cases yk
                . go_wp2_with (first
                    | (at_builtin
                       refine append_rd (U := w) (.tmp 51) (.tmp 68) 37 5 _ 1 rfl rfl Try.underlying37 byte_info rfl (by omega) (encI_len _) (encI_one _) E [_, _, _, _, _, _, _] _ _ _ rfl rfl ?_ ((((hO.out.ext _).ext _).alloc _).alloc _) (seven_new _ _ _ _ _ _ _ _ (by simp [go_sem])) (by simp [maxLen]; omega) (by simp; omega) ?_
                       · (repeat' (first | (with_reducible exact Below.refl _ _) | (with_reducible refine Below.alloc ?_ ?_ _) | (with_reducible refine below_ext ?_ ?_ _) | (with_reducible refine Below.drew ?_) | (with_reducible refine below_drewN ?_ _) | (with_reducible refine Below.setCell ?_ ?_ _) | go_size | (simp only [go_sem]; omega) | (simp [go_sem]; done) | (simp [go_sem]; omega)))
                       intro A' c' x3 zs hz1 hO1
                       have hO2 := Lib.hid hO1
                       have hz := Lib.hid hz1
                       clear hO1 hz1))
                  go_roundw
                  case rel =>
                    refine ⟨i + n, zs, by omega, by go_num, ⟨_, _, rfl, by (repeat' (first | (with_reducible exact Below.refl _ _) | (with_reducible refine Below.alloc ?_ ?_ _) | (with_reducible refine below_ext ?_ ?_ _) | (with_reducible refine Below.drew ?_) | (with_reducible refine below_drewN ?_ _) | (with_reducible refine Below.setCell ?_ ?_ _) | go_size | (simp only [go_sem]; omega) | (simp [go_sem]; done) | (simp [go_sem]; omega))), hO2.out⟩, ?_⟩
                    rw [← hr.out, HF.out, hz.out, List.append_assoc]
                    congr 1
                    show _ = encRun _ ++ encL _
                    congr 1
                    simp only [encRun, List.cons.injEq, and_true, true_and, bi]
                    refine ⟨?_, ?_, ?_, ?_, ?_⟩ <;> first | omega | simp
                  case measure => simp [intOf]; omega
                . go_wp2_with (first
                    | (at_builtin
                       refine append_rd (U := w) (.tmp 51) (.tmp 68) 37 5 _ 1 rfl rfl Try.underlying37 byte_info rfl (by omega) (encI_len _) (encI_one _) E [_, _, _, _, _, _, _] _ _ _ rfl rfl ?_ ((((hO.out.ext _).ext _).alloc _).alloc _) (seven_new _ _ _ _ _ _ _ _ (by simp [go_sem])) (by simp [maxLen]; omega) (by simp; omega) ?_
                       · (repeat' (first | (with_reducible exact Below.refl _ _) | (with_reducible refine Below.alloc ?_ ?_ _) | (with_reducible refine below_ext ?_ ?_ _) | (with_reducible refine Below.drew ?_) | (with_reducible refine below_drewN ?_ _) | (with_reducible refine Below.setCell ?_ ?_ _) | go_size | (simp only [go_sem]; omega) | (simp [go_sem]; done) | (simp [go_sem]; omega)))
                       intro A' c' x3 zs hz1 hO1
                       have hO2 := Lib.hid hO1
                       have hz := Lib.hid hz1
                       clear hO1 hz1))
                  go_roundw
                  case rel =>
                    refine ⟨i + n, zs, by omega, by go_num, ⟨_, _, rfl, by (repeat' (first | (with_reducible exact Below.refl _ _) | (with_reducible refine Below.alloc ?_ ?_ _) | (with_reducible refine below_ext ?_ ?_ _) | (with_reducible refine Below.drew ?_) | (with_reducible refine below_drewN ?_ _) | (with_reducible refine Below.setCell ?_ ?_ _) | go_size | (simp only [go_sem]; omega) | (simp [go_sem]; done) | (simp [go_sem]; omega))), hO2.out⟩, ?_⟩
                    rw [← hr.out, HF.out, hz.out, List.append_assoc]
                    congr 1
                    show _ = encRun _ ++ encL _
                    congr 1
                    simp only [encRun, List.cons.injEq, and_true, true_and, bi]
                    refine ⟨?_, ?_, ?_, ?_, ?_⟩ <;> first | omega | simp
                  case measure => simp [intOf]; omega
              · cases yk
                . go_wp2_with (first
                    | (at_builtin
                       refine append_rd (U := w) (.tmp 51) (.tmp 68) 37 5 _ 1 rfl rfl Try.underlying37 byte_info rfl (by omega) (encI_len _) (encI_one _) E [_, _, _, _, _, _, _] _ _ _ rfl rfl ?_ ((((hO.out.ext _).ext _).alloc _).alloc _) (seven_new _ _ _ _ _ _ _ _ (by simp [go_sem])) (by simp [maxLen]; omega) (by simp; omega) ?_
                       · (repeat' (first | (with_reducible exact Below.refl _ _) | (with_reducible refine Below.alloc ?_ ?_ _) | (with_reducible refine below_ext ?_ ?_ _) | (with_reducible refine Below.drew ?_) | (with_reducible refine below_drewN ?_ _) | (with_reducible refine Below.setCell ?_ ?_ _) | go_size | (simp only [go_sem]; omega) | (simp [go_sem]; done) | (simp [go_sem]; omega)))
                       intro A' c' x3 zs hz1 hO1
                       have hO2 := Lib.hid hO1
                       have hz := Lib.hid hz1
                       clear hO1 hz1))
                  go_roundw
                  case rel =>
                    refine ⟨i + n, zs, by omega, by go_num, ⟨_, _, rfl, by (repeat' (first | (with_reducible exact Below.refl _ _) | (with_reducible refine Below.alloc ?_ ?_ _) | (with_reducible refine below_ext ?_ ?_ _) | (with_reducible refine Below.drew ?_) | (with_reducible refine below_drewN ?_ _) | (with_reducible refine Below.setCell ?_ ?_ _) | go_size | (simp only [go_sem]; omega) | (simp [go_sem]; done) | (simp [go_sem]; omega))), hO2.out⟩, ?_⟩
                    rw [← hr.out, HF.out, hz.out, List.append_assoc]
                    congr 1
                    show _ = encRun _ ++ encL _
                    congr 1
                    simp only [encRun, List.cons.injEq, and_true, true_and, bi]
                    refine ⟨?_, ?_, ?_, ?_, ?_⟩ <;> first | omega | simp
                  case measure => simp [intOf]; omega
                . go_wp2_with (first
                    | (at_builtin
                       refine append_rd (U := w) (.tmp 51) (.tmp 68) 37 5 _ 1 rfl rfl Try.underlying37 byte_info rfl (by omega) (encI_len _) (encI_one _) E [_, _, _, _, _, _, _] _ _ _ rfl rfl ?_ ((((hO.out.ext _).ext _).alloc _).alloc _) (seven_new _ _ _ _ _ _ _ _ (by simp [go_sem])) (by simp [maxLen]; omega) (by simp; omega) ?_
                       · (repeat' (first | (with_reducible exact Below.refl _ _) | (with_reducible refine Below.alloc ?_ ?_ _) | (with_reducible refine below_ext ?_ ?_ _) | (with_reducible refine Below.drew ?_) | (with_reducible refine below_drewN ?_ _) | (with_reducible refine Below.setCell ?_ ?_ _) | go_size | (simp only [go_sem]; omega) | (simp [go_sem]; done) | (simp [go_sem]; omega)))
                       intro A' c' x3 zs hz1 hO1
                       have hO2 := Lib.hid hO1
                       have hz := Lib.hid hz1
                       clear hO1 hz1))
                  go_roundw
                  case rel =>
                    refine ⟨i + n, zs, by omega, by go_num, ⟨_, _, rfl, by (repeat' (first | (with_reducible exact Below.refl _ _) | (with_reducible refine Below.alloc ?_ ?_ _) | (with_reducible refine below_ext ?_ ?_ _) | (with_reducible refine Below.drew ?_) | (with_reducible refine below_drewN ?_ _) | (with_reducible refine Below.setCell ?_ ?_ _) | go_size | (simp only [go_sem]; omega) | (simp [go_sem]; done) | (simp [go_sem]; omega))), hO2.out⟩, ?_⟩
                    rw [← hr.out, HF.out, hz.out, List.append_assoc]
                    congr 1
                    show _ = encRun _ ++ encL _
                    congr 1
                    simp only [encRun, List.cons.injEq, and_true, true_and, bi]
                    refine ⟨?_, ?_, ?_, ?_, ?_⟩ <;> first | omega | simp
                  case measure => simp [intOf]; omega
          · have hb2 : decide ((n : Int) < 255) = false := by simp; omega
            have HF := Lib.hid (show runsL (xs.drop i) = ⟨⟨yg, yr, yk⟩, n⟩ :: runsL (xs.drop (i + n)) by
              rw [← hmg.out]; exact merge_stop (fun y t h hh => h255 hh.2))
            clear h255
            go_wp2
            (refine wp_region_free (by kernel_rfl) (by kernel_rfl) ?_)
            repeat (go_big_quiet_step (fail))
            refine wpQuiet_nil ?_; rintro _ ⟨x2, rfl⟩
            by_cases hg : yg < 0
            · cases yk
              . go_wp2_with (first
                  | (at_builtin
                     refine append_rd (U := w) (.tmp 51) (.tmp 68) 37 5 _ 1 rfl rfl Try.underlying37 byte_info rfl (by omega) (encI_len _) (encI_one _) E [_, _, _, _, _, _, _] _ _ _ rfl rfl ?_ ((((hO.out.ext _).ext _).alloc _).alloc _) (seven_new _ _ _ _ _ _ _ _ (by simp [go_sem])) (by simp [maxLen]; omega) (by simp; omega) ?_
                     · (repeat' (first | (with_reducible exact Below.refl _ _) | (with_reducible refine Below.alloc ?_ ?_ _) | (with_reducible refine below_ext ?_ ?_ _) | (with_reducible refine Below.drew ?_) | (with_reducible refine below_drewN ?_ _) | (with_reducible refine Below.setCell ?_ ?_ _) | go_size | (simp only [go_sem]; omega) | (simp [go_sem]; done) | (simp [go_sem]; omega)))
                     intro A' c' x3 zs hz1 hO1
                     have hO2 := Lib.hid hO1
                     have hz := Lib.hid hz1
                     clear hO1 hz1))
                go_roundw
                case rel =>
                  refine ⟨i + n, zs, by omega, by go_num, ⟨_, _, rfl, by (repeat' (first | (with_reducible exact Below.refl _ _) | (with_reducible refine Below.alloc ?_ ?_ _) | (with_reducible refine below_ext ?_ ?_ _) | (with_reducible refine Below.drew ?_) | (with_reducible refine below_drewN ?_ _) | (with_reducible refine Below.setCell ?_ ?_ _) | go_size | (simp only [go_sem]; omega) | (simp [go_sem]; done) | (simp [go_sem]; omega))), hO2.out⟩, ?_⟩
                  rw [← hr.out, HF.out, hz.out, List.append_assoc]
                  congr 1
                  show _ = encRun _ ++ encL _
                  congr 1
                  simp only [encRun, List.cons.injEq, and_true, true_and, bi]
                  refine ⟨?_, ?_, ?_, ?_, ?_⟩ <;> first | omega | simp
                case measure => simp [intOf]; omega
              . go_wp2_with (first
                  | (at_builtin
                     refine append_rd (U := w) (.tmp 51) (.tmp 68) 37 5 _ 1 rfl rfl Try.underlying37 byte_info rfl (by omega) (encI_len _) (encI_one _) E [_, _, _, _, _, _, _] _ _ _ rfl rfl ?_ ((((hO.out.ext _).ext _).alloc _).alloc _) (seven_new _ _ _ _ _ _ _ _ (by simp [go_sem])) (by simp [maxLen]; omega) (by simp; omega) ?_
                     · (repeat' (first | (with_reducible exact Below.refl _ _) | (with_reducible refine Below.alloc ?_ ?_ _) | (with_reducible refine below_ext ?_ ?_ _) | (with_reducible refine Below.drew ?_) | (with_reducible refine below_drewN ?_ _) | (with_reducible refine Below.setCell ?_ ?_ _) | go_size | (simp only [go_sem]; omega) | (simp [go_sem]; done) | (simp [go_sem]; omega)))
                     intro A' c' x3 zs hz1 hO1
                     have hO2 := Lib.hid hO1
                     have hz := Lib.hid hz1
                     clear hO1 hz1))
                go_roundw
                case rel =>
                  refine ⟨i + n, zs, by omega, by go_num, ⟨_, _, rfl, by (repeat' (first | (with_reducible exact Below.refl _ _) | (with_reducible refine Below.alloc ?_ ?_ _) | (with_reducible refine below_ext ?_ ?_ _) | (with_reducible refine Below.drew ?_) | (with_reducible refine below_drewN ?_ _) | (with_reducible refine Below.setCell ?_ ?_ _) | go_size | (simp only [go_sem]; omega) | (simp [go_sem]; done) | (simp [go_sem]; omega))), hO2.out⟩, ?_⟩
                  rw [← hr.out, HF.out, hz.out, List.append_assoc]
                  congr 1
                  show _ = encRun _ ++ encL _
                  congr 1
                  simp only [encRun, List.cons.injEq, and_true, true_and, bi]
                  refine ⟨?_, ?_, ?_, ?_, ?_⟩ <;> first | omega | simp
                case measure => simp [intOf]; omega
            · cases yk
              . go_wp2_with (first
                  | (at_builtin
                     refine append_rd (U := w) (.tmp 51) (.tmp 68) 37 5 _ 1 rfl rfl Try.underlying37 byte_info rfl (by omega) (encI_len _) (encI_one _) E [_, _, _, _, _, _, _] _ _ _ rfl rfl ?_ ((((hO.out.ext _).ext _).alloc _).alloc _) (seven_new _ _ _ _ _ _ _ _ (by simp [go_sem])) (by simp [maxLen]; omega) (by simp; omega) ?_
                     · (repeat' (first | (with_reducible exact Below.refl _ _) | (with_reducible refine Below.alloc ?_ ?_ _) | (with_reducible refine below_ext ?_ ?_ _) | (with_reducible refine Below.drew ?_) | (with_reducible refine below_drewN ?_ _) | (with_reducible refine Below.setCell ?_ ?_ _) | go_size | (simp only [go_sem]; omega) | (simp [go_sem]; done) | (simp [go_sem]; omega)))
                     intro A' c' x3 zs hz1 hO1
                     have hO2 := Lib.hid hO1
                     have hz := Lib.hid hz1
                     clear hO1 hz1))
                go_roundw
                case rel =>
                  refine ⟨i + n, zs, by omega, by go_num, ⟨_, _, rfl, by (repeat' (first | (with_reducible exact Below.refl _ _) | (with_reducible refine Below.alloc ?_ ?_ _) | (with_reducible refine below_ext ?_ ?_ _) | (with_reducible refine Below.drew ?_) | (with_reducible refine below_drewN ?_ _) | (with_reducible refine Below.setCell ?_ ?_ _) | go_size | (simp only [go_sem]; omega) | (simp [go_sem]; done) | (simp [go_sem]; omega))), hO2.out⟩, ?_⟩
                  rw [← hr.out, HF.out, hz.out, List.append_assoc]
                  congr 1
                  show _ = encRun _ ++ encL _
                  congr 1
                  simp only [encRun, List.cons.injEq, and_true, true_and, bi]
                  refine ⟨?_, ?_, ?_, ?_, ?_⟩ <;> first | omega | simp
                case measure => simp [intOf]; omega
              . go_wp2_with (first
                  | (at_builtin
                     refine append_rd (U := w) (.tmp 51) (.tmp 68) 37 5 _ 1 rfl rfl Try.underlying37 byte_info rfl (by omega) (encI_len _) (encI_one _) E [_, _, _, _, _, _, _] _ _ _ rfl rfl ?_ ((((hO.out.ext _).ext _).alloc _).alloc _) (seven_new _ _ _ _ _ _ _ _ (by simp [go_sem])) (by simp [maxLen]; omega) (by simp; omega) ?_
                     · (repeat' (first | (with_reducible exact Below.refl _ _) | (with_reducible refine Below.alloc ?_ ?_ _) | (with_reducible refine below_ext ?_ ?_ _) | (with_reducible refine Below.drew ?_) | (with_reducible refine below_drewN ?_ _) | (with_reducible refine Below.setCell ?_ ?_ _) | go_size | (simp only [go_sem]; omega) | (simp [go_sem]; done) | (simp [go_sem]; omega)))
                     intro A' c' x3 zs hz1 hO1
                     have hO2 := Lib.hid hO1
                     have hz := Lib.hid hz1
                     clear hO1 hz1))
                go_roundw
                case rel =>
                  refine ⟨i + n, zs, by omega, by go_num, ⟨_, _, rfl, by (repeat' (first | (with_reducible exact Below.refl _ _) | (with_reducible refine Below.alloc ?_ ?_ _) | (with_reducible refine below_ext ?_ ?_ _) | (with_reducible refine Below.drew ?_) | (with_reducible refine below_drewN ?_ _) | (with_reducible refine Below.setCell ?_ ?_ _) | go_size | (simp only [go_sem]; omega) | (simp [go_sem]; done) | (simp [go_sem]; omega))), hO2.out⟩, ?_⟩
                  rw [← hr.out, HF.out, hz.out, List.append_assoc]
                  congr 1
                  show _ = encRun _ ++ encL _
                  congr 1
                  simp only [encRun, List.cons.injEq, and_true, true_and, bi]
                  refine ⟨?_, ?_, ?_, ?_, ?_⟩ <;> first | omega | simp
                case measure => simp [intOf]; omega
        · have hb1 : decide ((i : Int) + (n : Int) < (xs.length : Int)) = false := by simp; omega
          have HF := Lib.hid (show runsL (xs.drop i) = ⟨⟨yg, yr, yk⟩, n⟩ :: runsL (xs.drop (i + n)) by
            rw [← hmg.out]; exact merge_stop (fun y t h hh => by rw [List.drop_of_length_le (by omega)] at h; cases h))
          go_wp2
          (refine wp_region_free (by kernel_rfl) (by kernel_rfl) ?_)
          repeat (go_big_quiet_step (fail))
          refine wpQuiet_nil ?_; rintro _ ⟨x2, rfl⟩
          by_cases hg : yg < 0
          · cases yk
            . go_wp2_with (first
                | (at_builtin
                   refine append_rd (U := w) (.tmp 51) (.tmp 68) 37 5 _ 1 rfl rfl Try.underlying37 byte_info rfl (by omega) (encI_len _) (encI_one _) E [_, _, _, _, _, _, _] _ _ _ rfl rfl ?_ ((((hO.out.ext _).ext _).alloc _).alloc _) (seven_new _ _ _ _ _ _ _ _ (by simp [go_sem])) (by simp [maxLen]; omega) (by simp; omega) ?_
                   · (repeat' (first | (with_reducible exact Below.refl _ _) | (with_reducible refine Below.alloc ?_ ?_ _) | (with_reducible refine below_ext ?_ ?_ _) | (with_reducible refine Below.drew ?_) | (with_reducible refine below_drewN ?_ _) | (with_reducible refine Below.setCell ?_ ?_ _) | go_size | (simp only [go_sem]; omega) | (simp [go_sem]; done) | (simp [go_sem]; omega)))
                   intro A' c' x3 zs hz1 hO1
                   have hO2 := Lib.hid hO1
                   have hz := Lib.hid hz1
                   clear hO1 hz1))
              go_roundw
              case rel =>
                refine ⟨i + n, zs, by omega, by go_num, ⟨_, _, rfl, by (repeat' (first | (with_reducible exact Below.refl _ _) | (with_reducible refine Below.alloc ?_ ?_ _) | (with_reducible refine below_ext ?_ ?_ _) | (with_reducible refine Below.drew ?_) | (with_reducible refine below_drewN ?_ _) | (with_reducible refine Below.setCell ?_ ?_ _) | go_size | (simp only [go_sem]; omega) | (simp [go_sem]; done) | (simp [go_sem]; omega))), hO2.out⟩, ?_⟩
                rw [← hr.out, HF.out, hz.out, List.append_assoc]
                congr 1
                show _ = encRun _ ++ encL _
                congr 1
                simp only [encRun, List.cons.injEq, and_true, true_and, bi]
                refine ⟨?_, ?_, ?_, ?_, ?_⟩ <;> first | omega | simp
              case measure => simp [intOf]; omega
            . go_wp2_with (first
                | (at_builtin
                   refine append_rd (U := w) (.tmp 51) (.tmp 68) 37 5 _ 1 rfl rfl Try.underlying37 byte_info rfl (by omega) (encI_len _) (encI_one _) E [_, _, _, _, _, _, _] _ _ _ rfl rfl ?_ ((((hO.out.ext _).ext _).alloc _).alloc _) (seven_new _ _ _ _ _ _ _ _ (by simp [go_sem])) (by simp [maxLen]; omega) (by simp; omega) ?_
                   · (repeat' (first | (with_reducible exact Below.refl _ _) | (with_reducible refine Below.alloc ?_ ?_ _) | (with_reducible refine below_ext ?_ ?_ _) | (with_reducible refine Below.drew ?_) | (with_reducible refine below_drewN ?_ _) | (with_reducible refine Below.setCell ?_ ?_ _) | go_size | (simp only [go_sem]; omega) | (simp [go_sem]; done) | (simp [go_sem]; omega)))
                   intro A' c' x3 zs hz1 hO1
                   have hO2 := Lib.hid hO1
                   have hz := Lib.hid hz1
                   clear hO1 hz1))
              go_roundw
              case rel =>
                refine ⟨i + n, zs, by omega, by go_num, ⟨_, _, rfl, by (repeat' (first | (with_reducible exact Below.refl _ _) | (with_reducible refine Below.alloc ?_ ?_ _) | (with_reducible refine below_ext ?_ ?_ _) | (with_reducible refine Below.drew ?_) | (with_reducible refine below_drewN ?_ _) | (with_reducible refine Below.setCell ?_ ?_ _) | go_size | (simp only [go_sem]; omega) | (simp [go_sem]; done) | (simp [go_sem]; omega))), hO2.out⟩, ?_⟩
                rw [← hr.out, HF.out, hz.out, List.append_assoc]
                congr 1
                show _ = encRun _ ++ encL _
                congr 1
                simp only [encRun, List.cons.injEq, and_true, true_and, bi]
                refine ⟨?_, ?_, ?_, ?_, ?_⟩ <;> first | omega | simp
              case measure => simp [intOf]; omega
          · cases yk
            . go_wp2_with (first
                | (at_builtin
                   refine append_rd (U := w) (.tmp 51) (.tmp 68) 37 5 _ 1 rfl rfl Try.underlying37 byte_info rfl (by omega) (encI_len _) (encI_one _) E [_, _, _, _, _, _, _] _ _ _ rfl rfl ?_ ((((hO.out.ext _).ext _).alloc _).alloc _) (seven_new _ _ _ _ _ _ _ _ (by simp [go_sem])) (by simp [maxLen]; omega) (by simp; omega) ?_
                   · (repeat' (first | (with_reducible exact Below.refl _ _) | (with_reducible refine Below.alloc ?_ ?_ _) | (with_reducible refine below_ext ?_ ?_ _) | (with_reducible refine Below.drew ?_) | (with_reducible refine below_drewN ?_ _) | (with_reducible refine Below.setCell ?_ ?_ _) | go_size | (simp only [go_sem]; omega) | (simp [go_sem]; done) | (simp [go_sem]; omega)))
                   intro A' c' x3 zs hz1 hO1
                   have hO2 := Lib.hid hO1
                   have hz := Lib.hid hz1
                   clear hO1 hz1))
              go_roundw
              case rel =>
                refine ⟨i + n, zs, by omega, by go_num, ⟨_, _, rfl, by (repeat' (first | (with_reducible exact Below.refl _ _) | (with_reducible refine Below.alloc ?_ ?_ _) | (with_reducible refine below_ext ?_ ?_ _) | (with_reducible refine Below.drew ?_) | (with_reducible refine below_drewN ?_ _) | (with_reducible refine Below.setCell ?_ ?_ _) | go_size | (simp only [go_sem]; omega) | (simp [go_sem]; done) | (simp [go_sem]; omega))), hO2.out⟩, ?_⟩
                rw [← hr.out, HF.out, hz.out, List.append_assoc]
                congr 1
                show _ = encRun _ ++ encL _
                congr 1
                simp only [encRun, List.cons.injEq, and_true, true_and, bi]
                refine ⟨?_, ?_, ?_, ?_, ?_⟩ <;> first | omega | simp
              case measure => simp [intOf]; omega
            . go_wp2_with (first
                | (at_builtin
                   refine append_rd (U := w) (.tmp 51) (.tmp 68) 37 5 _ 1 rfl rfl Try.underlying37 byte_info rfl (by omega) (encI_len _) (encI_one _) E [_, _, _, _, _, _, _] _ _ _ rfl rfl ?_ ((((hO.out.ext _).ext _).alloc _).alloc _) (seven_new _ _ _ _ _ _ _ _ (by simp [go_sem])) (by simp [maxLen]; omega) (by simp; omega) ?_
                   · (repeat' (first | (with_reducible exact Below.refl _ _) | (with_reducible refine Below.alloc ?_ ?_ _) | (with_reducible refine below_ext ?_ ?_ _) | (with_reducible refine Below.drew ?_) | (with_reducible refine below_drewN ?_ _) | (with_reducible refine Below.setCell ?_ ?_ _) | go_size | (simp only [go_sem]; omega) | (simp [go_sem]; done) | (simp [go_sem]; omega)))
                   intro A' c' x3 zs hz1 hO1
                   have hO2 := Lib.hid hO1
                   have hz := Lib.hid hz1
                   clear hO1 hz1))
              go_roundw
              case rel =>
                refine ⟨i + n, zs, by omega, by go_num, ⟨_, _, rfl, by (repeat' (first | (with_reducible exact Below.refl _ _) | (with_reducible refine Below.alloc ?_ ?_ _) | (with_reducible refine below_ext ?_ ?_ _) | (with_reducible refine Below.drew ?_) | (with_reducible refine below_drewN ?_ _) | (with_reducible refine Below.setCell ?_ ?_ _) | go_size | (simp only [go_sem]; omega) | (simp [go_sem]; done) | (simp [go_sem]; omega))), hO2.out⟩, ?_⟩
                rw [← hr.out, HF.out, hz.out, List.append_assoc]
                congr 1
                show _ = encRun _ ++ encL _
                congr 1
                simp only [encRun, List.cons.injEq, and_true, true_and, bi]
                refine ⟨?_, ?_, ?_, ?_, ?_⟩ <;> first | omega | simp
              case measure => simp [intOf]; omega
    · have e := Lib.hid (show encL (runsL xs) = E by rw [← hr.out, List.drop_of_length_le (by omega)]; simp [runsL, encL])
      go_wp2
      go_returns
      refine ⟨_, rfl, ?_⟩
      rw [e.out]
      exact ⟨_, _, rfl, by (repeat' (first | (with_reducible exact Below.refl _ _) | (with_reducible refine Below.alloc ?_ ?_ _) | (with_reducible refine below_ext ?_ ?_ _) | (with_reducible refine Below.drew ?_) | (with_reducible refine below_drewN ?_ _) | (with_reducible refine Below.setCell ?_ ?_ _) | go_size | (simp only [go_sem]; omega) | (simp [go_sem]; done) | (simp [go_sem]; omega))), hO.out⟩
end Go.Proofs.Ytmpbgjnkkapijaa
