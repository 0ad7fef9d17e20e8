/- Bytes as rows: the walk of the reference's function. -/
import Derived.Test.YtmpbgjnkkapijaaDec3
import Derived.Test.YtmpbgjnkkapijaaTailM
namespace Go.Proofs.Ytmpbgjnkkapijaa
open Go.RowKit
set_option linter.unusedVariables false
set_option linter.unusedSimpArgs false

set_option maxRecDepth 100000 in
set_option maxHeartbeats 8000000 in
theorem decode_r (a : Option Addr) (c : Nat) (bs : List Int) (w : World) (hx : Rd (encI .u8) 1 w a bs) (hm : bs.length ≤ 28000) (hby : ∀ b ∈ bs, isByte b) :
    Calls Try.prog 28 #[.slice a bs.length c] w (DecRes w (dec zeroR bs)) := by
  have X := Lib.hid hx
  have BY := Lib.hid hby
  clear hx hby
  go_enter Try.func28, Try.ntmps28
  go_wp2
  go_loopw [4, 5] (fun ov iv wr => ∃ (j : Nat) (last : Rn) (out : List Cl) (B : Option Addr) (bc : Nat), iv = .int .i64 j ∧ j ≤ bs.length ∧ ov = .slice B out.length bc ∧ Below w.heap.size w wr ∧
      Hid (Own encC 3 24 w.heap.size wr (.slice B out.length bc) out) ∧ LenOk out.length (bs.length - j) ∧ Hid (ahead bs last j) ∧ Hid (dec zeroR bs = (dec last (bs.drop j)).map (out ++ ·)))
    (fun _ iv _ => bs.length - (intOf iv).toNat)
  case atStart =>
    refine ⟨0, zeroR, [], none, 0, rfl, by omega, rfl, Below.refl _ _, Lib.hid (Own.nil _ _ _ _ _), ⟨by simp only [List.length_nil]; omega⟩, Lib.hid (.inl ⟨rfl, rfl⟩), Lib.hid ?_⟩
    show dec zeroR bs = (dec zeroR bs).map _
    cases dec zeroR bs <;> rfl
  case round =>
    obtain ⟨j, last, out, B, bc, rfl, hj, rfl, hB, hO, hlen, hah, hd⟩ := hrel
    obtain ⟨x, rfl⟩ := ext_of hB
    clear hB
    by_cases hlt : j < bs.length
    · by_cases h7 : bs.length - j < 7
      · have H := Lib.hid (show dec zeroR bs = none by rw [hd.out, dec_short _ _ (by simp; omega) (by simp; omega)]; rfl)
        have q7 : decide ((bs.length : Int) - (j : Int) < 7) = true := by simp; omega
        go_wp2
        go_returns
        rw [H.out]
        exact ⟨rfl, by (repeat' (first | (with_reducible exact Below.refl _ _) | (with_reducible refine Below.alloc ?_ ?_ _) | (with_reducible refine below_ext ?_ ?_ _) | (with_reducible refine Below.drew ?_) | (with_reducible refine below_drewN ?_ _) | (with_reducible refine Below.setCell ?_ ?_ _) | go_size | (simp only [go_sem]; omega) | (simp [go_sem]; done) | (simp [go_sem]; omega)))⟩
      · have hj7 : j + 7 ≤ bs.length := by omega
        have q7 : decide ((bs.length : Int) - (j : Int) < 7) = false := by simp; omega
        have hd7 := hd.out
        rw [dec_at last j hj7] at hd7
        obtain ⟨g, o, rfl, hg, hcell⟩ := X.out.byte (by omega)
        have d0 := hcell j (by omega)
        have d1 := hcell (j + 1) (by omega)
        have d2 := hcell (j + 2) (by omega)
        have d3 := hcell (j + 3) (by omega)
        have d4 := hcell (j + 4) (by omega)
        have d5 := hcell (j + 5) (by omega)
        have d6 := hcell (j + 6) (by omega)
        replace hcell := Lib.hid hcell
        obtain ⟨v00, v01⟩ := byte_at BY.out j
        have v1 := byte_at BY.out (j + 1)
        have v2 := byte_at BY.out (j + 2)
        have v3 := byte_at BY.out (j + 3)
        have v4 := byte_at BY.out (j + 4)
        have v5 := byte_at BY.out (j + 5)
        obtain ⟨v60, v61⟩ := byte_at BY.out (j + 6)
        unfold isByte at v1 v2 v3 v4 v5
        have hlenN := Lib.hid (show out.length + 255 + 255 * (bs.length - (j + 7)) ≤ 7140000 by have := hlen.out; omega)
        clear hlen h7
        by_cases z0 : at0 bs j = 0
        · have H := Lib.hid (show dec zeroR bs = none by rw [hd7, if_pos (Or.inl z0)]; rfl)
          rw [z0] at d0
          clear hd7 z0 v00 v01
          go_wp2
          go_returns
          rw [H.out]
          exact ⟨rfl, by (repeat' (first | (with_reducible exact Below.refl _ _) | (with_reducible refine Below.alloc ?_ ?_ _) | (with_reducible refine below_ext ?_ ?_ _) | (with_reducible refine Below.drew ?_) | (with_reducible refine below_drewN ?_ _) | (with_reducible refine Below.setCell ?_ ?_ _) | go_size | (simp only [go_sem]; omega) | (simp [go_sem]; done) | (simp [go_sem]; omega)))⟩
        · have z1 : (at0 bs j == 0) = false := by simpa using z0
          by_cases z6 : at0 bs (j + 6) > 1
          · have H := Lib.hid (show dec zeroR bs = none by rw [hd7, if_pos (Or.inr z6)]; rfl)
            clear hd7 z0
            go_wp2
            go_returns
            rw [H.out]
            exact ⟨rfl, by (repeat' (first | (with_reducible exact Below.refl _ _) | (with_reducible refine Below.alloc ?_ ?_ _) | (with_reducible refine below_ext ?_ ?_ _) | (with_reducible refine Below.drew ?_) | (with_reducible refine below_drewN ?_ _) | (with_reducible refine Below.setCell ?_ ?_ _) | go_size | (simp only [go_sem]; omega) | (simp [go_sem]; done) | (simp [go_sem]; omega)))⟩
          · rw [if_neg (fun h => h.elim z0 z6)] at hd7
            replace hd7 := Lib.hid hd7
            have z2 : decide (1 < at0 bs (j + 6)) = false := by simpa using z6
            have AH := Lib.hid (show ahead bs (rnAt bs j) (j + 7) from .inr ⟨j, rfl, rfl, z0, z6⟩)
            clear hd z0
            by_cases hgo : goesOn last (rnAt bs j)
            · have H := Lib.hid (show dec zeroR bs = none by rw [hd7.out, if_pos hgo]; rfl)
              rcases hah.out with ⟨rfl, rfl⟩ | ⟨i, hj7i, rfl, hi0, hi6⟩
              · exact absurd hgo.1 (by simp [zeroR])
              · have hij : j - 7 = i := by omega
                obtain ⟨h255, heq⟩ := (goes_eqTo BY.out i hi0 hi6 (by rw [← hj7i]; exact z6)).1 (by rw [← hj7i]; exact hgo)
                have j7 : 7 ≤ j := by omega
                replace hj7i := Lib.hid hj7i
                replace hi6 := Lib.hid hi6
                have p0 := hcell.out i (by have := hj7i.out; omega)
                have q1 : decide (0 < j) = true := by have := hj7i.out; simp; omega
                have q2 : decide (at0 bs i < 255) = true := by simpa using h255
                go_wp2
                go_loopw [6, 7] (fun sv kv wr => ∃ (k : Nat) (x' : More), 1 ≤ k ∧ k ≤ 7 ∧ kv = .int .i64 k ∧ sv = .bool (eqTo bs i k) ∧ wr = ext (ext w x) x') (fun _ kv _ => 7 - (intOf kv).toNat)
                case atStart => exact ⟨1, ⟨#[], _⟩, by omega, by omega, rfl, rfl, by simp [ext]; rfl⟩
                case round =>
                  obtain ⟨k, x', k1, k7, rfl, rfl, rfl⟩ := hrel
                  by_cases hk : k < 7
                  · have c1 := hcell.out (j + k) (by omega)
                    have c2 := hcell.out (i + k) (by have := hj7i.out; omega)
                    rw [show i + k = j + k - 7 by have := hj7i.out; omega] at c2
                    have HE := Lib.hid (show eqTo bs i (k + 1) = (eqTo bs i k && (at0 bs (j + k) == at0 bs (j + k - 7))) by
                      rw [eqTo, show i + 7 + k = j + k by have := hj7i.out; omega, show (k == 0) = false by simp; omega, show j + k - 7 = i + k by have := hj7i.out; omega]; simp)
                    generalize at0 bs (j + k) = y1 at c1 HE
                    generalize at0 bs (j + k - 7) = y2 at c2 HE
                    rcases Bool.eq_false_or_eq_true (eqTo bs i k) with he | he
                    · rw [he] at HE ⊢
                      go_wp2
                      (refine wp_region_free (by kernel_rfl) (by kernel_rfl) ?_)
                      repeat (go_big_quiet_step (fail))
                      refine wpQuiet_nil ?_; rintro _ ⟨x2, rfl⟩
                      go_wp2
                      go_roundw
                      case rel => exact ⟨k + 1, _, by omega, by omega, by go_num, by rw [HE.out]; simp, ext_ext _ _ _⟩
                      case measure => simp [intOf]; omega
                    · rw [he] at HE ⊢
                      go_wp2
                      (refine wp_region_free (by kernel_rfl) (by kernel_rfl) ?_)
                      repeat (go_big_quiet_step (fail))
                      refine wpQuiet_nil ?_; rintro _ ⟨x2, rfl⟩
                      go_wp2
                      go_roundw
                      case rel => exact ⟨k + 1, _, by omega, by omega, by go_num, by rw [HE.out]; simp, ext_ext _ _ _⟩
                      case measure => simp [intOf]; omega
                  · obtain rfl : k = 7 := by omega
                    rw [heq, show ((7 : Nat) : Int) = 7 from rfl]
                    go_wp2
                    go_returns
                    rw [H.out]
                    exact ⟨rfl, by (repeat' (first | (with_reducible exact Below.refl _ _) | (with_reducible refine Below.alloc ?_ ?_ _) | (with_reducible refine below_ext ?_ ?_ _) | (with_reducible refine Below.drew ?_) | (with_reducible refine below_drewN ?_ _) | (with_reducible refine Below.setCell ?_ ?_ _) | go_size | (simp only [go_sem]; omega) | (simp [go_sem]; done) | (simp [go_sem]; omega)))⟩
            · have hd8 := Lib.hid (show dec zeroR bs = _ by rw [hd7.out, if_neg hgo])
              clear hd7
              rcases hah.out with ⟨hj0, rfl⟩ | ⟨i, hj7i, rfl, hi0, hi6⟩
              · have q1 : decide (0 < j) = false := by simp; omega
                clear hj0 hgo hah
                go_wp2
                (refine wp_region_free (by kernel_rfl) (by kernel_rfl) ?_)
                repeat (go_big_quiet_step (fail))
                refine wpQuiet_nil ?_; rintro _ ⟨x3, rfl⟩
                have OX := Lib.hid (hO.out.ext x3)
                go_wp2
                all_goals
                  have HG := Lib.hid (show (rnAt bs j).c = ⟨glyphOf (at0 bs (j + 1)) (at0 bs (j + 2)) (at0 bs (j + 3)) (at0 bs (j + 4)), at0 bs (j + 5), at0 bs (j + 6) == 1⟩ from rfl)
                  have hg1 : -2147483648 ≤ glyphOf (at0 bs (j + 1)) (at0 bs (j + 2)) (at0 bs (j + 3)) (at0 bs (j + 4)) ∧ glyphOf (at0 bs (j + 1)) (at0 bs (j + 2)) (at0 bs (j + 3)) (at0 bs (j + 4)) ≤ 2147483647 := by unfold glyphOf; split <;> omega
                  first
                    | rw [show at0 bs (j + 1) * 16777216 + at0 bs (j + 2) * 65536 + at0 bs (j + 3) * 256 + at0 bs (j + 4) - 4294967296 = glyphOf (at0 bs (j + 1)) (at0 bs (j + 2)) (at0 bs (j + 3)) (at0 bs (j + 4)) by unfold glyphOf; rw [if_pos (by omega)]]
                    | rw [show at0 bs (j + 1) * 16777216 + at0 bs (j + 2) * 65536 + at0 bs (j + 3) * 256 + at0 bs (j + 4) = glyphOf (at0 bs (j + 1)) (at0 bs (j + 2)) (at0 bs (j + 3)) (at0 bs (j + 4)) by unfold glyphOf; rw [if_neg (by omega)]]
                  generalize glyphOf (at0 bs (j + 1)) (at0 bs (j + 2)) (at0 bs (j + 3)) (at0 bs (j + 4)) = gl at HG hg1 ⊢
                  obtain ⟨m, hm2⟩ := Int.eq_ofNat_of_zero_le v00
                  have hn := Lib.hid (show (rnAt bs j).n = m by show (at0 bs j).toNat = m; rw [hm2]; rfl)
                  have hm3 : m ≤ 255 := by omega
                  rw [hm2] at d0 z1 v00 v01 ⊢
                  clear v00 v01 v1 v2 v3 v4 v60 v61 d1 d2 d3 d4 hm2 z1 z2
                  rename_i hgg
                  clear hgg
                  go_loopw [4, 9] (fun ov kv wr => ∃ (k : Nat) (A2 : Option Addr) (c2 : Nat), kv = .int .i64 k ∧ k ≤ m ∧ ov = .slice A2 (out ++ List.replicate k (⟨gl, at0 bs (j + 5), at0 bs (j + 6) == 1⟩ : Cl)).length c2 ∧
                      Below w.heap.size w wr ∧ Hid (Own encC 3 24 w.heap.size wr ov (out ++ List.replicate k ⟨gl, at0 bs (j + 5), at0 bs (j + 6) == 1⟩)))
                    (fun _ kv _ => m - (intOf kv).toNat)
                  case atStart =>
                    have e : out ++ List.replicate 0 (⟨gl, at0 bs (j + 5), at0 bs (j + 6) == 1⟩ : Cl) = out := by simp
                    refine ⟨0, B, bc, rfl, by omega, by rw [e], by (repeat' (first | (with_reducible exact Below.refl _ _) | (with_reducible refine Below.alloc ?_ ?_ _) | (with_reducible refine below_ext ?_ ?_ _) | (with_reducible refine Below.drew ?_) | (with_reducible refine below_drewN ?_ _) | (with_reducible refine Below.setCell ?_ ?_ _) | go_size | (simp only [go_sem]; omega) | (simp [go_sem]; done) | (simp [go_sem]; omega))), ?_⟩
                    rw [e]
                    exact OX
                  case round =>
                    obtain ⟨k, A2, c2, rfl, hk, rfl, hB2, hO2⟩ := hrel
                    obtain ⟨y, rfl⟩ := ext_of hB2
                    clear hB2
                    by_cases hkm : k < m
                    · have hl0 : (out ++ List.replicate k (⟨gl, at0 bs (j + 5), at0 bs (j + 6) == 1⟩ : Cl)).length ≤ 7140000 := by simp only [List.length_append, List.length_replicate]; have := hlenN.out; omega
                      replace hl0 := Lib.hid hl0
                      generalize hl1 : out ++ List.replicate k (⟨gl, at0 bs (j + 5), at0 bs (j + 6) == 1⟩ : Cl) = pre at hO2 hl0 ⊢
                      replace hl1 := Lib.hid hl1
                      go_wp2
                      (refine wp_region_tail1 15 (by kernel_rfl) (by kernel_rfl) (fun _ _ _ _ h => h) (.tmp 4) rfl rfl ?_; simp only [Nat.reduceSub, List.take_succ_cons, List.take_zero, List.drop_succ_cons, List.drop_zero])
                      repeat (go_big_quiet_step (fail))
                      refine wpQuiet_nil ?_; rintro _ ⟨x5, rfl⟩
                      go_wp2_with (first
                        | (at_builtin
                           refine append_rd (U := w) (.tmp 111) (.tmp 126) 28 24 _ 8 rfl rfl Try.underlying28 cell_info rfl (by omega) encC_len encC_one pre [⟨gl, at0 bs (j + 5), at0 bs (j + 6) == 1⟩] _ _ _ rfl rfl ?_ ((hO2.out.ext _).alloc _) (cell1_new _ gl _ _ (by simp [go_sem])) (by have := hl0.out; simp [maxLen]; omega) (by have := hl0.out; simp; omega) ?_
                           · (repeat' (first | (with_reducible exact Below.refl _ _) | (with_reducible refine Below.alloc ?_ ?_ _) | (with_reducible refine below_ext ?_ ?_ _) | (with_reducible refine Below.drew ?_) | (with_reducible refine below_drewN ?_ _) | (with_reducible refine Below.setCell ?_ ?_ _) | go_size | (simp only [go_sem]; omega) | (simp [go_sem]; done) | (simp [go_sem]; omega)))
                           intro A' c' x3 zs hz1 hO1
                           have hO3 := Lib.hid hO1
                           have hz := Lib.hid hz1
                           clear hO1 hz1))
                      go_roundw
                      case rel =>
                        have hz2 : zs = out ++ List.replicate (k + 1) ⟨gl, at0 bs (j + 5), at0 bs (j + 6) == 1⟩ := by rw [hz.out, ← hl1.out, List.replicate_succ', List.append_assoc]
                        subst hz2
                        exact ⟨k + 1, A', c', by go_num, by omega, rfl, by (repeat' (first | (with_reducible exact Below.refl _ _) | (with_reducible refine Below.alloc ?_ ?_ _) | (with_reducible refine below_ext ?_ ?_ _) | (with_reducible refine Below.drew ?_) | (with_reducible refine below_drewN ?_ _) | (with_reducible refine Below.setCell ?_ ?_ _) | go_size | (simp only [go_sem]; omega) | (simp [go_sem]; done) | (simp [go_sem]; omega))), hO3⟩
                      case measure => simp [intOf]; omega
                    · obtain rfl : k = m := by omega
                      clear hkm hk
                      go_wp2
                      refine ⟨⟨j + 7, rnAt bs j, out ++ List.replicate k ⟨gl, at0 bs (j + 5), at0 bs (j + 6) == 1⟩, A2, c2, by go_num, hj7, rfl, by (repeat' (first | (with_reducible exact Below.refl _ _) | (with_reducible refine Below.alloc ?_ ?_ _) | (with_reducible refine below_ext ?_ ?_ _) | (with_reducible refine Below.drew ?_) | (with_reducible refine below_drewN ?_ _) | (with_reducible refine Below.setCell ?_ ?_ _) | go_size | (simp only [go_sem]; omega) | (simp [go_sem]; done) | (simp [go_sem]; omega))), hO2, ⟨by simp only [List.length_append, List.length_replicate]; have := hlenN.out; omega⟩, AH, Lib.hid ?_⟩, by simp [intOf]; omega⟩
                      rw [hd8.out, hn.out, HG.out, Option.map_map]
                      congr 1
                      funext z
                      simp
              · have hij : j - 7 = i := by omega
                by_cases h255 : at0 bs i < 255
                · have heq : eqTo bs i 7 = false := by
                    rcases Bool.eq_false_or_eq_true (eqTo bs i 7) with h | h
                    · exact absurd ((goes_eqTo BY.out i hi0 hi6 (by rw [← hj7i]; exact z6)).2 ⟨h255, h⟩) (by rw [← hj7i]; exact hgo)
                    · exact h
                  have j7 : 7 ≤ j := by omega
                  replace hj7i := Lib.hid hj7i
                  replace hi6 := Lib.hid hi6
                  clear hgo hah
                  have p0 := hcell.out i (by have := hj7i.out; omega)
                  have q1 : decide (0 < j) = true := by have := hj7i.out; simp; omega
                  have q2 : decide (at0 bs i < 255) = true := by simpa using h255
                  go_wp2
                  go_loopw [6, 7] (fun sv kv wr => ∃ (k : Nat) (x' : More), 1 ≤ k ∧ k ≤ 7 ∧ kv = .int .i64 k ∧ sv = .bool (eqTo bs i k) ∧ wr = ext (ext w x) x') (fun _ kv _ => 7 - (intOf kv).toNat)
                  case atStart => exact ⟨1, ⟨#[], _⟩, by omega, by omega, rfl, rfl, by simp [ext]; rfl⟩
                  case round =>
                    obtain ⟨k, x', k1, k7, rfl, rfl, rfl⟩ := hrel
                    by_cases hk : k < 7
                    · have c1 := hcell.out (j + k) (by omega)
                      have c2 := hcell.out (i + k) (by have := hj7i.out; omega)
                      rw [show i + k = j + k - 7 by have := hj7i.out; omega] at c2
                      have HE := Lib.hid (show eqTo bs i (k + 1) = (eqTo bs i k && (at0 bs (j + k) == at0 bs (j + k - 7))) by
                        rw [eqTo, show i + 7 + k = j + k by have := hj7i.out; omega, show (k == 0) = false by simp; omega, show j + k - 7 = i + k by have := hj7i.out; omega]; simp)
                      generalize at0 bs (j + k) = y1 at c1 HE
                      generalize at0 bs (j + k - 7) = y2 at c2 HE
                      rcases Bool.eq_false_or_eq_true (eqTo bs i k) with he | he
                      · rw [he] at HE ⊢
                        go_wp2
                        (refine wp_region_free (by kernel_rfl) (by kernel_rfl) ?_)
                        repeat (go_big_quiet_step (fail))
                        refine wpQuiet_nil ?_; rintro _ ⟨x2, rfl⟩
                        go_wp2
                        go_roundw
                        case rel => exact ⟨k + 1, _, by omega, by omega, by go_num, by rw [HE.out]; simp, ext_ext _ _ _⟩
                        case measure => simp [intOf]; omega
                      · rw [he] at HE ⊢
                        go_wp2
                        (refine wp_region_free (by kernel_rfl) (by kernel_rfl) ?_)
                        repeat (go_big_quiet_step (fail))
                        refine wpQuiet_nil ?_; rintro _ ⟨x2, rfl⟩
                        go_wp2
                        go_roundw
                        case rel => exact ⟨k + 1, _, by omega, by omega, by go_num, by rw [HE.out]; simp, ext_ext _ _ _⟩
                        case measure => simp [intOf]; omega
                    · obtain rfl : k = 7 := by omega
                      rw [heq, show ((7 : Nat) : Int) = 7 from rfl]
                      go_wp2
                      (refine wp_region_free (by kernel_rfl) (by kernel_rfl) ?_)
                      repeat (go_big_quiet_step (fail))
                      refine wpQuiet_nil ?_; rintro _ ⟨x3, rfl⟩
                      have OX := Lib.hid ((hO.out.ext x').ext x3)
                      go_wp2
                      all_goals
                        have HG := Lib.hid (show (rnAt bs j).c = ⟨glyphOf (at0 bs (j + 1)) (at0 bs (j + 2)) (at0 bs (j + 3)) (at0 bs (j + 4)), at0 bs (j + 5), at0 bs (j + 6) == 1⟩ from rfl)
                        have hg1 : -2147483648 ≤ glyphOf (at0 bs (j + 1)) (at0 bs (j + 2)) (at0 bs (j + 3)) (at0 bs (j + 4)) ∧ glyphOf (at0 bs (j + 1)) (at0 bs (j + 2)) (at0 bs (j + 3)) (at0 bs (j + 4)) ≤ 2147483647 := by unfold glyphOf; split <;> omega
                        first
                          | rw [show at0 bs (j + 1) * 16777216 + at0 bs (j + 2) * 65536 + at0 bs (j + 3) * 256 + at0 bs (j + 4) - 4294967296 = glyphOf (at0 bs (j + 1)) (at0 bs (j + 2)) (at0 bs (j + 3)) (at0 bs (j + 4)) by unfold glyphOf; rw [if_pos (by omega)]]
                          | rw [show at0 bs (j + 1) * 16777216 + at0 bs (j + 2) * 65536 + at0 bs (j + 3) * 256 + at0 bs (j + 4) = glyphOf (at0 bs (j + 1)) (at0 bs (j + 2)) (at0 bs (j + 3)) (at0 bs (j + 4)) by unfold glyphOf; rw [if_neg (by omega)]]
                        generalize glyphOf (at0 bs (j + 1)) (at0 bs (j + 2)) (at0 bs (j + 3)) (at0 bs (j + 4)) = gl at HG hg1 ⊢
                        obtain ⟨m, hm2⟩ := Int.eq_ofNat_of_zero_le v00
                        have hn := Lib.hid (show (rnAt bs j).n = m by show (at0 bs j).toNat = m; rw [hm2]; rfl)
                        have hm3 : m ≤ 255 := by omega
                        rw [hm2] at d0 z1 v00 v01 ⊢
                        clear v00 v01 v1 v2 v3 v4 v60 v61 d1 d2 d3 d4 hm2 z1 z2
                        rename_i hgg
                        clear hgg
                        go_loopw [4, 9] (fun ov kv wr => ∃ (k : Nat) (A2 : Option Addr) (c2 : Nat), kv = .int .i64 k ∧ k ≤ m ∧ ov = .slice A2 (out ++ List.replicate k (⟨gl, at0 bs (j + 5), at0 bs (j + 6) == 1⟩ : Cl)).length c2 ∧
                            Below w.heap.size w wr ∧ Hid (Own encC 3 24 w.heap.size wr ov (out ++ List.replicate k ⟨gl, at0 bs (j + 5), at0 bs (j + 6) == 1⟩)))
                          (fun _ kv _ => m - (intOf kv).toNat)
                        case atStart =>
                          have e : out ++ List.replicate 0 (⟨gl, at0 bs (j + 5), at0 bs (j + 6) == 1⟩ : Cl) = out := by simp
                          refine ⟨0, B, bc, rfl, by omega, by rw [e], by (repeat' (first | (with_reducible exact Below.refl _ _) | (with_reducible refine Below.alloc ?_ ?_ _) | (with_reducible refine below_ext ?_ ?_ _) | (with_reducible refine Below.drew ?_) | (with_reducible refine below_drewN ?_ _) | (with_reducible refine Below.setCell ?_ ?_ _) | go_size | (simp only [go_sem]; omega) | (simp [go_sem]; done) | (simp [go_sem]; omega))), ?_⟩
                          rw [e]
                          exact OX
                        case round =>
                          obtain ⟨k, A2, c2, rfl, hk, rfl, hB2, hO2⟩ := hrel
                          obtain ⟨y, rfl⟩ := ext_of hB2
                          clear hB2
                          by_cases hkm : k < m
                          · have hl0 : (out ++ List.replicate k (⟨gl, at0 bs (j + 5), at0 bs (j + 6) == 1⟩ : Cl)).length ≤ 7140000 := by simp only [List.length_append, List.length_replicate]; have := hlenN.out; omega
                            replace hl0 := Lib.hid hl0
                            generalize hl1 : out ++ List.replicate k (⟨gl, at0 bs (j + 5), at0 bs (j + 6) == 1⟩ : Cl) = pre at hO2 hl0 ⊢
                            replace hl1 := Lib.hid hl1
                            go_wp2
                            (refine wp_region_tail1 15 (by kernel_rfl) (by kernel_rfl) (fun _ _ _ _ h => h) (.tmp 4) rfl rfl ?_; simp only [Nat.reduceSub, List.take_succ_cons, List.take_zero, List.drop_succ_cons, List.drop_zero])
                            repeat (go_big_quiet_step (fail))
                            refine wpQuiet_nil ?_; rintro _ ⟨x5, rfl⟩
                            go_wp2_with (first
                              | (at_builtin
                                 refine append_rd (U := w) (.tmp 111) (.tmp 126) 28 24 _ 8 rfl rfl Try.underlying28 cell_info rfl (by omega) encC_len encC_one pre [⟨gl, at0 bs (j + 5), at0 bs (j + 6) == 1⟩] _ _ _ rfl rfl ?_ ((hO2.out.ext _).alloc _) (cell1_new _ gl _ _ (by simp [go_sem])) (by have := hl0.out; simp [maxLen]; omega) (by have := hl0.out; simp; omega) ?_
                                 · (repeat' (first | (with_reducible exact Below.refl _ _) | (with_reducible refine Below.alloc ?_ ?_ _) | (with_reducible refine below_ext ?_ ?_ _) | (with_reducible refine Below.drew ?_) | (with_reducible refine below_drewN ?_ _) | (with_reducible refine Below.setCell ?_ ?_ _) | go_size | (simp only [go_sem]; omega) | (simp [go_sem]; done) | (simp [go_sem]; omega)))
                                 intro A' c' x3 zs hz1 hO1
                                 have hO3 := Lib.hid hO1
                                 have hz := Lib.hid hz1
                                 clear hO1 hz1))
                            go_roundw
                            case rel =>
                              have hz2 : zs = out ++ List.replicate (k + 1) ⟨gl, at0 bs (j + 5), at0 bs (j + 6) == 1⟩ := by rw [hz.out, ← hl1.out, List.replicate_succ', List.append_assoc]
                              subst hz2
                              exact ⟨k + 1, A', c', by go_num, by omega, rfl, by (repeat' (first | (with_reducible exact Below.refl _ _) | (with_reducible refine Below.alloc ?_ ?_ _) | (with_reducible refine below_ext ?_ ?_ _) | (with_reducible refine Below.drew ?_) | (with_reducible refine below_drewN ?_ _) | (with_reducible refine Below.setCell ?_ ?_ _) | go_size | (simp only [go_sem]; omega) | (simp [go_sem]; done) | (simp [go_sem]; omega))), hO3⟩
                            case measure => simp [intOf]; omega
                          · obtain rfl : k = m := by omega
                            clear hkm hk
                            go_wp2
                            refine ⟨⟨j + 7, rnAt bs j, out ++ List.replicate k ⟨gl, at0 bs (j + 5), at0 bs (j + 6) == 1⟩, A2, c2, by go_num, hj7, rfl, by (repeat' (first | (with_reducible exact Below.refl _ _) | (with_reducible refine Below.alloc ?_ ?_ _) | (with_reducible refine below_ext ?_ ?_ _) | (with_reducible refine Below.drew ?_) | (with_reducible refine below_drewN ?_ _) | (with_reducible refine Below.setCell ?_ ?_ _) | go_size | (simp only [go_sem]; omega) | (simp [go_sem]; done) | (simp [go_sem]; omega))), hO2, ⟨by simp only [List.length_append, List.length_replicate]; have := hlenN.out; omega⟩, AH, Lib.hid ?_⟩, by simp [intOf]; omega⟩
                            rw [hd8.out, hn.out, HG.out, Option.map_map]
                            congr 1
                            funext z
                            simp
                · have q2 : decide (at0 bs i < 255) = false := by simpa using h255
                  have j7 : 7 ≤ j := by omega
                  replace hj7i := Lib.hid hj7i
                  replace hi6 := Lib.hid hi6
                  have p0 := hcell.out i (by have := hj7i.out; omega)
                  have q1 : decide (0 < j) = true := by have := hj7i.out; simp; omega
                  clear hgo hah
                  go_wp2
                  (refine wp_region_free (by kernel_rfl) (by kernel_rfl) ?_)
                  repeat (go_big_quiet_step (fail))
                  refine wpQuiet_nil ?_; rintro _ ⟨x3, rfl⟩
                  have OX := Lib.hid (hO.out.ext x3)
                  go_wp2
                  all_goals
                    have HG := Lib.hid (show (rnAt bs j).c = ⟨glyphOf (at0 bs (j + 1)) (at0 bs (j + 2)) (at0 bs (j + 3)) (at0 bs (j + 4)), at0 bs (j + 5), at0 bs (j + 6) == 1⟩ from rfl)
                    have hg1 : -2147483648 ≤ glyphOf (at0 bs (j + 1)) (at0 bs (j + 2)) (at0 bs (j + 3)) (at0 bs (j + 4)) ∧ glyphOf (at0 bs (j + 1)) (at0 bs (j + 2)) (at0 bs (j + 3)) (at0 bs (j + 4)) ≤ 2147483647 := by unfold glyphOf; split <;> omega
                    first
                      | rw [show at0 bs (j + 1) * 16777216 + at0 bs (j + 2) * 65536 + at0 bs (j + 3) * 256 + at0 bs (j + 4) - 4294967296 = glyphOf (at0 bs (j + 1)) (at0 bs (j + 2)) (at0 bs (j + 3)) (at0 bs (j + 4)) by unfold glyphOf; rw [if_pos (by omega)]]
                      | rw [show at0 bs (j + 1) * 16777216 + at0 bs (j + 2) * 65536 + at0 bs (j + 3) * 256 + at0 bs (j + 4) = glyphOf (at0 bs (j + 1)) (at0 bs (j + 2)) (at0 bs (j + 3)) (at0 bs (j + 4)) by unfold glyphOf; rw [if_neg (by omega)]]
                    generalize glyphOf (at0 bs (j + 1)) (at0 bs (j + 2)) (at0 bs (j + 3)) (at0 bs (j + 4)) = gl at HG hg1 ⊢
                    obtain ⟨m, hm2⟩ := Int.eq_ofNat_of_zero_le v00
                    have hn := Lib.hid (show (rnAt bs j).n = m by show (at0 bs j).toNat = m; rw [hm2]; rfl)
                    have hm3 : m ≤ 255 := by omega
                    rw [hm2] at d0 z1 v00 v01 ⊢
                    clear v00 v01 v1 v2 v3 v4 v60 v61 d1 d2 d3 d4 hm2 z1 z2
                    rename_i hgg
                    clear hgg
                    go_loopw [4, 9] (fun ov kv wr => ∃ (k : Nat) (A2 : Option Addr) (c2 : Nat), kv = .int .i64 k ∧ k ≤ m ∧ ov = .slice A2 (out ++ List.replicate k (⟨gl, at0 bs (j + 5), at0 bs (j + 6) == 1⟩ : Cl)).length c2 ∧
                        Below w.heap.size w wr ∧ Hid (Own encC 3 24 w.heap.size wr ov (out ++ List.replicate k ⟨gl, at0 bs (j + 5), at0 bs (j + 6) == 1⟩)))
                      (fun _ kv _ => m - (intOf kv).toNat)
                    case atStart =>
                      have e : out ++ List.replicate 0 (⟨gl, at0 bs (j + 5), at0 bs (j + 6) == 1⟩ : Cl) = out := by simp
                      refine ⟨0, B, bc, rfl, by omega, by rw [e], by (repeat' (first | (with_reducible exact Below.refl _ _) | (with_reducible refine Below.alloc ?_ ?_ _) | (with_reducible refine below_ext ?_ ?_ _) | (with_reducible refine Below.drew ?_) | (with_reducible refine below_drewN ?_ _) | (with_reducible refine Below.setCell ?_ ?_ _) | go_size | (simp only [go_sem]; omega) | (simp [go_sem]; done) | (simp [go_sem]; omega))), ?_⟩
                      rw [e]
                      exact OX
                    case round =>
                      obtain ⟨k, A2, c2, rfl, hk, rfl, hB2, hO2⟩ := hrel
                      obtain ⟨y, rfl⟩ := ext_of hB2
                      clear hB2
                      by_cases hkm : k < m
                      · have hl0 : (out ++ List.replicate k (⟨gl, at0 bs (j + 5), at0 bs (j + 6) == 1⟩ : Cl)).length ≤ 7140000 := by simp only [List.length_append, List.length_replicate]; have := hlenN.out; omega
                        replace hl0 := Lib.hid hl0
                        generalize hl1 : out ++ List.replicate k (⟨gl, at0 bs (j + 5), at0 bs (j + 6) == 1⟩ : Cl) = pre at hO2 hl0 ⊢
                        replace hl1 := Lib.hid hl1
                        go_wp2
                        (refine wp_region_tail1 15 (by kernel_rfl) (by kernel_rfl) (fun _ _ _ _ h => h) (.tmp 4) rfl rfl ?_; simp only [Nat.reduceSub, List.take_succ_cons, List.take_zero, List.drop_succ_cons, List.drop_zero])
                        repeat (go_big_quiet_step (fail))
                        refine wpQuiet_nil ?_; rintro _ ⟨x5, rfl⟩
                        go_wp2_with (first
                          | (at_builtin
                             refine append_rd (U := w) (.tmp 111) (.tmp 126) 28 24 _ 8 rfl rfl Try.underlying28 cell_info rfl (by omega) encC_len encC_one pre [⟨gl, at0 bs (j + 5), at0 bs (j + 6) == 1⟩] _ _ _ rfl rfl ?_ ((hO2.out.ext _).alloc _) (cell1_new _ gl _ _ (by simp [go_sem])) (by have := hl0.out; simp [maxLen]; omega) (by have := hl0.out; simp; omega) ?_
                             · (repeat' (first | (with_reducible exact Below.refl _ _) | (with_reducible refine Below.alloc ?_ ?_ _) | (with_reducible refine below_ext ?_ ?_ _) | (with_reducible refine Below.drew ?_) | (with_reducible refine below_drewN ?_ _) | (with_reducible refine Below.setCell ?_ ?_ _) | go_size | (simp only [go_sem]; omega) | (simp [go_sem]; done) | (simp [go_sem]; omega)))
                             intro A' c' x3 zs hz1 hO1
                             have hO3 := Lib.hid hO1
                             have hz := Lib.hid hz1
                             clear hO1 hz1))
                        go_roundw
                        case rel =>
                          have hz2 : zs = out ++ List.replicate (k + 1) ⟨gl, at0 bs (j + 5), at0 bs (j + 6) == 1⟩ := by rw [hz.out, ← hl1.out, List.replicate_succ', List.append_assoc]
                          subst hz2
                          exact ⟨k + 1, A', c', by go_num, by omega, rfl, by (repeat' (first | (with_reducible exact Below.refl _ _) | (with_reducible refine Below.alloc ?_ ?_ _) | (with_reducible refine below_ext ?_ ?_ _) | (with_reducible refine Below.drew ?_) | (with_reducible refine below_drewN ?_ _) | (with_reducible refine Below.setCell ?_ ?_ _) | go_size | (simp only [go_sem]; omega) | (simp [go_sem]; done) | (simp [go_sem]; omega))), hO3⟩
                        case measure => simp [intOf]; omega
                      · obtain rfl : k = m := by omega
                        clear hkm hk
                        go_wp2
                        refine ⟨⟨j + 7, rnAt bs j, out ++ List.replicate k ⟨gl, at0 bs (j + 5), at0 bs (j + 6) == 1⟩, A2, c2, by go_num, hj7, rfl, by (repeat' (first | (with_reducible exact Below.refl _ _) | (with_reducible refine Below.alloc ?_ ?_ _) | (with_reducible refine below_ext ?_ ?_ _) | (with_reducible refine Below.drew ?_) | (with_reducible refine below_drewN ?_ _) | (with_reducible refine Below.setCell ?_ ?_ _) | go_size | (simp only [go_sem]; omega) | (simp [go_sem]; done) | (simp [go_sem]; omega))), hO2, ⟨by simp only [List.length_append, List.length_replicate]; have := hlenN.out; omega⟩, AH, Lib.hid ?_⟩, by simp [intOf]; omega⟩
                        rw [hd8.out, hn.out, HG.out, Option.map_map]
                        congr 1
                        funext z
                        simp
    · have e := Lib.hid (show dec zeroR bs = some out by rw [hd.out, List.drop_eq_nil_of_le (by omega), dec]; simp)
      clear hd hah hlen
      go_wp2
      go_returns
      rw [e.out]
      exact ⟨_, rfl, _, _, rfl, by (repeat' (first | (with_reducible exact Below.refl _ _) | (with_reducible refine Below.alloc ?_ ?_ _) | (with_reducible refine below_ext ?_ ?_ _) | (with_reducible refine Below.drew ?_) | (with_reducible refine below_drewN ?_ _) | (with_reducible refine Below.setCell ?_ ?_ _) | go_size | (simp only [go_sem]; omega) | (simp [go_sem]; done) | (simp [go_sem]; omega))), hO.out⟩
end Go.Proofs.Ytmpbgjnkkapijaa
