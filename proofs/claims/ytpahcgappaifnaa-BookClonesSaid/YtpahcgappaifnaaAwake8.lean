/- Books: the laws' fixed fact.  -/
import Derived.Test.YtpahcgappaifnaaBkB
import Derived.LaidEqlPtr
namespace Go.Proofs.Ytpahcgappaifnaa
open Go.RowKit
set_option linter.unusedVariables false
set_option linter.unusedSimpArgs false

set_option maxRecDepth 100000 in
@[go_sem] theorem ptr_same (p : Nat) (w : World) : (binOp .eql 47 (ptrV p) (ptrV p)).run Try.prog w = .ok (.bool true) w := by
  obtain ⟨j, hj, -⟩ := info_parts (P := Try.prog) (e := 95) (z := .agg #[.slice none 0 0, .int .i64 0]) (size := 2) (bytes := 32) (by kernel_rfl)
  exact run_eql_ptr_same (te := 95) w ⟨p, 0, none⟩ Try.underlying47 hj
theorem aw8_now : ((newB 3 2 2).step 9).now = 2 := by decide +kernel
theorem aw8_len : ((newB 3 2 2).step 9).pages.length = 3 := by decide +kernel
theorem aw8_below : ((newB 3 2 2).step 9).below = false := rfl
set_option maxRecDepth 100000 in
set_option maxHeartbeats 8000000 in
theorem awake_8 (w : World) : Calls Try.prog 7 #[] w (Gives w (.bool true)) := by
  have NB := Lib.hid (fun w' => new_b 3 2 2 w')
  have ok0 := newB_ok 3 2 2
  have n1 := aw8_now
  have n2 := aw8_len
  have n3 := aw8_below
  have hlen : (newB 3 2 2).pages.length = 3 := by decide +kernel
  have hbel : (newB 3 2 2).below = false := rfl
  generalize newB 3 2 2 = S at NB ok0 n1 n2 n3 hlen hbel
  go_enter Try.func7, Try.ntmps7
  go_upto_region 2 with ((go_at_call 39); (with_reducible refine (NB.out _).mono ?_); (rintro _ _ ⟨b, F, x1, rfl, rfl, hF, hB⟩))
  have hbW := below_of_ext w x1
  generalize ext w x1 = w1 at hB hbW ⊢
  obtain ⟨V, ps, st, hO⟩ := hB
  have CN := Lib.hid (fun w' (hb : Below w1.heap.size w1 w') => count_b (hO.grow hb))
  have ON := Lib.hid (fun w' (hb : Below w1.heap.size w1 w') => on_b (hO.grow hb))
  rw [hlen] at CN
  rw [hbel] at ON
  have ST := Lib.hid (fun w' (hb : Below w1.heap.size w1 w') => step_b (hO.grow hb) ok0 9)
  have okT : (S.step 9).Ok := turn_ok ok0 _
  have hlt := Lib.hid hO.lt
  generalize S.step 9 = T at ST okT n1 n2 n3
  replace hbW := Lib.hid hbW
  clear hO hlen hbel
  go_upto_region 5 with (first
    | (go_at_call 40; ((with_reducible refine (CN.out _ (by (repeat' (first | (with_reducible exact Below.refl _ _) | (with_reducible refine Below.alloc ?_ ?_ _) | (with_reducible refine below_ext ?_ ?_ _) | (with_reducible refine Below.drew ?_) | (with_reducible refine below_drewN ?_ _) | (with_reducible refine Below.setCell ?_ ?_ _) | go_size | (simp only [go_sem]; omega) | (simp [go_sem]; done) | (simp [go_sem]; omega))))).mono ?_); rintro _ _ hgets; obtain ⟨rfl, x2, rfl⟩ := hgets.get; clear hgets))
    | (go_at_call 13; ((with_reducible refine (ON.out _ (by (repeat' (first | (with_reducible exact Below.refl _ _) | (with_reducible refine Below.alloc ?_ ?_ _) | (with_reducible refine below_ext ?_ ?_ _) | (with_reducible refine Below.drew ?_) | (with_reducible refine below_drewN ?_ _) | (with_reducible refine Below.setCell ?_ ?_ _) | go_size | (simp only [go_sem]; omega) | (simp [go_sem]; done) | (simp [go_sem]; omega))))).mono ?_); rintro _ _ hgets; obtain ⟨rfl, x3, rfl⟩ := hgets.get; clear hgets))
    | ((go_at_call 41); (with_reducible refine (ST.out _ (by (repeat' (first | (with_reducible exact Below.refl _ _) | (with_reducible refine Below.alloc ?_ ?_ _) | (with_reducible refine below_ext ?_ ?_ _) | (with_reducible refine Below.drew ?_) | (with_reducible refine below_drewN ?_ _) | (with_reducible refine Below.setCell ?_ ?_ _) | go_size | (simp only [go_sem]; omega) | (simp [go_sem]; done) | (simp [go_sem]; omega))))).mono ?_); (rintro _ w2 ⟨rfl, hD⟩)))
  have hD1 := BDid.back hD (show Below w1.heap.size w1 (ext (ext w1 x2) x3) by (repeat' (first | (with_reducible exact Below.refl _ _) | (with_reducible refine Below.alloc ?_ ?_ _) | (with_reducible refine below_ext ?_ ?_ _) | (with_reducible refine Below.drew ?_) | (with_reducible refine below_drewN ?_ _) | (with_reducible refine Below.setCell ?_ ?_ _) | go_size | (simp only [go_sem]; omega) | (simp [go_sem]; done) | (simp [go_sem]; omega)))) hlt.out
  have hb2 : Below w.heap.size w w2 := hbW.out.trans (hD1.1.below (fun x hx => hF x hx) hbW.out.size)
  obtain ⟨V2, ps2, st2, hO2⟩ := hD1.2
  have hF2 : ∀ x, more F w1 w2 x → w.heap.size ≤ x := fun x hx => hx.elim (hF x) (fun q => Nat.le_trans hbW.out.size q.1)
  generalize more F w1 w2 = F2 at hO2 hF2
  clear hD hD1 CN ON ST hF hlt
  have NW := Lib.hid (fun w' (hb : Below w2.heap.size w2 w') => now_b (hO2.grow hb))
  rw [n1] at NW
  have hnc : T.inP 5 = false := by simp [BkS.inP, n2]
  have CP := Lib.hid (fun w' (hb : Below w2.heap.size w2 w') => copy_b (hO2.grow hb) okT 0 ⟨0, 0, 1, 1⟩ 5 0 0 (by omega) (by omega))
  rw [hnc, Bool.and_false] at CP
  have hcT : T.copy 0 ⟨0, 0, 1, 1⟩ 5 0 0 = T := by unfold BkS.copy; rw [hnc, Bool.and_false]; rfl
  rw [hcT] at CP
  have hlt2 := Lib.hid hO2.lt
  have BK := Lib.hid (fun w' (hb : Below w2.heap.size w2 w') w3 (hD : BDid F2 b T w' w3) => (by
    have hD1 := BDid.back hD hb hO2.lt
    have hb3 : Below w.heap.size w w3 := hb2.trans (hD1.1.below (fun x hx => hF2 x hx) hb2.size)
    obtain ⟨V3, ps3, st3, hO3⟩ := hD1.2
    obtain ⟨r, hr, hr', hP⟩ := hO3.get (i := 2) (by rw [n2]; omega)
    have hat : T.at = 2 := by unfold BkS.at; rw [n1, n3]; rfl
    exact ⟨hb3, r.p, fun wz hz => sheet_b (hO3.grow hz) okT (by rw [hat]; exact hr'), fun wz hz => by exact page_b (i := 2) (hO3.grow hz) okT hr⟩ :
      Below w.heap.size w w3 ∧ ∃ p : Nat, (∀ wz, Below w3.heap.size w3 wz → Calls Try.prog 14 #[ptrV b] wz (Gives wz (ptrV p))) ∧ (∀ wz, Below w3.heap.size w3 wz → Calls Try.prog 18 #[ptrV b, .int .i64 2] wz (Gives wz (ptrV p)))))
  clear hO2 hcT hlt2 hb2 hF2
  go_wp2_with (first
    | (go_at_call 12; ((with_reducible refine (NW.out _ (by (repeat' (first | (with_reducible exact Below.refl _ _) | (with_reducible refine Below.alloc ?_ ?_ _) | (with_reducible refine below_ext ?_ ?_ _) | (with_reducible refine Below.drew ?_) | (with_reducible refine below_drewN ?_ _) | (with_reducible refine Below.setCell ?_ ?_ _) | go_size | (simp only [go_sem]; omega) | (simp [go_sem]; done) | (simp [go_sem]; omega))))).mono ?_); rintro _ _ hgets; obtain ⟨rfl, x4, rfl⟩ := hgets.get; clear hgets))
    | ((go_at_call 42); (with_reducible refine (CP.out _ (by (repeat' (first | (with_reducible exact Below.refl _ _) | (with_reducible refine Below.alloc ?_ ?_ _) | (with_reducible refine below_ext ?_ ?_ _) | (with_reducible refine Below.drew ?_) | (with_reducible refine below_drewN ?_ _) | (with_reducible refine Below.setCell ?_ ?_ _) | go_size | (simp only [go_sem]; omega) | (simp [go_sem]; done) | (simp [go_sem]; omega))))).mono ?_); (rintro _ w3 ⟨rfl, hD⟩); (obtain ⟨hb3, p, SH, PG⟩ := BK.out _ (by (repeat' (first | (with_reducible exact Below.refl _ _) | (with_reducible refine Below.alloc ?_ ?_ _) | (with_reducible refine below_ext ?_ ?_ _) | (with_reducible refine Below.drew ?_) | (with_reducible refine below_drewN ?_ _) | (with_reducible refine Below.setCell ?_ ?_ _) | go_size | (simp only [go_sem]; omega) | (simp [go_sem]; done) | (simp [go_sem]; omega)))) _ hD); clear hD; replace SH := Lib.hid SH; replace PG := Lib.hid PG; replace hb3 := Lib.hid hb3)
    | (go_at_call 14; ((with_reducible refine (SH.out _ (by (repeat' (first | (with_reducible exact Below.refl _ _) | (with_reducible refine Below.alloc ?_ ?_ _) | (with_reducible refine below_ext ?_ ?_ _) | (with_reducible refine Below.drew ?_) | (with_reducible refine below_drewN ?_ _) | (with_reducible refine Below.setCell ?_ ?_ _) | go_size | (simp only [go_sem]; omega) | (simp [go_sem]; done) | (simp [go_sem]; omega))))).mono ?_); rintro _ _ hgets; obtain ⟨rfl, x5, rfl⟩ := hgets.get; clear hgets))
    | (go_at_call 18; ((with_reducible refine (PG.out _ (by (repeat' (first | (with_reducible exact Below.refl _ _) | (with_reducible refine Below.alloc ?_ ?_ _) | (with_reducible refine below_ext ?_ ?_ _) | (with_reducible refine Below.drew ?_) | (with_reducible refine below_drewN ?_ _) | (with_reducible refine Below.setCell ?_ ?_ _) | go_size | (simp only [go_sem]; omega) | (simp [go_sem]; done) | (simp [go_sem]; omega))))).mono ?_); rintro _ _ hgets; obtain ⟨rfl, x6, rfl⟩ := hgets.get; clear hgets)))
  go_returns
  exact ⟨rfl, hb3.out.trans (Below.mono (B := w3.heap.size) (by (repeat' (first | (with_reducible exact Below.refl _ _) | (with_reducible refine Below.alloc ?_ ?_ _) | (with_reducible refine below_ext ?_ ?_ _) | (with_reducible refine Below.drew ?_) | (with_reducible refine below_drewN ?_ _) | (with_reducible refine Below.setCell ?_ ?_ _) | go_size | (simp only [go_sem]; omega) | (simp [go_sem]; done) | (simp [go_sem]; omega)))) hb3.out.size)⟩
end Go.Proofs.Ytpahcgappaifnaa
