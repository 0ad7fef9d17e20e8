/- LineShapes: the walk. -/
import Derived.Test.YtdlngbmgcedbpaaLineInv
namespace Go.Proofs.Ytdlngbmgcedbpaa
open Go.RowKit
set_option linter.unusedVariables false
set_option linter.unusedSimpArgs false

def OneIn (wb : World) (R : List Cl) (sz : Int) (s : Value) (wx : World) : Prop := LineAt wb R sz s wx ∧ Below wb.heap.size wb wx
def GrewF (we : World) (s : Value) (wx : World) : Prop := s = .bool false ∧ ∃ x, wx = ext we x
def badS (s : Int) : Bool := decide (s < 0 ∨ 3 < s)
def ThreeIn (wb : World) (R Q S : List Cl) (r q s : Int) (v7 v8 v9 : Value) (wx : World) : Prop := LineAt wb R r v7 wx ∧ LineAt wb Q q v8 wx ∧ LineAt wb S s v9 wx ∧ Below wb.heap.size wb wx
def ShapeI (g : Nat) (V0 V13 V14 : Value) (cols size : Int) (wb : World) (RN xs RR : List Cl) (sz s9 : Int) (L : Nat → Bool) (a : Act) (w : World) : Prop :=
  ∃ v7 v8 v9 v15 v16 v17 v18 v19 v20 v21 v22 v23 v24 : Value, a = { tmps := #[V0, .int .i64 cols, .int .i64 size, .pointer (some ⟨g, 0, none⟩), undef, undef, .bool false, v7, v8, v9, undef, .bool true, .bool false, V13, V14, v15, v16, v17, v18, v19, v20, v21, v22, v23, v24, undef, undef, undef, undef, undef, undef, undef, undef, undef, undef, undef, undef, undef, undef, undef, undef, undef, undef, undef, undef, undef, undef, undef, undef, undef, undef, undef, undef, undef, undef, undef, undef, undef, undef, undef, undef, undef, undef, undef, undef, undef, undef, undef, undef, undef, undef, undef, undef, undef, undef, undef, undef, undef, undef, undef, undef, undef, undef, undef, undef, undef, undef, undef, undef, undef, undef, undef], defers := [] } ∧ Below wb.heap.size wb w ∧
    (L 0 = true → v15 = .int .i64 cols) ∧
    (L 1 = true → RowF wb w RN 0 v16) ∧
    (L 2 = true → v17 = V14) ∧
    (L 3 = true → RowF wb w xs sz v18) ∧
    (L 4 = true → v19 = .int .i64 cols) ∧
    (L 5 = true → RowF wb w RR sz v20) ∧
    (L 6 = true → v21 = V14) ∧
    (L 7 = true → RowF wb w xs sz v22) ∧
    (L 8 = true → v23 = .int .i64 size) ∧
    (L 9 = true → RowF wb w xs s9 v24) ∧
    (L 10 = true → VarF wb w v7) ∧
    (L 11 = true → VarF wb w v8) ∧
    (L 12 = true → VarF wb w v9) ∧
    (L 13 = true → HeldF wb w RN 0 v7 ∧ L 10 = true) ∧
    (L 14 = true → HeldF wb w RR sz v8 ∧ L 11 = true) ∧
    (L 15 = true → HeldF wb w xs s9 v9 ∧ L 12 = true) ∧
    (L 10 = true ∧ L 11 = true → v7 ≠ v8) ∧
    (L 10 = true ∧ L 12 = true → v7 ≠ v9) ∧
    (L 11 = true ∧ L 12 = true → v8 ≠ v9)
set_option maxRecDepth 100000 in
set_option maxHeartbeats 8000000 in
theorem LineShapes_walk (w : World) (A : Option Addr) (C : Nat) (xs0 : List Cl) (sz : Int) (rd : Rd encC 3 w A xs0) (lc : xs0.length ≤ C) (cm : C ≤ maxLen) (hok : ∀ y ∈ xs0, y.ok)
    (cols : Int) (hcols : (Lit.int .i64 cols).wf = true) (size : Int) (hsize : (Lit.int .i64 size).wf = true) :
    Calls Try.prog 11 #[lineV A xs0.length C sz, .int .i64 cols, .int .i64 size] w (Gives w (.bool true)) := by
  have OW := Lib.hid (fun w' (h : Rd encC 3 w' A xs0) => own_l A C sz xs0 w' h lc cm)
  have X := Lib.hid rd
  have hx : (xs0.take 300).length ≤ 300 := by simp; omega
  generalize hxs : xs0.take 300 = xs at OW hx
  clear hxs rd hok hcols hsize lc cm
  go_enter Try.func11, Try.ntmps11
  go_upto_region 4 with (first
    | (go_at_call 43; ((with_reducible refine (awake_3 _).mono ?_); rintro _ _ hgets; obtain ⟨rfl, x0, rfl⟩ := hgets.get; clear hgets))
    | (go_at_call 44
       (with_reducible refine (OW.out _ (by repeat (first | exact X.out | exact X | refine Rd.ext ?_ _ | refine Rd.alloc ?_ _ | refine Rd.drew ?_))).mono ?_)
       rintro _ _ ⟨A1, c1, x1, rfl, rfl, hO1⟩
       have hO := Lib.hid hO1
       clear hO1))
  have hL := LawM.start hO.out (by simp [go_sem])
  clear hO
  generalize ext (ext (w.alloc (.cells #[.slice A1 xs.length c1, .int .i64 sz] 70)) x0) x1 = wa at hL ⊢
  clear OW X
  have hcap := hL.cap
  have OA := Lib.hid (fun w' (h : Rd encC 3 w' A1 xs) => show Calls Try.prog 44 #[lineV A1 xs.length c1 sz] w' (NewL w' xs sz) by
    have h2 := own_l A1 c1 sz xs w' h hcap.2.2 (by simpa only [maxLen] using hcap.2.1)
    rw [List.take_of_length_le hx] at h2
    exact h2)
  have hl8 : (resR xs (newN cols)).length ≤ 500 := by rw [resR_len]; unfold newN; omega
  have hl7 : (List.replicate (newN cols) erC).length ≤ 500 := by rw [List.length_replicate]; unfold newN; omega
  have NW := Lib.hid (fun w' => new_l cols w')
  have NR := Lib.hid (fun w' => new_r cols w')
  have RZ := Lib.hid (fun (A' : Option Addr) (c' : Nat) w' (h : Rd encC 3 w' A' xs) => resize_l A' c' sz cols xs w' h)
  have RR := Lib.hid (fun w' (h : Rd encC 3 w' A1 xs) => resize_r A1 c1 sz cols xs w' h (by omega))
  have SZ := Lib.hid (fun (A' : Option Addr) (c' : Nat) (hA' : A' = none → c' = 0) w' (h : Rd encC 3 w' A' xs) => sized_l A' c' sz size xs w' h hA' (by omega) (by simp [maxLen]; omega))
  generalize resR xs (newN cols) = R8 at RZ RR hl8
  generalize List.replicate (newN cols) erC = R7 at NW NR hl7
  obtain ⟨hba, l0, l1, hz, XA1, -⟩ := hL
  have XA := Lib.hid XA1
  clear XA1
  go_cut [7, 8, 9] (fun v7 v8 v9 wx => ThreeIn wa R7 R8 xs 0 sz (sizeI size) v7 v8 v9 wx)
  case first =>
    refine wp_region_inv (by kernel_rfl) (by kernel_rfl) (ShapeI w.heap.size (lineV A xs0.length C sz) (.agg #[.slice A xs0.length C, .int .i64 sz]) (lineV A1 xs.length c1 sz) cols size wa R7 xs R8 sz (sizeI size)) ?_ ?_ ?_
    · refine ⟨undef, undef, undef, undef, undef, undef, undef, undef, undef, undef, undef, undef, undef, rfl, by (repeat' (first | (with_reducible exact Below.refl _ _) | (with_reducible refine Below.alloc ?_ ?_ _) | (with_reducible refine below_ext ?_ ?_ _) | (with_reducible refine Below.drew ?_) | (with_reducible refine below_drewN ?_ _) | (with_reducible refine Below.setCell ?_ ?_ _) | go_size | (simp only [go_sem]; omega) | (simp [go_sem]; done) | (simp [go_sem]; omega))), fun h => absurd h (by simp), fun h => absurd h (by simp), fun h => absurd h (by simp), fun h => absurd h (by simp), fun h => absurd h (by simp), fun h => absurd h (by simp), fun h => absurd h (by simp), fun h => absurd h (by simp), fun h => absurd h (by simp), fun h => absurd h (by simp), fun h => absurd h (by simp), fun h => absurd h (by simp), fun h => absurd h (by simp), fun h => absurd h (by simp), fun h => absurd h (by simp), fun h => absurd h (by simp), fun h => absurd h (by simp), fun h => absurd h (by simp), fun h => absurd h (by simp)⟩
    · have hg := hz
      have hg0 : w.heap.size < wa.heap.size := hz
      generalize hgw : w.heap.size = g at l0 l1 hg ⊢
      intro i hi L a w hI hL hd
      obtain ⟨v7, v8, v9, v15, v16, v17, v18, v19, v20, v21, v22, v23, v24, rfl, hB, f0, f1, f2, f3, f4, f5, f6, f7, f8, f9, f10, f11, f12, f13, f14, f15, d78, d79, d89⟩ := hI
      match i, hi, hL, hd with
        | 0, _, hL, hd =>
          refine wpOp_at _ rfl fun K hK => ?_
          go_simp
          exact hK _ _ ⟨_, _, _, _, _, _, _, _, _, _, _, _, _, rfl, hB, fun _ => rfl,
          fun h => (f1 (by simpa using h)),
          fun h => (f2 (by simpa using h)),
          fun h => (f3 (by simpa using h)),
          fun h => (f4 (by simpa using h)),
          fun h => (f5 (by simpa using h)),
          fun h => (f6 (by simpa using h)),
          fun h => (f7 (by simpa using h)),
          fun h => (f8 (by simpa using h)),
          fun h => (f9 (by simpa using h)),
          fun h => (f10 (by simpa using h)),
          fun h => (f11 (by simpa using h)),
          fun h => (f12 (by simpa using h)),
          fun h => ⟨(f13 (by simpa using h)).1, by simp [(f13 (by simpa using h)).2]⟩,
          fun h => ⟨(f14 (by simpa using h)).1, by simp [(f14 (by simpa using h)).2]⟩,
          fun h => ⟨(f15 (by simpa using h)).1, by simp [(f15 (by simpa using h)).2]⟩,
          fun h => (d78 (by simpa using h)),
          fun h => (d79 (by simpa using h)),
          fun h => (d89 (by simpa using h))⟩
        | 1, _, hL, hd =>
          refine wpOp_at _ rfl fun K hK => ?_
          have e0 := hd 0 (List.elem_iff.1 (by kernel_rfl))
          obtain rfl := f0 e0
          go_simp
          go_at_call 59
          refine (NW.out _).mono ?_
          rintro _ _ ⟨A4, c4, x4, rfl, rfl, hO4⟩
          go_simp
          have hb : Below w.heap.size w (ext w x4) := below_of_ext w x4
          exact hK _ _ ⟨_, _, _, _, _, _, _, _, _, _, _, _, _, rfl, hB.trans (hb.mono hB.size), fun h => (f0 (by simpa using h)),
          fun _ => RowF.of hB.size hO4,
          fun h => (f2 (by simpa using h)),
          fun h => (f3 (by simpa using h)).grow hb,
          fun h => (f4 (by simpa using h)),
          fun h => (f5 (by simpa using h)).grow hb,
          fun h => (f6 (by simpa using h)),
          fun h => (f7 (by simpa using h)).grow hb,
          fun h => (f8 (by simpa using h)),
          fun h => (f9 (by simpa using h)).grow hb,
          fun h => (f10 (by simpa using h)).grow hb,
          fun h => (f11 (by simpa using h)).grow hb,
          fun h => (f12 (by simpa using h)).grow hb,
          fun h => ⟨(f13 (by simpa using h)).1.grow hb, by simp [(f13 (by simpa using h)).2]⟩,
          fun h => ⟨(f14 (by simpa using h)).1.grow hb, by simp [(f14 (by simpa using h)).2]⟩,
          fun h => ⟨(f15 (by simpa using h)).1.grow hb, by simp [(f15 (by simpa using h)).2]⟩,
          fun h => (d78 (by simpa using h)),
          fun h => (d79 (by simpa using h)),
          fun h => (d89 (by simpa using h))⟩
        | 2, _, hL, hd =>
          refine wpOp_at _ rfl fun K hK => ?_
          have k0 := (hB.cell (p := ⟨g, 0, none⟩) hg).trans l0
          have k1 := (hB.cell (p := ⟨g, 1, none⟩) hg).trans l1
          go_simp
          exact hK _ _ ⟨_, _, _, _, _, _, _, _, _, _, _, _, _, rfl, hB, fun h => (f0 (by simpa using h)),
          fun h => (f1 (by simpa using h)),
          fun _ => rfl,
          fun h => (f3 (by simpa using h)),
          fun h => (f4 (by simpa using h)),
          fun h => (f5 (by simpa using h)),
          fun h => (f6 (by simpa using h)),
          fun h => (f7 (by simpa using h)),
          fun h => (f8 (by simpa using h)),
          fun h => (f9 (by simpa using h)),
          fun h => (f10 (by simpa using h)),
          fun h => (f11 (by simpa using h)),
          fun h => (f12 (by simpa using h)),
          fun h => ⟨(f13 (by simpa using h)).1, by simp [(f13 (by simpa using h)).2]⟩,
          fun h => ⟨(f14 (by simpa using h)).1, by simp [(f14 (by simpa using h)).2]⟩,
          fun h => ⟨(f15 (by simpa using h)).1, by simp [(f15 (by simpa using h)).2]⟩,
          fun h => (d78 (by simpa using h)),
          fun h => (d79 (by simpa using h)),
          fun h => (d89 (by simpa using h))⟩
        | 3, _, hL, hd =>
          refine wpOp_at _ rfl fun K hK => ?_
          have e2 := hd 2 (List.elem_iff.1 (by kernel_rfl))
          obtain rfl := f2 e2
          go_simp
          go_at_call 44
          refine (OA.out _ (XA.out.below hB)).mono ?_
          rintro _ _ ⟨A4, c4, x4, rfl, rfl, hO4⟩
          go_simp
          have hb : Below w.heap.size w (ext w x4) := below_of_ext w x4
          exact hK _ _ ⟨_, _, _, _, _, _, _, _, _, _, _, _, _, rfl, hB.trans (hb.mono hB.size), fun h => (f0 (by simpa using h)),
          fun h => (f1 (by simpa using h)).grow hb,
          fun h => (f2 (by simpa using h)),
          fun _ => RowF.of hB.size hO4,
          fun h => (f4 (by simpa using h)),
          fun h => (f5 (by simpa using h)).grow hb,
          fun h => (f6 (by simpa using h)),
          fun h => (f7 (by simpa using h)).grow hb,
          fun h => (f8 (by simpa using h)),
          fun h => (f9 (by simpa using h)).grow hb,
          fun h => (f10 (by simpa using h)).grow hb,
          fun h => (f11 (by simpa using h)).grow hb,
          fun h => (f12 (by simpa using h)).grow hb,
          fun h => ⟨(f13 (by simpa using h)).1.grow hb, by simp [(f13 (by simpa using h)).2]⟩,
          fun h => ⟨(f14 (by simpa using h)).1.grow hb, by simp [(f14 (by simpa using h)).2]⟩,
          fun h => ⟨(f15 (by simpa using h)).1.grow hb, by simp [(f15 (by simpa using h)).2]⟩,
          fun h => (d78 (by simpa using h)),
          fun h => (d79 (by simpa using h)),
          fun h => (d89 (by simpa using h))⟩
        | 4, _, hL, hd =>
          refine wpOp_at _ rfl fun K hK => ?_
          go_simp
          exact hK _ _ ⟨_, _, _, _, _, _, _, _, _, _, _, _, _, rfl, hB, fun h => (f0 (by simpa using h)),
          fun h => (f1 (by simpa using h)),
          fun h => (f2 (by simpa using h)),
          fun h => (f3 (by simpa using h)),
          fun _ => rfl,
          fun h => (f5 (by simpa using h)),
          fun h => (f6 (by simpa using h)),
          fun h => (f7 (by simpa using h)),
          fun h => (f8 (by simpa using h)),
          fun h => (f9 (by simpa using h)),
          fun h => (f10 (by simpa using h)),
          fun h => (f11 (by simpa using h)),
          fun h => (f12 (by simpa using h)),
          fun h => ⟨(f13 (by simpa using h)).1, by simp [(f13 (by simpa using h)).2]⟩,
          fun h => ⟨(f14 (by simpa using h)).1, by simp [(f14 (by simpa using h)).2]⟩,
          fun h => ⟨(f15 (by simpa using h)).1, by simp [(f15 (by simpa using h)).2]⟩,
          fun h => (d78 (by simpa using h)),
          fun h => (d79 (by simpa using h)),
          fun h => (d89 (by simpa using h))⟩
        | 5, _, hL, hd =>
          refine wpOp_at _ rfl fun K hK => ?_
          have e3 := hd 3 (List.elem_iff.1 (by kernel_rfl))
          have e4 := hd 4 (List.elem_iff.1 (by kernel_rfl))
          obtain rfl := f4 e4
          obtain ⟨A3, c3, e18, hO3⟩ := f3 e3
          subst e18
          go_simp
          go_at_call 60
          refine (RZ.out A3 c3 _ (hO3.rd encC_len)).mono ?_
          rintro _ _ ⟨A4, c4, x4, rfl, rfl, hO4⟩
          go_simp
          have hb : Below w.heap.size w (ext w x4) := below_of_ext w x4
          exact hK _ _ ⟨_, _, _, _, _, _, _, _, _, _, _, _, _, rfl, hB.trans (hb.mono hB.size), fun h => (f0 (by simpa using h)),
          fun h => (f1 (by simpa using h)).grow hb,
          fun h => (f2 (by simpa using h)),
          fun h => (f3 (by simpa using h)).grow hb,
          fun h => (f4 (by simpa using h)),
          fun _ => RowF.of hB.size hO4,
          fun h => (f6 (by simpa using h)),
          fun h => (f7 (by simpa using h)).grow hb,
          fun h => (f8 (by simpa using h)),
          fun h => (f9 (by simpa using h)).grow hb,
          fun h => (f10 (by simpa using h)).grow hb,
          fun h => (f11 (by simpa using h)).grow hb,
          fun h => (f12 (by simpa using h)).grow hb,
          fun h => ⟨(f13 (by simpa using h)).1.grow hb, by simp [(f13 (by simpa using h)).2]⟩,
          fun h => ⟨(f14 (by simpa using h)).1.grow hb, by simp [(f14 (by simpa using h)).2]⟩,
          fun h => ⟨(f15 (by simpa using h)).1.grow hb, by simp [(f15 (by simpa using h)).2]⟩,
          fun h => (d78 (by simpa using h)),
          fun h => (d79 (by simpa using h)),
          fun h => (d89 (by simpa using h))⟩
        | 6, _, hL, hd =>
          refine wpOp_at _ rfl fun K hK => ?_
          have k0 := (hB.cell (p := ⟨g, 0, none⟩) hg).trans l0
          have k1 := (hB.cell (p := ⟨g, 1, none⟩) hg).trans l1
          go_simp
          exact hK _ _ ⟨_, _, _, _, _, _, _, _, _, _, _, _, _, rfl, hB, fun h => (f0 (by simpa using h)),
          fun h => (f1 (by simpa using h)),
          fun h => (f2 (by simpa using h)),
          fun h => (f3 (by simpa using h)),
          fun h => (f4 (by simpa using h)),
          fun h => (f5 (by simpa using h)),
          fun _ => rfl,
          fun h => (f7 (by simpa using h)),
          fun h => (f8 (by simpa using h)),
          fun h => (f9 (by simpa using h)),
          fun h => (f10 (by simpa using h)),
          fun h => (f11 (by simpa using h)),
          fun h => (f12 (by simpa using h)),
          fun h => ⟨(f13 (by simpa using h)).1, by simp [(f13 (by simpa using h)).2]⟩,
          fun h => ⟨(f14 (by simpa using h)).1, by simp [(f14 (by simpa using h)).2]⟩,
          fun h => ⟨(f15 (by simpa using h)).1, by simp [(f15 (by simpa using h)).2]⟩,
          fun h => (d78 (by simpa using h)),
          fun h => (d79 (by simpa using h)),
          fun h => (d89 (by simpa using h))⟩
        | 7, _, hL, hd =>
          refine wpOp_at _ rfl fun K hK => ?_
          have e6 := hd 6 (List.elem_iff.1 (by kernel_rfl))
          obtain rfl := f6 e6
          go_simp
          go_at_call 44
          refine (OA.out _ (XA.out.below hB)).mono ?_
          rintro _ _ ⟨A4, c4, x4, rfl, rfl, hO4⟩
          go_simp
          have hb : Below w.heap.size w (ext w x4) := below_of_ext w x4
          exact hK _ _ ⟨_, _, _, _, _, _, _, _, _, _, _, _, _, rfl, hB.trans (hb.mono hB.size), fun h => (f0 (by simpa using h)),
          fun h => (f1 (by simpa using h)).grow hb,
          fun h => (f2 (by simpa using h)),
          fun h => (f3 (by simpa using h)).grow hb,
          fun h => (f4 (by simpa using h)),
          fun h => (f5 (by simpa using h)).grow hb,
          fun h => (f6 (by simpa using h)),
          fun _ => RowF.of hB.size hO4,
          fun h => (f8 (by simpa using h)),
          fun h => (f9 (by simpa using h)).grow hb,
          fun h => (f10 (by simpa using h)).grow hb,
          fun h => (f11 (by simpa using h)).grow hb,
          fun h => (f12 (by simpa using h)).grow hb,
          fun h => ⟨(f13 (by simpa using h)).1.grow hb, by simp [(f13 (by simpa using h)).2]⟩,
          fun h => ⟨(f14 (by simpa using h)).1.grow hb, by simp [(f14 (by simpa using h)).2]⟩,
          fun h => ⟨(f15 (by simpa using h)).1.grow hb, by simp [(f15 (by simpa using h)).2]⟩,
          fun h => (d78 (by simpa using h)),
          fun h => (d79 (by simpa using h)),
          fun h => (d89 (by simpa using h))⟩
        | 8, _, hL, hd =>
          refine wpOp_at _ rfl fun K hK => ?_
          go_simp
          exact hK _ _ ⟨_, _, _, _, _, _, _, _, _, _, _, _, _, rfl, hB, fun h => (f0 (by simpa using h)),
          fun h => (f1 (by simpa using h)),
          fun h => (f2 (by simpa using h)),
          fun h => (f3 (by simpa using h)),
          fun h => (f4 (by simpa using h)),
          fun h => (f5 (by simpa using h)),
          fun h => (f6 (by simpa using h)),
          fun h => (f7 (by simpa using h)),
          fun _ => rfl,
          fun h => (f9 (by simpa using h)),
          fun h => (f10 (by simpa using h)),
          fun h => (f11 (by simpa using h)),
          fun h => (f12 (by simpa using h)),
          fun h => ⟨(f13 (by simpa using h)).1, by simp [(f13 (by simpa using h)).2]⟩,
          fun h => ⟨(f14 (by simpa using h)).1, by simp [(f14 (by simpa using h)).2]⟩,
          fun h => ⟨(f15 (by simpa using h)).1, by simp [(f15 (by simpa using h)).2]⟩,
          fun h => (d78 (by simpa using h)),
          fun h => (d79 (by simpa using h)),
          fun h => (d89 (by simpa using h))⟩
        | 9, _, hL, hd =>
          refine wpOp_at _ rfl fun K hK => ?_
          have e7 := hd 7 (List.elem_iff.1 (by kernel_rfl))
          have e8 := hd 8 (List.elem_iff.1 (by kernel_rfl))
          obtain rfl := f8 e8
          obtain ⟨A3, c3, e22, hO3⟩ := f7 e7
          subst e22
          go_simp
          go_at_call 61
          refine (SZ.out A3 c3 (own_cap hO3).1 _ (hO3.rd encC_len)).mono ?_
          rintro _ _ ⟨A4, c4, x4, rfl, rfl, hO4⟩
          go_simp
          have hb : Below w.heap.size w (ext w x4) := below_of_ext w x4
          exact hK _ _ ⟨_, _, _, _, _, _, _, _, _, _, _, _, _, rfl, hB.trans (hb.mono hB.size), fun h => (f0 (by simpa using h)),
          fun h => (f1 (by simpa using h)).grow hb,
          fun h => (f2 (by simpa using h)),
          fun h => (f3 (by simpa using h)).grow hb,
          fun h => (f4 (by simpa using h)),
          fun h => (f5 (by simpa using h)).grow hb,
          fun h => (f6 (by simpa using h)),
          fun h => (f7 (by simpa using h)).grow hb,
          fun h => (f8 (by simpa using h)),
          fun _ => RowF.of hB.size hO4,
          fun h => (f10 (by simpa using h)).grow hb,
          fun h => (f11 (by simpa using h)).grow hb,
          fun h => (f12 (by simpa using h)).grow hb,
          fun h => ⟨(f13 (by simpa using h)).1.grow hb, by simp [(f13 (by simpa using h)).2]⟩,
          fun h => ⟨(f14 (by simpa using h)).1.grow hb, by simp [(f14 (by simpa using h)).2]⟩,
          fun h => ⟨(f15 (by simpa using h)).1.grow hb, by simp [(f15 (by simpa using h)).2]⟩,
          fun h => (d78 (by simpa using h)),
          fun h => (d79 (by simpa using h)),
          fun h => (d89 (by simpa using h))⟩
        | 10, _, hL, hd =>
          refine wpOp_at _ rfl fun K hK => ?_
          go_simp
          have hb : Below w.heap.size w (w.alloc (.cells #[.slice none 0 0, .int .i64 0] 70)) := (Below.refl _ _).alloc (Nat.le_refl _) _
          exact hK _ _ ⟨_, _, _, _, _, _, _, _, _, _, _, _, _, rfl, hB.trans (hb.mono hB.size), fun h => (f0 (by simpa using h)),
          fun h => (f1 (by simpa using h)).grow hb,
          fun h => (f2 (by simpa using h)),
          fun h => (f3 (by simpa using h)).grow hb,
          fun h => (f4 (by simpa using h)),
          fun h => (f5 (by simpa using h)).grow hb,
          fun h => (f6 (by simpa using h)),
          fun h => (f7 (by simpa using h)).grow hb,
          fun h => (f8 (by simpa using h)),
          fun h => (f9 (by simpa using h)).grow hb,
          fun _ => VarF.new hB.size _ _,
          fun h => (f11 (by simpa using h)).grow hb,
          fun h => (f12 (by simpa using h)).grow hb,
          fun h => absurd (f13 (by simpa using h)).2 (by simp [hL]),
          fun h => ⟨(f14 (by simpa using h)).1.grow hb, by simp [(f14 (by simpa using h)).2]⟩,
          fun h => ⟨(f15 (by simpa using h)).1.grow hb, by simp [(f15 (by simpa using h)).2]⟩,
          fun h => Ne.symm (VarF.ne (f11 (by simpa using h.2))),
          fun h => Ne.symm (VarF.ne (f12 (by simpa using h.2))),
          fun h => (d89 (by simpa using h))⟩
        | 11, _, hL, hd =>
          refine wpOp_at _ rfl fun K hK => ?_
          go_simp
          have hb : Below w.heap.size w (w.alloc (.cells #[.slice none 0 0, .int .i64 0] 70)) := (Below.refl _ _).alloc (Nat.le_refl _) _
          exact hK _ _ ⟨_, _, _, _, _, _, _, _, _, _, _, _, _, rfl, hB.trans (hb.mono hB.size), fun h => (f0 (by simpa using h)),
          fun h => (f1 (by simpa using h)).grow hb,
          fun h => (f2 (by simpa using h)),
          fun h => (f3 (by simpa using h)).grow hb,
          fun h => (f4 (by simpa using h)),
          fun h => (f5 (by simpa using h)).grow hb,
          fun h => (f6 (by simpa using h)),
          fun h => (f7 (by simpa using h)).grow hb,
          fun h => (f8 (by simpa using h)),
          fun h => (f9 (by simpa using h)).grow hb,
          fun h => (f10 (by simpa using h)).grow hb,
          fun _ => VarF.new hB.size _ _,
          fun h => (f12 (by simpa using h)).grow hb,
          fun h => ⟨(f13 (by simpa using h)).1.grow hb, by simp [(f13 (by simpa using h)).2]⟩,
          fun h => absurd (f14 (by simpa using h)).2 (by simp [hL]),
          fun h => ⟨(f15 (by simpa using h)).1.grow hb, by simp [(f15 (by simpa using h)).2]⟩,
          fun h => (VarF.ne (f10 (by simpa using h.1))),
          fun h => (d79 (by simpa using h)),
          fun h => Ne.symm (VarF.ne (f12 (by simpa using h.2)))⟩
        | 12, _, hL, hd =>
          refine wpOp_at _ rfl fun K hK => ?_
          go_simp
          have hb : Below w.heap.size w (w.alloc (.cells #[.slice none 0 0, .int .i64 0] 70)) := (Below.refl _ _).alloc (Nat.le_refl _) _
          exact hK _ _ ⟨_, _, _, _, _, _, _, _, _, _, _, _, _, rfl, hB.trans (hb.mono hB.size), fun h => (f0 (by simpa using h)),
          fun h => (f1 (by simpa using h)).grow hb,
          fun h => (f2 (by simpa using h)),
          fun h => (f3 (by simpa using h)).grow hb,
          fun h => (f4 (by simpa using h)),
          fun h => (f5 (by simpa using h)).grow hb,
          fun h => (f6 (by simpa using h)),
          fun h => (f7 (by simpa using h)).grow hb,
          fun h => (f8 (by simpa using h)),
          fun h => (f9 (by simpa using h)).grow hb,
          fun h => (f10 (by simpa using h)).grow hb,
          fun h => (f11 (by simpa using h)).grow hb,
          fun _ => VarF.new hB.size _ _,
          fun h => ⟨(f13 (by simpa using h)).1.grow hb, by simp [(f13 (by simpa using h)).2]⟩,
          fun h => ⟨(f14 (by simpa using h)).1.grow hb, by simp [(f14 (by simpa using h)).2]⟩,
          fun h => absurd (f15 (by simpa using h)).2 (by simp [hL]),
          fun h => (d78 (by simpa using h)),
          fun h => (VarF.ne (f10 (by simpa using h.1))),
          fun h => (VarF.ne (f11 (by simpa using h.1)))⟩
        | 13, _, hL, hd =>
          refine wpOp_at _ rfl fun K hK => ?_
          have e1 := hd 1 (List.elem_iff.1 (by kernel_rfl))
          have e10 := hd 10 (List.elem_iff.1 (by kernel_rfl))
          have NE78 : L 11 = true → v8 ≠ v7 := fun h => Ne.symm (d78 ⟨e10, h⟩)
          have NE79 : L 12 = true → v9 ≠ v7 := fun h => Ne.symm (d79 ⟨e10, h⟩)
          obtain ⟨H, q0, q1, eH, hBH, hH⟩ := f10 e10
          subst eH
          obtain ⟨A3, c3, eR, hO3⟩ := f1 e1
          subst eR
          have k0 : w.cell? ⟨H, 0, none⟩ = some q0 := by simp [World.cell?, hH]
          have k1 : w.cell? ⟨H, 1, none⟩ = some q1 := by simp [World.cell?, hH]
          have z0 : w.frozen? ⟨H, 0, none⟩ = false := by simp [World.frozen?, hH]
          have z1 : w.frozen? ⟨H, 1, none⟩ = false := by simp [World.frozen?, hH]
          have hp := put_of (x := .slice A3 R7.length c3) (y := .int .i64 0) hH
          go_simp
          exact hK _ _ ⟨_, _, _, _, _, _, _, _, _, _, _, _, _, rfl, below_put hB hBH, fun h => (f0 (by simpa using h)),
          fun h => (f1 (by simpa using h)).put hH hp,
          fun h => (f2 (by simpa using h)),
          fun h => (f3 (by simpa using h)).put hH hp,
          fun h => (f4 (by simpa using h)),
          fun h => (f5 (by simpa using h)).put hH hp,
          fun h => (f6 (by simpa using h)),
          fun h => (f7 (by simpa using h)).put hH hp,
          fun h => (f8 (by simpa using h)),
          fun h => (f9 (by simpa using h)).put hH hp,
          fun h => (f10 (by simpa using h)).put hp,
          fun h => (f11 (by simpa using h)).put hp,
          fun h => (f12 (by simpa using h)).put hp,
          fun _ => ⟨HeldF.of rfl hBH hH hO3 hp, by simp [e10]⟩,
          fun h => ⟨(f14 (by simpa using h)).1.put (NE78 (f14 (by simpa using h)).2) hH hp, by simp [(f14 (by simpa using h)).2]⟩,
          fun h => ⟨(f15 (by simpa using h)).1.put (NE79 (f15 (by simpa using h)).2) hH hp, by simp [(f15 (by simpa using h)).2]⟩,
          fun h => (d78 (by simpa using h)),
          fun h => (d79 (by simpa using h)),
          fun h => (d89 (by simpa using h))⟩
        | 14, _, hL, hd =>
          refine wpOp_at _ rfl fun K hK => ?_
          have e5 := hd 5 (List.elem_iff.1 (by kernel_rfl))
          have e11 := hd 11 (List.elem_iff.1 (by kernel_rfl))
          have NE87 : L 10 = true → v7 ≠ v8 := fun h => d78 ⟨h, e11⟩
          have NE89 : L 12 = true → v9 ≠ v8 := fun h => Ne.symm (d89 ⟨e11, h⟩)
          obtain ⟨H, q0, q1, eH, hBH, hH⟩ := f11 e11
          subst eH
          obtain ⟨A3, c3, eR, hO3⟩ := f5 e5
          subst eR
          have k0 : w.cell? ⟨H, 0, none⟩ = some q0 := by simp [World.cell?, hH]
          have k1 : w.cell? ⟨H, 1, none⟩ = some q1 := by simp [World.cell?, hH]
          have z0 : w.frozen? ⟨H, 0, none⟩ = false := by simp [World.frozen?, hH]
          have z1 : w.frozen? ⟨H, 1, none⟩ = false := by simp [World.frozen?, hH]
          have hp := put_of (x := .slice A3 R8.length c3) (y := .int .i64 sz) hH
          go_simp
          exact hK _ _ ⟨_, _, _, _, _, _, _, _, _, _, _, _, _, rfl, below_put hB hBH, fun h => (f0 (by simpa using h)),
          fun h => (f1 (by simpa using h)).put hH hp,
          fun h => (f2 (by simpa using h)),
          fun h => (f3 (by simpa using h)).put hH hp,
          fun h => (f4 (by simpa using h)),
          fun h => (f5 (by simpa using h)).put hH hp,
          fun h => (f6 (by simpa using h)),
          fun h => (f7 (by simpa using h)).put hH hp,
          fun h => (f8 (by simpa using h)),
          fun h => (f9 (by simpa using h)).put hH hp,
          fun h => (f10 (by simpa using h)).put hp,
          fun h => (f11 (by simpa using h)).put hp,
          fun h => (f12 (by simpa using h)).put hp,
          fun h => ⟨(f13 (by simpa using h)).1.put (NE87 (f13 (by simpa using h)).2) hH hp, by simp [(f13 (by simpa using h)).2]⟩,
          fun _ => ⟨HeldF.of rfl hBH hH hO3 hp, by simp [e11]⟩,
          fun h => ⟨(f15 (by simpa using h)).1.put (NE89 (f15 (by simpa using h)).2) hH hp, by simp [(f15 (by simpa using h)).2]⟩,
          fun h => (d78 (by simpa using h)),
          fun h => (d79 (by simpa using h)),
          fun h => (d89 (by simpa using h))⟩
        | 15, _, hL, hd =>
          refine wpOp_at _ rfl fun K hK => ?_
          have e9 := hd 9 (List.elem_iff.1 (by kernel_rfl))
          have e12 := hd 12 (List.elem_iff.1 (by kernel_rfl))
          have NE97 : L 10 = true → v7 ≠ v9 := fun h => d79 ⟨h, e12⟩
          have NE98 : L 11 = true → v8 ≠ v9 := fun h => d89 ⟨h, e12⟩
          obtain ⟨H, q0, q1, eH, hBH, hH⟩ := f12 e12
          subst eH
          obtain ⟨A3, c3, eR, hO3⟩ := f9 e9
          subst eR
          have k0 : w.cell? ⟨H, 0, none⟩ = some q0 := by simp [World.cell?, hH]
          have k1 : w.cell? ⟨H, 1, none⟩ = some q1 := by simp [World.cell?, hH]
          have z0 : w.frozen? ⟨H, 0, none⟩ = false := by simp [World.frozen?, hH]
          have z1 : w.frozen? ⟨H, 1, none⟩ = false := by simp [World.frozen?, hH]
          have hp := put_of (x := .slice A3 xs.length c3) (y := .int .i64 (sizeI size)) hH
          go_simp
          exact hK _ _ ⟨_, _, _, _, _, _, _, _, _, _, _, _, _, rfl, below_put hB hBH, fun h => (f0 (by simpa using h)),
          fun h => (f1 (by simpa using h)).put hH hp,
          fun h => (f2 (by simpa using h)),
          fun h => (f3 (by simpa using h)).put hH hp,
          fun h => (f4 (by simpa using h)),
          fun h => (f5 (by simpa using h)).put hH hp,
          fun h => (f6 (by simpa using h)),
          fun h => (f7 (by simpa using h)).put hH hp,
          fun h => (f8 (by simpa using h)),
          fun h => (f9 (by simpa using h)).put hH hp,
          fun h => (f10 (by simpa using h)).put hp,
          fun h => (f11 (by simpa using h)).put hp,
          fun h => (f12 (by simpa using h)).put hp,
          fun h => ⟨(f13 (by simpa using h)).1.put (NE97 (f13 (by simpa using h)).2) hH hp, by simp [(f13 (by simpa using h)).2]⟩,
          fun h => ⟨(f14 (by simpa using h)).1.put (NE98 (f14 (by simpa using h)).2) hH hp, by simp [(f14 (by simpa using h)).2]⟩,
          fun _ => ⟨HeldF.of rfl hBH hH hO3 hp, by simp [e12]⟩,
          fun h => (d78 (by simpa using h)),
          fun h => (d79 (by simpa using h)),
          fun h => (d89 (by simpa using h))⟩
        | n + 16, hi, _, _ => exact absurd hi (by simp)
    · intro L a w hall hI
      obtain ⟨v7, v8, v9, v15, v16, v17, v18, v19, v20, v21, v22, v23, v24, rfl, hB, f0, f1, f2, f3, f4, f5, f6, f7, f8, f9, f10, f11, f12, f13, f14, f15, d78, d79, d89⟩ := hI
      have h13 := (f13 (hall 13 (by decide))).1.lineAt
      have h14 := (f14 (hall 14 (by decide))).1.lineAt
      have h15 := (f15 (hall 15 (by decide))).1.lineAt
      go_wp2
      go_meet
      exact ⟨h13, h14, h15, hB⟩
  obtain ⟨⟨H7, A7, c7, rfl, hh7, hl7', j70, j71, XX7, hc7⟩, ⟨H8, A8, c8, rfl, hh8, hl8', j80, j81, XX8, hc8⟩, ⟨H9, A9, c9, rfl, hh9, hl9', j90, j91, XX9, hc9⟩, hB⟩ := hcut
  have hL := LawM.grow ⟨hba, l0, l1, hz, XA.out, hcap⟩ hB
  have X7 := Lib.hid XX7
  have X8 := Lib.hid XX8
  have X9 := Lib.hid XX9
  clear hba l0 l1 hz XA hB XX7 XX8 XX9 hh7 hh8 hh9 NW RZ SZ
  obtain ⟨hbb, l0, l1, hz, XB1, -⟩ := hL
  have XB := Lib.hid XB1
  clear XB1
  go_upto_region 6 with (fail)
  go_cut [34] (fun s wx => s = .bool (badS size) ∧ wx = wc.alloc (.cells #[.slice A1 xs.length c1, .int .i64 size] 70))
  case first =>
    by_cases q1 : size < 0
    · have q2 : decide (size < 0) = true := by simpa using q1
      go_wp2
      go_meet
      exact ⟨by simp [badS, q1], rfl⟩
    · have q2 : decide (size < 0) = false := by simpa using q1
      go_wp2
      go_meet
      exact ⟨by simp [badS, q1] <;> omega, rfl⟩
  obtain ⟨rfl, rfl⟩ := hcut
  go_upto_if 34 with (fail)
  go_cut [10] (fun s wx => OneIn wc xs (sizeI size) s wx)
  case first =>
    rcases Bool.eq_false_or_eq_true (badS size) with hq | hq
    · have e : sizeI size = 0 := by unfold badS at hq; unfold sizeI; rw [if_pos (by simpa using hq)]
      replace e := Lib.hid e
      rw [hq]
      clear hq
      go_wp2
      go_meet
      rw [e.out]
      exact ⟨LineAt.mk rfl (by simp [go_sem]) (by simp [go_sem]) (by simp [go_sem]) (by simp [go_sem]) (by repeat (first | exact XB.out | exact XB | refine Rd.ext ?_ _ | refine Rd.alloc ?_ _ | refine Rd.drew ?_)) hcap, by (repeat' (first | (with_reducible exact Below.refl _ _) | (with_reducible refine Below.alloc ?_ ?_ _) | (with_reducible refine below_ext ?_ ?_ _) | (with_reducible refine Below.drew ?_) | (with_reducible refine below_drewN ?_ _) | (with_reducible refine Below.setCell ?_ ?_ _) | go_size | (simp only [go_sem]; omega) | (simp [go_sem]; done) | (simp [go_sem]; omega)))⟩
    · have e : sizeI size = size := by unfold badS at hq; unfold sizeI; rw [if_neg (by simpa using hq)]
      replace e := Lib.hid e
      rw [hq]
      clear hq
      go_wp2
      go_meet
      rw [e.out]
      exact ⟨LineAt.mk rfl (by simp [go_sem]) (by simp [go_sem]) (by simp [go_sem]) (by simp [go_sem]) (by repeat (first | exact XB.out | exact XB | refine Rd.ext ?_ _ | refine Rd.alloc ?_ _ | refine Rd.drew ?_)) hcap, by (repeat' (first | (with_reducible exact Below.refl _ _) | (with_reducible refine Below.alloc ?_ ?_ _) | (with_reducible refine below_ext ?_ ?_ _) | (with_reducible refine Below.drew ?_) | (with_reducible refine below_drewN ?_ _) | (with_reducible refine Below.setCell ?_ ?_ _) | go_size | (simp only [go_sem]; omega) | (simp [go_sem]; done) | (simp [go_sem]; omega)))⟩
  obtain ⟨⟨H10, A10, c10, rfl, hh10, hl10', j100, j101, XX10, hc10⟩, hB⟩ := hcut
  have hL := LawM.grow ⟨hbb, l0, l1, hz, XB.out, hcap⟩ hB
  have X10 := Lib.hid XX10
  replace X7 := Lib.hid (X7.out.below hB)
  replace X8 := Lib.hid (X8.out.below hB)
  replace X9 := Lib.hid (X9.out.below hB)
  replace j70 := (hB.cell (p := ⟨H7, 0, none⟩) hl7').trans j70
  replace j71 := (hB.cell (p := ⟨H7, 1, none⟩) hl7').trans j71
  replace j80 := (hB.cell (p := ⟨H8, 0, none⟩) hl8').trans j80
  replace j81 := (hB.cell (p := ⟨H8, 1, none⟩) hl8').trans j81
  replace j90 := (hB.cell (p := ⟨H9, 0, none⟩) hl9').trans j90
  replace j91 := (hB.cell (p := ⟨H9, 1, none⟩) hl9').trans j91
  replace hl7' := Nat.lt_of_lt_of_le hl7' hB.size
  replace hl8' := Nat.lt_of_lt_of_le hl8' hB.size
  replace hl9' := Nat.lt_of_lt_of_le hl9' hB.size
  clear hbb l0 l1 hz XB hB XX10 hh10
  obtain ⟨hbd, l0, l1, hz, XD1, -⟩ := hL
  have XD := Lib.hid XD1
  clear XD1
  have S7 := Lib.hid (fun (A' : Option Addr) (c' : Nat) (A'' : Option Addr) (c'' : Nat) w' (h1 : Rd encC 3 w' A' R7) (h2 : Rd encC 3 w' A'' R7) => show Calls Try.prog 48 #[lineV A' R7.length c' 0, lineV A'' R7.length c'' 0] w' (Gives w' (.bool true)) by
    have h := same_lr A' A'' c' c'' R7 R7 0 0 w' h1 h2 (by omega) (by omega)
    rw [show sameL R7 0 R7 0 = true by simp [sameL]] at h
    exact h)
  have S8 := Lib.hid (fun (A' : Option Addr) (c' : Nat) (A'' : Option Addr) (c'' : Nat) w' (h1 : Rd encC 3 w' A' R8) (h2 : Rd encC 3 w' A'' R8) => show Calls Try.prog 48 #[lineV A' R8.length c' sz, lineV A'' R8.length c'' sz] w' (Gives w' (.bool true)) by
    have h := same_lr A' A'' c' c'' R8 R8 sz sz w' h1 h2 (by omega) (by omega)
    rw [show sameL R8 sz R8 sz = true by simp [sameL]] at h
    exact h)
  have S9 := Lib.hid (fun (A' : Option Addr) (c' : Nat) (A'' : Option Addr) (c'' : Nat) w' (h1 : Rd encC 3 w' A' xs) (h2 : Rd encC 3 w' A'' xs) => show Calls Try.prog 48 #[lineV A' xs.length c' (sizeI size), lineV A'' xs.length c'' (sizeI size)] w' (Gives w' (.bool true)) by
    have h := same_lr A' A'' c' c'' xs xs (sizeI size) (sizeI size) w' h1 h2 (by omega) (by omega)
    rw [show sameL xs (sizeI size) xs (sizeI size) = true by simp [sameL]] at h
    exact h)
  have SX := Lib.hid (fun (A' : Option Addr) (c' : Nat) (A'' : Option Addr) (c'' : Nat) w' (h1 : Rd encC 3 w' A' xs) (h2 : Rd encC 3 w' A'' xs) => show Calls Try.prog 66 #[lineV A' xs.length c' sz, lineV A'' xs.length c'' sz] w' (Gives w' (.bool true)) by
    have h := same_l A' A'' c' c'' xs xs sz sz w' h1 h2 (by omega) (by omega)
    rw [show sameL xs sz xs sz = true by simp [sameL]] at h
    exact h)
  have CP := Lib.hid (fun (A' : Option Addr) (c' : Nat) (hA' : A' = none → c' = 0) w' (h : Rd encC 3 w' A' xs) => copy_l A' c' sz xs w' h hA' (by omega) (by simp [maxLen]; omega))
  have WL := Lib.hid (fun (A' : Option Addr) (c' : Nat) (s : Int) w' => width_l A' xs.length c' s w' (by omega))
  have WR := Lib.hid (fun (A' : Option Addr) (c' : Nat) (s : Int) w' => width_r A' xs.length c' s w' (by omega))
  have B8 := Lib.hid (fun w' (h1 : Rd encC 3 w' A1 xs) (h2 : Rd encC 3 w' A8 R8) => same_l A1 A8 c1 c8 xs R8 sz sz w' h1 h2 (by omega) (by omega))
  have B8r := Lib.hid (fun w' (h1 : Rd encC 3 w' A1 xs) (h2 : Rd encC 3 w' A8 R8) => same_lr A1 A8 c1 c8 xs R8 sz sz w' h1 h2 (by omega) (by omega))
  have B9 := Lib.hid (fun w' (h1 : Rd encC 3 w' A1 xs) (h2 : Rd encC 3 w' A9 xs) => same_l A1 A9 c1 c9 xs xs sz (sizeI size) w' h1 h2 (by omega) (by omega))
  have B9r := Lib.hid (fun w' (h1 : Rd encC 3 w' A1 xs) (h2 : Rd encC 3 w' A9 xs) => same_lr A1 A9 c1 c9 xs xs sz (sizeI size) w' h1 h2 (by omega) (by omega))
  generalize sameL xs sz R8 sz = b8 at B8 B8r
  generalize sameL xs sz xs (sizeI size) = b9 at B9 B9r
  generalize sizeI size = s9 at *
  clear hl7 hl8
  go_upto_region 8 with (fail)
  go_cut [68] (fun s wx => GrewF wc s wx)
  case first =>
    go_region_held3 (fun w' => w'.cell? ⟨w.heap.size, 0, none⟩ = some (.slice A1 xs.length c1) ∧ w'.cell? ⟨w.heap.size, 1, none⟩ = some (.int .i64 sz) ∧ w'.cell? ⟨H7, 0, none⟩ = some (.slice A7 R7.length c7) ∧ w'.cell? ⟨H7, 1, none⟩ = some (.int .i64 0) ∧ w'.cell? ⟨H8, 0, none⟩ = some (.slice A8 R8.length c8) ∧ w'.cell? ⟨H8, 1, none⟩ = some (.int .i64 sz) ∧ w'.cell? ⟨H9, 0, none⟩ = some (.slice A9 xs.length c9) ∧ w'.cell? ⟨H9, 1, none⟩ = some (.int .i64 s9) ∧ w'.cell? ⟨H10, 0, none⟩ = some (.slice A10 xs.length c10) ∧ w'.cell? ⟨H10, 1, none⟩ = some (.int .i64 s9)) (((try simp only [ext_ext]); refine ⟨?_, ?_, ?_, ?_, ?_, ?_, ?_, ?_, ?_, ?_⟩ <;> simp [go_sem, *])) ((first
      | (go_at_call 62
         (with_reducible refine (NR.out _).mono ?_)
         rintro _ _ ⟨A4, c4, x4, rfl, rfl, hO1⟩
         have hO4 := Lib.hid hO1
         clear hO1)
      | (go_at_call 63
         (with_reducible refine (RR.out _ (by repeat (first | exact XD.out | exact XD | refine Rd.ext ?_ _ | refine Rd.alloc ?_ _ | refine Rd.drew ?_))).mono ?_)
         rintro _ _ ⟨A5, c5, x5, rfl, rfl, hO1⟩
         have hO5 := Lib.hid hO1
         clear hO1)
      | (go_at_call 64
         (with_reducible refine (WL.out _ _ _ _).mono ?_)
         rintro _ _ hgets
         obtain ⟨rfl, x5, rfl⟩ := hgets.get
         clear hgets)
      | (go_at_call 65
         (with_reducible refine (WR.out _ _ _ _).mono ?_)
         rintro _ _ hgets
         obtain ⟨rfl, x6, rfl⟩ := hgets.get
         clear hgets)
      | (go_at_call 48
         (first
           | (with_reducible refine (S9.out A9 c9 A10 c10 _ (by repeat (first | exact X9.out | exact X9 | refine Rd.ext ?_ _ | refine Rd.alloc ?_ _ | refine Rd.drew ?_)) (by repeat (first | exact X10.out | exact X10 | refine Rd.ext ?_ _ | refine Rd.alloc ?_ _ | refine Rd.drew ?_))).mono ?_)
           | (with_reducible refine (S8.out A8 c8 A5 c5 _ (by repeat (first | exact X8.out | exact X8 | refine Rd.ext ?_ _ | refine Rd.alloc ?_ _ | refine Rd.drew ?_)) (by repeat (first | with_reducible exact (own_over hO5.out (by simp [go_sem]) (by simp [go_sem])).rd encC_len | with_reducible exact hO5.out.rd encC_len | with_reducible refine Rd.ext ?_ _ | with_reducible refine Rd.alloc ?_ _ | with_reducible refine Rd.drew ?_))).mono ?_)
           | (with_reducible refine (S7.out A7 c7 A4 c4 _ (by repeat (first | exact X7.out | exact X7 | refine Rd.ext ?_ _ | refine Rd.alloc ?_ _ | refine Rd.drew ?_)) (by repeat (first | with_reducible exact (own_over hO4.out (by simp [go_sem]) (by simp [go_sem])).rd encC_len | with_reducible exact hO4.out.rd encC_len | with_reducible refine Rd.ext ?_ _ | with_reducible refine Rd.alloc ?_ _ | with_reducible refine Rd.drew ?_))).mono ?_))
         rintro _ _ hgets
         obtain ⟨rfl, x9, rfl⟩ := hgets.get
         clear hgets)))
    all_goals go_wp2
    all_goals go_meet
    all_goals exact ⟨rfl, by simp only [ext_ext]; exact ⟨_, rfl⟩⟩
  obtain ⟨rfl, x9, rfl⟩ := hcut
  go_upto_region 10 with (fail)
  go_region_held3 (fun w' => w'.cell? ⟨w.heap.size, 0, none⟩ = some (.slice A1 xs.length c1) ∧ w'.cell? ⟨w.heap.size, 1, none⟩ = some (.int .i64 sz) ∧ w'.cell? ⟨H8, 0, none⟩ = some (.slice A8 R8.length c8) ∧ w'.cell? ⟨H8, 1, none⟩ = some (.int .i64 sz) ∧ w'.cell? ⟨H9, 0, none⟩ = some (.slice A9 xs.length c9) ∧ w'.cell? ⟨H9, 1, none⟩ = some (.int .i64 s9)) (((try simp only [ext_ext]); refine ⟨?_, ?_, ?_, ?_, ?_, ?_⟩ <;> simp [go_sem, *])) ((first
      | (go_at_call 44
         (with_reducible refine (OA.out _ (by repeat (first | exact XD.out | exact XD | refine Rd.ext ?_ _ | refine Rd.alloc ?_ _ | refine Rd.drew ?_))).mono ?_)
         rintro _ _ ⟨A4, c4, x4, rfl, rfl, hO1⟩
         have hO4 := Lib.hid hO1
         clear hO1)
      | (go_at_call 67
         (with_reducible refine (CP.out A4 c4 (own_cap hO4.out).1 _ (by repeat (first | with_reducible exact (own_over hO4.out (by simp [go_sem]) (by simp [go_sem])).rd encC_len | with_reducible exact hO4.out.rd encC_len | with_reducible refine Rd.ext ?_ _ | with_reducible refine Rd.alloc ?_ _ | with_reducible refine Rd.drew ?_))).mono ?_)
         rintro _ _ ⟨A5, c5, x5, rfl, rfl, hO1⟩
         have hO5 := Lib.hid hO1
         clear hO1)
      | (go_at_call 66
         (first
           | (with_reducible refine (SX.out A1 c1 A5 c5 _ (by repeat (first | exact XD.out | exact XD | refine Rd.ext ?_ _ | refine Rd.alloc ?_ _ | refine Rd.drew ?_)) (by repeat (first | with_reducible exact (own_over hO5.out (by simp [go_sem]) (by simp [go_sem])).rd encC_len | with_reducible exact hO5.out.rd encC_len | with_reducible refine Rd.ext ?_ _ | with_reducible refine Rd.alloc ?_ _ | with_reducible refine Rd.drew ?_))).mono ?_)
           | (with_reducible refine (B9.out _ (by repeat (first | exact XD.out | exact XD | refine Rd.ext ?_ _ | refine Rd.alloc ?_ _ | refine Rd.drew ?_)) (by repeat (first | exact X9.out | exact X9 | refine Rd.ext ?_ _ | refine Rd.alloc ?_ _ | refine Rd.drew ?_))).mono ?_)
           | (with_reducible refine (B8.out _ (by repeat (first | exact XD.out | exact XD | refine Rd.ext ?_ _ | refine Rd.alloc ?_ _ | refine Rd.drew ?_)) (by repeat (first | exact X8.out | exact X8 | refine Rd.ext ?_ _ | refine Rd.alloc ?_ _ | refine Rd.drew ?_))).mono ?_))
         rintro _ _ hgets
         obtain ⟨rfl, x5, rfl⟩ := hgets.get
         clear hgets)
      | (go_at_call 48
         (first
           | (with_reducible refine (B9r.out _ (by repeat (first | exact XD.out | exact XD | refine Rd.ext ?_ _ | refine Rd.alloc ?_ _ | refine Rd.drew ?_)) (by repeat (first | exact X9.out | exact X9 | refine Rd.ext ?_ _ | refine Rd.alloc ?_ _ | refine Rd.drew ?_))).mono ?_)
           | (with_reducible refine (B8r.out _ (by repeat (first | exact XD.out | exact XD | refine Rd.ext ?_ _ | refine Rd.alloc ?_ _ | refine Rd.drew ?_)) (by repeat (first | exact X8.out | exact X8 | refine Rd.ext ?_ _ | refine Rd.alloc ?_ _ | refine Rd.drew ?_))).mono ?_))
         rintro _ _ hgets
         obtain ⟨rfl, x5, rfl⟩ := hgets.get
         clear hgets)))
  all_goals go_wp2
  all_goals go_returns
  all_goals exact ⟨rfl, by (repeat' (first | (with_reducible exact Below.refl _ _) | (with_reducible refine Below.alloc ?_ ?_ _) | (with_reducible refine below_ext ?_ ?_ _) | (with_reducible refine Below.drew ?_) | (with_reducible refine below_drewN ?_ _) | (with_reducible refine Below.setCell ?_ ?_ _) | go_size | (simp only [go_sem]; omega) | (simp [go_sem]; done) | (simp [go_sem]; omega)))⟩
end Go.Proofs.Ytdlngbmgcedbpaa
