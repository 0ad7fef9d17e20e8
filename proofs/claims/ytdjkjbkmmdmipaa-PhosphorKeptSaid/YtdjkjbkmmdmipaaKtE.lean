/- macro: used, maps.Copy, strings.Clone.  -/
import Derived.Test.YtdjkjbkmmdmipaaKtP
import Derived.Test.YtdjkjbkmmdmipaaKtK
import Derived.Shelf.Strconv.Clone
import Derived.Laws.IdiomRangeMap
namespace Go.Proofs.Ytdjkjbkmmdmipaa
open Go.RowKit Go.Maps
set_option linter.unusedVariables false
set_option linter.unusedSimpArgs false

def sclone_ren : Go.Shelf.Ren := { f := fun x => match x with | 316 => 19 | n => n, t := fun x => match x with | 9 => 9 | 3 => 3 | 4 => 4 | 37 => 34 | 0 => 0 | 127 => 47 | 5 => 5 | n => n, g := fun x => have n := x; n }
theorem sclone : Go.Proofs.LaysM.n316 Try.prog sclone_ren := {
  mixed := by kernel_rfl
  f316 := Try.func19.trans (congrArg some (by kernel_rfl))
  t0 := Try.underlying0
  a0 := Try.isAgg0
  z0 := Try.sizeOf0
  v0 := Try.zeroValue0
  t3 := Try.underlying3
  a3 := Try.isAgg3
  z3 := Try.sizeOf3
  v3 := Try.zeroValue3
  t4 := Try.underlying4
  a4 := Try.isAgg4
  z4 := Try.sizeOf4
  v4 := Try.zeroValue4
  t9 := Try.underlying9
  a9 := Try.isAgg9
  z9 := Try.sizeOf9
  v9 := Try.zeroValue9
  t37 := Try.underlying34
  a37 := Try.isAgg34
  z37 := Try.sizeOf34
  v37 := Try.zeroValue34
  t127 := Try.underlying47
  a127 := Try.isAgg47
  z127 := Try.sizeOf47
  v127 := Try.zeroValue47
  t5 := Try.underlying5
  a5 := Try.isAgg5
  z5 := Try.sizeOf5
  v5 := Try.zeroValue5
  i0 := by kernel_rfl
  i3 := by kernel_rfl
  i4 := by kernel_rfl
  i5 := by kernel_rfl
  i9 := by kernel_rfl
  i37 := by kernel_rfl
  i127 := by kernel_rfl }

theorem sclone_c (s : ByteArray) (w : World) (hs : s.size ≤ 7000) : Calls Try.prog 13 #[.string s] w (fun e w' => e = .returned (.string s) ∧ Below w.heap.size w w') := by
  have C := Lib.hid (fun w' => Any.stringslite_Clone sclone s w' (by omega))
  clear hs
  go_enter Try.func13, Try.ntmps13
  go_wp2_with ((go_at_call 19); (refine Calls.mono (by exact C.out _) ?_); (rintro _ W1 ⟨rfl, h1⟩))
  go_returns
  exact ⟨rfl, h1⟩
theorem lawI : Keyed Try.prog 3 := int_keyed Try.underlying3
abbrev OwnM (w : World) (b n : Nat) (D : Dm) : Prop := w.ownsMap Try.prog 3 (plainElem Try.prog 9) b n D
abbrev RngM (w : World) (b r n : Nat) (D : Dm) (left : Lit → Bool) (cnt : Nat) : Prop := w.ranges Try.prog 3 (plainElem Try.prog 9) b r n D left cnt
set_option maxRecDepth 100000 in
set_option maxHeartbeats 8000000 in
theorem used_c (b n : Nat) (D : Dm) (w : World) (hown : OwnM w b n D) (hs : sumD D ≤ 6144) :
    Calls Try.prog 11 #[.map (some b)] w (fun e w' => e = .returned (.int .i64 (sumD D)) ∧ Below w.heap.size w w') := by
  have hbl := hown.lt
  have hC := Lib.hid (hown.canon lawI)
  have hIs : Hid (∃ es, D = .map es ∧ ∀ p ∈ es, WideAt.IsKeyLit p.1) := Lib.hid (by obtain ⟨es, e, _, hk⟩ := hC.out; exact ⟨es, e, hk⟩)
  replace hs := Lib.hid hs
  go_enter Try.func11, Try.ntmps11
  go_wp2_with (first
    | (at_range; refine wpList_range_own _ rfl _ 23 rfl 3 9 lawI Try.underlying23 _ b n _ rfl hown ?_; intro w0 hrg0 hg0 hs0)
    | go_in)
  go_frame
  go_loopw [3] (fun nv wr => ∃ (left : Lit → Bool) (cnt : Nat), nv = .int .i64 (doneD left D) ∧ Hid (RngM wr b w.heap.size n D left cnt) ∧ Hid (Below w.heap.size w wr)) (fun _ wr => wr.rangeLeft b w.heap.size)
  case atStart =>
    exact ⟨_, _, by rw [done_start D hIs.out]; rfl, Lib.hid hrg0, Lib.hid ((Below.refl _ _).grown hg0 (Nat.le_refl _) (fun j hj => by cases hj))⟩
  case round =>
    obtain ⟨left, cnt, rfl, hrg, hB⟩ := hrel
    have hle := done_le D left
    go_wp2_with (first
      | (at_next; refine wpList_next_ranges_is _ rfl _ rfl 3 9 .i64 lawI Try.underlying3 Try.underlying9 b w.heap.size n _ _ _ rfl hrg.out ?_ ?_)
      | go_in)
    · intro hc0 hl0
      have hE := done_end D left hl0
      rw [hE]
      clear hrg
      go_wp2
      go_returns
      exact ⟨rfl, hB.out⟩
    · intro x c w1 cnt1 hwx hwc hlx hat hrg1 hlt hg1 hs1 hen
      have hst := done_step hC.out (keyL x) hlx hat
      have hle2 := done_le D (fun z => left z && !z.sameKey (.int .i64 x))
      have hcl : c.data.toList.length = c.size := rfl
      rw [hcl] at hst
      have hss := hs.out
      have hw : wrap64 ((doneD left D : Nat) + (c.size : Int)) = ((doneD (fun z => left z && !z.sameKey (.int .i64 x)) D : Nat) : Int) := by
        rw [hst]
        rw [hst] at hle2
        unfold RowKit.wrap64
        omega
      have hF : Hid (RngM w1 b w.heap.size n D (fun z => left z && !z.sameKey (.int .i64 x)) cnt1) := Lib.hid hrg1
      have hM : w1.rangeLeft b w.heap.size < wr.rangeLeft b w.heap.size := by rw [hrg1.left_eq, hrg.out.left_eq]; exact hlt
      have hB1 : Hid (Below w.heap.size w w1) := Lib.hid (hB.out.grown hg1 hB.out.size (fun j hj => by cases hj; exact Nat.le_refl _))
      replace hw := Lib.hid hw
      clear hst hle hle2 hcl hss hat hrg hB hg1 hs1 hlx hrg1 hlt
      go_wp2
      exact ⟨⟨_, cnt1, congrArg _ hw.out, hF, hB1⟩, hM⟩
set_option maxRecDepth 100000 in
set_option maxHeartbeats 8000000 in
theorem used_nil (w : World) : Calls Try.prog 11 #[.map none] w (fun e w' => e = .returned (.int .i64 0) ∧ Below w.heap.size w w') := by
  have hrg := run_range_nilMap (P := Try.prog) w 23 3 9 Try.underlying23
  have hnx : ∀ ty, (Instr.next (.pointer (some ⟨w.heap.size, 0, none⟩)) false ty).run Try.prog (w.alloc (.mapIter none 0 #[] 0)) = _ := fun ty => run_next_nilMap _ ty 0 0 #[]
  go_enter Try.func11, Try.ntmps11
  go_wp2
  refine wp_loop_rounds 1 ?_
  rw [rounds_succ]
  go_wp2
  go_returns
  exact ⟨rfl, (Below.refl _ _).alloc (Nat.le_refl _) _⟩
theorem Keep.grownBy {F : Nat → Prop} {a b c : World} {row : Option Nat} (h : Keep F a b) (k : b.grownBy c row) (hr : ∀ j, row = some j → F j ∨ a.heap.size ≤ j) : Keep F a c :=
  ⟨k.os.trans h.os, k.tape.trans h.tape, k.output.trans h.output, Nat.le_trans h.size k.size, fun i hi hn =>
    (k.block i (Nat.lt_of_lt_of_le hi h.size) (fun e => by rcases hr i e.symm with h1 | h1; exact hn h1; omega)).trans (h.block i hi hn)⟩
set_option maxRecDepth 100000 in
set_option maxHeartbeats 8000000 in
theorem mcopy_c (b1 b n : Nat) (D : Dm) (w : World) (h1 : OwnM w b1 0 (.map [])) (hown : OwnM w b n D) (hne : b1 ≠ b) (hn : n ≤ 64) :
    Calls Try.prog 10 #[.map (some b1), .map (some b)] w (fun e w' => e = .returned (.tuple #[]) ∧ OwnM w' b1 n D ∧ Keep (· = b1) w w') := by
  have hbl := hown.lt
  have hb1 := h1.lt
  have hsz := hown.size_le
  have hC := Lib.hid (hown.canon lawI)
  have hO := Lib.hid h1
  clear h1
  go_enter Try.func10, Try.ntmps10
  go_wp2_with (first
    | (at_range; refine wpList_range_own _ rfl _ 23 rfl 3 9 lawI Try.underlying23 _ b n _ rfl hown ?_; intro w0 hrg0 hg0 hs0)
    | go_in)
  go_frame
  go_loopw [4] (fun _ wr => ∃ (left : Lit → Bool) (cnt : Nat) (Dout : Dm), Hid (RngM wr b w.heap.size n D left cnt) ∧ Hid (OwnM wr b1 (Maps.size D - cnt) Dout) ∧ Hid (Agree Dout D left) ∧ Hid (Keep (· = b1) w wr) ∧ cnt ≤ Maps.size D) (fun _ wr => wr.rangeLeft b w.heap.size)
  case atStart =>
    exact ⟨_, _, .map [], Lib.hid hrg0, Lib.hid ((hO.out.kept hg0 (by simp)).mono (Nat.zero_le _)), Lib.hid (agree_start D), Lib.hid ((Keep.refl _ _).grownBy hg0 (fun j hj => by cases hj)), Nat.le_refl _⟩
  case round =>
    obtain ⟨left, cnt, Dout, hrg, hout, hA, hK, hcs⟩ := hrel
    go_wp2_with (first
      | (at_next; refine wpList_next_ranges_is _ rfl _ rfl 3 9 .i64 lawI Try.underlying3 Try.underlying9 b w.heap.size n _ _ _ rfl hrg.out ?_ ?_)
      | go_in)
    · intro hc0 hl0
      have hE := agree_end hA.out hl0 (hout.out.canon lawI) hC.out
      have hF := Lib.hid (hout.out.mono (n' := n) (by omega))
      rw [hE] at hF
      clear hrg hE hl0
      go_wp2
      go_end0
      exact ⟨rfl, hF.out, hK.out⟩
    · intro x c w1 cnt1 hwx hwc hlx hat hrg1 hlt hg1 hs1 hen
      have hout1 := hout.out.kept hg1 (by simp; omega)
      go_wp2_with (first
        | (at_mapUpdate; refine wpList_mapUpdate_own _ rfl _ _ _ 23 rfl 3 9 lawI Try.underlying23 _ b1 _ _ rfl hout1 (by simp only [maxLen]; omega) _ _ _ rfl rfl (keyOf_int_mk Try.underlying3 hwx) _ [] (plainElem_string Try.underlying9 hwc) ?_; intro w2 hout2 hg2; go_frame)
        | go_in)
      have hrg2 := hrg1.kept hg2 (fun e => by have := Option.some.inj e; omega) (fun e => by have := Option.some.inj e; omega)
      have hF : Hid (OwnM w2 b1 (Maps.size D - cnt1) (Dout.put (.int .i64 x) (.lit (.string c.data.toList)))) := Lib.hid (hout2.mono (by omega))
      have hA2 := Lib.hid (agree_step hA.out hout.out.isMap (keyL x) hat)
      have hK2 := Lib.hid ((hK.out.grownBy hg1 (fun j hj => by cases hj; exact .inr (Nat.le_refl _))).grownBy hg2 (fun j hj => by cases hj; exact .inl rfl))
      have hM : w2.rangeLeft b w.heap.size < wr.rangeLeft b w.heap.size := by rw [hrg2.left_eq, hrg.out.left_eq]; exact hlt
      exact ⟨⟨_, cnt1, _, Lib.hid hrg2, hF, hA2, hK2, by omega⟩, hM⟩
set_option maxRecDepth 100000 in
set_option maxHeartbeats 8000000 in
theorem mcopy_nil (b1 : Nat) (w : World) : Calls Try.prog 10 #[.map (some b1), .map none] w (fun e w' => e = .returned (.tuple #[]) ∧ Below w.heap.size w w') := by
  have hrg := run_range_nilMap (P := Try.prog) w 23 3 9 Try.underlying23
  have hnx : ∀ ty, (Instr.next (.pointer (some ⟨w.heap.size, 0, none⟩)) false ty).run Try.prog (w.alloc (.mapIter none 0 #[] 0)) = _ := fun ty => run_next_nilMap _ ty 0 0 #[]
  go_enter Try.func10, Try.ntmps10
  go_wp2
  refine wp_loop_rounds 1 ?_
  rw [rounds_succ]
  go_wp2
  go_end0
  exact ⟨rfl, (Below.refl _ _).alloc (Nat.le_refl _) _⟩
end Go.Proofs.Ytdjkjbkmmdmipaa
