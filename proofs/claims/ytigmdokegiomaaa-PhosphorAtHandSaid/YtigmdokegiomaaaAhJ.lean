/- Report.  -/
import Derived.Test.YtigmdokegiomaaaAhI
import Derived.Test.YtigmdokegiomaaaAhH
import Derived.Test.YtigmdokegiomaaaBStr
namespace Go.Proofs.Ytigmdokegiomaaa
open Go.RowKit
set_option linter.unusedVariables false
set_option linter.unusedSimpArgs false

theorem bldAt_later {T e : TypeId} {B b : Nat} {p : Value} {bs : List Value} {u u' : World} (h : Lib.BuilderAtF T e B b p bs u) (hb : Below u.heap.size u u') : Lib.BuilderAtF T e B b p bs u' := by
  have hl := h.lt
  obtain ⟨q1, x, q2, q3, q4⟩ := h
  refine ⟨q1, x, (hb.block b hl).trans q2, ?_, q4⟩
  exact q3.kept (row := none) ⟨hb.os, hb.tape, hb.output, hb.size, fun k hk _ => hb.block k hk⟩ (Classical.em _)
theorem IsB.later {B b : Nat} {l : List UInt8} {u u' : World} (h : IsB B b l u) (hb : Below u.heap.size u u') : IsB B b l u' := by
  rcases h with h | h
  · exact .inl (bldAt_later h hb)
  · exact .inr (bldAt_later h hb)
theorem al_at (w : World) (o : Obj) {g : Nat} (h : g = w.heap.size) : (w.alloc o).heap[g]? = some o := by
  subst h
  exact heap_alloc_new w o
def zN (f : Nat → Bool) : Nat → Int
  | 0 => 64
  | j + 1 => bif f j then bits BinOp.or IntKind.u8 (zN f j) (2 ^ j) else zN f j
def idsN (f : Nat → ByteArray) : Nat → List UInt8
  | 0 => []
  | j + 1 => idsN f j ++ (f j).data.toList
theorem id_sizes : ((List.range 17).all fun k => decide ((rowK k).id.size ≤ 2)) = true := by decide +kernel
theorem id_size {s : Int} (h1 : 1 ≤ s) (h2 : s ≤ 17) : (idB s).size ≤ 2 := by
  have := List.all_eq_true.1 id_sizes (s - 1).toNat (List.mem_range.2 (by omega))
  simpa [idB] using this
theorem ids_length (f : Nat → ByteArray) (hf : ∀ j, j < 4 → (f j).size ≤ 2) : ∀ j, j ≤ 4 → (idsN f j).length ≤ 2 * j
  | 0, _ => by simp [idsN]
  | j + 1, h => by
    have h1 := ids_length f hf j (by omega)
    have h2 : (f j).data.toList.length = (f j).size := rfl
    have h3 := hf j (by omega)
    simp only [idsN, List.length_append, h2]
    omega
section
variable (a b c d gl gr : Int)
set_option maxRecDepth 100000 in
set_option maxHeartbeats 16000000 in
theorem report_c (g1 : 0 ≤ gl) (g2 : gl ≤ 3) (g3 : 0 ≤ gr) (g4 : gr ≤ 3) (fI : Nat → ByteArray) (fW : Nat → Bool) (h : ∀ j : Nat, j < 4 → 1 ≤ sel a b c d j ∧ sel a b c d j ≤ 17)
    (hI : ∀ j : Nat, j < 4 → fI j = idB (sel a b c d j)) (hW : ∀ j : Nat, j < 4 → fW j = wdB (sel a b c d j)) (w : World) :
    Calls Try.prog 26 #[stV a b c d gl gr 0] w (Gives w (.tuple #[.int .i64 gl, .int .i64 gr, .int .u8 (zN fW 4), .string ⟨(idsN fI 4).toArray⟩])) := by
  have LF := Lib.hid (fun w' => mleft_a a b c d gl gr 0 g1 g2 w')
  have RF := Lib.hid (fun w' => mright_a a b c d gl gr 0 g3 g4 w')
  have hl := Lib.hid (ids_length fI (fun j hj => by rw [hI j hj]; exact id_size (h j hj).1 (h j hj).2))
  have ID : Hid (∀ j : Nat, j < 4 → ∀ w', Calls Try.prog 4 #[.int .i64 (sel a b c d j)] w' (Gives w' (.tuple #[.string (fI j), .bool (fW j)]))) := Lib.hid (fun j hj w' => by rw [hI j hj, hW j hj]; exact id_c _ (h j hj).1 (h j hj).2 w')
  have hsz : Hid (∀ j, j < 4 → (fI j).size ≤ 2) := Lib.hid (fun j hj => by rw [hI j hj]; exact id_size (h j hj).1 (h j hj).2)
  clear h hI hW g1 g2 g3 g4
  unfold stV at *
  obtain ⟨W0, hW0⟩ : ∃ W0, W0 = w.alloc (.cells #[.int .i64 a, .int .i64 b, .int .i64 c, .int .i64 d, .int .i64 gl, .int .i64 gr, .int .i64 0] 27) := ⟨_, rfl⟩
  have hN : W0.heap.size = w.heap.size + 1 := by rw [hW0]; simp
  have b0 : W0.heap[w.heap.size]? = some (.cells #[.int .i64 a, .int .i64 b, .int .i64 c, .int .i64 d, .int .i64 gl, .int .i64 gr, .int .i64 0] 27 (0, 0)) := by subst hW0; exact al_at _ _ rfl
  have hB0 : Below w.heap.size w W0 := by rw [hW0]; (repeat' (first | (with_reducible exact Below.refl _ _) | (with_reducible refine Below.alloc ?_ ?_ _) | (with_reducible refine below_ext ?_ ?_ _) | (with_reducible refine Below.drew ?_) | (with_reducible refine below_drewN ?_ _) | (with_reducible refine Below.setCell ?_ ?_ _) | go_size | (simp only [go_sem]; omega) | (simp [go_sem]; done) | (simp [go_sem]; omega)))
  have FB := Lib.hid (fresh_b W0)
  go_enter Try.func26, Try.ntmps26
  go_upto_region 3 with fail
  rw [← hW0, ← hN]
  obtain ⟨N, hNN⟩ : ∃ N, N = W0.heap.size := ⟨_, rfl⟩
  obtain ⟨W1, hW1⟩ : ∃ W1, W1 = W0.alloc (.cells #[.pointer none, .slice none 0 0] 64) := ⟨_, rfl⟩
  have FB1 : Hid (IsB N N [] W1) := Lib.hid (by rw [hW1, hNN]; exact FB.out)
  have hB1 : Hid (Below N W0 W1) := Lib.hid (by rw [hW1, hNN]; (repeat' (first | (with_reducible exact Below.refl _ _) | (with_reducible refine Below.alloc ?_ ?_ _) | (with_reducible refine below_ext ?_ ?_ _) | (with_reducible refine Below.drew ?_) | (with_reducible refine below_drewN ?_ _) | (with_reducible refine Below.setCell ?_ ?_ _) | go_size | (simp only [go_sem]; omega) | (simp [go_sem]; done) | (simp [go_sem]; omega))))
  have hL : w.heap.size < N := by omega
  have b1 : W1.heap[w.heap.size]? = some (.cells #[.int .i64 a, .int .i64 b, .int .i64 c, .int .i64 d, .int .i64 gl, .int .i64 gr, .int .i64 0] 27 (0, 0)) := (hB1.out.block _ hL).trans b0
  rw [← hW1, ← hNN]
  have hNle : N ≤ W0.heap.size := by omega
  clear hW1 FB hW0 hNN
  have c0 : W1.cell? ⟨w.heap.size, 0, none⟩ = some (.int .i64 a) := by rw [Lib.cell_of_heap b1]; rfl
  have c1 : W1.cell? ⟨w.heap.size, 1, none⟩ = some (.int .i64 b) := by rw [Lib.cell_of_heap b1]; rfl
  have c2 : W1.cell? ⟨w.heap.size, 2, none⟩ = some (.int .i64 c) := by rw [Lib.cell_of_heap b1]; rfl
  have c3 : W1.cell? ⟨w.heap.size, 3, none⟩ = some (.int .i64 d) := by rw [Lib.cell_of_heap b1]; rfl
  have WS : Hid (∀ (j : Nat), j < 4 → ∀ wr, IsB N N (idsN fI j) wr → N ≤ wr.heap.size → ∀ w', Below wr.heap.size wr w' → Calls Try.prog 36 #[.pointer (some ⟨N, 0, none⟩), .string (fI j)] w' fun e w2 => e = .returned (.tuple #[.int .i64 (fI j).size, .nilIface]) ∧ Hid (IsB N N (idsN fI (j + 1)) w2) ∧ Hid (Below N w' w2)) := by
    refine Lib.hid fun j hj wr hI hN w' hb => ?_
    have := hl.out j (by omega)
    have := hsz.out j hj
    refine (bwrite_s N N (idsN fI j) (fI j) w' (hI.later hb) (by omega) (by have := hb.size; omega)).mono ?_
    rintro e w2 ⟨h1, h2, h3⟩
    exact ⟨h1, Lib.hid h2, Lib.hid h3⟩
  go_wp2
  go_loopw [6, 14] (fun zv iv wr => ∃ j : Nat, j ≤ 4 ∧ zv = .int .u8 (zN fW j) ∧ iv = .int .i64 j ∧ Hid (IsB N N (idsN fI j) wr) ∧ Hid (Below N W0 wr)) (fun _ iv _ => 4 - (intOf iv).toNat)
  case atStart => exact ⟨0, by omega, rfl, rfl, FB1, hB1⟩
  case round =>
    obtain ⟨j, hj, rfl, rfl, hI, hB⟩ := hrel
    have hNr : N ≤ wr.heap.size := by have := hB.out.size; omega
    rcases (show j = 0 ∨ j = 1 ∨ j = 2 ∨ j = 3 ∨ j = 4 by omega) with rfl | rfl | rfl | rfl | rfl
    · have IDj : Hid (∀ w', Calls Try.prog 4 #[.int .i64 a] w' (Gives w' (.tuple #[.string (fI 0), .bool (fW 0)]))) := Lib.hid (fun w' => ID.out 0 (by omega) w')
      have WSj := Lib.hid (WS.out 0 (by omega) wr hI.out hNr)
      have R : ∀ w', (Instr.index 25 (.agg #[.int .i64 a, .int .i64 b, .int .i64 c, .int .i64 d]) (.int .i64 0)).run Try.prog w' = .ok (.int .i64 a) w' := fun w' => by kernel_rfl
      have ek : (((0 : Nat)) : Int) = 0 := rfl
      rw [ek]
      rcases hf : fW 0
      all_goals (
        rw [hf] at IDj
        go_wp2_with (first
          | (go_at_call 4; ((with_reducible refine (IDj.out _).mono ?_); rintro _ _ hgets; obtain ⟨rfl, x1, rfl⟩ := hgets.get; clear hgets))
          | ((go_at_call 36); (refine (WSj.out _ (by (repeat' (first | (with_reducible exact Below.refl _ _) | (with_reducible refine Below.alloc ?_ ?_ _) | (with_reducible refine below_ext ?_ ?_ _) | (with_reducible refine Below.drew ?_) | (with_reducible refine below_drewN ?_ _) | (with_reducible refine Below.setCell ?_ ?_ _) | go_size | (simp only [go_sem]; omega) | (simp [go_sem]; done) | (simp [go_sem]; omega))))).mono ?_); (rintro _ w2 ⟨rfl, h2, hb2⟩)))
        refine ⟨⟨1, by omega, ?_, rfl, h2, Lib.hid ((hB.out.trans (Below.mono (B := wr.heap.size) (by (repeat' (first | (with_reducible exact Below.refl _ _) | (with_reducible refine Below.alloc ?_ ?_ _) | (with_reducible refine below_ext ?_ ?_ _) | (with_reducible refine Below.drew ?_) | (with_reducible refine below_drewN ?_ _) | (with_reducible refine Below.setCell ?_ ?_ _) | go_size | (simp only [go_sem]; omega) | (simp [go_sem]; done) | (simp [go_sem]; omega)))) hNr)).trans hb2.out)⟩, by simp [intOf]⟩
        simp [zN, hf])
    · have IDj : Hid (∀ w', Calls Try.prog 4 #[.int .i64 b] w' (Gives w' (.tuple #[.string (fI 1), .bool (fW 1)]))) := Lib.hid (fun w' => ID.out 1 (by omega) w')
      have WSj := Lib.hid (WS.out 1 (by omega) wr hI.out hNr)
      have R : ∀ w', (Instr.index 25 (.agg #[.int .i64 a, .int .i64 b, .int .i64 c, .int .i64 d]) (.int .i64 1)).run Try.prog w' = .ok (.int .i64 b) w' := fun w' => by kernel_rfl
      have ek : (((1 : Nat)) : Int) = 1 := rfl
      rw [ek]
      rcases hf : fW 1
      all_goals (
        rw [hf] at IDj
        go_wp2_with (first
          | (go_at_call 4; ((with_reducible refine (IDj.out _).mono ?_); rintro _ _ hgets; obtain ⟨rfl, x1, rfl⟩ := hgets.get; clear hgets))
          | ((go_at_call 36); (refine (WSj.out _ (by (repeat' (first | (with_reducible exact Below.refl _ _) | (with_reducible refine Below.alloc ?_ ?_ _) | (with_reducible refine below_ext ?_ ?_ _) | (with_reducible refine Below.drew ?_) | (with_reducible refine below_drewN ?_ _) | (with_reducible refine Below.setCell ?_ ?_ _) | go_size | (simp only [go_sem]; omega) | (simp [go_sem]; done) | (simp [go_sem]; omega))))).mono ?_); (rintro _ w2 ⟨rfl, h2, hb2⟩)))
        refine ⟨⟨2, by omega, ?_, rfl, h2, Lib.hid ((hB.out.trans (Below.mono (B := wr.heap.size) (by (repeat' (first | (with_reducible exact Below.refl _ _) | (with_reducible refine Below.alloc ?_ ?_ _) | (with_reducible refine below_ext ?_ ?_ _) | (with_reducible refine Below.drew ?_) | (with_reducible refine below_drewN ?_ _) | (with_reducible refine Below.setCell ?_ ?_ _) | go_size | (simp only [go_sem]; omega) | (simp [go_sem]; done) | (simp [go_sem]; omega)))) hNr)).trans hb2.out)⟩, by simp [intOf]⟩
        simp [zN, hf])
    · have IDj : Hid (∀ w', Calls Try.prog 4 #[.int .i64 c] w' (Gives w' (.tuple #[.string (fI 2), .bool (fW 2)]))) := Lib.hid (fun w' => ID.out 2 (by omega) w')
      have WSj := Lib.hid (WS.out 2 (by omega) wr hI.out hNr)
      have R : ∀ w', (Instr.index 25 (.agg #[.int .i64 a, .int .i64 b, .int .i64 c, .int .i64 d]) (.int .i64 2)).run Try.prog w' = .ok (.int .i64 c) w' := fun w' => by kernel_rfl
      have ek : (((2 : Nat)) : Int) = 2 := rfl
      rw [ek]
      rcases hf : fW 2
      all_goals (
        rw [hf] at IDj
        go_wp2_with (first
          | (go_at_call 4; ((with_reducible refine (IDj.out _).mono ?_); rintro _ _ hgets; obtain ⟨rfl, x1, rfl⟩ := hgets.get; clear hgets))
          | ((go_at_call 36); (refine (WSj.out _ (by (repeat' (first | (with_reducible exact Below.refl _ _) | (with_reducible refine Below.alloc ?_ ?_ _) | (with_reducible refine below_ext ?_ ?_ _) | (with_reducible refine Below.drew ?_) | (with_reducible refine below_drewN ?_ _) | (with_reducible refine Below.setCell ?_ ?_ _) | go_size | (simp only [go_sem]; omega) | (simp [go_sem]; done) | (simp [go_sem]; omega))))).mono ?_); (rintro _ w2 ⟨rfl, h2, hb2⟩)))
        refine ⟨⟨3, by omega, ?_, rfl, h2, Lib.hid ((hB.out.trans (Below.mono (B := wr.heap.size) (by (repeat' (first | (with_reducible exact Below.refl _ _) | (with_reducible refine Below.alloc ?_ ?_ _) | (with_reducible refine below_ext ?_ ?_ _) | (with_reducible refine Below.drew ?_) | (with_reducible refine below_drewN ?_ _) | (with_reducible refine Below.setCell ?_ ?_ _) | go_size | (simp only [go_sem]; omega) | (simp [go_sem]; done) | (simp [go_sem]; omega)))) hNr)).trans hb2.out)⟩, by simp [intOf]⟩
        simp [zN, hf])
    · have IDj : Hid (∀ w', Calls Try.prog 4 #[.int .i64 d] w' (Gives w' (.tuple #[.string (fI 3), .bool (fW 3)]))) := Lib.hid (fun w' => ID.out 3 (by omega) w')
      have WSj := Lib.hid (WS.out 3 (by omega) wr hI.out hNr)
      have R : ∀ w', (Instr.index 25 (.agg #[.int .i64 a, .int .i64 b, .int .i64 c, .int .i64 d]) (.int .i64 3)).run Try.prog w' = .ok (.int .i64 d) w' := fun w' => by kernel_rfl
      have ek : (((3 : Nat)) : Int) = 3 := rfl
      rw [ek]
      rcases hf : fW 3
      all_goals (
        rw [hf] at IDj
        go_wp2_with (first
          | (go_at_call 4; ((with_reducible refine (IDj.out _).mono ?_); rintro _ _ hgets; obtain ⟨rfl, x1, rfl⟩ := hgets.get; clear hgets))
          | ((go_at_call 36); (refine (WSj.out _ (by (repeat' (first | (with_reducible exact Below.refl _ _) | (with_reducible refine Below.alloc ?_ ?_ _) | (with_reducible refine below_ext ?_ ?_ _) | (with_reducible refine Below.drew ?_) | (with_reducible refine below_drewN ?_ _) | (with_reducible refine Below.setCell ?_ ?_ _) | go_size | (simp only [go_sem]; omega) | (simp [go_sem]; done) | (simp [go_sem]; omega))))).mono ?_); (rintro _ w2 ⟨rfl, h2, hb2⟩)))
        refine ⟨⟨4, by omega, ?_, rfl, h2, Lib.hid ((hB.out.trans (Below.mono (B := wr.heap.size) (by (repeat' (first | (with_reducible exact Below.refl _ _) | (with_reducible refine Below.alloc ?_ ?_ _) | (with_reducible refine below_ext ?_ ?_ _) | (with_reducible refine Below.drew ?_) | (with_reducible refine below_drewN ?_ _) | (with_reducible refine Below.setCell ?_ ?_ _) | go_size | (simp only [go_sem]; omega) | (simp [go_sem]; done) | (simp [go_sem]; omega)))) hNr)).trans hb2.out)⟩, by simp [intOf]⟩
        simp [zN, hf])
    · have cc : ∀ w', Below N W0 w' → w'.heap[w.heap.size]? = some (.cells #[.int .i64 a, .int .i64 b, .int .i64 c, .int .i64 d, .int .i64 gl, .int .i64 gr, .int .i64 0] 27 (0, 0)) := fun w' h => (h.block _ hL).trans b0
      have KS : ∀ w', Below N W0 w' → (w'.cell? ⟨w.heap.size, 0, none⟩ = some (.int .i64 a) ∧ w'.cell? ⟨w.heap.size, 1, none⟩ = some (.int .i64 b) ∧ w'.cell? ⟨w.heap.size, 2, none⟩ = some (.int .i64 c) ∧ w'.cell? ⟨w.heap.size, 3, none⟩ = some (.int .i64 d) ∧ w'.cell? ⟨w.heap.size, 4, none⟩ = some (.int .i64 gl) ∧ w'.cell? ⟨w.heap.size, 5, none⟩ = some (.int .i64 gr) ∧ w'.cell? ⟨w.heap.size, 6, none⟩ = some (.int .i64 0)) := fun w' h => ⟨by rw [Lib.cell_of_heap (cc w' h)]; rfl, by rw [Lib.cell_of_heap (cc w' h)]; rfl, by rw [Lib.cell_of_heap (cc w' h)]; rfl, by rw [Lib.cell_of_heap (cc w' h)]; rfl, by rw [Lib.cell_of_heap (cc w' h)]; rfl, by rw [Lib.cell_of_heap (cc w' h)]; rfl, by rw [Lib.cell_of_heap (cc w' h)]; rfl⟩
      have ST : Hid (∀ w', Below wr.heap.size wr w' → Calls Try.prog 37 #[.pointer (some ⟨N, 0, none⟩)] w' fun e w2 => e = .returned (.string ⟨(idsN fI 4).toArray⟩) ∧ Hid (Below N w' w2)) := by
        refine Lib.hid fun w' hb => ?_
        refine (bstring_c N N (idsN fI 4) w' (hI.out.later hb) (by have := hb.size; omega)).mono ?_
        rintro e w2 ⟨h1, -, h3, -⟩
        exact ⟨h1, Lib.hid h3⟩
      have KW : ∀ w', Below wr.heap.size wr w' → Below N W0 w' := fun w' h => hB.out.trans (Below.mono h hNr)
      go_upto_region 11 with fail
      (refine wp_region_F (S := (fun w' => w'.cell? ⟨w.heap.size, 0, none⟩ = some (.int .i64 a) ∧ w'.cell? ⟨w.heap.size, 1, none⟩ = some (.int .i64 b) ∧ w'.cell? ⟨w.heap.size, 2, none⟩ = some (.int .i64 c) ∧ w'.cell? ⟨w.heap.size, 3, none⟩ = some (.int .i64 d) ∧ w'.cell? ⟨w.heap.size, 4, none⟩ = some (.int .i64 gl) ∧ w'.cell? ⟨w.heap.size, 5, none⟩ = some (.int .i64 gr) ∧ w'.cell? ⟨w.heap.size, 6, none⟩ = some (.int .i64 0))) 9 [false, false, false, false, false, false, false, false, false, false] rfl rfl (by kernel_rfl) ?_ (fun hHeld => ?_); (focus ((try dsimp only); (exact KS _ (KW _ (by (repeat' (first | (with_reducible exact Below.refl _ _) | (with_reducible refine Below.alloc ?_ ?_ _) | (with_reducible refine below_ext ?_ ?_ _) | (with_reducible refine Below.drew ?_) | (with_reducible refine below_drewN ?_ _) | (with_reducible refine Below.setCell ?_ ?_ _) | go_size | (simp only [go_sem]; omega) | (simp [go_sem]; done) | (simp [go_sem]; omega)))))); done)))
      ((refine AtF.take (oi := ?_) (v := ?_) 0 ?_ ?_ ?_ ?_ (Or.inl ⟨?_, ?_⟩) (by assumption) ?_; rotate_left 2; rfl; kernel_rfl; kernel_rfl; exact (fun _ _ _ h => h); rfl; (focus (intro w hSw; (try dsimp only at hSw); go_simp; (try with_reducible rfl); done)); (try simp only [Act.put, List.setIfInBounds_toArray, List.set_cons_zero, List.set_cons_succ])); (refine AtF.take (oi := ?_) (v := ?_) 2 ?_ ?_ ?_ ?_ (Or.inl ⟨?_, ?_⟩) (by assumption) ?_; rotate_left 2; rfl; kernel_rfl; kernel_rfl; exact (fun _ _ _ h => h); rfl; (focus (intro w hSw; (try dsimp only at hSw); go_simp; (try with_reducible rfl); done)); (try simp only [Act.put, List.setIfInBounds_toArray, List.set_cons_zero, List.set_cons_succ])); (refine AtF.take (oi := ?_) (v := ?_) 4 ?_ ?_ ?_ ?_ (Or.inl ⟨?_, ?_⟩) (by assumption) ?_; rotate_left 2; rfl; kernel_rfl; kernel_rfl; exact (fun _ _ _ h => h); rfl; (focus (intro w hSw; (try dsimp only at hSw); go_simp; (try with_reducible rfl); done)); (try simp only [Act.put, List.setIfInBounds_toArray, List.set_cons_zero, List.set_cons_succ])))
      (refine AtF.only (oi := ?_) 1 ?_ ?_ (fun K hK => ?_); rotate_left 1; rfl; kernel_rfl; (try go_simp); (go_at_call 17; ((with_reducible refine (LF.out _).mono ?_); rintro _ _ hgets; obtain ⟨rfl, x1, rfl⟩ := hgets.get; clear hgets)); (refine hK.out _ _ ?_ (fun hHeld => ?_)); (focus ((try dsimp only); (exact KS _ (KW _ (by (repeat' (first | (with_reducible exact Below.refl _ _) | (with_reducible refine Below.alloc ?_ ?_ _) | (with_reducible refine below_ext ?_ ?_ _) | (with_reducible refine Below.drew ?_) | (with_reducible refine below_drewN ?_ _) | (with_reducible refine Below.setCell ?_ ?_ _) | go_size | (simp only [go_sem]; omega) | (simp [go_sem]; done) | (simp [go_sem]; omega)))))); done)); clear hK K; (try simp only [Act.put, List.setIfInBounds_toArray, List.set_cons_zero, List.set_cons_succ]))
      (refine AtF.only (oi := ?_) 3 ?_ ?_ (fun K hK => ?_); rotate_left 1; rfl; kernel_rfl; (try go_simp); (go_at_call 18; ((with_reducible refine (RF.out _).mono ?_); rintro _ _ hgets; obtain ⟨rfl, x2, rfl⟩ := hgets.get; clear hgets)); (refine hK.out _ _ ?_ (fun hHeld => ?_)); (focus ((try dsimp only); (exact KS _ (KW _ (by (repeat' (first | (with_reducible exact Below.refl _ _) | (with_reducible refine Below.alloc ?_ ?_ _) | (with_reducible refine below_ext ?_ ?_ _) | (with_reducible refine Below.drew ?_) | (with_reducible refine below_drewN ?_ _) | (with_reducible refine Below.setCell ?_ ?_ _) | go_size | (simp only [go_sem]; omega) | (simp [go_sem]; done) | (simp [go_sem]; omega)))))); done)); clear hK K; (try simp only [Act.put, List.setIfInBounds_toArray, List.set_cons_zero, List.set_cons_succ]))
      (refine AtF.only (oi := ?_) 5 ?_ ?_ (fun K hK => ?_); rotate_left 1; rfl; kernel_rfl; (try go_simp); ((go_at_call 37); (refine (ST.out _ (by (repeat' (first | (with_reducible exact Below.refl _ _) | (with_reducible refine Below.alloc ?_ ?_ _) | (with_reducible refine below_ext ?_ ?_ _) | (with_reducible refine Below.drew ?_) | (with_reducible refine below_drewN ?_ _) | (with_reducible refine Below.setCell ?_ ?_ _) | go_size | (simp only [go_sem]; omega) | (simp [go_sem]; done) | (simp [go_sem]; omega))))).mono ?_); (rintro _ w3 ⟨rfl, hb3⟩)); (refine hK.out _ _ ?_ (fun hHeld => ?_)); (focus ((try dsimp only); (exact KS _ ((KW _ (by (repeat' (first | (with_reducible exact Below.refl _ _) | (with_reducible refine Below.alloc ?_ ?_ _) | (with_reducible refine below_ext ?_ ?_ _) | (with_reducible refine Below.drew ?_) | (with_reducible refine below_drewN ?_ _) | (with_reducible refine Below.setCell ?_ ?_ _) | go_size | (simp only [go_sem]; omega) | (simp [go_sem]; done) | (simp [go_sem]; omega))))).trans hb3.out)); done)); clear hK K; (try simp only [Act.put, List.setIfInBounds_toArray, List.set_cons_zero, List.set_cons_succ]))
      ((refine AtF.take (oi := ?_) (v := ?_) 6 ?_ ?_ ?_ ?_ (Or.inl ⟨?_, ?_⟩) (by assumption) ?_; rotate_left 2; rfl; kernel_rfl; kernel_rfl; exact (fun _ _ _ h => h); rfl; (focus (intro w hSw; (try dsimp only at hSw); go_simp; (try with_reducible rfl); done)); (try simp only [Act.put, List.setIfInBounds_toArray, List.set_cons_zero, List.set_cons_succ])); (refine AtF.take (oi := ?_) (v := ?_) 7 ?_ ?_ ?_ ?_ (Or.inl ⟨?_, ?_⟩) (by assumption) ?_; rotate_left 2; rfl; kernel_rfl; kernel_rfl; exact (fun _ _ _ h => h); rfl; (focus (intro w hSw; (try dsimp only at hSw); go_simp; (try with_reducible rfl); done)); (try simp only [Act.put, List.setIfInBounds_toArray, List.set_cons_zero, List.set_cons_succ])); (refine AtF.take (oi := ?_) (v := ?_) 8 ?_ ?_ ?_ ?_ (Or.inl ⟨?_, ?_⟩) (by assumption) ?_; rotate_left 2; rfl; kernel_rfl; kernel_rfl; exact (fun _ _ _ h => h); rfl; (focus (intro w hSw; (try dsimp only at hSw); go_simp; (try with_reducible rfl); done)); (try simp only [Act.put, List.setIfInBounds_toArray, List.set_cons_zero, List.set_cons_succ])))
      (refine AtF.last (oi := ?_) ?_ ?_ (fun K hK => ?_); rotate_left 1; rfl; kernel_rfl; go_simp; skip; refine hK.out _ _ ?_; clear hK K; (try simp only [Act.put, List.setIfInBounds_toArray, List.set_cons_zero, List.set_cons_succ]))
      go_wp2
      go_returns
      exact ⟨rfl, hB0.trans (Below.mono ((KW _ (by (repeat' (first | (with_reducible exact Below.refl _ _) | (with_reducible refine Below.alloc ?_ ?_ _) | (with_reducible refine below_ext ?_ ?_ _) | (with_reducible refine Below.drew ?_) | (with_reducible refine below_drewN ?_ _) | (with_reducible refine Below.setCell ?_ ?_ _) | go_size | (simp only [go_sem]; omega) | (simp [go_sem]; done) | (simp [go_sem]; omega))))).trans hb3.out) (by omega))⟩
end
end Go.Proofs.Ytigmdokegiomaaa
