/- What the law asks, in the law's own words.  -/
import Derived.Test.YtigmdokegiomaaaAhJ
import Derived.Test.YtigmdokegiomaaaAhL
import Derived.Test.YtigmdokegiomaaaAhG
import Derived.Laws.StructEq
import Derived.ChangeKeysEq
namespace Go.Proofs.Ytigmdokegiomaaa
open Go.RowKit
set_option linter.unusedVariables false
set_option linter.unusedSimpArgs false

theorem and_all : ((List.range 256).all fun d => bits BinOp.and IntKind.u8 (d : Int) 127 == ((d % 128 : Nat) : Int)) = true := by decide +kernel
theorem and_c (d : Int) (h1 : 0 ≤ d) (h2 : d < 256) : bits BinOp.and IntKind.u8 d 127 = d % 128 := by
  obtain ⟨j, rfl⟩ := Int.eq_ofNat_of_zero_le h1
  have := List.all_eq_true.1 and_all j (List.mem_range.2 (by omega))
  simp only [beq_iff_eq] at this
  rw [this]
  omega
theorem or_all : ((List.range 128).all fun d => bits BinOp.or IntKind.u8 (d : Int) 128 == ((d + 128 : Nat) : Int)) = true := by decide +kernel
theorem or_c (d : Int) (h1 : 0 ≤ d) (h2 : d < 128) : bits BinOp.or IntKind.u8 d 128 = d + 128 := by
  obtain ⟨j, rfl⟩ := Int.eq_ofNat_of_zero_le h1
  have := List.all_eq_true.1 or_all j (List.mem_range.2 (by omega))
  simp only [beq_iff_eq] at this
  rw [this]
  omega
def z4 (b c d : Bool) : Int := zN (fun j => if j = 1 then b else if j = 2 then c else if j = 3 then d else false) 4
theorem z4_all : ∀ b c d : Bool, bits BinOp.andNot IntKind.u8 (z4 b c d) 15 = 64 ∧ (bits BinOp.and IntKind.u8 (z4 b c d) 1 == 1) = false ∧ (bits BinOp.and IntKind.u8 (z4 b c d / 2) 1 == 1) = b ∧ (bits BinOp.and IntKind.u8 (z4 b c d / 4) 1 == 1) = c ∧ (bits BinOp.and IntKind.u8 (z4 b c d / 8) 1 == 1) = d := by decide +kernel
theorem wd_one : wdB 1 = false := by decide +kernel
section
variable (b c d gl gr sg : Int)
set_option maxRecDepth 100000 in
set_option maxHeartbeats 8000000 in
theorem reported_c (g1 : 0 ≤ gl) (g2 : gl ≤ 3) (g3 : 0 ≤ gr) (g4 : gr ≤ 3) (b1 : 1 ≤ b) (b2 : b ≤ 17) (c1 : 1 ≤ c) (c2 : c ≤ 17) (d1 : 1 ≤ d) (d2 : d ≤ 17) (w : World) :
    Calls Try.prog 13 #[stV 1 b c d gl gr 0] w (Gives w (.tuple #[.int .i64 gl, .int .i64 gr, .int .u8 (z4 (wdB b) (wdB c) (wdB d)), .string ⟨(idL 1 ++ (idL b ++ (idL c ++ idL d))).toArray⟩])) := by
  have RE := Lib.hid (fun w' => report_c 1 b c d gl gr g1 g2 g3 g4 (fun j => idB (sel 1 b c d j)) (fun j => wdB (sel 1 b c d j))
    (fun j hj => by rcases (show j = 0 ∨ j = 1 ∨ j = 2 ∨ j = 3 by omega) with rfl | rfl | rfl | rfl <;> simp [sel] <;> omega) (fun j _ => rfl) (fun j _ => rfl) w')
  have e1 : zN (fun j => wdB (sel 1 b c d j)) 4 = z4 (wdB b) (wdB c) (wdB d) := by simp [zN, z4, sel, wd_one]
  have e2 : idsN (fun j => idB (sel 1 b c d j)) 4 = idL 1 ++ (idL b ++ (idL c ++ idL d)) := by simp [idsN, sel, idL]
  rw [e1, e2] at RE
  generalize z4 (wdB b) (wdB c) (wdB d) = z at RE ⊢
  generalize idL 1 ++ (idL b ++ (idL c ++ idL d)) = l at RE ⊢
  clear e1 e2 b1 b2 c1 c2 d1 d2
  unfold stV at *
  go_enter Try.func13, Try.ntmps13
  go_wp2_with (go_at_call 26; ((with_reducible refine (RE.out _).mono ?_); rintro _ _ hgets; obtain ⟨rfl, x1, rfl⟩ := hgets.get; clear hgets))
  go_returns
  exact ⟨rfl, by (repeat' (first | (with_reducible exact Below.refl _ _) | (with_reducible refine Below.alloc ?_ ?_ _) | (with_reducible refine below_ext ?_ ?_ _) | (with_reducible refine Below.drew ?_) | (with_reducible refine below_drewN ?_ _) | (with_reducible refine Below.setCell ?_ ?_ _) | go_size | (simp only [go_sem]; omega) | (simp [go_sem]; done) | (simp [go_sem]; omega)))⟩
theorem back_c (g1 : 0 ≤ gl) (g2 : gl ≤ 3) (g3 : 1 ≤ gr) (g4 : gr ≤ 3) (b1 : 1 ≤ b) (b2 : b ≤ 17) (c1 : 1 ≤ c) (c2 : c ≤ 17) (d1 : 1 ≤ d) (d2 : d ≤ 17) (w : World) :
    Calls Try.prog 12 #[stV 1 1 4 4 0 2 0, .int .i64 gl, .int .i64 gr, .int .u8 (z4 (wdB b) (wdB c) (wdB d)), .string ⟨(idL 1 ++ (idL b ++ (idL c ++ idL d))).toArray⟩] w (Gives w (.tuple #[stV 1 b c d gl gr 0, .bool true])) := by
  obtain ⟨h1, h2, h3, h4, h5⟩ := z4_all (wdB b) (wdB c) (wdB d)
  exact restore_c 1 b c d gl gr g1 g2 g3 g4 (by omega) (by omega) b1 b2 c1 c2 d1 d2 wd_one _ h1 (by rw [h2, wd_one]) h3 h4 h5 w
theorem arr4_sameA (a b c d : Int) (D : Nat) (w : World) :
    (Op.equalIn (D + 2) 25 (.agg #[.int .i64 a, .int .i64 b, .int .i64 c, .int .i64 d]) (.agg #[.int .i64 a, .int .i64 b, .int .i64 c, .int .i64 d])).run Try.prog w = .ok true w := by
  obtain ⟨i, hi, -⟩ := info_parts (show (Try.prog.info? 3).map (fun i => (i.zero, i.size, i.bytes)) = some (some (.int .i64 0), 1, 8) by kernel_rfl)
  rw [run_equalIn_array w (D + 1) _ _ Try.underlying25 hi]
  simp [Op.eqItems, List.range, List.range.loop, go_sem, show Try.prog.cellsOf 3 = 1 by kernel_rfl]
attribute [local go_sem] arr4_sameA
set_option maxRecDepth 100000 in
set_option maxHeartbeats 4000000 in
theorem st_eql (a : Int) (w : World) : (binOp .eql 27 (.agg #[.int .i64 a, .int .i64 b, .int .i64 c, .int .i64 d, .int .i64 gl, .int .i64 gr, .int .i64 sg]) (.agg #[.int .i64 a, .int .i64 b, .int .i64 c, .int .i64 d, .int .i64 gl, .int .i64 gr, .int .i64 sg])).run Try.prog w = .ok (.bool true) w := by
  simp [go_sem]
set_option maxRecDepth 100000 in
set_option maxHeartbeats 4000000 in
theorem st_neq (a : Int) (w : World) : (binOp .neq 27 (.agg #[.int .i64 a, .int .i64 b, .int .i64 c, .int .i64 d, .int .i64 gl, .int .i64 gr, .int .i64 sg]) (.agg #[.int .i64 a, .int .i64 b, .int .i64 c, .int .i64 d, .int .i64 gl, .int .i64 gr, .int .i64 sg])).run Try.prog w = .ok (.bool false) w := by
  simp [go_sem]
end
/-- what is drawn for a code under a set -/
def drawn (s x : Int) : Int := if x < 32 then 0 else charG s x
theorem dl_c (b c d g s x : Int) (g1 : 1 ≤ g) (g2 : g ≤ 3) (hs : sel 1 b c d g = s) (s1 : 1 ≤ s) (s2 : s ≤ 17) (x1 : 0 ≤ x) (x2 : x < 128) (w : World) :
    Calls Try.prog 9 #[stV 1 b c d g 2 0, .int .u8 x] w (Gives w (.tuple #[.int .i32 (drawn s x), stV 1 b c d g 2 0])) := by
  unfold drawn
  by_cases h : x < 32
  · rw [if_pos h]; exact map_low 1 b c d g 2 0 x x x1 (by omega) (by omega) h w
  · rw [if_neg h]
    subst hs
    exact map_left 1 b c d g 2 x (by omega) x2 (by omega) g2 (by omega) (by omega) s1 s2 w
theorem dr_c (b c d g s x : Int) (g1 : 1 ≤ g) (g2 : g ≤ 3) (hs : sel 1 b c d g = s) (s1 : 1 ≤ s) (s2 : s ≤ 17) (x1 : 0 ≤ x) (x2 : x < 128) (w : World) :
    Calls Try.prog 9 #[stV 1 b c d 0 g 0, .int .u8 (x + 128)] w (Gives w (.tuple #[.int .i32 (drawn s x), stV 1 b c d 0 g 0])) := by
  unfold drawn
  by_cases h : x < 32
  · rw [if_pos h]; exact map_low 1 b c d 0 g 0 (x + 128) x (by omega) (by omega) (by omega) h w
  · rw [if_neg h]
    subst hs
    have := map_right 1 b c d 0 g (x + 128) (by omega) (by omega) (by omega) (by omega) (by omega) g2 s1 s2 w
    rwa [show x + 128 - 128 = x by omega] at this
theorem do_c (b c d g s x : Int) (g1 : 2 ≤ g) (g2 : g ≤ 3) (hs : sel 1 b c d g = s) (s1 : 1 ≤ s) (s2 : s ≤ 17) (x1 : 32 ≤ x) (x2 : x < 128) (w : World) :
    Calls Try.prog 9 #[stV 1 b c d 0 2 g, .int .u8 x] w (Gives w (.tuple #[.int .i32 (drawn s x), stV 1 b c d 0 2 0])) := by
  unfold drawn
  rw [if_neg (by omega)]
  subst hs
  exact map_once 1 b c d 0 2 g x x1 x2 (by omega) (by omega) (by omega) (by omega) g1 g2 s1 s2 w
theorem dref (s x : Int) (s1 : 1 ≤ s) (s2 : s ≤ 17) (x1 : 32 ≤ x) (x2 : x < 128) (w : World) : Calls Try.prog 10 #[.int .i64 s, .int .u8 x] w (Gives w (.int .i32 (drawn s x))) := by
  unfold drawn
  rw [if_neg (by omega), glyph_same s1 s2 (by omega) x2]
  exact rglyph_c s x s1 s2 (by omega) x2 w
end Go.Proofs.Ytigmdokegiomaaa
