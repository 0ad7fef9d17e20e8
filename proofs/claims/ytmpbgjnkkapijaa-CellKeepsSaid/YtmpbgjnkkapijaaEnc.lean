/- Rows of cells as runs: what the program's function returns. -/
import Derived.Test.YtmpbgjnkkapijaaPacks
import Derived.Test.YtmpbgjnkkapijaaSum
import Derived.Test.YtmpbgjnkkapijaaTurns2
import Derived.Laws.StructEq
namespace Go.Proofs.Ytmpbgjnkkapijaa
open Go.RowKit
set_option linter.unusedVariables false
set_option linter.unusedSimpArgs false

def encRn (r : Rn) : List Value := [.int .i32 r.c.g, .int .u8 r.c.r, .bool r.c.k, .int .i64 r.n]
theorem encRn_len (r : Rn) : (encRn r).length = 4 := rfl
theorem encRn_one (r : Rn) : ∀ u ∈ encRn r, u.oneCell' = true := by
  intro u hu
  simp [encRn] at hu
  rcases hu with rfl | rfl | rfl | rfl <;> rfl
theorem run_info : (Try.prog.info? 74).map (fun i => (i.zero, i.size, i.bytes)) = some (some (.agg #[.int .i32 0, .int .u8 0, .bool false, .int .i64 0]), 4, 16) := by kernel_rfl
def NewR (U : World) (l : List Rn) (s : Value) (wx : World) : Prop := ∃ A c, s = .slice A l.length c ∧ Below U.heap.size U wx ∧ Own encRn 4 74 U.heap.size wx (.slice A l.length c) l
theorem NewR.get {U wx : World} {l : List Rn} {s : Value} (h : NewR U l s wx) : ∃ A c x, s = .slice A l.length c ∧ wx = ext U x ∧ Own encRn 4 74 U.heap.size (ext U x) (.slice A l.length c) l := by
  obtain ⟨A, c, rfl, hB, hO⟩ := h
  obtain ⟨x, rfl⟩ := ext_of hB
  exact ⟨A, c, x, rfl, rfl, hO⟩
def NewRs (w : World) (l : List Rn) (e : Ending) (w' : World) : Prop := ∃ s, e = .returned s ∧ NewR w l s w'
theorem own_atR {e : TypeId} {B n cap : Nat} {A : Option Addr} {w : World} {xs : List Rn} (h : Own encRn 4 e B w (.slice A n cap) xs) (j : Nat) (hj : j < xs.length) :
    ∃ g, A = some ⟨g, 0, none⟩ ∧ B ≤ g ∧ g < w.heap.size ∧ w.cell? ⟨g, j * 4, none⟩ = some (.int .i32 xs[j].c.g) ∧ w.cell? ⟨g, j * 4 + 1, none⟩ = some (.int .u8 xs[j].c.r) ∧ w.cell? ⟨g, j * 4 + 2, none⟩ = some (.bool xs[j].c.k) ∧
      w.cell? ⟨g, j * 4 + 3, none⟩ = some (.int .i64 xs[j].n) ∧ ∀ i, w.frozen? ⟨g, i, none⟩ = false := by
  have hn : n = xs.length := by
    obtain ⟨A, c, e, _, _⟩ := h.form
    injection e
  subst hn
  rcases h.2 with ⟨h1, h2⟩ | ⟨g, cap', cur, h1, hB, hg, h2, h3, h4, h5⟩
  · omega
  · injection h1 with h1 _ _
    subst h1
    have hlt := (Array.getElem?_eq_some_iff.1 hg).1
    have key : ∀ k v, k < 4 → (encRn xs[j])[k]? = some v → w.cell? ⟨g, j * 4 + k, none⟩ = some v := by
      intro k v hk hv
      have := h.cells (g := g) rfl (j * 4 + k) v (by rw [flat_get encRn_len xs j hj k hk]; exact hv)
      rw [addr_add] at this
      simpa using this
    exact ⟨g, rfl, hB, hlt, key 0 _ (by omega) rfl, key 1 _ (by omega) rfl, key 2 _ (by omega) rfl, key 3 _ (by omega) rfl, fun i => h.frozenAt i⟩
theorem flat_setR (y : Nat) : ∀ (xs : List Rn) (i : Nat) (h : i < xs.length), (xs.flatMap encRn).set (i * 4 + 3) (.int .i64 y) = (xs.set i ⟨xs[i].c, y⟩).flatMap encRn
  | [], i, h => by simp at h
  | x :: xs, 0, h => by simp [encRn]
  | x :: xs, i + 1, h => by
    have ih := flat_setR y xs i (by simpa using h)
    rw [show (i + 1) * 4 + 3 = i * 4 + 3 + 4 by omega]
    simp only [List.flatMap_cons, List.set_cons_succ, List.getElem_cons_succ]
    rw [← ih]
    simp [encRn]
theorem own_setR {e : TypeId} {B g n cap : Nat} {w : World} {xs : List Rn} (h : Own encRn 4 e B w (.slice (some ⟨g, 0, none⟩) n cap) xs) (i : Nat) (hi : i < xs.length) (y : Nat) :
    Own encRn 4 e B (w.setCell ⟨g, i * 4 + 3, none⟩ (.int .i64 y)) (.slice (some ⟨g, 0, none⟩) n cap) (xs.set i ⟨xs[i].c, y⟩) := by
  have hn : n = xs.length := by
    obtain ⟨A, c, e, _, _⟩ := h.form
    injection e
  subst hn
  have h' : w.ownsRow B e 4 (.slice (some ⟨g, 0, none⟩) xs.length cap) xs.length (xs.flatMap encRn) := h
  have h3 := (h'.stored (i * 4 + 3) (.int .i64 y)).1
  rw [flat_setR y xs i hi] at h3
  unfold Own
  rw [List.length_set]
  exact h3
theorem run_new {w : World} {g : Nat} (e : TypeId) (r : Rn) (hg : g = w.heap.size) : Rd encRn 4 (w.alloc (.cells #[.int .i32 r.c.g, .int .u8 r.c.r, .bool r.c.k, .int .i64 r.n] e)) (some ⟨g, 0, none⟩) [r] :=
  (Own.new (B := 0) (e := e) encRn_len hg (xs := [r]) (rfl : (1 : Nat) = [r].length) _ rfl (Nat.zero_le _) (by simp [maxLen])).rd encRn_len

/-- two cells held against each other -/
def eqC (c d : Cl) : Bool := decide (c = d)
theorem cell_eql (g r : Int) (k : Bool) (g' r' : Int) (k' : Bool) (w : World) :
    (binOp .eql 24 (.agg #[.int .i32 g, .int .u8 r, .bool k]) (.agg #[.int .i32 g', .int .u8 r', .bool k'])).run Try.prog w = .ok (.bool (eqC ⟨g, r, k⟩ ⟨g', r', k'⟩)) w := by
  have e : eqC ⟨g, r, k⟩ ⟨g', r', k'⟩ = (decide (g = g') && (decide (r = r') && decide (k = k'))) := by
    unfold eqC
    rw [Bool.eq_iff_iff]
    simp
  rw [e]
  by_cases h1 : g = g' <;> by_cases h2 : r = r' <;> by_cases h3 : k = k' <;> simp [go_sem, h1, h2, h3]

theorem stepR_nil (y : Cl) : stepR [] y = [] ++ [⟨y, 1⟩] := rfl
theorem stepR_app {L : List Rn} {m : Nat} (hm : m < L.length) (hl : L.length = m + 1) (y : Cl) (h : ¬ (L[m].c = y ∧ L[m].n < 255)) : stepR L y = L ++ [⟨y, 1⟩] := by
  unfold stepR
  rw [show L.length - 1 = m by omega, List.getElem?_eq_getElem hm]
  simp only
  rw [if_neg h]
theorem stepR_set {L : List Rn} {m : Nat} (hm : m < L.length) (hl : L.length = m + 1) (y : Cl) (h : L[m].c = y ∧ L[m].n < 255) : stepR L y = L.set m ⟨L[m].c, L[m].n + 1⟩ := by
  unfold stepR
  rw [show L.length - 1 = m by omega, List.getElem?_eq_getElem hm]
  simp only
  rw [if_pos h]
theorem eqC_t {c d : Cl} (h : c = d) : eqC c d = true := by simp [eqC, h]
theorem eqC_f {c d : Cl} (h : ¬ c = d) : eqC c d = false := by simp [eqC, h]
attribute [local go_sem ↓] cell_eql
set_option maxRecDepth 100000 in
set_option maxHeartbeats 4000000 in
theorem runs_c (a : Option Addr) (c : Nat) (xs : List Cl) (w : World) (hx : Rd encC 3 w a xs) (hm : xs.length ≤ 26000) :
    Calls Try.prog 51 #[.slice a xs.length c] w (NewRs w (runsL xs)) := by
  have X := Lib.hid hx
  clear hx
  go_enter Try.func51, Try.ntmps51
  go_wp2
  go_loopw [3, 9] (fun v i wr => ∃ k : Nat, k ≤ xs.length ∧ i = .int .i64 k ∧ NewR w (runsL (xs.take k)) v wr) (fun _ i _ => xs.length - (intOf i).toNat)
  case atStart => exact ⟨0, by omega, rfl, none, 0, rfl, Below.refl _ _, Own.nil _ _ _ _ _⟩
  case round =>
    obtain ⟨k, hk, rfl, hN⟩ := hrel
    obtain ⟨A, cc, x, rfl, rfl, hO⟩ := hN.get
    clear hN
    by_cases hlt : k < xs.length
    · obtain ⟨b1, o1, rfl, hb1, d0, d1, d2⟩ := X.out.cell3 hlt
      have HS := Lib.hid (show runsL (xs.take (k + 1)) = stepR (runsL (xs.take k)) xs[k] by rw [List.take_succ_eq_append_getElem hlt, runs_snoc])
      have hl := runs_len (xs.take k)
      have hl2 : (xs.take k).length ≤ k := List.length_take_le _ _
      generalize runsL (xs.take k) = L at hO HS hl
      generalize xs[k] = y at d0 d1 d2 HS
      obtain ⟨yg, yr, yk⟩ := y
      simp only at d0 d1 d2
      replace hl : L.length ≤ 26000 := by omega
      clear hl2
      rcases Nat.eq_zero_or_pos L.length with h0 | h0
      · obtain rfl : L = [] := List.eq_nil_of_length_eq_zero h0
        replace hO := Lib.hid hO
        have HE := Lib.hid (stepR_nil ⟨yg, yr, yk⟩)
        simp only [List.length_nil]
        go_wp2
        (refine wp_region_free (by kernel_rfl) (by kernel_rfl) ?_)
        repeat (go_big_quiet_step (fail))
        refine wpQuiet_nil ?_; rintro _ ⟨x2, rfl⟩
        go_wp2_with (first
          | (at_builtin
             refine append_rd (U := w) (.tmp 43) (.tmp 46) 71 74 _ 16 rfl rfl Try.underlying71 run_info rfl (by omega) encRn_len encRn_one [] [⟨⟨yg, yr, yk⟩, 1⟩] _ _ _ rfl rfl ?_ (((hO.out.alloc _).ext _).alloc _) (run_new _ ⟨⟨yg, yr, yk⟩, 1⟩ (by simp [go_sem])) (by first | (simp [maxLen]; done) | (simp [maxLen]; omega)) (by first | (simp; done) | (simp; omega)) ?_
             · (repeat' (first | (with_reducible exact Below.refl _ _) | (with_reducible refine Below.alloc ?_ ?_ _) | (with_reducible refine below_ext ?_ ?_ _) | (with_reducible refine Below.drew ?_) | (with_reducible refine below_drewN ?_ _) | (with_reducible refine Below.setCell ?_ ?_ _) | go_size | (simp only [go_sem]; omega) | (simp [go_sem]; done) | (simp [go_sem]; omega)))
             intro A' c' x3 zs hz1 hO1
             have hO2 := Lib.hid hO1
             have hz := Lib.hid hz1
             clear hO1 hz1))
        go_roundw
        case rel => exact ⟨k + 1, by omega, by go_num, by rw [HS.out, HE.out, ← hz.out]; exact ⟨_, _, rfl, by (repeat' (first | (with_reducible exact Below.refl _ _) | (with_reducible refine Below.alloc ?_ ?_ _) | (with_reducible refine below_ext ?_ ?_ _) | (with_reducible refine Below.drew ?_) | (with_reducible refine below_drewN ?_ _) | (with_reducible refine Below.setCell ?_ ?_ _) | go_size | (simp only [go_sem]; omega) | (simp [go_sem]; done) | (simp [go_sem]; omega))), hO2.out⟩⟩
        case measure => simp [intOf]; omega

      · obtain ⟨m, hm1⟩ : ∃ m, L.length = m + 1 := ⟨L.length - 1, by omega⟩
        have hm2 : m < L.length := by omega
        obtain ⟨g, rfl, g1, g2, c0, c1, c2, c3, hfz⟩ := own_atR hO m hm2
        have f3 := hfz (m * 4 + 3)
        rw [size_ext] at g2
        have SA := Lib.hid (stepR_app hm2 hm1 ⟨yg, yr, yk⟩)
        have SS := Lib.hid (stepR_set hm2 hm1 ⟨yg, yr, yk⟩)
        have OS := Lib.hid (fun q => ((own_setR hO m hm2 (L[m].n + 1)).alloc (.cells #[.int .i32 yg, .int .u8 yr, .bool yk] 24)).ext q)
        rw [hm1] at hO
        replace hO := Lib.hid hO
        generalize L[m] = q at c0 c1 c2 c3 SA SS OS
        obtain ⟨⟨qg, qr, qk⟩, qn⟩ := q
        simp only at c0 c1 c2 c3 SA SS OS
        have hlen := Lib.hid hm1
        rw [hm1]
        clear h0 hm2 hfz hm1
        have hm3 : m < 26000 := by have := hlen.out; omega
        by_cases he : (⟨qg, qr, qk⟩ : Cl) = ⟨yg, yr, yk⟩
        · have he2 := eqC_t he
          by_cases hn : qn < 255
          · have HE := Lib.hid (SS.out ⟨he, hn⟩)
            clear he
            go_wp2
            (refine wp_region_free (by kernel_rfl) (by kernel_rfl) ?_)
            repeat (go_big_quiet_step (fail))
            refine wpQuiet_nil ?_; rintro _ ⟨x2, rfl⟩
            go_wp2
            go_roundw
            case rel => exact ⟨k + 1, by omega, by go_num, by rw [HS.out, HE.out]; exact ⟨_, _, by rw [List.length_set, hlen.out], by (repeat' (first | (with_reducible exact Below.refl _ _) | (with_reducible refine Below.alloc ?_ ?_ _) | (with_reducible refine below_ext ?_ ?_ _) | (with_reducible refine Below.drew ?_) | (with_reducible refine below_drewN ?_ _) | (with_reducible refine Below.setCell ?_ ?_ _) | go_size | (simp only [go_sem]; omega) | (simp [go_sem]; done) | (simp [go_sem]; omega))), by have := OS.out x2; rw [List.length_set]; rw [hlen.out] at this ⊢; exact this⟩⟩
            case measure => simp [intOf]; omega
          · have HE := Lib.hid (SA.out (fun h => hn h.2))
            have hn2 : decide ((qn : Int) < 255) = false := by simp; omega
            clear he hn
            go_wp2
            (refine wp_region_free (by kernel_rfl) (by kernel_rfl) ?_)
            repeat (go_big_quiet_step (fail))
            refine wpQuiet_nil ?_; rintro _ ⟨x2, rfl⟩
            go_wp2_with (first
              | (at_builtin
                 refine append_rd (U := w) (.tmp 43) (.tmp 46) 71 74 _ 16 rfl rfl Try.underlying71 run_info rfl (by omega) encRn_len encRn_one L [⟨⟨yg, yr, yk⟩, 1⟩] _ _ _ rfl rfl ?_ (((hO.out.alloc _).ext _).alloc _) (run_new _ ⟨⟨yg, yr, yk⟩, 1⟩ (by simp [go_sem])) (by first | (simp [maxLen]; done) | (simp [maxLen]; omega)) (by first | (simp; done) | (simp; omega)) ?_
                 · (repeat' (first | (with_reducible exact Below.refl _ _) | (with_reducible refine Below.alloc ?_ ?_ _) | (with_reducible refine below_ext ?_ ?_ _) | (with_reducible refine Below.drew ?_) | (with_reducible refine below_drewN ?_ _) | (with_reducible refine Below.setCell ?_ ?_ _) | go_size | (simp only [go_sem]; omega) | (simp [go_sem]; done) | (simp [go_sem]; omega)))
                 intro A' c' x3 zs hz1 hO1
                 have hO2 := Lib.hid hO1
                 have hz := Lib.hid hz1
                 clear hO1 hz1))
            go_roundw
            case rel => exact ⟨k + 1, by omega, by go_num, by rw [HS.out, HE.out, ← hz.out]; exact ⟨_, _, rfl, by (repeat' (first | (with_reducible exact Below.refl _ _) | (with_reducible refine Below.alloc ?_ ?_ _) | (with_reducible refine below_ext ?_ ?_ _) | (with_reducible refine Below.drew ?_) | (with_reducible refine below_drewN ?_ _) | (with_reducible refine Below.setCell ?_ ?_ _) | go_size | (simp only [go_sem]; omega) | (simp [go_sem]; done) | (simp [go_sem]; omega))), hO2.out⟩⟩
            case measure => simp [intOf]; omega

        · have he2 := eqC_f he
          have HE := Lib.hid (SA.out (fun h => he h.1))
          clear he
          go_wp2
          (refine wp_region_free (by kernel_rfl) (by kernel_rfl) ?_)
          repeat (go_big_quiet_step (fail))
          refine wpQuiet_nil ?_; rintro _ ⟨x2, rfl⟩
          go_wp2_with (first
            | (at_builtin
               refine append_rd (U := w) (.tmp 43) (.tmp 46) 71 74 _ 16 rfl rfl Try.underlying71 run_info rfl (by omega) encRn_len encRn_one L [⟨⟨yg, yr, yk⟩, 1⟩] _ _ _ rfl rfl ?_ (((hO.out.alloc _).ext _).alloc _) (run_new _ ⟨⟨yg, yr, yk⟩, 1⟩ (by simp [go_sem])) (by first | (simp [maxLen]; done) | (simp [maxLen]; omega)) (by first | (simp; done) | (simp; omega)) ?_
               · (repeat' (first | (with_reducible exact Below.refl _ _) | (with_reducible refine Below.alloc ?_ ?_ _) | (with_reducible refine below_ext ?_ ?_ _) | (with_reducible refine Below.drew ?_) | (with_reducible refine below_drewN ?_ _) | (with_reducible refine Below.setCell ?_ ?_ _) | go_size | (simp only [go_sem]; omega) | (simp [go_sem]; done) | (simp [go_sem]; omega)))
               intro A' c' x3 zs hz1 hO1
               have hO2 := Lib.hid hO1
               have hz := Lib.hid hz1
               clear hO1 hz1))
          go_roundw
          case rel => exact ⟨k + 1, by omega, by go_num, by rw [HS.out, HE.out, ← hz.out]; exact ⟨_, _, rfl, by (repeat' (first | (with_reducible exact Below.refl _ _) | (with_reducible refine Below.alloc ?_ ?_ _) | (with_reducible refine below_ext ?_ ?_ _) | (with_reducible refine Below.drew ?_) | (with_reducible refine below_drewN ?_ _) | (with_reducible refine Below.setCell ?_ ?_ _) | go_size | (simp only [go_sem]; omega) | (simp [go_sem]; done) | (simp [go_sem]; omega))), hO2.out⟩⟩
          case measure => simp [intOf]; omega

    · have e := Lib.hid (show runsL (xs.take k) = runsL xs by rw [List.take_of_length_le (by omega)])
      generalize runsL (xs.take k) = L at hO e
      replace hO := Lib.hid hO
      go_wp2
      go_returns
      refine ⟨_, rfl, ?_⟩
      rw [← e.out]
      exact ⟨_, _, rfl, by (repeat' (first | (with_reducible exact Below.refl _ _) | (with_reducible refine Below.alloc ?_ ?_ _) | (with_reducible refine below_ext ?_ ?_ _) | (with_reducible refine Below.drew ?_) | (with_reducible refine below_drewN ?_ _) | (with_reducible refine Below.setCell ?_ ?_ _) | go_size | (simp only [go_sem]; omega) | (simp [go_sem]; done) | (simp [go_sem]; omega))), hO.out⟩
end Go.Proofs.Ytmpbgjnkkapijaa
