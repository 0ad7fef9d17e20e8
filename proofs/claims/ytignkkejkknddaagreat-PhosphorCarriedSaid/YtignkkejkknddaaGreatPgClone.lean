/- Pages: Same, Clone.  -/
import Derived.Test.YtignkkejkknddaaGreatPgD
import Derived.Test.YtignkkejkknddaaGreatPgC
namespace Go.Proofs.YtignkkejkknddaaGreat
open Go.RowKit
set_option linter.unusedVariables false
set_option linter.unusedSimpArgs false

theorem sameL_eq (xs : List Cl) (s : Int) (ys : List Cl) (t : Int) : sameL xs s ys t = decide ((xs, s) = (ys, t)) := by
  unfold sameL
  by_cases h1 : s = t <;> by_cases h2 : xs = ys <;> simp [h1, h2]
def sameS (S T : PgS) : Bool := decide (S.cols = T.cols) && decide (S.rows = T.rows)
theorem sameS_iff (S T : PgS) : sameS S T = true ↔ S = T := by
  unfold sameS
  cases S; cases T
  simp
  exact And.comm
theorem lists_eq {α : Type} {xs ys : List α} (hl : xs.length = ys.length) (h : ∀ i (h1 : i < xs.length) (h2 : i < ys.length), xs[i] = ys[i]) : xs = ys := List.ext_getElem hl h
set_option maxRecDepth 100000 in
set_option maxHeartbeats 4000000 in
theorem equalL_c (A B : Option Addr) (c d : Nat) (r1 r2 : List RowM) (v1 v2 : List (List Cl × Int)) (w : World) (h1 : Lns w (.slice A r1.length c) r1) (h2 : Lns w (.slice B r2.length d) r2) (e1 : r1.map RowM.val = v1) (e2 : r2.map RowM.val = v2)
    (m1 : v1.length ≤ 500) (m2 : v2.length ≤ 500) (w1 : ∀ r ∈ v1, r.1.length ≤ 1000000) (w2 : ∀ r ∈ v2, r.1.length ≤ 1000000) :
    Calls Tryz.prog 79 #[.slice A v1.length c, .slice B v2.length d, .func (.func 80) #[] #[]] w (Gives w (.bool (decide (v1 = v2)))) := by
  have A1 := Lib.hid (fun i (hi : i < v1.length) => Lns.at h1 e1 hi)
  have A2 := Lib.hid (fun i (hi : i < v2.length) => Lns.at h2 e2 hi)
  have W1 := Lib.hid (fun i (hi : i < v1.length) => w1 _ (List.getElem_mem hi))
  have W2 := Lib.hid (fun i (hi : i < v2.length) => w2 _ (List.getElem_mem hi))
  clear h1 h2 w1 w2
  by_cases hl : v1.length = v2.length
  · rw [hl]
    have q1 : ((v2.length : Int) != (v2.length : Int)) = false := by simp
    replace hl := Lib.hid hl
    go_enter Tryz.func79, Tryz.ntmps79
    go_wp2
    go_loopw [17] (fun iv wr => ∃ (j : Nat) (x : More), j ≤ v2.length ∧ iv = .int .i64 j ∧ wr = ext w x ∧ Hid (∀ i (h1 : i < v1.length) (h2 : i < v2.length), i < j → v1[i] = v2[i])) (fun iv _ => v2.length - (intOf iv).toNat)
    case atStart => exact ⟨0, ⟨#[], w.drawn⟩, by omega, rfl, by simp [ext], Lib.hid (fun i _ _ h => absurd h (by omega))⟩
    case round =>
      obtain ⟨j, x, hj, rfl, rfl, hE⟩ := hrel
      by_cases hlt2 : j < v2.length
      · have hlt : j < v1.length := by have := hl.out; omega
        obtain ⟨L, g, k, xs, z, rfl, a1, a2, a3, a4, a5, a6, a7⟩ := A1.out j hlt
        obtain ⟨M, g', k', ys, z', rfl, b1, b2, b3, b4, b5, b6, b7⟩ := A2.out j hlt2
        have l1 := W1.out j hlt
        have l2 := W2.out j hlt2
        rw [a1] at l1
        rw [b1] at l2
        have X := Lib.hid a2.rd
        have Y := Lib.hid b2.rd
        have SM := Lib.hid (fun w' (h : Rd encC 3 w' (some ⟨g, 0, none⟩) xs) (h' : Rd encC 3 w' (some ⟨g', 0, none⟩) ys) => same_l (some ⟨g, 0, none⟩) (some ⟨g', 0, none⟩) k k' xs ys z z' w' h h' (by simp only at l1; omega) (by simp only at l2; omega))
        rw [sameL_eq, ← a1, ← b1] at SM
        have hm2 : v2.length ≤ 500 := m2
        clear a2 b2
        cases hs : decide (v1[j] = v2[j])
        · rw [hs] at SM
          have hne : decide (v1 = v2) = false := by
            simp only [decide_eq_false_iff_not] at hs ⊢
            intro e
            subst e
            exact hs rfl
          replace hne := Lib.hid hne
          clear hs a1 b1 l1 l2
          go_wp2_with (first | (go_at_call 80; ((with_reducible refine (SM.out _ (by repeat (first | exact X.out | exact X | refine Rd.ext ?_ _ | refine Rd.alloc ?_ _ | refine Rd.drew ?_)) (by repeat (first | exact Y.out | exact Y | refine Rd.ext ?_ _ | refine Rd.alloc ?_ _ | refine Rd.drew ?_))).mono ?_); rintro _ _ hgets; obtain ⟨rfl, x2, rfl⟩ := hgets.get; clear hgets)) | ((with_reducible refine (SM.out _ (by repeat (first | exact X.out | exact X | refine Rd.ext ?_ _ | refine Rd.alloc ?_ _ | refine Rd.drew ?_)) (by repeat (first | exact Y.out | exact Y | refine Rd.ext ?_ _ | refine Rd.alloc ?_ _ | refine Rd.drew ?_))).mono ?_); rintro _ _ hgets; obtain ⟨rfl, x2, rfl⟩ := hgets.get; clear hgets))
          go_returns
          rw [hne.out]
          exact ⟨rfl, by (repeat' (first | (with_reducible exact Below.refl _ _) | (with_reducible refine Below.alloc ?_ ?_ _) | (with_reducible refine below_ext ?_ ?_ _) | (with_reducible refine Below.drew ?_) | (with_reducible refine below_drewN ?_ _) | (with_reducible refine Below.setCell ?_ ?_ _) | go_size | (simp only [go_sem]; omega) | (simp [go_sem]; done) | (simp [go_sem]; omega)))⟩
        · rw [hs] at SM
          have hE2 := Lib.hid (fun i (h1 : i < v1.length) (h2 : i < v2.length) (h3 : i < j + 1) => (by
            rcases Nat.lt_or_ge i j with h | h
            · exact hE.out i h1 h2 h
            · obtain rfl : i = j := by omega
              simpa using hs : v1[i] = v2[i]))
          clear hs a1 b1 l1 l2
          go_wp2_with (first | (go_at_call 80; ((with_reducible refine (SM.out _ (by repeat (first | exact X.out | exact X | refine Rd.ext ?_ _ | refine Rd.alloc ?_ _ | refine Rd.drew ?_)) (by repeat (first | exact Y.out | exact Y | refine Rd.ext ?_ _ | refine Rd.alloc ?_ _ | refine Rd.drew ?_))).mono ?_); rintro _ _ hgets; obtain ⟨rfl, x2, rfl⟩ := hgets.get; clear hgets)) | ((with_reducible refine (SM.out _ (by repeat (first | exact X.out | exact X | refine Rd.ext ?_ _ | refine Rd.alloc ?_ _ | refine Rd.drew ?_)) (by repeat (first | exact Y.out | exact Y | refine Rd.ext ?_ _ | refine Rd.alloc ?_ _ | refine Rd.drew ?_))).mono ?_); rintro _ _ hgets; obtain ⟨rfl, x2, rfl⟩ := hgets.get; clear hgets))
          obtain ⟨x3, e3⟩ := ext_of (show Below w.heap.size w (ext (((ext w x).alloc (.cells #[.slice (some ⟨g, 0, none⟩) xs.length k, .int .i64 z] 67)).alloc (.cells #[.slice (some ⟨g', 0, none⟩) ys.length k', .int .i64 z'] 67)) x2) by (repeat' (first | (with_reducible exact Below.refl _ _) | (with_reducible refine Below.alloc ?_ ?_ _) | (with_reducible refine below_ext ?_ ?_ _) | (with_reducible refine Below.drew ?_) | (with_reducible refine below_drewN ?_ _) | (with_reducible refine Below.setCell ?_ ?_ _) | go_size | (simp only [go_sem]; omega) | (simp [go_sem]; done) | (simp [go_sem]; omega))))
          exact ⟨⟨j + 1, x3, by omega, by go_num, e3, hE2⟩, by simp [intOf]; omega⟩
      · obtain rfl : j = v2.length := by omega
        have he : decide (v1 = v2) = true := by
          simp only [decide_eq_true_eq]
          exact lists_eq hl.out (fun i h1 h2 => hE.out i h1 h2 h2)
        replace he := Lib.hid he
        go_wp2
        go_returns
        rw [he.out]
        exact ⟨rfl, by (repeat' (first | (with_reducible exact Below.refl _ _) | (with_reducible refine Below.alloc ?_ ?_ _) | (with_reducible refine below_ext ?_ ?_ _) | (with_reducible refine Below.drew ?_) | (with_reducible refine below_drewN ?_ _) | (with_reducible refine Below.setCell ?_ ?_ _) | go_size | (simp only [go_sem]; omega) | (simp [go_sem]; done) | (simp [go_sem]; omega)))⟩
  · have q1 : ((v1.length : Int) != (v2.length : Int)) = true := by simp; omega
    have hne : decide (v1 = v2) = false := by
      simp only [decide_eq_false_iff_not]
      intro e
      exact hl (by rw [e])
    replace hne := Lib.hid hne
    go_enter Tryz.func79, Tryz.ntmps79
    go_wp2
    go_returns
    rw [hne.out]
    exact ⟨rfl, by (repeat' (first | (with_reducible exact Below.refl _ _) | (with_reducible refine Below.alloc ?_ ?_ _) | (with_reducible refine below_ext ?_ ?_ _) | (with_reducible refine Below.drew ?_) | (with_reducible refine below_drewN ?_ _) | (with_reducible refine Below.setCell ?_ ?_ _) | go_size | (simp only [go_sem]; omega) | (simp [go_sem]; done) | (simp [go_sem]; omega)))⟩
section
variable {F G : Nat → Prop} {p q : Nat} {S T : PgS} {w : World}
set_option maxRecDepth 100000 in
set_option maxHeartbeats 4000000 in
theorem same_p (h : PageAt w F p S) (hS : S.Ok) (k : PageAt w G q T) (hT : T.Ok) : Calls Tryz.prog 30 #[.pointer (some ⟨p, 0, none⟩), .pointer (some ⟨q, 0, none⟩)] w (Gives w (.bool (sameS S T))) := by
  obtain ⟨A, n, c, rows, H⟩ := h.op
  obtain ⟨B, n', c', rows', K⟩ := k.op
  obtain rfl := H.n
  obtain rfl := K.n
  have p0 := H.c0
  have p1 := H.c1
  have pl := H.plt
  have k0 := K.c0
  have k1 := K.c1
  have kl := K.plt
  have e1 : rows.length = S.rows.length := H.len.symm
  have e2 : rows'.length = T.rows.length := K.len.symm
  have EQ := Lib.hid (fun w' (hb : Below w.heap.size w w') => equalL_c A B c c' rows rows' S.rows T.rows w' (by rw [e1]; exact H.l.grow hb) (by rw [e2]; exact K.l.grow hb) H.val K.val hS.r2 hT.r2 (fun r hr => (hS.small r hr).2) (fun r hr => (hT.small r hr).2))
  clear h k H K e1 e2
  cases hc : decide (S.cols = T.cols)
  · have e : sameS S T = false := by unfold sameS; rw [hc]; rfl
    rw [e]
    have q1 : ((S.cols : Int) == (T.cols : Int)) = false := by simp at hc ⊢; omega
    clear hc
    go_enter Tryz.func30, Tryz.ntmps30
    go_wp2
    (refine wp_region_free (by kernel_rfl) (by kernel_rfl) ?_)
    repeat (go_big_quiet_step ((go_at_call 79; with_reducible exact Calls.free (EQ.out _ (by (repeat' (first | (with_reducible exact Below.refl _ _) | (with_reducible refine Below.alloc ?_ ?_ _) | (with_reducible refine below_ext ?_ ?_ _) | (with_reducible refine Below.drew ?_) | (with_reducible refine below_drewN ?_ _) | (with_reducible refine Below.setCell ?_ ?_ _) | go_size | (simp only [go_sem]; omega) | (simp [go_sem]; done) | (simp [go_sem]; omega))))))))
    refine wpQuiet_nil ?_; rintro _ ⟨x1, rfl⟩
    go_wp2
    go_returns
    exact ⟨rfl, by (repeat' (first | (with_reducible exact Below.refl _ _) | (with_reducible refine Below.alloc ?_ ?_ _) | (with_reducible refine below_ext ?_ ?_ _) | (with_reducible refine Below.drew ?_) | (with_reducible refine below_drewN ?_ _) | (with_reducible refine Below.setCell ?_ ?_ _) | go_size | (simp only [go_sem]; omega) | (simp [go_sem]; done) | (simp [go_sem]; omega)))⟩
  · have e : sameS S T = decide (S.rows = T.rows) := by unfold sameS; rw [hc]; rfl
    rw [e]
    have q1 : ((S.cols : Int) == (T.cols : Int)) = true := by simp at hc ⊢; omega
    clear hc
    generalize decide (S.rows = T.rows) = r at EQ ⊢
    go_enter Tryz.func30, Tryz.ntmps30
    go_wp2
    (refine wp_region_free (by kernel_rfl) (by kernel_rfl) ?_)
    repeat (go_big_quiet_step ((go_at_call 79; with_reducible exact Calls.free (EQ.out _ (by (repeat' (first | (with_reducible exact Below.refl _ _) | (with_reducible refine Below.alloc ?_ ?_ _) | (with_reducible refine below_ext ?_ ?_ _) | (with_reducible refine Below.drew ?_) | (with_reducible refine below_drewN ?_ _) | (with_reducible refine Below.setCell ?_ ?_ _) | go_size | (simp only [go_sem]; omega) | (simp [go_sem]; done) | (simp [go_sem]; omega))))))))
    refine wpQuiet_nil ?_; rintro _ ⟨x1, rfl⟩
    go_wp2
    go_returns
    exact ⟨rfl, by (repeat' (first | (with_reducible exact Below.refl _ _) | (with_reducible refine Below.alloc ?_ ?_ _) | (with_reducible refine below_ext ?_ ?_ _) | (with_reducible refine Below.drew ?_) | (with_reducible refine below_drewN ?_ _) | (with_reducible refine Below.setCell ?_ ?_ _) | go_size | (simp only [go_sem]; omega) | (simp [go_sem]; done) | (simp [go_sem]; omega)))⟩
end
end Go.Proofs.YtignkkejkknddaaGreat
/- Pages: Clone.  -/
namespace Go.Proofs.YtignkkejkknddaaGreat
open Go.RowKit
set_option linter.unusedVariables false
set_option linter.unusedSimpArgs false

section
variable {F : Nat → Prop} {p : Nat} {S : PgS} {w : World}
theorem qt_page {H n c : Nat} {A : Option Addr} {rows : List RowM} {wr : World} (h : QT 120 w wr H S A n c rows) : NewPg S w (.returned (.pointer (some ⟨H, 0, none⟩))) wr := by
  obtain ⟨x, rfl⟩ := ext_of h.keep
  exact ⟨H, fun b => w.heap.size ≤ b ∧ b < (ext w x).heap.size, x, rfl, rfl, fun b hb => hb.1, ⟨⟨_, rows, h.blk, h.l, h.val, fun b hb => ⟨h.ft b hb, h.l.lt hb⟩⟩, ⟨h.ge, h.lt⟩, fun b hb => hb.2⟩⟩
set_option maxRecDepth 100000 in
set_option maxHeartbeats 4000000 in
theorem clone_p (h : PageAt w F p S) (hS : S.Ok) : Calls Tryz.prog 74 #[.pointer (some ⟨p, 0, none⟩)] w (NewPg S w) := by
  obtain ⟨A, n, c, rows, H⟩ := h.op
  obtain rfl := H.n
  have p0 := H.c0
  have p1 := H.c1
  have pl := H.plt
  have hm := hS.r2
  have e1 : rows.length = S.rows.length := H.len.symm
  have hrow := Lib.hid (fun i (hi : i < S.rows.length) => Lns.at H.l H.val hi)
  have h0 := Lib.hid (fun i (hi : i < S.rows.length) => hS.small _ (List.getElem_mem hi))
  clear h H hS e1
  go_enter Tryz.func74, Tryz.ntmps74
  go_wp2
  have hQ : QT 120 w (w.alloc (.cells #[.slice none 0 0, .int .i64 S.cols] 120)) w.heap.size ⟨S.rows.take 0, S.cols⟩ none 0 0 [] := ⟨(Below.refl _ _).alloc (Nat.le_refl _) _, Nat.le_refl _, heap_alloc_new _ _, Lns.nil _, rfl, fun b hb => (by rcases hb with h | ⟨r, h, _⟩ <;> cases h), by decide⟩
  generalize w.alloc (.cells #[.slice none 0 0, .int .i64 S.cols] 120) = W0 at hQ ⊢
  obtain ⟨H, hH⟩ : ∃ H, H = w.heap.size := ⟨_, rfl⟩
  rw [← hH] at hQ ⊢
  clear hH
  replace hQ := Lib.hid hQ
  go_loopw [17] (fun iv wr => ∃ (j : Nat) (A' : Option Addr) (n' c' : Nat) (rows' : List RowM), j ≤ S.rows.length ∧ iv = .int .i64 j ∧ Hid (QT 120 w wr H ⟨S.rows.take j, S.cols⟩ A' n' c' rows')) (fun iv _ => S.rows.length - (intOf iv).toNat)
  case atStart => exact ⟨0, none, 0, 0, [], by omega, rfl, hQ⟩
  case round =>
    obtain ⟨j, A', n', c', rows', hj, rfl, hQ⟩ := hrel
    by_cases hlt : j < S.rows.length
    · obtain ⟨L, g, k, xs, z, rfl, e1, e2, hc1, hc2, e4, e5, e3⟩ := hrow.out j hlt
      have d0 := hQ.out.old e3 e4
      have d1 := hQ.out.old e3 e5
      have hLr : L < wr.heap.size := Nat.lt_of_lt_of_le e3 hQ.out.keep.size
      have hHl := hQ.out.lt
      have q0 := hQ.out.c0
      have qf := hQ.out.fz 0
      have X := Lib.hid (e2.rd.below (hQ.out.keep))
      have hl0 := h0.out j hlt
      rw [e1] at hl0
      have CP := Lib.hid (fun w' (h : Rd encC 3 w' (some ⟨g, 0, none⟩) xs) => copy_l (some ⟨g, 0, none⟩) k z xs w' h (fun e => by cases e) (by have := hl0.2; simp only at this; omega) (by have := hl0.2; simp only at this; simp [maxLen]; omega))
      have hpos := Lib.hid hl0.1
      have hrl := Lib.hid (show rows'.length ≤ 1000 by have := congrArg List.length hQ.out.val; simp at this; omega)
      have hnx := Lib.hid (show S.rows.take j ++ [(xs, z)] = S.rows.take (j + 1) by rw [List.take_add_one, List.getElem?_eq_getElem hlt, e1]; rfl)
      have ne1 : ¬ H = wr.heap.size := by omega
      have ne2 : ¬ wr.heap.size = H := by omega
      have hob := Lib.hid (show (Value.slice A' n' c').ownBlock ≠ some wr.heap.size from fun e => absurd (hQ.out.l.lt (.inl e)) (Nat.lt_irrefl _))
      clear e1 e2 hl0 p0 p1 pl
      go_upto_region 5 with fail
      (refine wp_region_F (S := (fun w' => w'.cell? ⟨H, 0, none⟩ = some (.slice A' n' c') ∧ w'.cell? ⟨wr.heap.size, 0, none⟩ = some (.slice (some ⟨g, 0, none⟩) xs.length k) ∧ w'.cell? ⟨wr.heap.size, 1, none⟩ = some (.int .i64 z))) 11 [false, false, false, false, false, false, false, false, false, false, false, false] rfl rfl (by kernel_rfl) ?_ (fun hHeld => ?_); (focus ((try dsimp only); (refine ⟨?_, ?_, ?_⟩ <;> simp [go_sem, q0, hHl, ne1, ne2]); done)))
      ((refine AtF.take (oi := ?_) (v := ?_) 0 ?_ ?_ ?_ ?_ (Or.inl ⟨?_, ?_⟩) (by assumption) ?_; rotate_left 2; rfl; kernel_rfl; kernel_rfl; exact (fun _ _ _ h => h); rfl; (focus (intro w hSw; (try dsimp only at hSw); go_simp; (try with_reducible rfl); done)); (try simp only [Act.put, List.setIfInBounds_toArray, List.set_cons_zero, List.set_cons_succ])); (refine AtF.take (oi := ?_) (v := ?_) 1 ?_ ?_ ?_ ?_ (Or.inl ⟨?_, ?_⟩) (by assumption) ?_; rotate_left 2; rfl; kernel_rfl; kernel_rfl; exact (fun _ _ _ h => h); rfl; (focus (intro w hSw; (try dsimp only at hSw); go_simp; (try with_reducible rfl); done)); (try simp only [Act.put, List.setIfInBounds_toArray, List.set_cons_zero, List.set_cons_succ])); (refine AtF.take (oi := ?_) (v := ?_) 2 ?_ ?_ ?_ ?_ (Or.inl ⟨?_, ?_⟩) (by assumption) ?_; rotate_left 2; rfl; kernel_rfl; kernel_rfl; exact (fun _ _ _ h => h); rfl; (focus (intro w hSw; (try dsimp only at hSw); go_simp; (try with_reducible rfl); done)); (try simp only [Act.put, List.setIfInBounds_toArray, List.set_cons_zero, List.set_cons_succ])); (refine AtF.take (oi := ?_) (v := ?_) 3 ?_ ?_ ?_ ?_ (Or.inl ⟨?_, ?_⟩) (by assumption) ?_; rotate_left 2; rfl; kernel_rfl; kernel_rfl; exact (fun _ _ _ h => h); rfl; (focus (intro w hSw; (try dsimp only at hSw); go_simp; (try with_reducible rfl); done)); (try simp only [Act.put, List.setIfInBounds_toArray, List.set_cons_zero, List.set_cons_succ])); (refine AtF.take (oi := ?_) (v := ?_) 4 ?_ ?_ ?_ ?_ (Or.inl ⟨?_, ?_⟩) (by assumption) ?_; rotate_left 2; rfl; kernel_rfl; kernel_rfl; exact (fun _ _ _ h => h); rfl; (focus (intro w hSw; (try dsimp only at hSw); go_simp; (try with_reducible rfl); done)); (try simp only [Act.put, List.setIfInBounds_toArray, List.set_cons_zero, List.set_cons_succ])); (refine AtF.take (oi := ?_) (v := ?_) 5 ?_ ?_ ?_ ?_ (Or.inl ⟨?_, ?_⟩) (by assumption) ?_; rotate_left 2; rfl; kernel_rfl; kernel_rfl; exact (fun _ _ _ h => h); rfl; (focus (intro w hSw; (try dsimp only at hSw); go_simp; (try with_reducible rfl); done)); (try simp only [Act.put, List.setIfInBounds_toArray, List.set_cons_zero, List.set_cons_succ])))
      (refine AtF.only (oi := ?_) 6 ?_ ?_ (fun K hK => ?_); rotate_left 1; rfl; kernel_rfl; (try go_simp); (go_at_call 62); (with_reducible refine (CP.out _ (by repeat (first | exact X.out | exact X | refine Rd.ext ?_ _ | refine Rd.alloc ?_ _ | refine Rd.drew ?_))).mono ?_); intro _ _ hp; obtain ⟨g', k', x1, rfl, rfl, hR, hg⟩ := newL_row hp hpos.out; (try simp only [ext_drew] at hR); replace hR := Lib.hid hR; replace hg := Lib.hid hg; clear hp; (refine hK.out _ _ ?_ (fun hHeld => ?_)); (focus ((try dsimp only); (refine ⟨?_, ?_, ?_⟩ <;> simp [go_sem, q0, hHl, ne1, ne2]); done)); clear hK K; (try simp only [Act.put, List.setIfInBounds_toArray, List.set_cons_zero, List.set_cons_succ]))
      (refine AtF.only (oi := ?_) 7 ?_ ?_ (fun K hK => ?_); rotate_left 1; rfl; kernel_rfl; (try go_simp); skip; (refine hK.out _ _ ?_ (fun hHeld => ?_)); (focus ((try dsimp only); (refine ⟨?_, ?_, ?_⟩ <;> simp [go_sem, q0, hHl, ne1, ne2]); done)); clear hK K; (try simp only [Act.put, List.setIfInBounds_toArray, List.set_cons_zero, List.set_cons_succ]))
      (refine AtF.only (oi := ?_) 8 ?_ ?_ (fun K hK => ?_); rotate_left 1; rfl; kernel_rfl; refine step_do rfl (q_append (.tmp 25) (.tmp 28) rfl g' k' xs z _ rfl rfl hQ.out (by (repeat' (first | (with_reducible exact Below.refl _ _) | (with_reducible refine Below.alloc ?_ ?_ _) | (with_reducible refine below_ext ?_ ?_ _) | (with_reducible refine Below.drew ?_) | (with_reducible refine below_drewN ?_ _) | (with_reducible refine Below.setCell ?_ ?_ _) | go_size | (simp only [go_sem]; omega) | (simp [go_sem]; done) | (simp [go_sem]; omega)))) (hR.out.grow (by (repeat' (first | (with_reducible exact Below.refl _ _) | (with_reducible refine Below.alloc ?_ ?_ _) | (with_reducible refine below_ext ?_ ?_ _) | (with_reducible refine Below.drew ?_) | (with_reducible refine below_drewN ?_ _) | (with_reducible refine Below.setCell ?_ ?_ _) | go_size | (simp only [go_sem]; omega) | (simp [go_sem]; done) | (simp [go_sem]; omega))))) (Nat.le_trans (by simp [go_sem]) hg.out) (by simp [go_sem]) (by simp [go_sem]) hrl.out ⟨S.rows.take (j + 1), S.cols⟩ hnx.out rfl ?_); intro A2 n2 c2 x2 rows2 hQ2 y0 y1 yf yl yg; have yb := yg wr.heap.size (by simp [go_sem]) hob.out; have yv0 : (ext w x2).cell? ⟨wr.heap.size, 0, none⟩ = some (.slice (some ⟨g, 0, none⟩) xs.length k) := (cell_of_heap yb).trans (by simp [go_sem]); have yv1 : (ext w x2).cell? ⟨wr.heap.size, 1, none⟩ = some (.int .i64 z) := (cell_of_heap yb).trans (by simp [go_sem]); clear yg yb; (refine hK.out _ _ ?_ (fun hHeld => ?_)); (focus ((try dsimp only); (refine ⟨?_, ?_, ?_⟩ <;> simp [go_sem, y0, yv0, yv1]); done)); clear hK K; (try simp only [Act.put, List.setIfInBounds_toArray, List.set_cons_zero, List.set_cons_succ]))
      ((refine AtF.take (oi := ?_) (v := ?_) 9 ?_ ?_ ?_ ?_ (Or.inl ⟨?_, ?_⟩) (by assumption) ?_; rotate_left 2; rfl; kernel_rfl; kernel_rfl; exact (fun _ _ _ h => h); rfl; (focus (intro w hSw; (try dsimp only at hSw); go_simp; (try with_reducible rfl); done)); (try simp only [Act.put, List.setIfInBounds_toArray, List.set_cons_zero, List.set_cons_succ])); (refine AtF.take (oi := ?_) (v := ?_) 10 ?_ ?_ ?_ ?_ (Or.inl ⟨?_, ?_⟩) (by assumption) ?_; rotate_left 2; rfl; kernel_rfl; kernel_rfl; exact (fun _ _ _ h => h); rfl; (focus (intro w hSw; (try dsimp only at hSw); go_simp; (try with_reducible rfl); done)); (try simp only [Act.put, List.setIfInBounds_toArray, List.set_cons_zero, List.set_cons_succ])))
      (refine AtF.last (oi := ?_) ?_ ?_ (fun K hK => ?_); rotate_left 1; rfl; kernel_rfl; go_simp; skip; refine hK.out _ _ ?_; clear hK K; (try simp only [Act.put, List.setIfInBounds_toArray, List.set_cons_zero, List.set_cons_succ]))
      go_wp2
      exact ⟨⟨j + 1, A2, n2, c2, rows2, by omega, by go_num, hQ2⟩, by simp [intOf]; omega⟩
    · obtain rfl : j = S.rows.length := by omega
      have hD := qt_page hQ.out
      rw [List.take_of_length_le (Nat.le_refl _)] at hD
      replace hD := Lib.hid hD
      go_wp2
      go_returns
      exact hD.out
end
end Go.Proofs.YtignkkejkknddaaGreat
