/- What the law CellPacks comes to: the walk. -/
import Derived.Test.YtmpbgjnkkapijaaDec4
import Derived.Test.YtmpbgjnkkapijaaEnc3
import Derived.Test.YtmpbgjnkkapijaaSameC
import Derived.Test.YtmpbgjnkkapijaaBytesStr
import Derived.Test.YtmpbgjnkkapijaaAwake2
namespace Go.Proofs.Ytmpbgjnkkapijaa
open Go.ChangeShapes Go.WideShapes Go.ChangeAt Go.RowKit
set_option linter.unusedVariables false
set_option linter.unusedSimpArgs false

theorem byte_wf {n : Int} (h : (Lit.int .u8 n).wf = true) : isByte n := by
  have := bounds_u8 h
  unfold isByte
  omega
theorem rd_ext {α : Type} {enc : α → List Value} {s : Nat} {w : World} {a : Option Addr} {xs : List α} (h : Rd enc s w a xs) (x : More) : Rd enc s (ext w x) a xs = True := eq_true (h.ext x)
theorem dec_len : ∀ (bs : List Int) (last : Rn) (ys : List Cl), (∀ b ∈ bs, isByte b) → dec last bs = some ys → ys.length * 7 ≤ 255 * bs.length
  | [], last, ys, _, h => by simp only [dec, Option.some.injEq] at h; subst h; simp
  | n :: a :: b :: c :: d :: r :: k :: rest, last, ys, hb, h => by
    have b0 := hb n (by simp)
    simp only [dec] at h
    split at h
    · cases h
    · split at h
      · cases h
      · obtain ⟨ys', h2, rfl⟩ := Option.map_eq_some_iff.1 h
        have := dec_len rest _ ys' (fun x hx => hb x (by simp [hx])) h2
        unfold isByte at b0
        simp only [List.length_append, List.length_replicate, List.length_cons]
        omega
  | [x1], last, ys, _, h => by simp [dec] at h
  | [x1, x2], last, ys, _, h => by simp [dec] at h
  | [x1, x2, x3], last, ys, _, h => by simp [dec] at h
  | [x1, x2, x3, x4], last, ys, _, h => by simp [dec] at h
  | [x1, x2, x3, x4, x5], last, ys, _, h => by simp [dec] at h
  | [x1, x2, x3, x4, x5, x6], last, ys, _, h => by simp [dec] at h
attribute [local go_sem] rd_ext conv_rd

set_option maxRecDepth 100000 in
set_option maxHeartbeats 4000000 in
theorem CellPacks_walk (w : World) (a : Option Addr) (c : Nat) (xs : List Cl) (rd : Rd encC 3 w a xs) (lc : xs.length ≤ c) (cm : c ≤ maxLen) (wf : ∀ n ∈ xs, Cl.ok n) (re : c * 8 ≤ 140737488351232)
    (b : Option Addr) (d : Nat) (bs : List Int) (rd' : Rd (encI .u8) 1 w b bs) (lc' : bs.length ≤ d) (cm' : d ≤ maxLen) (wf' : ∀ n ∈ bs, (Lit.int .u8 n).wf = true) (re' : d * 1 ≤ 140737488351232) :
    Calls Try.prog 6 #[.slice a xs.length c, .slice b bs.length d] w (Gives w (.bool true)) := by
  have U := Lib.hid (fun w' => cut_c a c xs 2000 2000 rfl lc cm w')
  have m1 : (xs.take 2000).length ≤ 2000 := by simp; omega
  have X := Lib.hid (rd.take 2000)
  have WX := Lib.hid (fun n (h : n ∈ xs.take 2000) => wf n (List.mem_of_mem_take h))
  generalize xs.take 2000 = p at U m1 X WX
  simp only [maxLen] at cm'
  clear rd lc wf re'
  have Q := Lib.hid (rd'.take 700)
  have BQ := Lib.hid (fun n (h : n ∈ bs.take 700) => byte_wf (wf' n (List.mem_of_mem_take h)))
  have hq : (700 < bs.length → (bs.take 700).length = 700) ∧ (¬ 700 < bs.length → (bs.take 700).length = bs.length) ∧ (bs.take 700).length ≤ 700 := by simp; omega
  have hqd : (bs.take 700).length ≤ d := by simp; omega
  generalize bs.take 700 = q at Q hq BQ hqd
  obtain ⟨q1, q2, q3⟩ := hq
  replace q1 := Lib.hid q1
  replace q2 := Lib.hid q2
  clear rd' wf'
  have DE := Lib.hid (dec_enc p WX.out)
  have EB := Lib.hid (encL_byte _ (runs_ok p WX.out))
  have EL : (encL (runsL p)).length ≤ 14000 := by rw [encL_len]; have := runs_len p; omega
  have C1 := Lib.hid (fun w' h => encode_c a c p w' h (by omega) WX.out)
  have C2 := Lib.hid (fun w' h => encode_r a c p w' h (by omega) WX.out)
  generalize encL (runsL p) = E at DE EB EL C1 C2
  go_enter Try.func6, Try.ntmps6
  go_upto_if 18 with (first
    | (go_at_call 15; ((with_reducible refine (awake2 _).mono ?_); rintro _ _ hgets; obtain ⟨rfl, x1, rfl⟩ := hgets.get; clear hgets))
    | (go_at_call 19; ((with_reducible refine (U.out _).mono ?_); rintro _ _ ⟨rfl, rfl⟩)))
  go_cut [1] (fun v wx => v = .slice b q.length d ∧ wx = ext w x1)
  case first =>
    by_cases h20 : 700 < bs.length
    · have e := Lib.hid (q1.out h20)
      go_wp2
      go_meet
      exact ⟨by rw [e.out], rfl⟩
    · have e := Lib.hid (q2.out h20)
      go_wp2
      go_meet
      exact ⟨by rw [e.out], rfl⟩
  obtain ⟨rfl, rfl⟩ := hcut
  clear lc' q1 q2
  go_upto_region 8 with (first
    | (go_at_call 24
       (with_reducible refine (C1.out _ (by repeat (first | exact X.out | exact X | refine Rd.ext ?_ _ | refine Rd.alloc ?_ _ | refine Rd.drew ?_))).mono ?_)
       rintro _ _ ⟨_, rfl, hN1⟩
       obtain ⟨A1, c1, x2, rfl, rfl, hO1⟩ := hN1.get
       have hO1 := Lib.hid hO1
       clear hN1)
    | (go_at_call 25
       (with_reducible refine (C2.out _ (by repeat (first | exact X.out | exact X | refine Rd.ext ?_ _ | refine Rd.alloc ?_ _ | refine Rd.drew ?_))).mono ?_)
       rintro _ _ ⟨_, rfl, hN2⟩
       obtain ⟨A2, c2, x3, rfl, rfl, hO2⟩ := hN2.get
       have hO2 := Lib.hid hO2
       clear hN2))
  have R1 := Own.rd (encI_len _) hO1.out
  have R2 := Own.rd (encI_len _) hO2.out
  obtain ⟨_, _, hv1, hv2, hv3⟩ := hO1.out.form
  injection hv1 with e1 e2 e3
  subst e1 e3
  clear e2
  simp only [maxLen] at hv3
  have D1 := Lib.hid (fun w' (h : Rd (encI .u8) 1 w' A1 E) => decode_c A1 c1 E w' h (by omega) hv2 (by simp [maxLen]; omega) EB.out)
  rw [DE.out] at D1
  have S1 := Lib.hid (fun w' A c' (h1 : Rd encC 3 w' A p) (h2 : Rd encC 3 w' a p) => same_cells A a c' c p p w' h1 h2 (by omega) (by omega))
  simp only [decide_true] at S1
  go_upto_region 13 with (first
    | (go_at_call 26
       (with_reducible refine (D1.out _ (by repeat (first | exact R1.out | exact R1 | refine Rd.ext ?_ _ | refine Rd.alloc ?_ _ | refine Rd.drew ?_))).mono ?_)
       rintro _ _ ⟨_, rfl, A3, c3, rfl, hB3, hO3⟩
       obtain ⟨x4, rfl⟩ := ext_of hB3
       have hO3 := Lib.hid hO3
       clear hB3)
    | (go_at_call 27; (with_reducible refine (S1.out _ _ _ ?_ ?_).mono ?_); (focus (((exact hO3.out.rd encC_len)); done)); (focus ((repeat (first | (with_reducible exact X.out) | (with_reducible exact X) | (with_reducible refine Rd.ext ?_ _) | (with_reducible refine Rd.alloc ?_ _) | (with_reducible refine Rd.drew ?_))); done)); rintro _ _ hgets; obtain ⟨rfl, x5, rfl⟩ := hgets.get; clear hgets))
  clear hO1 hO2 R1 R2 hO3 hv2 hv3 D1 S1 C1 C2 X DE EB EL m1 U
  have D2 := Lib.hid (fun w' A c' (h : Rd (encI .u8) 1 w' A q) (h1 : q.length ≤ c') (h2 : c' ≤ maxLen) => decode_c A c' q w' h (by omega) h1 h2 BQ.out)
  have D3 := Lib.hid (fun w' (h : Rd (encI .u8) 1 w' b q) => decode_r b d q w' h (by omega) BQ.out)
  rcases hdq : dec zeroR q with _ | ys
  · rw [hdq] at D2 D3
    clear hdq
    have S2 := Lib.hid (fun w' => same_cells none none 0 0 [] [] w' (fun h => absurd h (by simp)) (fun h => absurd h (by simp)) (by simp) (by simp))
    simp only [decide_true, List.length_nil] at S2
    go_wp2_with (first
      | (at_builtin
         refine append_rd (U := w) (.tmp 44) (.tmp 45) _ 5 _ 1 rfl rfl Try.underlying37 byte_info rfl (by omega) (encI_len _) (encI_one _) [] q _ b d rfl rfl ?_ (Own.new (encI_len _) (by simp) rfl #[] rfl (by first | (simp [go_sem]; done) | (simp [go_sem]; omega)) (by simp [maxLen])) (by repeat (first | exact Q.out | exact Q | refine Rd.ext ?_ _ | refine Rd.alloc ?_ _ | refine Rd.drew ?_)) (by first | (simp [maxLen]; done) | (simp [maxLen]; omega)) (by first | (simp; done) | (simp; omega)) ?_
         · (repeat' (first | (with_reducible exact Below.refl _ _) | (with_reducible refine Below.alloc ?_ ?_ _) | (with_reducible refine below_ext ?_ ?_ _) | (with_reducible refine Below.drew ?_) | (with_reducible refine below_drewN ?_ _) | (with_reducible refine Below.setCell ?_ ?_ _) | go_size | (simp only [go_sem]; omega) | (simp [go_sem]; done) | (simp [go_sem]; omega)))
         intro A6 c6 x6 zs hz hO6
         rw [List.nil_append] at hz
         subst hz
         obtain ⟨_, _, hw1, hw2, hw3⟩ := hO6.form
         injection hw1 with e4 e5 e6
         subst e4 e6
         clear e5
         have R6 := Lib.hid (Own.rd (encI_len _) hO6)
         replace hw3 := Lib.hid hw3
         clear hO6)
      | (go_at_call 26
         (with_reducible refine (D2.out _ _ _ (by repeat (first | exact R6.out | exact R6 | refine Rd.ext ?_ _ | refine Rd.alloc ?_ _ | refine Rd.drew ?_)) hw2 hw3.out).mono ?_)
         rintro _ _ ⟨rfl, hB7⟩
         obtain ⟨x7, rfl⟩ := ext_of hB7
         clear hB7)
      | (go_at_call 28
         (with_reducible refine (D3.out _ (by repeat (first | exact Q.out | exact Q | refine Rd.ext ?_ _ | refine Rd.alloc ?_ _ | refine Rd.drew ?_))).mono ?_)
         rintro _ _ ⟨rfl, hB8⟩
         obtain ⟨x8, rfl⟩ := ext_of hB8
         clear hB8))
    (refine wp_region_free (by kernel_rfl) (by kernel_rfl) ?_)
    repeat (go_big_quiet_step (first | ((go_at_call 27; with_reducible exact Calls.free (S2.out _)))))
    refine wpQuiet_nil ?_; rintro _ ⟨x9, rfl⟩
    go_wp2
    go_returns
    exact ⟨rfl, by (repeat' (first | (with_reducible exact Below.refl _ _) | (with_reducible refine Below.alloc ?_ ?_ _) | (with_reducible refine below_ext ?_ ?_ _) | (with_reducible refine Below.drew ?_) | (with_reducible refine below_drewN ?_ _) | (with_reducible refine Below.setCell ?_ ?_ _) | go_size | (simp only [go_sem]; omega) | (simp [go_sem]; done) | (simp [go_sem]; omega)))⟩
  · rw [hdq] at D2 D3
    have hy := dec_len q zeroR ys BQ.out hdq
    have hy2 : ys.length ≤ 25500 := by omega
    obtain ⟨-, hcan, hok⟩ := dec_canon q zeroR ys BQ.out hdq
    have C4 := Lib.hid (fun w' A c' (h : Rd encC 3 w' A ys) => encode_c A c' ys w' h (by omega) hok)
    rw [hcan] at C4
    have S4 := Lib.hid (fun w' A A' c' c'' (h1 : Rd encC 3 w' A ys) (h2 : Rd encC 3 w' A' ys) => same_cells A A' c' c'' ys ys w' h1 h2 (by omega) (by omega))
    simp only [decide_true] at S4
    clear hdq hy hcan hok
    go_wp2_with (first
      | (at_builtin
         refine append_rd (U := w) (.tmp 44) (.tmp 45) _ 5 _ 1 rfl rfl Try.underlying37 byte_info rfl (by omega) (encI_len _) (encI_one _) [] q _ b d rfl rfl ?_ (Own.new (encI_len _) (by simp) rfl #[] rfl (by first | (simp [go_sem]; done) | (simp [go_sem]; omega)) (by simp [maxLen])) (by repeat (first | exact Q.out | exact Q | refine Rd.ext ?_ _ | refine Rd.alloc ?_ _ | refine Rd.drew ?_)) (by first | (simp [maxLen]; done) | (simp [maxLen]; omega)) (by first | (simp; done) | (simp; omega)) ?_
         · (repeat' (first | (with_reducible exact Below.refl _ _) | (with_reducible refine Below.alloc ?_ ?_ _) | (with_reducible refine below_ext ?_ ?_ _) | (with_reducible refine Below.drew ?_) | (with_reducible refine below_drewN ?_ _) | (with_reducible refine Below.setCell ?_ ?_ _) | go_size | (simp only [go_sem]; omega) | (simp [go_sem]; done) | (simp [go_sem]; omega)))
         intro A6 c6 x6 zs hz hO6
         rw [List.nil_append] at hz
         subst hz
         obtain ⟨_, _, hw1, hw2, hw3⟩ := hO6.form
         injection hw1 with e4 e5 e6
         subst e4 e6
         clear e5
         have R6 := Lib.hid (Own.rd (encI_len _) hO6)
         replace hw3 := Lib.hid hw3
         clear hO6)
      | (go_at_call 26
         (with_reducible refine (D2.out _ _ _ (by repeat (first | exact R6.out | exact R6 | refine Rd.ext ?_ _ | refine Rd.alloc ?_ _ | refine Rd.drew ?_)) hw2 hw3.out).mono ?_)
         rintro _ _ ⟨_, rfl, A7, c7, rfl, hB7, hO7⟩
         obtain ⟨x7, rfl⟩ := ext_of hB7
         replace hO7 := Lib.hid (Own.rd encC_len hO7)
         clear hB7)
      | (go_at_call 28
         (with_reducible refine (D3.out _ (by repeat (first | exact Q.out | exact Q | refine Rd.ext ?_ _ | refine Rd.alloc ?_ _ | refine Rd.drew ?_))).mono ?_)
         rintro _ _ ⟨_, rfl, A8, c8, rfl, hB8, hO8⟩
         obtain ⟨x8, rfl⟩ := ext_of hB8
         replace hO8 := Lib.hid (Own.rd encC_len hO8)
         clear hB8))
    clear D2 D3 R6 hw2 hw3
    replace hO7 := Lib.hid (hO7.out.ext x8)
    have hQ : Rd (encI .u8) 1 (ext (ext (ext w x6) x7) x8) b zs := (by repeat (first | exact Q.out | exact Q | refine Rd.ext ?_ _ | refine Rd.alloc ?_ _ | refine Rd.drew ?_))
    have h7 := hO7.out
    have h8 := hO8.out
    generalize hW : ext (ext (ext w x6) x7) x8 = W at hQ h7 h8 ⊢
    have hBW : Below w.heap.size w W := by subst hW; (repeat' (first | (with_reducible exact Below.refl _ _) | (with_reducible refine Below.alloc ?_ ?_ _) | (with_reducible refine below_ext ?_ ?_ _) | (with_reducible refine Below.drew ?_) | (with_reducible refine below_drewN ?_ _) | (with_reducible refine Below.setCell ?_ ?_ _) | go_size | (simp only [go_sem]; omega) | (simp [go_sem]; done) | (simp [go_sem]; omega)))
    clear hW hO7 hO8 Q
    have KS : ∀ w', Below W.heap.size W w' → Rd (encI .u8) 1 w' b zs ∧ Rd encC 3 w' A7 ys ∧ Rd encC 3 w' A8 ys := fun w' h => ⟨hQ.below h, h7.below h, h8.below h⟩
    clear hQ h7 h8
    go_region_held (fun w' => (convert 37 9 (.slice b zs.length d)).run Try.prog w' = .ok (.string (strOf zs)) w') (exact conv_rd (KS _ (by (repeat' (first | (with_reducible exact Below.refl _ _) | (with_reducible refine Below.alloc ?_ ?_ _) | (with_reducible refine below_ext ?_ ?_ _) | (with_reducible refine Below.drew ?_) | (with_reducible refine below_drewN ?_ _) | (with_reducible refine Below.setCell ?_ ?_ _) | go_size | (simp only [go_sem]; omega) | (simp [go_sem]; done) | (simp [go_sem]; omega))))).1) ((first
      | (go_at_call 27
         (with_reducible refine (S4.out _ _ _ _ _ (KS _ (by (repeat' (first | (with_reducible exact Below.refl _ _) | (with_reducible refine Below.alloc ?_ ?_ _) | (with_reducible refine below_ext ?_ ?_ _) | (with_reducible refine Below.drew ?_) | (with_reducible refine below_drewN ?_ _) | (with_reducible refine Below.setCell ?_ ?_ _) | go_size | (simp only [go_sem]; omega) | (simp [go_sem]; done) | (simp [go_sem]; omega))))).2.1 (KS _ (by (repeat' (first | (with_reducible exact Below.refl _ _) | (with_reducible refine Below.alloc ?_ ?_ _) | (with_reducible refine below_ext ?_ ?_ _) | (with_reducible refine Below.drew ?_) | (with_reducible refine below_drewN ?_ _) | (with_reducible refine Below.setCell ?_ ?_ _) | go_size | (simp only [go_sem]; omega) | (simp [go_sem]; done) | (simp [go_sem]; omega))))).2.2).mono ?_)
         rintro _ _ hgets
         obtain ⟨rfl, x9, rfl⟩ := hgets.get
         clear hgets)
      | (go_at_call 24
         (with_reducible refine (C4.out _ _ _ (KS _ (by (repeat' (first | (with_reducible exact Below.refl _ _) | (with_reducible refine Below.alloc ?_ ?_ _) | (with_reducible refine below_ext ?_ ?_ _) | (with_reducible refine Below.drew ?_) | (with_reducible refine below_drewN ?_ _) | (with_reducible refine Below.setCell ?_ ?_ _) | go_size | (simp only [go_sem]; omega) | (simp [go_sem]; done) | (simp [go_sem]; omega))))).2.1).mono ?_)
         rintro _ _ ⟨_, rfl, hN9⟩
         obtain ⟨A9, c9, x9, rfl, rfl, hO9⟩ := hN9.get
         have hR9 := Own.rd (encI_len _) hO9
         clear hN9 hO9)))
    all_goals clear KS
    all_goals go_wp2
    all_goals go_returns
    all_goals refine ⟨rfl, ?_⟩
    all_goals have hs := hBW.size
    all_goals (repeat (first | exact hBW | (with_reducible refine below_ext ?_ (by simp [go_sem]; omega) _) | (with_reducible refine below_ext ?_ (by simpa using hs) _) | (with_reducible refine Below.drew ?_)))
end Go.Proofs.Ytmpbgjnkkapijaa
