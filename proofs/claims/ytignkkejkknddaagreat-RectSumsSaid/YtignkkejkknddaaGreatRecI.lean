/- phosphorlaw16: few, awake.  -/
import Derived.Test.YtignkkejkknddaaGreatRecD
import Derived.Test.YtignkkejkknddaaGreatPgNew
import Derived.Test.YtignkkejkknddaaGreatBkB
import Derived.Test.YtignkkejkknddaaGreatRecH
namespace Go.Proofs.YtignkkejkknddaaGreat
open Go.RowKit
set_option linter.unusedVariables false
set_option linter.unusedSimpArgs false

theorem int_info16 : (Tryz.prog.info? 3).map (fun i => (i.zero, i.size, i.bytes)) = some (some (.int .i64 0), 1, 8) := by kernel_rfl
/-- numbers of one's own, made behind a world -/
def FewR (w : World) (xs : List Int) (e : Ending) (w' : World) : Prop := ∃ A C x, e = .returned (.slice A xs.length C) ∧ w' = ext w x ∧ Own (encI .i64) 1 3 w.heap.size (ext w x) (.slice A xs.length C) xs
section
variable {w : World} {a : Option Addr} {c : Nat} {xs : List Int}
theorem own_num {B n C : Nat} {A : Option Addr} {w : World} {xs : List Int} (h : Own (encI .i64) 1 3 B w (.slice A n C) xs) (hi : ∀ z ∈ xs, z ≤ 9223372036854775807) : n = xs.length ∧ NumL w A C xs ∧ (0 < xs.length → ∀ q o, A = some ⟨q, o, none⟩ → B ≤ q) := by
  obtain ⟨A', c', e, h1, h2⟩ := h.form
  injection e with e1 e2 e3
  subst e1 e2 e3
  refine ⟨rfl, ⟨h.rd (encI_len _), h1, by simp [maxLen] at h2; omega, hi⟩, fun h0 q o e => ?_⟩
  obtain ⟨g, c2, e2, -, -⟩ := h.some_of h0
  injection e2 with e2
  have := h.lt g (by rw [e2]; rfl)
  rw [e] at e2
  injection e2 with e2
  injection e2 with e2
  omega
set_option maxRecDepth 100000 in
set_option maxHeartbeats 4000000 in
theorem few_c (hx : NumL w a c xs) (n : Nat) (hn : n ≤ 1000) : Calls Tryz.prog 11 #[.slice a xs.length c, .int .i64 n] w (FewR w (xs.take n)) := by
  have lc := hx.lc
  have cm := hx.cm
  have hyl : (xs.take n).length = min n xs.length := List.length_take
  have RD := Lib.hid (hx.rd.take n)
  clear hx
  have hy : (xs.take n).length ≤ 1000 := by omega
  have hyc : (xs.take n).length ≤ c := by omega
  generalize xs.take n = ys at RD hyl hy hyc ⊢
  go_enter Tryz.func11, Tryz.ntmps11
  go_upto_if 8 with fail
  go_cut [0] (fun lv wx => lv = .slice a ys.length c ∧ wx = w)
  case first =>
    by_cases h : n < xs.length
    · have e : ys.length = n := by omega
      have HE := Lib.hid e
      have h1 : decide ((xs.length : Int) > (n : Int)) = true := by simp; omega
      have h2 : (n : Int) ≤ (c : Int) := by omega
      clear e hyl
      go_wp2
      go_meet
      rw [HE.out]
      exact ⟨rfl, rfl⟩
    · have e : ys.length = xs.length := by omega
      have HE := Lib.hid e
      have h1 : decide ((xs.length : Int) > (n : Int)) = false := by simp; omega
      clear e hyl
      go_wp2
      go_meet
      rw [HE.out]
      exact ⟨rfl, rfl⟩
  obtain ⟨rfl, rfl⟩ := hcut
  clear hyl lc
  go_wp2_with (first
    | (at_builtin
       refine append_rd (U := wc) (.tmp 12) (.tmp 13) 22 3 _ 8 rfl rfl Tryz.underlying22 int_info16 rfl (by omega) (encI_len _) (encI_one _) [] ys _ a c rfl rfl ?_ (Own.new (encI_len _) (by simp) rfl #[] rfl (Nat.le_refl _) (by simp [maxLen])) (by repeat (first | exact RD.out | exact RD | refine Rd.ext ?_ _ | refine Rd.alloc ?_ _ | refine Rd.drew ?_)) (by first | (simp [maxLen]; done) | (simp [maxLen]; omega)) (by first | (simp; done) | (simp; omega)) ?_
       · (repeat' (first | (with_reducible exact Below.refl _ _) | (with_reducible refine Below.alloc ?_ ?_ _) | (with_reducible refine below_ext ?_ ?_ _) | (with_reducible refine Below.drew ?_) | (with_reducible refine below_drewN ?_ _) | (with_reducible refine Below.setCell ?_ ?_ _) | go_size | (simp only [go_sem]; omega) | (simp [go_sem]; done) | (simp [go_sem]; omega)))
       intro A' c' x3 zs hz hO))
  rw [List.nil_append] at hz
  subst hz
  go_wp2_with fail
  go_returns
  exact ⟨A', c', x3, rfl, rfl, hO⟩
end
def aw16L : List Int := [1, 3, 2, 1, 1]
def aw16S : PgS := resizeS ⟨[], 0⟩ 3 4
def aw16B : BxI := ⟨0, 0, 3, 4⟩
def aw16T : PgS := chS aw16S (chB (arB aw16S aw16B) aw16L true) (chF false (aw16L.drop 4))
theorem aw16_okS : aw16S.Ok := resizeS_ok _ _ _ (fun r hr => by cases hr)
theorem aw16_okT : aw16T.Ok := chS_ok aw16_okS (chF_ok _ _) _
theorem aw16_1 : chOk (arB aw16S aw16B) aw16L true = true := by decide +kernel
theorem aw16_2 : chOk (arB aw16T aw16B) aw16L false = false := by decide +kernel
theorem aw16_3 : chB (arB aw16T aw16B) aw16L false = [] := by
  unfold chB
  rw [if_neg (by decide), if_neg (by have := aw16_2; unfold chOk at this; rw [if_neg (by decide)] at this; rw [this]; decide)]
theorem aw16_d : aw16T.rows.length = 3 ∧ aw16T.cols = 4 := by decide +kernel
theorem aw16_a : (atS aw16T 0 2).r = 1 := by decide +kernel
theorem aw16_b : (atS aw16T 1 0).r = 1 := by decide +kernel
theorem aw16_c : (atS aw16T 0 1).r = 0 := by decide +kernel
theorem aw16_e : (atS aw16T 1 1).r = 0 := by decide +kernel
theorem aw16_call {w : World} {F : Nat → Prop} {p : Nat} {S : PgS} (h : PageAt w F p S) (hS : S.Ok) (w' : World) (q : Nat) (hb : Below w.heap.size w w') (hq : q = w'.heap.size) (st : Bool) :
    Calls Tryz.prog 27 #[.pointer (some ⟨p, 0, none⟩), boxV 0 0 3 4, .slice (some ⟨q, 0, none⟩) 5 5, .bool st, .bool false] (w'.alloc (.cells #[.int .i64 1, .int .i64 3, .int .i64 2, .int .i64 1, .int .i64 1] 3))
      (fun e w2 => e = .returned (.bool (chOk (arB S aw16B) aw16L st)) ∧ Did F p (chS S (chB (arB S aw16B) aw16L st) (chF false (aw16L.drop 4))) (w'.alloc (.cells #[.int .i64 1, .int .i64 3, .int .i64 2, .int .i64 1, .int .i64 1] 3)) w2) := by
  subst hq
  have hO : Own (encI .i64) 1 3 w'.heap.size (w'.alloc (.cells #[.int .i64 1, .int .i64 3, .int .i64 2, .int .i64 1, .int .i64 1] 3)) (.slice (some ⟨w'.heap.size, 0, none⟩) 5 5) aw16L := Own.new (encI_len .i64) rfl (rfl : (5 : Nat) = _) _ rfl (Nat.le_refl _) (by simp [maxLen, aw16L])
  obtain ⟨-, hN, hB⟩ := own_num hO (by decide)
  exact change_rect (h.grow (hb.alloc hb.size _)) hS (fun b hb2 => by have := h.lt b hb2; have := hb.size; simp; omega) hN (fun h0 q o e f => by have := hB h0 q o e; have := h.lt q f; have := hb.size; omega) aw16B st false
theorem cell16_f1 (g r : Int) (k : Bool) (w : World) : (Instr.field 60 (.agg #[.int .i32 g, .int .u8 r, .bool k]) 1).run Tryz.prog w = .ok (.int .u8 r) w := by kernel_rfl
attribute [local go_sem ↓] cell16_f1
set_option maxRecDepth 100000 in
set_option maxHeartbeats 8000000 in
theorem awake_16 (w : World) : Calls Tryz.prog 7 #[] w (Gives w (.bool true)) := by
  have NP := Lib.hid (fun w' => (by exact new_p 3 4 w' : Calls Tryz.prog 31 #[.int .i64 3, .int .i64 4] w' (NewPg aw16S w')))
  go_enter Tryz.func7, Tryz.ntmps7
  go_upto_region 2 with ((go_at_call 31); (with_reducible refine (NP.out _).mono ?_); (rintro _ _ ⟨p, F, x3, rfl, rfl, hFg, hPg⟩))
  have hbW := below_of_ext w x3
  generalize ext w x3 = w1 at hPg hbW ⊢
  have hPl := Lib.hid hPg.lt
  have BX := Lib.hid (fun w' (hb : Below w1.heap.size w1 w') => (by exact box_p (hPg.grow hb) : Calls Tryz.prog 24 #[.pointer (some ⟨p, 0, none⟩)] w' (Gives w' (boxV 0 0 3 4))))
  have C1 := Lib.hid (fun w' q hb hq => aw16_call hPg aw16_okS w' q hb hq true)
  rw [aw16_1, show chS aw16S (chB (arB aw16S aw16B) aw16L true) (chF false (aw16L.drop 4)) = aw16T from rfl] at C1
  have okT := aw16_okT
  have k2 := aw16_2
  have k3 := aw16_3
  have kd := aw16_d
  have ka := aw16_a
  have kb := aw16_b
  have kc := aw16_c
  have ke := aw16_e
  generalize aw16T = T at *
  replace hbW := Lib.hid hbW
  replace hFg := Lib.hid hFg
  clear NP hPg
  go_upto_region 4 with (first
    | (go_at_call 24; ((with_reducible refine (BX2.out _ (by (repeat' (first | (with_reducible exact Below.refl _ _) | (with_reducible refine Below.alloc ?_ ?_ _) | (with_reducible refine below_ext ?_ ?_ _) | (with_reducible refine Below.drew ?_) | (with_reducible refine below_drewN ?_ _) | (with_reducible refine Below.setCell ?_ ?_ _) | go_size | (simp only [go_sem]; omega) | (simp [go_sem]; done) | (simp [go_sem]; omega))))).mono ?_); rintro _ _ hgets; obtain ⟨rfl, x6, rfl⟩ := hgets.get; clear hgets))
    | (go_at_call 24; ((with_reducible refine (BX.out _ (by (repeat' (first | (with_reducible exact Below.refl _ _) | (with_reducible refine Below.alloc ?_ ?_ _) | (with_reducible refine below_ext ?_ ?_ _) | (with_reducible refine Below.drew ?_) | (with_reducible refine below_drewN ?_ _) | (with_reducible refine Below.setCell ?_ ?_ _) | go_size | (simp only [go_sem]; omega) | (simp [go_sem]; done) | (simp [go_sem]; omega))))).mono ?_); rintro _ _ hgets; obtain ⟨rfl, x4, rfl⟩ := hgets.get; clear hgets))
    | ((go_at_call 27); (with_reducible refine (C2.out _ _ (by (repeat' (first | (with_reducible exact Below.refl _ _) | (with_reducible refine Below.alloc ?_ ?_ _) | (with_reducible refine below_ext ?_ ?_ _) | (with_reducible refine Below.drew ?_) | (with_reducible refine below_drewN ?_ _) | (with_reducible refine Below.setCell ?_ ?_ _) | go_size | (simp only [go_sem]; omega) | (simp [go_sem]; done) | (simp [go_sem]; omega)))) (by simp [go_sem])).mono ?_); (rintro _ w5 ⟨rfl, hD⟩); (have hD1 := Did.back hD (show Below w3.heap.size w3 ((ext w3 x6).alloc (.cells #[.int .i64 1, .int .i64 3, .int .i64 2, .int .i64 1, .int .i64 1] 3)) by (repeat' (first | (with_reducible exact Below.refl _ _) | (with_reducible refine Below.alloc ?_ ?_ _) | (with_reducible refine below_ext ?_ ?_ _) | (with_reducible refine Below.drew ?_) | (with_reducible refine below_drewN ?_ _) | (with_reducible refine Below.setCell ?_ ?_ _) | go_size | (simp only [go_sem]; omega) | (simp [go_sem]; done) | (simp [go_sem]; omega)))) hP3l.out); (have hP5 := Lib.hid hD1.2); (have hb5 := Lib.hid (hb3.out.trans (hD1.1.below (B := w.heap.size) hFg3.out hb3.out.size))); (clear hD hD1 C2 BX2 hP3 hP3l))
    | ((go_at_call 27); (with_reducible refine (C1.out _ _ (by (repeat' (first | (with_reducible exact Below.refl _ _) | (with_reducible refine Below.alloc ?_ ?_ _) | (with_reducible refine below_ext ?_ ?_ _) | (with_reducible refine Below.drew ?_) | (with_reducible refine below_drewN ?_ _) | (with_reducible refine Below.setCell ?_ ?_ _) | go_size | (simp only [go_sem]; omega) | (simp [go_sem]; done) | (simp [go_sem]; omega)))) (by simp [go_sem])).mono ?_); (rintro _ w3 ⟨rfl, hD⟩); (have hD1 := Did.back hD (show Below w1.heap.size w1 ((ext w1 x4).alloc (.cells #[.int .i64 1, .int .i64 3, .int .i64 2, .int .i64 1, .int .i64 1] 3)) by (repeat' (first | (with_reducible exact Below.refl _ _) | (with_reducible refine Below.alloc ?_ ?_ _) | (with_reducible refine below_ext ?_ ?_ _) | (with_reducible refine Below.drew ?_) | (with_reducible refine below_drewN ?_ _) | (with_reducible refine Below.setCell ?_ ?_ _) | go_size | (simp only [go_sem]; omega) | (simp [go_sem]; done) | (simp [go_sem]; omega)))) hPl.out); (have hP3 := hD1.2); (have hb3 := Lib.hid (hbW.out.trans (hD1.1.below (B := w.heap.size) (fun b hb => hFg.out b hb) hbW.out.size))); (have hP3l := Lib.hid hP3.lt); (have hFg3 := Lib.hid (fun b (hb : more F w1 w3 b) => hb.elim (hFg.out b) (fun e => Nat.le_trans hbW.out.size e.1))); (have BX2 := Lib.hid (fun w' (hb : Below w3.heap.size w3 w') => (by have := box_p (hP3.grow hb); rw [kd.1, kd.2] at this; exact this : Calls Tryz.prog 24 #[.pointer (some ⟨p, 0, none⟩)] w' (Gives w' (boxV 0 0 3 4))))); (have C2 := Lib.hid (fun w' q hb hq => (by have := aw16_call hP3 okT w' q hb hq false; rw [k2, k3] at this; exact this))); (clear hD hD1 C1 BX); (replace hP3 := Lib.hid hP3)))
  replace hP5 : Hid (PageAt w5 _ p T) := hP5
  generalize more (more F w1 w3) w3 w5 = F5 at hP5
  have A1 := Lib.hid (fun w' (hb : Below w5.heap.size w5 w') => at_p (hP5.out.grow hb) okT 0 2)
  have A2 := Lib.hid (fun w' (hb : Below w5.heap.size w5 w') => at_p (hP5.out.grow hb) okT 1 0)
  have A3 := Lib.hid (fun w' (hb : Below w5.heap.size w5 w') => at_p (hP5.out.grow hb) okT 0 1)
  have A4 := Lib.hid (fun w' (hb : Below w5.heap.size w5 w') => at_p (hP5.out.grow hb) okT 1 1)
  generalize atS T 0 2 = y1 at A1 ka
  generalize atS T 1 0 = y2 at A2 kb
  generalize atS T 0 1 = y3 at A3 kc
  generalize atS T 1 1 = y4 at A4 ke
  obtain ⟨g1, r1, k1⟩ := y1
  obtain ⟨g2, r2, k2'⟩ := y2
  obtain ⟨g3, r3, k3'⟩ := y3
  obtain ⟨g4, r4, k4⟩ := y4
  simp only at ka kb kc ke
  subst ka kb kc ke
  simp only [cellV] at A1 A2 A3 A4
  clear hP5 hPl hbW hFg hb3 hFg3
  go_wp2_with (first
    | (go_at_call 21; ((with_reducible refine (A1.out _ (by (repeat' (first | (with_reducible exact Below.refl _ _) | (with_reducible refine Below.alloc ?_ ?_ _) | (with_reducible refine below_ext ?_ ?_ _) | (with_reducible refine Below.drew ?_) | (with_reducible refine below_drewN ?_ _) | (with_reducible refine Below.setCell ?_ ?_ _) | go_size | (simp only [go_sem]; omega) | (simp [go_sem]; done) | (simp [go_sem]; omega))))).mono ?_); rintro _ _ hgets; obtain ⟨rfl, x7, rfl⟩ := hgets.get; clear hgets))
    | (go_at_call 21; ((with_reducible refine (A2.out _ (by (repeat' (first | (with_reducible exact Below.refl _ _) | (with_reducible refine Below.alloc ?_ ?_ _) | (with_reducible refine below_ext ?_ ?_ _) | (with_reducible refine Below.drew ?_) | (with_reducible refine below_drewN ?_ _) | (with_reducible refine Below.setCell ?_ ?_ _) | go_size | (simp only [go_sem]; omega) | (simp [go_sem]; done) | (simp [go_sem]; omega))))).mono ?_); rintro _ _ hgets; obtain ⟨rfl, x8, rfl⟩ := hgets.get; clear hgets))
    | (go_at_call 21; ((with_reducible refine (A3.out _ (by (repeat' (first | (with_reducible exact Below.refl _ _) | (with_reducible refine Below.alloc ?_ ?_ _) | (with_reducible refine below_ext ?_ ?_ _) | (with_reducible refine Below.drew ?_) | (with_reducible refine below_drewN ?_ _) | (with_reducible refine Below.setCell ?_ ?_ _) | go_size | (simp only [go_sem]; omega) | (simp [go_sem]; done) | (simp [go_sem]; omega))))).mono ?_); rintro _ _ hgets; obtain ⟨rfl, x9, rfl⟩ := hgets.get; clear hgets))
    | (go_at_call 21; ((with_reducible refine (A4.out _ (by (repeat' (first | (with_reducible exact Below.refl _ _) | (with_reducible refine Below.alloc ?_ ?_ _) | (with_reducible refine below_ext ?_ ?_ _) | (with_reducible refine Below.drew ?_) | (with_reducible refine below_drewN ?_ _) | (with_reducible refine Below.setCell ?_ ?_ _) | go_size | (simp only [go_sem]; omega) | (simp [go_sem]; done) | (simp [go_sem]; omega))))).mono ?_); rintro _ _ hgets; obtain ⟨rfl, x10, rfl⟩ := hgets.get; clear hgets)))
  go_returns
  exact ⟨rfl, hb5.out.trans (Below.mono (B := w5.heap.size) (by (repeat' (first | (with_reducible exact Below.refl _ _) | (with_reducible refine Below.alloc ?_ ?_ _) | (with_reducible refine below_ext ?_ ?_ _) | (with_reducible refine Below.drew ?_) | (with_reducible refine below_drewN ?_ _) | (with_reducible refine Below.setCell ?_ ?_ _) | go_size | (simp only [go_sem]; omega) | (simp [go_sem]; done) | (simp [go_sem]; omega)))) hb5.out.size)⟩
end Go.Proofs.YtignkkejkknddaaGreat
/- a book while its pages are changed.  -/
namespace Go.Proofs.YtignkkejkknddaaGreat
open Go.RowKit
set_option linter.unusedVariables false
set_option linter.unusedSimpArgs false

section
variable {w w' : World} {F G : Nat → Prop} {b i : Nat} {S T : BkS} {V : Value} {ps ps' : List PgR} {st st' r r' : PgR}
theorem BkO.ptr (h : BkO w F b S V ps st) (h' : BkO w' G b T V ps' st') (h0 : 0 < S.pages.length) (hk : ∀ x, V.ownBlock = some x → w'.heap[x]? = w.heap[x]?) (hr : ps[i]? = some r) (hr' : ps'[i]? = some r') : r'.p = r.p := by
  obtain ⟨L, c, rfl, -, -⟩ := h.form1 h0
  have c1 := (h.cell hr).1
  have c2 := (h'.cell hr').1
  rw [cell_of_heap (hk L rfl), c1] at c2
  injection c2 with c2
  unfold PgR.v at c2
  injection c2 with c2
  injection c2 with c2
  injection c2 with c2 _
  exact c2.symm
end
/-- a book, since a world; its pages' places -/
structure BkM (w0 : World) (F : Nat → Prop) (b : Nat) (pp : Nat → Nat) (T : BkS) (wr : World) : Prop where
  keep : Keep F w0 wr
  ok : T.Ok
  ex : ∃ V ps st F', BkO wr F' b T V ps st ∧ (∀ x, F' x → F x ∨ w0.heap.size ≤ x) ∧ ∀ i r, ps[i]? = some r → r.p = pp i
section
variable {w0 wr wz w1 w2 : World} {F : Nat → Prop} {b i : Nat} {pp : Nat → Nat} {T : BkS}
theorem BkM.start {V : Value} {ps : List PgR} {st : PgR} (h : BkO w0 F b T V ps st) (hT : T.Ok) : ∃ pp, BkM w0 F b pp T w0 :=
  ⟨fun i => (ps[i]?.map PgR.p).getD 0, Keep.refl _ _, hT, V, ps, st, F, h, fun x hx => .inl hx, fun i r hr => by simp [hr]⟩
theorem BkM.grow (h : BkM w0 F b pp T wr) (hb : Below wr.heap.size wr wz) : BkM w0 F b pp T wz := by
  obtain ⟨k, ok, V, ps, st, F', h1, h2, h3⟩ := h
  exact ⟨k.trans (Keep.of_below (F := F) hb) (fun x hx => .inl hx), ok, V, ps, st, F', h1.grow hb, h2, h3⟩
theorem BkM.rebase (h : BkM w0 F b pp T wr) : ∃ F', BkM wr F' b pp T wr ∧ (∀ x, F' x → F x ∨ w0.heap.size ≤ x) ∧ ∀ x, F' x → x < wr.heap.size := by
  obtain ⟨k, ok, V, ps, st, F', h1, h2, h3⟩ := h
  exact ⟨F', ⟨Keep.refl _ _, ok, V, ps, st, F', h1, fun x hx => .inl hx, h3⟩, h2, h1.lt⟩
theorem BkM.page (h : BkM w0 F b pp T wr) (i : Nat) (hi : i < T.pages.length) (w' : World) (hb : Below wr.heap.size wr w') : Calls Tryz.prog 17 #[ptrV b, .int .i64 i] w' (Gives w' (ptrV (pp i))) := by
  obtain ⟨k, ok, V, ps, st, F', h1, h2, h3⟩ := h
  obtain ⟨r, hr, -, -⟩ := h1.get hi
  rw [← h3 i r hr]
  exact page_b (h1.grow hb) ok hr
theorem BkM.deed (h : BkM w0 F b pp T wr) (i : Nat) (hi : i < T.pages.length) : ∃ G, PageAt wr G (pp i) T.pages[i] ∧ (∀ x, G x → F x ∨ w0.heap.size ≤ x) ∧
    ∀ w1 w2 P, P.Ok → Below wr.heap.size wr w1 → Did G (pp i) P w1 w2 → BkM w0 F b pp (T.set i P) w2 := by
  obtain ⟨k, ok, V, ps, st, F', h1, h2, h3⟩ := h
  obtain ⟨r, hr, hr', hP⟩ := h1.get hi
  have e := h3 i r hr
  refine ⟨r.F, by rw [← e]; exact hP, fun x hx => h2 x (h1.inF r (List.mem_of_getElem? hr') x hx), fun w1 w2 P hPk hb hD => ?_⟩
  rw [← e] at hD
  have hD' := Did.back hD hb hP.lt
  obtain ⟨hk, ps', st', h5⟩ := h1.act hr' hD'
  refine ⟨k.trans hk h2, ok.set i hPk, V, ps', st', _, h5, fun x hx => ?_, fun j q hq => ?_⟩
  · rcases hx with hx | hx
    · exact h2 x hx
    · exact .inr (Nat.le_trans k.size hx.1)
  · have hlen : ps'.length = ps.length := by rw [h5.len, h1.len, BkS.set_len]
    have hj : j < ps.length := by rw [← hlen]; exact (List.getElem?_eq_some_iff.1 hq).1
    have e2 := h1.ptr h5 (by omega) (fun x hx => hD'.1.block x (h1.lt x (h1.list x hx)) (h1.offV r (List.mem_of_getElem? hr') x hx)) (List.getElem?_eq_getElem hj) hq
    rw [e2]
    exact h3 j _ (List.getElem?_eq_getElem hj)
/-- a change of one of its pages -/
theorem BkM.change (h : BkM w0 F b pp T wr) (i : Nat) (hi : i < T.pages.length) {a : Option Addr} {c : Nat} {xs : List Int} (hx : NumL w0 a c xs) (hA : 0 < xs.length → ∀ q o, a = some ⟨q, o, none⟩ → ¬ F q) (x : BxI) (st fl : Bool) (w' : World) (hb : Below wr.heap.size wr w') :
    Calls Tryz.prog 27 #[ptrV (pp i), boxV x.t x.l x.b x.r, .slice a xs.length c, .bool st, .bool fl] w' (fun e w2 => e = .returned (.bool (chOk (arB T.pages[i] x) xs st)) ∧ BkM w0 F b pp (T.set i (chS T.pages[i] (chB (arB T.pages[i] x) xs st) (chF fl (xs.drop 4)))) w2) := by
  obtain ⟨G, h1, h2, h3⟩ := h.deed i hi
  have okP := h.ok.pg _ (List.getElem_mem hi)
  have hk := (h.grow hb).keep
  have hx' : NumL w' a c xs := ⟨Rd.keep' hx.rd hk hA, hx.lc, hx.cm, hx.hi⟩
  refine (change_rect (h1.grow hb) okP (fun q f => Nat.lt_of_lt_of_le (h1.lt q f) hb.size) hx' (fun h0 q o e f => ?_) x st fl).mono ?_
  · rcases h2 q f with g | g
    · exact hA h0 q o e g
    · obtain ⟨b', o', e', hlt, -⟩ := hx.rd h0
      rw [e] at e'
      injection e' with e'
      injection e' with e1 e2
      omega
  · rintro e w2 ⟨rfl, hD⟩
    exact ⟨rfl, h3 w' w2 _ (chS_ok okP (chF_ok _ _) _) hb hD⟩
theorem BkM.at (h : BkM w0 F b pp T wr) (i : Nat) (hi : i < T.pages.length) (r c : Int) (w' : World) (hb : Below wr.heap.size wr w') : Calls Tryz.prog 21 #[ptrV (pp i), .agg #[.int .i64 r, .int .i64 c]] w' (Gives w' (cellV (atS T.pages[i] r c))) := by
  obtain ⟨G, h1, -, -⟩ := h.deed i hi
  exact at_p (h1.grow hb) (h.ok.pg _ (List.getElem_mem hi)) r c
end
end Go.Proofs.YtignkkejkknddaaGreat
/- rect.Change, by place: plain.  -/
namespace Go.Proofs.YtignkkejkknddaaGreat
open Go.RowKit
set_option linter.unusedVariables false
set_option linter.unusedSimpArgs false

theorem num_at (xs : List Int) (j : Int) (h : 0 ≤ j) : num0 xs 0 j = at0 xs j := by
  unfold num0 at0
  rw [if_neg (by omega), if_neg (by omega)]
  simp
/-- is a place changed? -/
def chIn (y : BxI) (xs : List Int) (st : Bool) (i k : Nat) : Bool := if st = true then stOk y xs && inSt y xs i k else reOk y xs 0 && decide ((reB y xs 0).t ≤ i ∧ (i : Int) < (reB y xs 0).b ∧ (reB y xs 0).l ≤ k ∧ (k : Int) < (reB y xs 0).r)
theorem chS_str {S : PgS} (hS : S.Ok) (y : BxI) (xs : List Int) {f : Cl → Cl} (hf : ∀ c, c.ok → (f c).ok) : ∀ j : Nat, (j : Int) ≤ stB y xs - stT y xs → chS S ((List.range j).map fun i : Nat => stBox y xs (stT y xs + (i : Int))) f = strJ S y xs f j
  | 0, _ => by rw [strJ_zero]; rfl
  | j + 1, h => by
    rw [← stBoxes_take, chS_snoc, chS_str hS y xs hf j (by omega), strJ_len, show (strJ S y xs f j).cols = S.cols from rfl]
    exact strJ_step hS hf (by omega)
theorem chS_form {S : PgS} (hS : S.Ok) (y : BxI) (xs : List Int) (st : Bool) {f : Cl → Cl} (hf : ∀ c, c.ok → (f c).ok) : chS S (chB y xs st) f = mapS S (fun i k c => if chIn y xs st i k = true then f c else c) := by
  cases st
  · unfold chB chIn
    simp only [Bool.false_eq_true, if_false]
    by_cases h : reOk y xs 0 = true
    · rw [if_pos h]
      show eachS S (onB S.rows.length S.cols (reB y xs 0)) (fun zs l r => eachR zs l r f) = _
      rw [each_map hS]
      refine mapS_congr fun i hi k hk => ?_
      rw [h, Bool.true_and]
      by_cases q : (reB y xs 0).t ≤ i ∧ (i : Int) < (reB y xs 0).b ∧ (reB y xs 0).l ≤ k ∧ (k : Int) < (reB y xs 0).r
      · rw [if_pos q, if_pos (decide_eq_true q)]
      · rw [if_neg q, if_neg (by rw [decide_eq_false q]; decide)]
    · rw [if_neg h]
      have h' : reOk y xs 0 = false := by simpa using h
      show S = _
      exact (mapS_id fun i hi k hk => by rw [h']; simp).symm
  · unfold chB chIn flB
    simp only [if_true]
    by_cases h : stOk y xs = true
    · rw [if_pos h]
      have hp : stT y xs < stB y xs := by
        unfold stOk stPre at h
        simp only [Bool.and_eq_true, decide_eq_true_eq] at h
        exact h.1.2.2.2.2.2.2.1
      unfold stBoxes
      rw [chS_str hS y xs hf _ (by omega), strJ_end]
      unfold strS
      refine mapS_congr fun i hi k hk => ?_
      rw [h, Bool.true_and]
    · rw [if_neg h]
      have h' : stOk y xs = false := by simpa using h
      show S = _
      exact (mapS_id fun i hi k hk => by rw [h']; simp).symm
/-- what the rectangle of numbers is -/
theorem re_vals (y : BxI) (xs : List Int) : reOk y xs 0 = decide (y.t < y.b ∧ y.l < y.r ∧ 0 ≤ at0 xs 0 ∧ 0 ≤ at0 xs 1 ∧ 0 ≤ at0 xs 2 ∧ 0 ≤ at0 xs 3 ∧ stT y xs < stB y xs ∧ stL y xs < stR y xs) ∧
    (reOk y xs 0 = true → reB y xs 0 = ⟨stT y xs, stL y xs, stB y xs, stR y xs⟩) := by
  have e0 := num_at xs 0 (by omega)
  have e1 := num_at xs 1 (by omega)
  have e2 := num_at xs 2 (by omega)
  have e3 := num_at xs 3 (by omega)
  have h1 : reOk y xs 0 = decide (y.t < y.b ∧ y.l < y.r ∧ 0 ≤ at0 xs 0 ∧ 0 ≤ at0 xs 1 ∧ 0 ≤ at0 xs 2 ∧ 0 ≤ at0 xs 3 ∧ stT y xs < stB y xs ∧ stL y xs < stR y xs) := by
    unfold reOk rectOk sideOk
    rw [e0, e1, e2, e3, Bool.eq_iff_iff]
    simp only [Bool.and_eq_true, decide_eq_true_eq]
    unfold stT stB stL stR
    omega
  refine ⟨h1, fun h => ?_⟩
  have h' := h
  rw [h1, decide_eq_true_eq] at h'
  have hr : rectOk y.t y.l y.b y.r xs 0 = true := h
  unfold reB rectT rectL rectB rectR
  rw [if_pos hr, if_pos hr, if_pos hr, if_pos hr, e0, e1, e2, e3]
  unfold sideF sideL stT stL stB stR
  rw [if_neg (by omega), if_neg (by omega), if_neg (by omega), if_neg (by omega)]
  congr 1 <;> omega
/-- a stream over all columns is a rectangle -/
theorem ch_all {y : BxI} {xs : List Int} (h1 : at0 xs 1 = 1) (h3 : at0 xs 3 = 0) : chOk y xs true = chOk y xs false ∧ ∀ i k, chIn y xs true i k = chIn y xs false i k := by
  obtain ⟨e1, e2⟩ := re_vals y xs
  have eL : stL y xs = y.l := by unfold stL; omega
  have eR : stR y xs = y.r := by unfold stR lastA; rw [h3]; simp; omega
  have ho : stOk y xs = reOk y xs 0 := by
    rw [e1]
    unfold stOk stPre
    rw [eL, eR, Bool.eq_iff_iff]
    simp only [Bool.and_eq_true, decide_eq_true_eq]
    omega
  refine ⟨by unfold chOk; simpa using ho, fun i k => ?_⟩
  unfold chIn
  simp only [if_true, Bool.false_eq_true, if_false]
  rw [ho]
  by_cases h : reOk y xs 0 = true
  · rw [h, Bool.true_and, Bool.true_and, e2 h, eL, eR]
    unfold inSt
    rw [eL, eR]
    congr 1
    simp only [eq_iff_iff]
    constructor
    · intro ⟨q1, q2, q3, q4⟩
      refine ⟨q1, q2, ?_, ?_⟩
      · split at q3 <;> exact q3
      · split at q4 <;> exact q4
    · intro ⟨q1, q2, q3, q4⟩
      refine ⟨q1, q2, ?_, ?_⟩
      · split <;> exact q3
      · split <;> exact q4
  · rw [show reOk y xs 0 = false by simpa using h, Bool.false_and, Bool.false_and]
/-- a rectangle of one row is a stream -/
theorem ch_row {y : BxI} {xs : List Int} (h : at0 xs 2 = at0 xs 0) (h0 : at0 xs 0 ≠ 0) : chOk y xs true = chOk y xs false ∧ ∀ i k, chIn y xs true i k = chIn y xs false i k := by
  obtain ⟨e1, e2⟩ := re_vals y xs
  have eB : 0 ≤ at0 xs 0 → (stT y xs < stB y xs ↔ stB y xs = stT y xs + 1) ∧ stB y xs ≤ stT y xs + 1 := fun hp => by
    unfold stT stB lastA
    rw [h]
    split <;> omega
  have eR : stR y xs ≤ y.r := by unfold stR lastA; split <;> omega
  have ho : stOk y xs = reOk y xs 0 := by
    rw [e1]
    unfold stOk stPre
    rw [Bool.eq_iff_iff]
    simp only [Bool.and_eq_true, decide_eq_true_eq]
    constructor
    · intro hh; have := eB hh.1.2.2.1; omega
    · intro hh; have := eB hh.2.2.1; omega
  refine ⟨by unfold chOk; simpa using ho, fun i k => ?_⟩
  unfold chIn
  simp only [if_true, Bool.false_eq_true, if_false]
  rw [ho]
  by_cases hk : reOk y xs 0 = true
  · rw [hk, Bool.true_and, Bool.true_and, e2 hk]
    rw [e1, decide_eq_true_eq] at hk
    have := (eB hk.2.2.1).1.1 hk.2.2.2.2.2.2.1
    unfold inSt
    congr 1
    simp only [eq_iff_iff]
    constructor
    · intro ⟨q1, q2, q3, q4⟩
      rw [if_pos (by omega)] at q3
      rw [if_pos (by omega)] at q4
      exact ⟨q1, q2, q3, q4⟩
    · intro ⟨q1, q2, q3, q4⟩
      refine ⟨q1, q2, ?_, ?_⟩
      · rw [if_pos (by omega)]; exact q3
      · rw [if_pos (by omega)]; exact q4
  · rw [show reOk y xs 0 = false by simpa using hk, Bool.false_and, Bool.false_and]
/-- the area of a whole page -/
def fullA (m n : Nat) : BxI := ⟨0, 0, m, n⟩
theorem ar_full {S : PgS} (hS : S.Ok) : arB S (fullA S.rows.length S.cols) = fullA S.rows.length S.cols := by
  have := hS.r1
  have := hS.c1
  unfold arB fullA onB meetI
  simp only
  rw [if_neg (by omega)]
  congr 1 <;> omega
/-- what stands on both pages of a book, but for the two cells that were put -/
theorem bkP_at {b : BgD} (hS : (begS b).Ok) {i k : Nat} (hi : i < begM b) (hk : k < begN b) (h : 1 < i + k) : atS (bkP b 0) i k = atS (bkP b 1) i k := by
  have hl : (begS b).rows.length = begM b := by simp [begS]
  have hc : (begS b).cols = begN b := rfl
  have hq : ∀ j : Nat, j ≤ 1 → atS (bkP b j) i k = atS (begS b) i k := fun j hj => by
    unfold bkP putS
    split
    · unfold atS
      rw [setRowS_len, show (setRowS (begS b) (0 : Int).toNat ((((begS b).rows.getD (0 : Int).toNat ([], 0)).1.set (j : Int).toNat ⟨64 + j, 0, false⟩), ((begS b).rows.getD (0 : Int).toNat ([], 0)).2)).cols = (begS b).cols from rfl]
      split
      · simp only [Int.toNat_natCast, Int.toNat_zero, setRowS]
        have hg : ∀ v : List Cl × Int, ((begS b).rows.set 0 v).getD i ([], 0) = if 0 = i then (if 0 < (begS b).rows.length then v else ([], 0)) else (begS b).rows.getD i ([], 0) := fun v => by
          rw [List.getD_eq_getElem?_getD, List.getElem?_set]
          by_cases e : 0 = i
          · rw [if_pos e, if_pos e]
            split <;> rfl
          · rw [if_neg e, if_neg e, ← List.getD_eq_getElem?_getD]
        rw [hg]
        by_cases e : 0 = i
        · subst e
          rw [if_pos rfl, if_pos (by omega)]
          simp only
          rw [List.getD_eq_getElem?_getD, List.getElem?_set_ne (by omega), ← List.getD_eq_getElem?_getD]
        · rw [if_neg e]
      · rfl
    · rfl
  rw [hq 0 (by omega), hq 1 (by omega)]
end Go.Proofs.YtignkkejkknddaaGreat
