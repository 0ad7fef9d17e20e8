/- ParamFields: what stands between semicolons is read by itself, and so many numbers there are, as may be. Every two texts. -/
import Derived.Test.YtphkfffphlembaaDoorAwake4
import Derived.Test.YtphkfffphlembaaDoorFrameCard
import Derived.Deep.DeepCutAuto
namespace Go.Proofs.YtphkfffphlembaaDoor
open Go.ChangeShapes Go.WideShapes Go.ChangeAt Go.RowKit
set_option linter.unusedVariables false
set_option linter.unusedSimpArgs false

def one0 (xs : List Int) : List Int := if xs.length = 0 then [0] else xs
theorem ext_alloc_eq (w : World) (o : Obj) : w.alloc o = ext w ⟨#[o], w.drawn⟩ := by
  unfold ext World.alloc
  rw [Array.push_eq_append]
theorem Rd.take {α : Type} {enc : α → List Value} {size : Nat} {w : World} {A : Option Addr} {xs : List α} (h : Rd enc size w A xs) (m : Nat) : Rd enc size w A (xs.take m) := fun h0 => by
  have hl : 0 < xs.length := by rw [List.length_take] at h0; omega
  obtain ⟨b, o, e, hb, hc⟩ := h hl
  refine ⟨b, o, e, hb, fun i hi j v hv => ?_⟩
  have hi2 : i < xs.length := by rw [List.length_take] at hi; omega
  exact hc i hi2 j v (by rw [List.getElem_take] at hv; exact hv)
theorem one0_len {xs : List Int} (h : xs.length ≤ 30) : (one0 xs).length ≤ 30 ∧ 0 < (one0 xs).length := by
  unfold one0
  split
  · simp
  · omega
theorem parseE_cat (a b : List UInt8) : parseE (a ++ 59 :: b) = if parseE a = 0 ∧ parseE b = 0 then 0 else 3 := by
  have e : (a ++ 59 :: b).all okB = (a.all okB && b.all okB) := by rw [List.all_append, List.all_cons]; rfl
  unfold parseE
  rw [e]
  cases a.all okB <;> cases b.all okB <;> simp
theorem parse_cat (a b : List UInt8) (ha : parseE a = 0) (hb : parseE b = 0) : parseV (a ++ 59 :: b) =
    if (one0 (parseV a)).length = 30 then one0 (parseV a) else (one0 (parseV a) ++ one0 (parseV b)).take (min 30 (one0 (parseV a) ++ one0 (parseV b)).length) := by
  have h1 : a.all okB = true := by
    unfold parseE at ha
    split at ha
    · assumption
    · exact absurd ha (by decide)
  have h2 : b.all okB = true := by
    unfold parseE at hb
    split at hb
    · assumption
    · exact absurd hb (by decide)
  have e : (a ++ 59 :: b).all okB = true := by rw [List.all_append, List.all_cons, h1, h2]; rfl
  have p := parse_fields a b
  unfold parseV
  rw [if_pos e, if_pos h1, if_pos h2, p]
  simp only [one0, Nat.min_comm]
  try rfl
theorem cat_bytes (a b : ByteArray) : bytesOf (a ++ ⟨#[59]⟩ ++ b) = bytesOf a ++ 59 :: bytesOf b := by
  simp [bytesOf]
set_option maxRecDepth 100000 in
set_option maxHeartbeats 4000000 in
theorem ParamFields_walk (W : World) (ht : Tab W) (a : ByteArray) (wa : a.size ≤ maxLen) (b : ByteArray) (wb : b.size ≤ maxLen) :
    Calls Tryd.prog 6 #[.string a, .string b] W (Gives W (.bool true)) := by
  have AW := Lib.hid (awake_4 W ht)
  simp only [maxLen] at wa wb
  clear ht
  by_cases ha : 300 < a.size
  · go_enter Tryd.func6, Tryd.ntmps6
    go_wp2_with (go_at_call 10; ((with_reducible refine (AW.out).mono ?_); rintro _ _ hgets; obtain ⟨rfl, x1, rfl⟩ := hgets.get; clear hgets))
    go_returns
    exact ⟨rfl, by (repeat' (first | (with_reducible exact Below.refl _ _) | (with_reducible refine Below.alloc ?_ ?_ _) | (with_reducible refine below_ext ?_ ?_ _) | (with_reducible refine Below.drew ?_) | (with_reducible refine below_drewN ?_ _) | (with_reducible refine Below.setCell ?_ ?_ _) | go_size | (simp only [go_sem]; omega) | (simp [go_sem]; done) | (simp [go_sem]; omega)))⟩
  by_cases hb : 300 < b.size
  · go_enter Tryd.func6, Tryd.ntmps6
    go_wp2_with (go_at_call 10; ((with_reducible refine (AW.out).mono ?_); rintro _ _ hgets; obtain ⟨rfl, x1, rfl⟩ := hgets.get; clear hgets))
    go_returns
    exact ⟨rfl, by (repeat' (first | (with_reducible exact Below.refl _ _) | (with_reducible refine Below.alloc ?_ ?_ _) | (with_reducible refine below_ext ?_ ?_ _) | (with_reducible refine Below.drew ?_) | (with_reducible refine below_drewN ?_ _) | (with_reducible refine Below.setCell ?_ ?_ _) | go_size | (simp only [go_sem]; omega) | (simp [go_sem]; done) | (simp [go_sem]; omega)))⟩
  have hz1 : (9223372036854775807 < a.size + 1) = False := eq_false (by omega)
  have hz2 : (9223372036854775807 < a.size + 1 + b.size) = False := eq_false (by omega)
  have PA := Lib.hid (fun w' => parse_c a (by omega) w')
  have PB := Lib.hid (fun w' => parse_c b (by omega) w')
  have PC := Lib.hid (fun w' => parse_c (a ++ ⟨#[59]⟩ ++ b) (by rw [ByteArray.size_append, ByteArray.size_append]; have h1 : (⟨#[59]⟩ : ByteArray).size = 1 := rfl; omega) w')
  rw [cat_bytes] at PC
  have hE := parseE_cat (bytesOf a) (bytesOf b)
  have hV := parse_cat (bytesOf a) (bytesOf b)
  have la := (parseV_ok (bytesOf a)).1
  have lb := (parseV_ok (bytesOf b)).1
  have lc := (parseV_ok (bytesOf a ++ 59 :: bytesOf b)).1
  generalize parseV (bytesOf a) = xs at PA hV la
  generalize parseV (bytesOf b) = ys at PB hV lb
  generalize parseV (bytesOf a ++ 59 :: bytesOf b) = zs at PC hV lc
  generalize parseE (bytesOf a) = ea at PA hV hE
  generalize parseE (bytesOf b) = eb at PB hV hE
  generalize parseE (bytesOf a ++ 59 :: bytesOf b) = ec at PC hE
  by_cases h1 : ea = 0
  case neg =>
    obtain rfl : ec = 3 := by rw [hE, if_neg (fun e => h1 e.1)]
    have h2 : (ea != 0) = true := by simpa using h1
    clear hE hV
    go_enter Tryd.func6, Tryd.ntmps6
    go_wp2_with (first
      | (go_at_call 10; ((with_reducible refine (AW.out).mono ?_); rintro _ _ hgets; obtain ⟨rfl, x1, rfl⟩ := hgets.get; clear hgets))
      | (go_at_call 11; (with_reducible refine (PA.out _).mono ?_); (rintro _ _ ⟨A1, x2, rfl, rfl, hC1⟩); replace hC1 := Lib.hid hC1)
      | (go_at_call 11; (with_reducible refine (PB.out _).mono ?_); (rintro _ _ ⟨A2, x3, rfl, rfl, hC2⟩); replace hC2 := Lib.hid hC2)
      | (go_at_call 11; (with_reducible refine (PC.out _).mono ?_); (rintro _ _ ⟨A3, x4, rfl, rfl, hC3⟩); replace hC3 := Lib.hid hC3))
    go_returns
    exact ⟨rfl, by (repeat' (first | (with_reducible exact Below.refl _ _) | (with_reducible refine Below.alloc ?_ ?_ _) | (with_reducible refine below_ext ?_ ?_ _) | (with_reducible refine Below.drew ?_) | (with_reducible refine below_drewN ?_ _) | (with_reducible refine Below.setCell ?_ ?_ _) | go_size | (simp only [go_sem]; omega) | (simp [go_sem]; done) | (simp [go_sem]; omega)))⟩
  by_cases h2 : eb = 0
  case neg =>
    obtain rfl : ec = 3 := by rw [hE, if_neg (fun e => h2 e.2)]
    have h3 : (eb != 0) = true := by simpa using h2
    subst h1
    clear hE hV
    go_enter Tryd.func6, Tryd.ntmps6
    go_wp2_with (first
      | (go_at_call 10; ((with_reducible refine (AW.out).mono ?_); rintro _ _ hgets; obtain ⟨rfl, x1, rfl⟩ := hgets.get; clear hgets))
      | (go_at_call 11; (with_reducible refine (PA.out _).mono ?_); (rintro _ _ ⟨A1, x2, rfl, rfl, hC1⟩); replace hC1 := Lib.hid hC1)
      | (go_at_call 11; (with_reducible refine (PB.out _).mono ?_); (rintro _ _ ⟨A2, x3, rfl, rfl, hC2⟩); replace hC2 := Lib.hid hC2)
      | (go_at_call 11; (with_reducible refine (PC.out _).mono ?_); (rintro _ _ ⟨A3, x4, rfl, rfl, hC3⟩); replace hC3 := Lib.hid hC3))
    go_returns
    exact ⟨rfl, by (repeat' (first | (with_reducible exact Below.refl _ _) | (with_reducible refine Below.alloc ?_ ?_ _) | (with_reducible refine below_ext ?_ ?_ _) | (with_reducible refine Below.drew ?_) | (with_reducible refine below_drewN ?_ _) | (with_reducible refine Below.setCell ?_ ?_ _) | go_size | (simp only [go_sem]; omega) | (simp [go_sem]; done) | (simp [go_sem]; omega)))⟩
  subst h1 h2
  obtain rfl : ec = 0 := by rw [hE, if_pos ⟨rfl, rfl⟩]
  have HV := Lib.hid (hV rfl rfl)
  clear hV hE
  go_enter Tryd.func6, Tryd.ntmps6
  go_upto_if 50 with (first
    | (go_at_call 10; ((with_reducible refine (AW.out).mono ?_); rintro _ _ hgets; obtain ⟨rfl, x1, rfl⟩ := hgets.get; clear hgets))
    | (go_at_call 11; (with_reducible refine (PA.out _).mono ?_); (rintro _ _ ⟨A1, x2, rfl, rfl, hC1⟩); replace hC1 := Lib.hid hC1)
    | (go_at_call 11; (with_reducible refine (PB.out _).mono ?_); (rintro _ _ ⟨A2, x3, rfl, rfl, hC2⟩); replace hC2 := Lib.hid hC2)
    | (go_at_call 11; (with_reducible refine (PC.out _).mono ?_); (rintro _ _ ⟨A3, x4, rfl, rfl, hC3⟩); replace hC3 := Lib.hid hC3))
  have hB3 : Below W.heap.size W (ext (ext (ext (ext W x1) x2) x3) x4) := by (repeat' (first | (with_reducible exact Below.refl _ _) | (with_reducible refine Below.alloc ?_ ?_ _) | (with_reducible refine below_ext ?_ ?_ _) | (with_reducible refine Below.drew ?_) | (with_reducible refine below_drewN ?_ _) | (with_reducible refine Below.setCell ?_ ?_ _) | go_size | (simp only [go_sem]; omega) | (simp [go_sem]; done) | (simp [go_sem]; omega)))
  have hI1 := Lib.hid (((hC1.out.rd.ext x3).ext x4))
  have hI2 := Lib.hid ((hC2.out.rd.ext x4))
  have hI3 := Lib.hid hC3.out.rd
  clear hC1 hC2 hC3 PA PB PC AW
  generalize ext (ext (ext (ext W x1) x2) x3) x4 = w3 at hB3 hI1 hI2 hI3 ⊢
  go_cut [5] (fun xv wx => ∃ (A : Option Addr) (c : Nat) (y : More), xv = .slice A (one0 xs).length c ∧ (one0 xs).length ≤ c ∧ c ≤ 30 ∧ wx = ext w3 y ∧ Hid (Ints wx A (one0 xs)))
  case first =>
    by_cases h : xs.length = 0
    · have ho : one0 xs = [0] := if_pos h
      have HO := Lib.hid ho
      clear ho
      go_wp2
      go_meet
      rw [HO.out]
      exact ⟨_, 1, _, rfl, by simp, by omega, ext_alloc_eq _ _, int_new _ 0 rfl⟩
    · have ho : one0 xs = xs := if_neg h
      have HO := Lib.hid ho
      clear ho
      go_wp2
      go_meet
      rw [HO.out]
      exact ⟨_, _, ⟨#[], w3.drawn⟩, rfl, Nat.le_refl _, by omega, by simp [ext], hI1⟩
  obtain ⟨B1, c1, y1, rfl, hc1, hc2, rfl, hJ1⟩ := hcut
  have hx := one0_len la
  have hB4 : Below W.heap.size W (ext w3 y1) := hB3.trans ((below_of_ext w3 y1).mono hB3.size)
  replace hI2 := Lib.hid (hI2.out.ext y1)
  replace hI3 := Lib.hid (hI3.out.ext y1)
  clear hI1 hB3
  generalize one0 xs = X at HV hx hc1 hJ1 ⊢
  generalize ext w3 y1 = w4 at hB4 hI2 hI3 hJ1 ⊢
  go_upto_if 54 with fail
  go_cut [7] (fun xv wx => ∃ (A : Option Addr) (c : Nat) (y : More), xv = .slice A (one0 ys).length c ∧ (one0 ys).length ≤ c ∧ c ≤ 30 ∧ wx = ext w4 y ∧ Hid (Ints wx A (one0 ys)))
  case first =>
    by_cases h : ys.length = 0
    · have ho : one0 ys = [0] := if_pos h
      have HO := Lib.hid ho
      clear ho
      go_wp2
      go_meet
      rw [HO.out]
      exact ⟨_, 1, _, rfl, by simp, by omega, ext_alloc_eq _ _, int_new _ 0 rfl⟩
    · have ho : one0 ys = ys := if_neg h
      have HO := Lib.hid ho
      clear ho
      go_wp2
      go_meet
      rw [HO.out]
      exact ⟨_, _, ⟨#[], w4.drawn⟩, rfl, Nat.le_refl _, by omega, by simp [ext], hI2⟩
  obtain ⟨B2, c2, y2, rfl, hc3, hc4, rfl, hJ2⟩ := hcut
  have hy := one0_len lb
  have hB5 : Below W.heap.size W (ext w4 y2) := hB4.trans ((below_of_ext w4 y2).mono hB4.size)
  replace hJ1 := Lib.hid (hJ1.out.ext y2)
  replace hI3 := Lib.hid (hI3.out.ext y2)
  clear hI2 hB4
  generalize one0 ys = Y at HV hy hc3 hJ2 ⊢
  generalize ext w4 y2 = w5 at hB5 hI3 hJ1 hJ2 ⊢
  by_cases h30 : X.length = 30
  · have hz : zs = X := by rw [HV.out, if_pos h30]
    subst hz
    have SI : Hid (∀ (w' : World) (A B : Option Addr) (c d : Nat), Ints w' A zs → Ints w' B zs → Calls Tryd.prog 13 #[.slice A 30 c, .slice B 30 d] w' (Gives w' (.bool true))) := Lib.hid (fun w' A B c d h1 h2 => by
      have := same_ints A B c d zs zs w' h1 h2 (by omega) (by omega)
      rw [h30] at this
      simpa using this)
    clear HV
    go_wp2_with (go_at_call 13; ((with_reducible refine (SI.out _ _ _ _ _ hI3.out hJ1.out).mono ?_); rintro _ _ hgets; obtain ⟨rfl, x5, rfl⟩ := hgets.get; clear hgets))
    go_returns
    exact ⟨rfl, hB5.trans ((below_of_ext w5 x5).mono hB5.size)⟩
  · have hz : zs = (X ++ Y).take (min 30 (X ++ Y).length) := by rw [HV.out, if_neg h30]
    have hle : (X ++ Y).length ≤ 60 := by rw [List.length_append]; omega
    have SI : Hid (∀ (w' : World) (A B : Option Addr) (c d : Nat) (L : List Int), L = X ++ Y → Ints w' A zs → Ints w' B L → Calls Tryd.prog 13 #[.slice A zs.length c, .slice B (min (L.length : Int) 30).toNat d] w' (Gives w' (.bool true))) := Lib.hid (fun w' A B c d L hL h1 h2 => by
      subst hL
      have e : (min ((X ++ Y).length : Int) 30).toNat = min 30 (X ++ Y).length := by omega
      have := same_ints A B c d zs ((X ++ Y).take (min 30 (X ++ Y).length)) w' h1 (h2.take _) (by omega) (by rw [List.length_take]; omega)
      rw [e]
      rw [hz] at this ⊢
      rw [List.length_take] at this ⊢
      rw [Nat.min_eq_left (by omega : min 30 (X ++ Y).length ≤ (X ++ Y).length)] at this ⊢
      simpa using this)
    clear HV hz
    have h30b : ((X.length : Int) == 30) = false := by simp; omega
    go_wp2_with (first
      | (at_builtin
         refine append_rd (U := w5) (.tmp 70) (.tmp 71) _ 3 _ 8 rfl rfl Tryd.underlying23 int_info rfl (by omega) (encI_len _) (encI_one _) [] X _ B1 c1 rfl rfl ?_ (Own.new (encI_len _) (by simp) rfl #[] rfl (Nat.le_refl _) (by simp [maxLen])) (hJ1.out.alloc _) (by simp [maxLen]; omega) (by simp; omega) ?_
         · (repeat' (first | (with_reducible exact Below.refl _ _) | (with_reducible refine Below.alloc ?_ ?_ _) | (with_reducible refine below_ext ?_ ?_ _) | (with_reducible refine Below.drew ?_) | (with_reducible refine below_drewN ?_ _) | (with_reducible refine Below.setCell ?_ ?_ _) | go_size | (simp only [go_sem]; omega) | (simp [go_sem]; done) | (simp [go_sem]; omega)))
         intro A5 c5 x5 zs5 hz5 hO5
         rw [List.nil_append] at hz5
         replace hz5 := hz5.symm
         subst hz5
         replace hO5 := Lib.hid hO5)
      | (at_builtin
         refine append_rd (U := w5) (.tmp 72) (.tmp 73) _ 3 _ 8 rfl rfl Tryd.underlying23 int_info rfl (by omega) (encI_len _) (encI_one _) X Y _ B2 c2 rfl rfl ?_ hO5.out (hJ2.out.ext _) (by simp only [maxLen]; omega) (by omega) ?_
         · (repeat' (first | (with_reducible exact Below.refl _ _) | (with_reducible refine Below.alloc ?_ ?_ _) | (with_reducible refine below_ext ?_ ?_ _) | (with_reducible refine Below.drew ?_) | (with_reducible refine below_drewN ?_ _) | (with_reducible refine Below.setCell ?_ ?_ _) | go_size | (simp only [go_sem]; omega) | (simp [go_sem]; done) | (simp [go_sem]; omega)))
         intro A6 c6 x6 zs6 hz6 hO6
         have hO6c := hO6.caps
         have hO6d := hO6c.1
         have hO6e := hO6c.2
         clear hO6c
         replace hO6 := Lib.hid hO6
         replace hz6 := Lib.hid hz6)
      | (go_at_call 13; ((with_reducible refine (SI.out _ _ _ _ _ _ hz6.out (hI3.out.ext _) (hO6.out.rd (encI_len _))).mono ?_); rintro _ _ hgets; obtain ⟨rfl, x7, rfl⟩ := hgets.get; clear hgets)))
    go_returns
    exact ⟨rfl, hB5.trans (((below_of_ext w5 x6).trans ((below_of_ext (ext w5 x6) x7).mono (by simp))).mono hB5.size)⟩
theorem ParamFields_laid (os : Os) : laidMet Tryd.prog Rows.paramFieldsRow.laid ((laidWorld os).forCall (fun _ _ => 0) ⟨#[], #[.string ByteArray.empty, .string ByteArray.empty], []⟩).memory :=
  laidMet_of_run' 8 (by kernel_rfl) (by kernel_rfl)
set_option maxRecDepth 100000 in
theorem ParamFields_lifted (os : Os) (started : os.Started) (H : Type) (enc : TypeId × Value → H) (F : Stop.Interp) :
    ReturnsInHanded {} Tryd.checked os 6 .any ((OpenSpec.ofChange Rows.paramFieldsSpec).preRow enc Tryd.prog Tryd.f6 Rows.paramFieldsRow.domain false Rows.paramFieldsRow.laid) (((OpenSpec.ofChange Rows.paramFieldsSpec).at F).post enc Tryd.prog Tryd.f6 false true false false) := by
  obtain ⟨places, hx⟩ : ∃ places, DataW.whole enc Tryd.prog ((laidWorld os).forCall (fun _ _ => 0) ⟨#[], #[.string ByteArray.empty, .string ByteArray.empty], []⟩).memory Tryd.f6.params.toList Rows.paramFieldsSpec.vars false #[.string ByteArray.empty, .string ByteArray.empty].toList 8 = some ([.lit (.string []), .lit (.string [])], [], places) := ⟨[], by kernel_rfl⟩
  refine returnsInHanded_of_row (C := Tryd.checked) (s := OpenSpec.ofChange Rows.paramFieldsSpec) own started (by kernel_rfl) Tryd.func6
    (witness_row_at (enc := enc) (C := Tryd.checked) false (laidWorld os) #[.string ByteArray.empty, .string ByteArray.empty] rfl (by kernel_rfl) (by kernel_rfl) (by kernel_rfl)
      (OpenSpec.preRow_of_cond 8 hx (by kernel_rfl) (fun k hk => by cases hk) (by kernel_rfl) (ParamFields_laid os))) ?_
  intro W base args ds gs before hval0 hW _ _ hsz0 hL _ _
  have hval : ∀ (j : Nat) t v, Tryd.f6.params[j]? = some t → args[j]? = some v → Value.okWide Tryd.prog W .any base t v := hval0
  have hsz : (DataW.weightsEach Tryd.prog (Tryd.f6.params.toList ++ Rows.paramFieldsSpec.plain.varTypes Tryd.prog) (ds ++ gs)).all (· ≤ reachBytes) = true := hsz0
  have hW' := hW
  obtain ⟨p, q, hA0, hV, rfl, hfz, hnd⟩ := hW
  have hA : DataW.TrodAll enc Tryd.prog W 0 (fun _ => true) true Tryd.f6.params.toList args.toList ds p := hA0
  rw [Tryd.params6] at hA hval hsz
  obtain ⟨v0, vs0, d0, ds0, p0, q0, hargs, rfl, rfl, h0, r0⟩ := trodAll_cons hA
  obtain ⟨v1, vs1, d1, ds1, p1, q1, rfl, rfl, rfl, h1, r1⟩ := trodAll_cons r0
  obtain ⟨rfl, rfl, rfl⟩ := trodAll_nil r1
  obtain rfl : args = #[v0, v1] := by cases args; simp_all
  obtain ⟨rfl, rfl⟩ := trodVars_none hV
  have htab := laid_table hL
  clear hA0 hval0 hsz0
  obtain ⟨a0, rfl, rfl, -, w0⟩ := Go.ChangeMaps.open_string Tryd.underlying9 (hval 0 9 v0 rfl rfl) h0
  obtain ⟨a1, rfl, rfl, -, w1⟩ := Go.ChangeMaps.open_string Tryd.underlying9 (hval 1 9 v1 rfl rfl) h1
  refine (ParamFields_walk W htab a0 w0 a1 w1).mono fun e W' ⟨he, hb⟩ => ⟨_, he, ?_⟩
  exact law_post laidOut rfl (by kernel_rfl) (by kernel_rfl) Tryd.underlying4 hW' rfl hb


theorem ParamFields_said : Rows.ParamFieldsSaid :=
  OpenClaim.holds_of_cond 6 Tryd.f6 rfl rfl rfl rfl rfl rfl rfl ⟨rfl, rfl, rfl, rfl, rfl⟩ rfl rfl rfl rfl rfl (by kernel_rfl) Tryd.func6 (by kernel_rfl)
    (of_decide_eq_true (by kernel_rfl)) (by unfold Func.isWrapper; first | (rw [if_pos (by decide +kernel)]; kernel_rfl) | (rw [if_neg (by decide +kernel)]; exact ⟨rfl, rfl⟩))
    (fun os started H enc _ F => by rw [OpenClaim.pre_eq_preRow]; exact ParamFields_lifted os started H enc F)
theorem ParamFields_plain (f : FuncId) (fn : Func) (hf : Tryd.pinned.checked.prog.funcNamed "phosphor/phosphorlaw04.ParamFields" = some f) (hfn : Tryd.pinned.checked.prog.funcs[f]? = some fn) :
    false = Tryd.pinned.checked.prog.looks [] ∧ ∀ (j : Nat) t, fn.params[j]? = some t → Tryd.pinned.checked.prog.wantsStandIn t = false := by
  obtain rfl : f = 6 := Option.some.inj ((show Tryd.prog.funcNamed "phosphor/phosphorlaw04.ParamFields" = some 6 by kernel_rfl).symm.trans hf) |>.symm
  obtain rfl : fn = Tryd.f6 := (Option.some.inj (Tryd.func6.symm.trans hfn)).symm
  refine ⟨by kernel_rfl, fun j t ht => ?_⟩
  have hall : ∀ x ∈ Tryd.f6.params.toList, Tryd.prog.wantsStandIn x = false := by
    rw [Tryd.params6]
    simp only [List.mem_cons, List.not_mem_nil, or_false, forall_eq_or_imp, forall_eq]
    exact ⟨by kernel_rfl, by kernel_rfl⟩
  exact hall t (by simpa using Array.mem_of_getElem? ht)
theorem ParamFields_card : Rows.ParamFieldsCardSaid :=
  Claim7.holds_tied_plain_at .later [] _ _ _ _ ParamFields_said (fun _ h => by cases h) (by kernel_rfl) (fun _ h => by cases h) paramFields_row_tie rfl ⟨rfl, rfl⟩ (by kernel_rfl) rfl ParamFields_plain (by kernel_rfl)
#print axioms ParamFields_card

end Go.Proofs.YtphkfffphlembaaDoor
