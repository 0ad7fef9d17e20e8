/- Lines: something is done with every cell of a span.  -/
import Derived.Test.YtignkkejkknddaaGreatLineB
import Derived.Test.YtignkkejkknddaaGreatUpd
import Derived.Test.YtignkkejkknddaaGreatRend2
namespace Go.Proofs.YtignkkejkknddaaGreat
open Go.RowKit
set_option linter.unusedVariables false
set_option linter.unusedSimpArgs false

/-- F is done with every cell of a span -/
def eachR (xs : List Cl) (f t : Int) (F : Cl → Cl) : List Cl := updR xs (fun i => inS xs.length i f t) (fun _ => F) xs.length
theorem eachR_len (xs : List Cl) (f t : Int) (F : Cl → Cl) : (eachR xs f t F).length = xs.length := updR_len _ _ _ _
abbrev cellV (y : Cl) : Value := .agg #[.int .i32 y.g, .int .u8 y.r, .bool y.k]
theorem inS_off {n : Nat} {f t : Int} {i : Nat} (hi : i < n) : inS n i f t = true ↔ offN n f t ≤ i ∧ (i : Int) < offN n f t + spanN n f t := by
  unfold inS offN
  by_cases h : spanN n f t = 0
  · rw [if_pos h]
    simp only [decide_eq_true_eq]
    unfold spanN at *
    omega
  · rw [if_neg h]
    simp only [decide_eq_true_eq]
    unfold spanN spanA at *
    omega
set_option maxRecDepth 100000 in
set_option maxHeartbeats 4000000 in
theorem each_l (A : Option Addr) (C : Nat) (sz : Int) (xs : List Cl) (f t : Int) (k : Nat) (first cap : Array Value) (F : Cl → Cl) (w : World) (rd : Rd encC 3 w A xs) (hC : A = none → C = 0) (hm : xs.length ≤ 1000000) (hf : f ≤ 9223372036854775807)
    (hk : ∀ args w, (callFunc k args).run Tryz.prog w = .ok (.enter k args) w)
    (hF : ∀ y, y ∈ xs → ∀ w', Below w.heap.size w w' → Calls Tryz.prog k (first ++ #[cellV y] ++ cap) w' (Gives w' (cellV (F y)))) :
    Calls Tryz.prog 124 #[lineV A xs.length C sz, .int .i64 f, .int .i64 t, .func (.func k) first cap] w (NewL w (eachR xs f t F) sz) := by
  have PA := Lib.hid (fun w' (h : Rd encC 3 w' A xs) => part_l A C sz xs f t w' h hC hm hf)
  have X := Lib.hid rd
  have HO := Lib.hid (offN_le xs.length f t (by omega))
  have HF := Lib.hid hF
  clear rd hC hF
  go_enter Tryz.func124, Tryz.ntmps124
  go_wp2_with (first
    | (go_at_call 114
       (with_reducible refine (PA.out _ (by repeat (first | exact X.out | exact X | refine Rd.ext ?_ _ | refine Rd.alloc ?_ _ | refine Rd.drew ?_))).mono ?_)
       intro _ _ hp
       obtain ⟨A1, c1, x1, a, n, kc, rfl, hO1, hn, rfl, hr⟩ := PartL.at hp
       clear hp
       have hO := Lib.hid hO1
       clear hO1
       replace hr := Lib.hid hr
       replace hn := Lib.hid hn
       have hg1 : ∀ b, A1 = some ⟨b, 0, none⟩ → w.heap.size + 2 ≤ b ∧ b < w.heap.size + 2 + x1.sz := by
         intro b hb
         rcases hO.out.2 with ⟨h1, _⟩ | ⟨g', cap', cur, hv, hB, hgg, _⟩
         · rw [hb] at h1; cases h1
         · injection hv with e1 _ _
           rw [hb] at e1
           injection e1 with e1
           injection e1 with e1
           subst e1
           have := (Array.getElem?_eq_some_iff.1 hgg).1
           simp [go_sem] at hB this
           omega
       replace hg1 := Lib.hid hg1))
  have HI := Lib.hid (fun (j : Nat) (hj : j < n) => show inS xs.length (offN xs.length f t + j : Nat) f t = true from (inS_off (by have h1 := HO.out; have h2 := hn.out; omega)).2 ⟨by omega, by have h1 := HO.out; have h2 := hn.out; omega⟩)
  have HZ := Lib.hid (show updR xs (fun i => inS xs.length i f t) (fun _ => F) (offN xs.length f t) = xs from updR_id (fun i hi h1 h2 => by have := (inS_off hi).1 h2; omega))
  have HE := Lib.hid (show updR xs (fun i => inS xs.length i f t) (fun _ => F) (offN xs.length f t + n) = eachR xs f t F from updR_eq (fun i hi => by
    have h2 := hn.out
    have h3 := HO.out
    by_cases h : inS xs.length i f t = true
    · have := (inS_off hi).1 h
      rw [if_pos ⟨by omega, h⟩, if_pos ⟨hi, h⟩]
    · rw [if_neg (fun q => h q.2), if_neg (fun q => h q.2)]))
  have HL := Lib.hid (show offN xs.length f t + n ≤ xs.length by have h1 := HO.out; have h2 := hn.out; omega)
  generalize offN xs.length f t = o at hr HI HZ HE HL
  have hW2 : ∃ W2, W2 = (w.alloc (.cells #[.slice A xs.length C, .int .i64 sz] 67)).alloc (.cells #[.slice none 0 0, .int .i64 0] 67) ∧ Hid (W2.heap.size = w.heap.size + 2) ∧ Below w.heap.size w W2 := ⟨_, rfl, by exact Lib.hid (by simp [go_sem]), by (repeat' (first | (with_reducible exact Below.refl _ _) | (with_reducible refine Below.alloc ?_ ?_ _) | (with_reducible refine below_ext ?_ ?_ _) | (with_reducible refine Below.drew ?_) | (with_reducible refine below_drewN ?_ _) | (with_reducible refine Below.setCell ?_ ?_ _) | go_size | (simp only [go_sem]; omega) | (simp [go_sem]; done) | (simp [go_sem]; omega)))⟩
  obtain ⟨W2, hW, hW3, hW4⟩ := hW2
  have hO' : Own encC 3 60 W2.heap.size ((ext W2 x1).alloc (.cells #[.slice A1 xs.length c1, .int .i64 sz] 67)) (.slice A1 xs.length c1) xs := by
    rw [hW3.out, hW]
    simpa [go_sem] using hO.out.alloc _
  rw [← hW]
  have h0 : ((ext W2 x1).alloc (.cells #[.slice A1 xs.length c1, .int .i64 sz] 67)).cell? ⟨w.heap.size + 1 + 1 + x1.sz, 0, none⟩ = some (.slice A1 xs.length c1) := by rw [hW]; simp [go_sem]
  have h1 : ((ext W2 x1).alloc (.cells #[.slice A1 xs.length c1, .int .i64 sz] 67)).cell? ⟨w.heap.size + 1 + 1 + x1.sz, 1, none⟩ = some (.int .i64 sz) := by rw [hW]; simp [go_sem]
  have h2 : w.heap.size + 1 + 1 + x1.sz < ((ext W2 x1).alloc (.cells #[.slice A1 xs.length c1, .int .i64 sz] 67)).heap.size := by rw [hW]; simp [go_sem]
  have r0 : W2.cell? ⟨w.heap.size + 1, 0, none⟩ = some (.slice none 0 0) := by rw [hW]; simp [go_sem]
  have r1 : W2.cell? ⟨w.heap.size + 1, 1, none⟩ = some (.int .i64 0) := by rw [hW]; simp [go_sem]
  have r2 : ∀ i, W2.frozen? ⟨w.heap.size + 1, i, none⟩ = false := by intro i; rw [hW]; simp [go_sem]
  obtain ⟨x2, e2⟩ := ext_of (show Below W2.heap.size W2 ((ext W2 x1).alloc (.cells #[.slice A1 xs.length c1, .int .i64 sz] 67)) by (repeat' (first | (with_reducible exact Below.refl _ _) | (with_reducible refine Below.alloc ?_ ?_ _) | (with_reducible refine below_ext ?_ ?_ _) | (with_reducible refine Below.drew ?_) | (with_reducible refine below_drewN ?_ _) | (with_reducible refine Below.setCell ?_ ?_ _) | go_size | (simp only [go_sem]; omega) | (simp [go_sem]; done) | (simp [go_sem]; omega))))
  rw [e2] at h0 h1 h2 hO' ⊢
  have r0 := Lib.hid r0
  have r1 := Lib.hid r1
  have r2 := Lib.hid r2
  have hO := Lib.hid hO'
  have h0 := Lib.hid h0
  have h1 := Lib.hid h1
  clear hW e2 hO'
  go_loopw [22] (fun iv wr => ∃ (j : Nat) (x : More), j ≤ n ∧ iv = .int .i64 j ∧ wr = ext W2 x ∧ w.heap.size + 1 + 1 + x1.sz < (ext W2 x).heap.size ∧ Hid ((ext W2 x).cell? ⟨w.heap.size + 1 + 1 + x1.sz, 0, none⟩ = some (.slice A1 xs.length c1)) ∧ Hid ((ext W2 x).cell? ⟨w.heap.size + 1 + 1 + x1.sz, 1, none⟩ = some (.int .i64 sz)) ∧
    Hid (Own encC 3 60 W2.heap.size (ext W2 x) (.slice A1 xs.length c1) (updR xs (fun i => inS xs.length i f t) (fun _ => F) (o + j)))) (fun iv _ => n - (intOf iv).toNat)
  case atStart => exact ⟨0, x2, by omega, rfl, rfl, h2, h0, h1, by rw [Nat.add_zero, HZ.out]; exact hO⟩
  case round =>
    obtain ⟨j, x, hj, rfl, rfl, h2, h0, h1, hO⟩ := hrel
    by_cases hlt : j < n
    · obtain ⟨g, rfl, rfl⟩ := hr.out (by omega)
      have hgb := hg1.out g rfl
      have hl := HL.out
      obtain ⟨g', eg, hB1, hlt2, d0, d1, d2, hfz⟩ := own_at hO.out (o + j) (by rw [updR_len]; omega)
      injection eg with eg
      injection eg with eg
      subst eg
      rw [updR_at _ _ _ _ (by omega)] at d0 d1 d2
      rw [Nat.add_mul] at d0 d1 d2
      have hy := Lib.hid (show xs[o + j]? = some xs[o + j] by simp)
      generalize xs[o + j] = y at d0 d1 d2 hy
      obtain ⟨yg, yr, yk⟩ := y
      simp only at d0 d1 d2
      go_wp2
      refine (HF.out ⟨yg, yr, yk⟩ (List.mem_of_getElem? hy.out) _ ?_).mono ?_
      · exact hW4.trans (((below_of_ext W2 x).alloc (by simp [go_sem]) _).mono (by have := hW3.out; omega))
      rintro _ _ hgets
      obtain ⟨rfl, x3, rfl⟩ := hgets.get
      clear hgets
      have hO2 : Own encC 3 60 W2.heap.size (ext ((ext W2 x).alloc (.cells #[.int .i32 yg, .int .u8 yr, .bool yk] 60)) x3) (.slice (some ⟨g, 0, none⟩) xs.length c1) _ := (hO.out.alloc _).ext x3
      have hb3 : Below (ext W2 x).heap.size (ext W2 x) (ext ((ext W2 x).alloc (.cells #[.int .i32 yg, .int .u8 yr, .bool yk] 60)) x3) := by (repeat' (first | (with_reducible exact Below.refl _ _) | (with_reducible refine Below.alloc ?_ ?_ _) | (with_reducible refine below_ext ?_ ?_ _) | (with_reducible refine Below.drew ?_) | (with_reducible refine below_drewN ?_ _) | (with_reducible refine Below.setCell ?_ ?_ _) | go_size | (simp only [go_sem]; omega) | (simp [go_sem]; done) | (simp [go_sem]; omega)))
      have hb4 : Below W2.heap.size W2 (ext ((ext W2 x).alloc (.cells #[.int .i32 yg, .int .u8 yr, .bool yk] 60)) x3) := by (repeat' (first | (with_reducible exact Below.refl _ _) | (with_reducible refine Below.alloc ?_ ?_ _) | (with_reducible refine below_ext ?_ ?_ _) | (with_reducible refine Below.drew ?_) | (with_reducible refine below_drewN ?_ _) | (with_reducible refine Below.setCell ?_ ?_ _) | go_size | (simp only [go_sem]; omega) | (simp [go_sem]; done) | (simp [go_sem]; omega)))
      have h0' := (hb3.cell (p := ⟨_, 0, none⟩) h2).trans h0.out
      have h1' := (hb3.cell (p := ⟨_, 1, none⟩) h2).trans h1.out
      have d0' := (hb3.cell (p := ⟨g, _, none⟩) hlt2).trans d0
      have d1' := (hb3.cell (p := ⟨g, _, none⟩) hlt2).trans d1
      have d2' := (hb3.cell (p := ⟨g, _, none⟩) hlt2).trans d2
      have hz' := fun i => (hb3.frozen (p := ⟨g, i, none⟩) hlt2).trans (hfz i)
      have h2' := Nat.lt_of_lt_of_le h2 hb3.size
      clear d0 d1 d2 hfz h0 h1 h2 hO hlt2 hb3
      generalize ext ((ext W2 x).alloc (.cells #[.int .i32 yg, .int .u8 yr, .bool yk] 60)) x3 = V at *
      have hO3 := own_set3 hO2 (o + j) (by rw [updR_len]; omega) (F ⟨yg, yr, yk⟩)
      have hO2 := Lib.hid hO2
      generalize hFy : F ⟨yg, yr, yk⟩ = z at hO3 ⊢
      obtain ⟨zg, zr, zk⟩ := z
      have hFy := Lib.hid hFy
      simp only at hO3 ⊢
      have hO3 := Lib.hid hO3
      have h0 := Lib.hid h0'
      have h1 := Lib.hid h1'
      have h2 := Lib.hid h2'
      clear h0' h1' h2'
      go_wp2
      have hHg : w.heap.size + 1 + 1 + x1.sz ≠ g := by omega
      have c0 : ∀ i, (((V.setCell ⟨g, o * 3 + j * 3, none⟩ (.int .i32 zg)).setCell ⟨g, o * 3 + j * 3 + 1, none⟩ (.int .u8 zr)).setCell ⟨g, o * 3 + j * 3 + 2, none⟩ (.bool zk)).cell? ⟨w.heap.size + 1 + 1 + x1.sz, i, none⟩ = V.cell? ⟨w.heap.size + 1 + 1 + x1.sz, i, none⟩ := fun i =>
        (World.cell?_setCell_other _ _ _ _ (by simp [hHg])).trans ((World.cell?_setCell_other _ _ _ _ (by simp [hHg])).trans (World.cell?_setCell_other _ _ _ _ (by simp [hHg])))
      have b5 : Below W2.heap.size W2 (((V.setCell ⟨g, o * 3 + j * 3, none⟩ (.int .i32 zg)).setCell ⟨g, o * 3 + j * 3 + 1, none⟩ (.int .u8 zr)).setCell ⟨g, o * 3 + j * 3 + 2, none⟩ (.bool zk)) := ((hb4.setCell (by simpa using hB1) _).setCell (by simpa using hB1) _).setCell (by simpa using hB1) _
      have z0 := (c0 0).trans h0.out
      have z1 := (c0 1).trans h1.out
      have z2 : w.heap.size + 1 + 1 + x1.sz < (((V.setCell ⟨g, o * 3 + j * 3, none⟩ (.int .i32 zg)).setCell ⟨g, o * 3 + j * 3 + 1, none⟩ (.int .u8 zr)).setCell ⟨g, o * 3 + j * 3 + 2, none⟩ (.bool zk)).heap.size := by simpa using h2.out
      have z3 := hO3.out
      rw [Nat.add_mul] at z3
      obtain ⟨x6, e6⟩ := ext_of b5
      rw [e6] at z0 z1 z2 z3 ⊢
      refine ⟨⟨j + 1, x6, by omega, by go_num, rfl, z2, z0, z1, ?_⟩, by simp [intOf]; omega⟩
      have hlo : o + j < xs.length := by omega
      have e7 : updR xs (fun i => inS xs.length i f t) (fun _ => F) (o + (j + 1)) = (updR xs (fun i => inS xs.length i f t) (fun _ => F) (o + j)).set (o + j) ⟨zg, zr, zk⟩ := by
        rw [show o + (j + 1) = o + j + 1 from rfl, updR_yes _ _ _ _ (HI.out j hlt) hlo]
        rw [show xs[o + j] = ⟨yg, yr, yk⟩ from Option.some.inj ((List.getElem?_eq_getElem hlo).symm.trans hy.out), hFy.out]
      rw [e7]
      exact Lib.hid z3
    · obtain rfl : j = n := by omega
      have hO := hO.out
      rw [HE.out] at hO
      have hHl := h2
      have h0 := h0.out
      have h1 := h1.out
      have r0 := r0.out
      have r1 := r1.out
      have r2 := r2.out
      have hS : w.heap.size + 1 < W2.heap.size := by rw [hW3.out]; omega
      have hO := Lib.hid hO
      go_wp2
      have sc : ∀ b (U : Value), b < 2 → (ext W2 x).setCell ⟨w.heap.size + 1, b, none⟩ U = ext (W2.setCell ⟨w.heap.size + 1, b, none⟩ U) x := fun b U _ => setCell_ext W2 x _ _ U hS
      have t0 : (ext ((W2.setCell ⟨w.heap.size + 1, 0, none⟩ (.slice A1 xs.length c1)).setCell ⟨w.heap.size + 1, 1, none⟩ (.int .i64 sz)) x).cell? ⟨w.heap.size + 1, 0, none⟩ = some (.slice A1 xs.length c1) := by
        rw [cell_ext _ _ _ _ (by simpa using hS)]
        exact (World.cell?_setCell_other _ _ _ _ (by simp)).trans (World.cell?_setCell_same _ _ _ r0)
      have t1 : (ext ((W2.setCell ⟨w.heap.size + 1, 0, none⟩ (.slice A1 xs.length c1)).setCell ⟨w.heap.size + 1, 1, none⟩ (.int .i64 sz)) x).cell? ⟨w.heap.size + 1, 1, none⟩ = some (.int .i64 sz) := by
        rw [cell_ext _ _ _ _ (by simpa using hS)]
        exact World.cell?_setCell_same _ _ _ ((World.cell?_setCell_other _ _ _ _ (by simp)).trans r1)
      have t2 : Below w.heap.size w (ext ((W2.setCell ⟨w.heap.size + 1, 0, none⟩ (.slice A1 xs.length c1)).setCell ⟨w.heap.size + 1, 1, none⟩ (.int .i64 sz)) x) := below_ext ((hW4.setCell (by simp) _).setCell (by simp) _) (by simp; omega) x
      have t3 : Own encC 3 60 W2.heap.size (ext ((W2.setCell ⟨w.heap.size + 1, 0, none⟩ (.slice A1 xs.length c1)).setCell ⟨w.heap.size + 1, 1, none⟩ (.int .i64 sz)) x) (.slice A1 xs.length c1) (eachR xs f t F) := by
        rw [← setCell_ext _ x _ _ _ (by simpa using hS), ← setCell_ext _ x _ _ _ hS]
        exact own_set_far (own_set_far hO.out _ _ hS _) _ _ hS _
      generalize ext ((W2.setCell ⟨w.heap.size + 1, 0, none⟩ (.slice A1 xs.length c1)).setCell ⟨w.heap.size + 1, 1, none⟩ (.int .i64 sz)) x = W3 at t0 t1 t2 t3 ⊢
      clear sc r0 r1 r2
      simp [bodyPost, go_sem, t0, t1]
      have t4 := NewL.at (B := W2.heap.size) (sz := sz) (V := lineV A1 xs.length c1 sz) rfl (eachR_len xs f t F).symm t2 (by rw [hW3.out]; omega) (by rw [eachR_len]; exact t3)
      exact ⟨_, by simp [results, Tryz.f124, go_sem, t0, t1] <;> rfl, t4⟩
end Go.Proofs.YtignkkejkknddaaGreat
/- Lines: what is done with the cells of a span.  -/
namespace Go.Proofs.YtignkkejkknddaaGreat
open Go.RowKit
set_option linter.unusedVariables false
set_option linter.unusedSimpArgs false

theorem put_d (c y : Cl) (w : World) : Calls Tryz.prog 135 #[cellV c, cellV y] w (Gives w (cellV c)) := by
  go_enter Tryz.func135, Tryz.ntmps135
  go_wp2
  go_returns
  exact ⟨rfl, by (repeat' (first | (with_reducible exact Below.refl _ _) | (with_reducible refine Below.alloc ?_ ?_ _) | (with_reducible refine below_ext ?_ ?_ _) | (with_reducible refine Below.drew ?_) | (with_reducible refine below_drewN ?_ _) | (with_reducible refine Below.setCell ?_ ?_ _) | go_size | (simp only [go_sem]; omega) | (simp [go_sem]; done) | (simp [go_sem]; omega)))⟩
@[go_sem] theorem cell_f0 (a b c : Value) (w : World) : (Instr.field 60 (.agg #[a, b, c]) 0).run Tryz.prog w = .ok a w := by kernel_rfl
def cleanC (y : Cl) : Cl := if y.k then y else ⟨32, y.r, y.k⟩
set_option maxRecDepth 100000 in
theorem clean_d (y : Cl) (w : World) : Calls Tryz.prog 125 #[cellV y] w (Gives w (cellV (cleanC y))) := by
  obtain ⟨g, r, k⟩ := y
  cases k
  · go_enter Tryz.func125, Tryz.ntmps125
    go_wp2_with (go_at_call 64; ((with_reducible refine (erased_c _).mono ?_); rintro _ _ hgets; obtain ⟨rfl, x1, rfl⟩ := hgets.get; clear hgets))
    go_returns
    exact ⟨rfl, by (repeat' (first | (with_reducible exact Below.refl _ _) | (with_reducible refine Below.alloc ?_ ?_ _) | (with_reducible refine below_ext ?_ ?_ _) | (with_reducible refine Below.drew ?_) | (with_reducible refine below_drewN ?_ _) | (with_reducible refine Below.setCell ?_ ?_ _) | go_size | (simp only [go_sem]; omega) | (simp [go_sem]; done) | (simp [go_sem]; omega)))⟩
  · go_enter Tryz.func125, Tryz.ntmps125
    go_wp2_with (go_at_call 64; ((with_reducible refine (erased_c _).mono ?_); rintro _ _ hgets; obtain ⟨rfl, x1, rfl⟩ := hgets.get; clear hgets))
    go_returns
    exact ⟨rfl, by (repeat' (first | (with_reducible exact Below.refl _ _) | (with_reducible refine Below.alloc ?_ ?_ _) | (with_reducible refine below_ext ?_ ?_ _) | (with_reducible refine Below.drew ?_) | (with_reducible refine below_drewN ?_ _) | (with_reducible refine Below.setCell ?_ ?_ _) | go_size | (simp only [go_sem]; omega) | (simp [go_sem]; done) | (simp [go_sem]; omega)))⟩
def applyC (p : List Int) (y : Cl) : Cl := ⟨y.g, (foldR oneF (Fl.of y.r) p).num, y.k⟩
def flipC (p : List Int) (y : Cl) : Cl := ⟨y.g, (foldR turnF (Fl.of y.r) p).num, y.k⟩
set_option maxRecDepth 100000 in
theorem apply_d (a : Option Addr) (c : Nat) (p : List Int) (y : Cl) (w : World) (hy : y.ok) (hx : Ints w a p) (hm : p.length ≤ 9223372036854775807) : Calls Tryz.prog 136 #[.slice a p.length c, cellV y] w (Gives w (cellV (applyC p y))) := by
  obtain ⟨g, r, k⟩ := y
  have E := Lib.hid (fun w' h => apply_c r hy.2.1 hy.2.2 a c p w' h hm)
  have X := Lib.hid hx
  clear hx hy
  unfold applyC
  go_enter Tryz.func136, Tryz.ntmps136
  go_wp2_with (go_at_call 140; ((with_reducible refine (E.out _ (by repeat (first | exact X.out | exact X | refine Rd.ext ?_ _ | refine Rd.alloc ?_ _ | refine Rd.drew ?_))).mono ?_); rintro _ _ ⟨rfl, rfl⟩))
  go_returns
  exact ⟨rfl, by (repeat' (first | (with_reducible exact Below.refl _ _) | (with_reducible refine Below.alloc ?_ ?_ _) | (with_reducible refine below_ext ?_ ?_ _) | (with_reducible refine Below.drew ?_) | (with_reducible refine below_drewN ?_ _) | (with_reducible refine Below.setCell ?_ ?_ _) | go_size | (simp only [go_sem]; omega) | (simp [go_sem]; done) | (simp [go_sem]; omega)))⟩
set_option maxRecDepth 100000 in
theorem flip_d (a : Option Addr) (c : Nat) (p : List Int) (y : Cl) (w : World) (hy : y.ok) (hx : Ints w a p) (hm : p.length ≤ 9223372036854775807) : Calls Tryz.prog 137 #[.slice a p.length c, cellV y] w (Gives w (cellV (flipC p y))) := by
  obtain ⟨g, r, k⟩ := y
  have E := Lib.hid (fun w' h => flip_c r hy.2.1 hy.2.2 a c p w' h hm)
  have X := Lib.hid hx
  clear hx hy
  unfold flipC
  go_enter Tryz.func137, Tryz.ntmps137
  go_wp2_with (go_at_call 141; ((with_reducible refine (E.out _ (by repeat (first | exact X.out | exact X | refine Rd.ext ?_ _ | refine Rd.alloc ?_ _ | refine Rd.drew ?_))).mono ?_); rintro _ _ ⟨rfl, rfl⟩))
  go_returns
  exact ⟨rfl, by (repeat' (first | (with_reducible exact Below.refl _ _) | (with_reducible refine Below.alloc ?_ ?_ _) | (with_reducible refine below_ext ?_ ?_ _) | (with_reducible refine Below.drew ?_) | (with_reducible refine below_drewN ?_ _) | (with_reducible refine Below.setCell ?_ ?_ _) | go_size | (simp only [go_sem]; omega) | (simp [go_sem]; done) | (simp [go_sem]; omega)))⟩
end Go.Proofs.YtignkkejkknddaaGreat
/- Lines: filled, erased, cleaned, changed, turned over, kept.  -/
namespace Go.Proofs.YtignkkejkknddaaGreat
open Go.RowKit
set_option linter.unusedVariables false
set_option linter.unusedSimpArgs false

theorem mk_func (fn : Fn) (first cap : Array Value) (w : World) : (Instr.makeFunc fn first cap).run Tryz.prog w = .ok (.func fn first cap) w := rfl
theorem NewL.swap {w w1 : World} {A : Option Addr} {c : Nat} {xs : List Cl} {sz : Int} {o o' : Obj} {x : More} (hb : Below w.heap.size w w1) (h : Own encC 3 60 (w1.alloc o).heap.size (ext (w1.alloc o) x) (.slice A xs.length c) xs) :
    NewL w xs sz (.returned (lineV A xs.length c sz)) (ext (w1.alloc o') x) := by
  refine NewL.of (B := w1.heap.size + 1) (below_ext (hb.alloc hb.size _) (by have := hb.size; simp; omega) x) (by have := hb.size; omega) (own_swap (o := o) (by simpa using h))
set_option maxRecDepth 100000 in
set_option maxHeartbeats 4000000 in
theorem fill_l (A : Option Addr) (C : Nat) (sz : Int) (xs : List Cl) (f t : Int) (c : Cl) (w : World) (rd : Rd encC 3 w A xs) (hC : A = none → C = 0) (hm : xs.length ≤ 1000000) (hf : f ≤ 9223372036854775807) :
    Calls Tryz.prog 123 #[lineV A xs.length C sz, .int .i64 f, .int .i64 t, cellV c] w (NewL w (eachR xs f t fun _ => c) sz) := by
  have E := Lib.hid (fun w' (h : Rd encC 3 w' A xs) => each_l A C sz xs f t 135 #[cellV c] #[] (fun _ => c) w' h hC hm hf (enters_of Tryz.func135 (by kernel_rfl) rfl) (fun y _ w'' _ => by
    rw [show (#[cellV c] ++ #[cellV y] ++ #[] : Array Value) = #[cellV c, cellV y] from rfl]; exact put_d c y w''))
  have X := Lib.hid rd
  have hmf := mk_func
  have hl := eachR_len xs f t fun _ => c
  generalize eachR xs f t (fun _ => c) = R at E hl ⊢
  replace hl := Lib.hid hl
  clear rd hC
  obtain ⟨cg, cr, ck⟩ := c
  go_enter Tryz.func123, Tryz.ntmps123
  go_wp2_with (first
    | (go_at_call 124
       (with_reducible refine (E.out _ (by repeat (first | exact X.out | exact X | refine Rd.ext ?_ _ | refine Rd.alloc ?_ _ | refine Rd.drew ?_))).mono ?_)
       rintro _ _ ⟨A1, c1, x1, rfl, rfl, hO1⟩
       have hO := Lib.hid hO1
       clear hO1))
  go_returns
  refine NewL.swap ?_ hO.out
  (repeat' (first | (with_reducible exact Below.refl _ _) | (with_reducible refine Below.alloc ?_ ?_ _) | (with_reducible refine below_ext ?_ ?_ _) | (with_reducible refine Below.drew ?_) | (with_reducible refine below_drewN ?_ _) | (with_reducible refine Below.setCell ?_ ?_ _) | go_size | (simp only [go_sem]; omega) | (simp [go_sem]; done) | (simp [go_sem]; omega)))
set_option maxRecDepth 100000 in
set_option maxHeartbeats 4000000 in
theorem erase_l (A : Option Addr) (C : Nat) (sz : Int) (xs : List Cl) (f t : Int) (w : World) (rd : Rd encC 3 w A xs) (hC : A = none → C = 0) (hm : xs.length ≤ 1000000) (hf : f ≤ 9223372036854775807) :
    Calls Tryz.prog 105 #[lineV A xs.length C sz, .int .i64 f, .int .i64 t] w (NewL w (eachR xs f t fun _ => erC) sz) := by
  have E := Lib.hid (fun w' (h : Rd encC 3 w' A xs) => show Calls Tryz.prog 123 #[lineV A xs.length C sz, .int .i64 f, .int .i64 t, .agg #[.int .i32 32, .int .u8 0, .bool false]] w' (NewL w' (eachR xs f t fun _ => erC) sz) from fill_l A C sz xs f t erC w' h hC hm hf)
  have X := Lib.hid rd
  clear rd hC
  have hl := eachR_len xs f t fun _ => erC
  generalize eachR xs f t (fun _ => erC) = R at E hl ⊢
  replace hl := Lib.hid hl
  go_enter Tryz.func105, Tryz.ntmps105
  go_wp2
  go_region_held3 (fun w' => w'.cell? ⟨w.heap.size, 0, none⟩ = some (.slice A xs.length C) ∧ w'.cell? ⟨w.heap.size, 1, none⟩ = some (.int .i64 sz)) ((refine ⟨?_, ?_⟩ <;> simp [go_sem])) ((first
    | (go_at_call 64; ((with_reducible refine (erased_c _).mono ?_); rintro _ _ hgets; obtain ⟨rfl, x3, rfl⟩ := hgets.get; clear hgets))
    | (go_at_call 123
       (with_reducible refine (E.out _ (by repeat (first | exact X.out | exact X | refine Rd.ext ?_ _ | refine Rd.alloc ?_ _ | refine Rd.drew ?_))).mono ?_)
       rintro _ _ ⟨A1, c1, x1, rfl, rfl, hO1⟩
       have hO := Lib.hid hO1
       clear hO1)))
  all_goals go_wp2
  all_goals go_returns
  all_goals
    have h5 := hO.out
    rw [ext_ext] at h5 ⊢
    refine NewL.swap ?_ (h5.mono (by simp [go_sem]))
    (repeat' (first | (with_reducible exact Below.refl _ _) | (with_reducible refine Below.alloc ?_ ?_ _) | (with_reducible refine below_ext ?_ ?_ _) | (with_reducible refine Below.drew ?_) | (with_reducible refine below_drewN ?_ _) | (with_reducible refine Below.setCell ?_ ?_ _) | go_size | (simp only [go_sem]; omega) | (simp [go_sem]; done) | (simp [go_sem]; omega)))
set_option maxRecDepth 100000 in
set_option maxHeartbeats 4000000 in
theorem clean_l (A : Option Addr) (C : Nat) (sz : Int) (xs : List Cl) (f t : Int) (w : World) (rd : Rd encC 3 w A xs) (hC : A = none → C = 0) (hm : xs.length ≤ 1000000) (hf : f ≤ 9223372036854775807) :
    Calls Tryz.prog 106 #[lineV A xs.length C sz, .int .i64 f, .int .i64 t] w (NewL w (eachR xs f t cleanC) sz) := by
  have E := Lib.hid (fun w' (h : Rd encC 3 w' A xs) => each_l A C sz xs f t 125 #[] #[] cleanC w' h hC hm hf (enters_of Tryz.func125 (by kernel_rfl) rfl) (fun y _ w'' _ => by
    rw [show (#[] ++ #[cellV y] ++ #[] : Array Value) = #[cellV y] from rfl]; exact clean_d y w''))
  have X := Lib.hid rd
  have hl := eachR_len xs f t cleanC
  generalize eachR xs f t cleanC = R at E hl ⊢
  replace hl := Lib.hid hl
  clear rd hC
  go_enter Tryz.func106, Tryz.ntmps106
  go_wp2_with (first
    | (go_at_call 124
       (with_reducible refine (E.out _ (by repeat (first | exact X.out | exact X | refine Rd.ext ?_ _ | refine Rd.alloc ?_ _ | refine Rd.drew ?_))).mono ?_)
       rintro _ _ ⟨A1, c1, x1, rfl, rfl, hO1⟩
       have hO := Lib.hid hO1
       clear hO1))
  go_returns
  refine NewL.swap ?_ hO.out
  (repeat' (first | (with_reducible exact Below.refl _ _) | (with_reducible refine Below.alloc ?_ ?_ _) | (with_reducible refine below_ext ?_ ?_ _) | (with_reducible refine Below.drew ?_) | (with_reducible refine below_drewN ?_ _) | (with_reducible refine Below.setCell ?_ ?_ _) | go_size | (simp only [go_sem]; omega) | (simp [go_sem]; done) | (simp [go_sem]; omega)))
set_option maxRecDepth 100000 in
set_option maxHeartbeats 4000000 in
theorem change_l (A : Option Addr) (C : Nat) (sz : Int) (xs : List Cl) (f t : Int) (A2 : Option Addr) (C2 : Nat) (p : List Int) (w : World) (rd : Rd encC 3 w A xs) (hC : A = none → C = 0) (hm : xs.length ≤ 1000000) (hf : f ≤ 9223372036854775807)
    (hok : ∀ y ∈ xs, y.ok) (rp : Ints w A2 p) (hp : p.length ≤ 9223372036854775807) :
    Calls Tryz.prog 126 #[lineV A xs.length C sz, .int .i64 f, .int .i64 t, .slice A2 p.length C2] w (NewL w (eachR xs f t (applyC p)) sz) := by
  have E := Lib.hid (fun w' (h : Rd encC 3 w' A xs) (h2 : Ints w' A2 p) => each_l A C sz xs f t 136 #[.slice A2 p.length C2] #[] (applyC p) w' h hC hm hf (enters_of Tryz.func136 (by kernel_rfl) rfl) (fun y hy w'' hb => by
    rw [show (#[.slice A2 p.length C2] ++ #[cellV y] ++ #[] : Array Value) = #[.slice A2 p.length C2, cellV y] from rfl]; exact apply_d A2 C2 p y w'' (hok y hy) (h2.below hb) hp))
  have X := Lib.hid rd
  have Y := Lib.hid rp
  have hmf := mk_func
  have hl := eachR_len xs f t (applyC p)
  generalize eachR xs f t (applyC p) = R at E hl ⊢
  replace hl := Lib.hid hl
  clear rd hC rp hok
  go_enter Tryz.func126, Tryz.ntmps126
  go_wp2_with (first
    | (go_at_call 124
       (with_reducible refine (E.out _ (by repeat (first | exact X.out | exact X | refine Rd.ext ?_ _ | refine Rd.alloc ?_ _ | refine Rd.drew ?_)) (by repeat (first | exact Y.out | exact Y | refine Rd.ext ?_ _ | refine Rd.alloc ?_ _ | refine Rd.drew ?_))).mono ?_)
       rintro _ _ ⟨A1, c1, x1, rfl, rfl, hO1⟩
       have hO := Lib.hid hO1
       clear hO1))
  go_returns
  refine NewL.swap ?_ hO.out
  (repeat' (first | (with_reducible exact Below.refl _ _) | (with_reducible refine Below.alloc ?_ ?_ _) | (with_reducible refine below_ext ?_ ?_ _) | (with_reducible refine Below.drew ?_) | (with_reducible refine below_drewN ?_ _) | (with_reducible refine Below.setCell ?_ ?_ _) | go_size | (simp only [go_sem]; omega) | (simp [go_sem]; done) | (simp [go_sem]; omega)))
set_option maxRecDepth 100000 in
set_option maxHeartbeats 4000000 in
theorem flip_l (A : Option Addr) (C : Nat) (sz : Int) (xs : List Cl) (f t : Int) (A2 : Option Addr) (C2 : Nat) (p : List Int) (w : World) (rd : Rd encC 3 w A xs) (hC : A = none → C = 0) (hm : xs.length ≤ 1000000) (hf : f ≤ 9223372036854775807)
    (hok : ∀ y ∈ xs, y.ok) (rp : Ints w A2 p) (hp : p.length ≤ 9223372036854775807) :
    Calls Tryz.prog 127 #[lineV A xs.length C sz, .int .i64 f, .int .i64 t, .slice A2 p.length C2] w (NewL w (eachR xs f t (flipC p)) sz) := by
  have E := Lib.hid (fun w' (h : Rd encC 3 w' A xs) (h2 : Ints w' A2 p) => each_l A C sz xs f t 137 #[.slice A2 p.length C2] #[] (flipC p) w' h hC hm hf (enters_of Tryz.func137 (by kernel_rfl) rfl) (fun y hy w'' hb => by
    rw [show (#[.slice A2 p.length C2] ++ #[cellV y] ++ #[] : Array Value) = #[.slice A2 p.length C2, cellV y] from rfl]; exact flip_d A2 C2 p y w'' (hok y hy) (h2.below hb) hp))
  have X := Lib.hid rd
  have Y := Lib.hid rp
  have hmf := mk_func
  have hl := eachR_len xs f t (flipC p)
  generalize eachR xs f t (flipC p) = R at E hl ⊢
  replace hl := Lib.hid hl
  clear rd hC rp hok
  go_enter Tryz.func127, Tryz.ntmps127
  go_wp2_with (first
    | (go_at_call 124
       (with_reducible refine (E.out _ (by repeat (first | exact X.out | exact X | refine Rd.ext ?_ _ | refine Rd.alloc ?_ _ | refine Rd.drew ?_)) (by repeat (first | exact Y.out | exact Y | refine Rd.ext ?_ _ | refine Rd.alloc ?_ _ | refine Rd.drew ?_))).mono ?_)
       rintro _ _ ⟨A1, c1, x1, rfl, rfl, hO1⟩
       have hO := Lib.hid hO1
       clear hO1))
  go_returns
  refine NewL.swap ?_ hO.out
  (repeat' (first | (with_reducible exact Below.refl _ _) | (with_reducible refine Below.alloc ?_ ?_ _) | (with_reducible refine below_ext ?_ ?_ _) | (with_reducible refine Below.drew ?_) | (with_reducible refine below_drewN ?_ _) | (with_reducible refine Below.setCell ?_ ?_ _) | go_size | (simp only [go_sem]; omega) | (simp [go_sem]; done) | (simp [go_sem]; omega)))
end Go.Proofs.YtignkkejkknddaaGreat
