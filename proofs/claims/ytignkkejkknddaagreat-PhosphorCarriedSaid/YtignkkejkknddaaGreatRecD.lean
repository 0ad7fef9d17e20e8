/- rect: what a change touches, by place; streams: plain.  -/
import Derived.Test.YtignkkejkknddaaGreatPgE
import Derived.Test.YtignkkejkknddaaGreatBox3
import Derived.Test.YtignkkejkknddaaGreatPgPen
import Derived.Test.YtignkkejkknddaaGreatRegionF
import Derived.Test.YtignkkejkknddaaGreatSh
import Derived.Test.YtignkkejkknddaaGreatOwn
namespace Go.Proofs.YtignkkejkknddaaGreat
open Go.RowKit
set_option linter.unusedVariables false
set_option linter.unusedSimpArgs false

theorem onB_iff2 {m n i k : Nat} {b : BxI} (hi : i < m) (hk : k < n) :
    ((onB m n b).t ≤ i ∧ (i : Int) < (onB m n b).b ∧ (onB m n b).l ≤ k ∧ (k : Int) < (onB m n b).r) ↔ (b.t ≤ i ∧ (i : Int) < b.b ∧ b.l ≤ k ∧ (k : Int) < b.r) := by
  unfold onB meetI
  simp only
  split <;> omega
/-- a deed on all cells of a box, by place -/
theorem each_map {S : PgS} (hS : S.Ok) (b : BxI) (f : Cl → Cl) : eachS S (onB S.rows.length S.cols b) (fun xs l r => eachR xs l r f) = mapS S (fun i k y => if b.t ≤ i ∧ (i : Int) < b.b ∧ b.l ≤ k ∧ (k : Int) < b.r then f y else y) := by
  have HB := onB_in S.rows.length S.cols b
  have HI := fun i k (hi : i < S.rows.length) (hk : k < S.cols) => onB_iff2 (b := b) hi hk
  generalize onB S.rows.length S.cols b = B at HB HI
  unfold eachS rowsJ mapS
  congr 1
  apply List.ext_getElem (by simp)
  intro i h1 h2
  simp only [List.length_mapIdx] at h1
  simp only [List.getElem_mapIdx]
  have hl := hS.len h1
  split
  · rename_i hc
    refine Prod.ext ?_ rfl
    unfold eachR updR
    apply List.ext_getElem (by simp)
    intro k h3 h4
    simp only [List.length_mapIdx] at h3
    simp only [List.getElem_mapIdx]
    have hk : k < S.cols := by omega
    have := HI i k h1 hk
    have e : (k < (S.rows[i].1).length ∧ inS (S.rows[i].1).length k B.l B.r = true) ↔ (b.t ≤ i ∧ (i : Int) < b.b ∧ b.l ≤ k ∧ (k : Int) < b.r) := by
      rw [← this]
      unfold inS
      rw [decide_eq_true_eq]
      omega
    by_cases q : b.t ≤ i ∧ (i : Int) < b.b ∧ b.l ≤ k ∧ (k : Int) < b.r
    · rw [if_pos (e.2 q), if_pos q]
    · rw [if_neg (fun hh => q (e.1 hh)), if_neg q]
  · rename_i hc
    refine Prod.ext ?_ rfl
    apply List.ext_getElem (by simp)
    intro k h3 h4
    simp only [List.getElem_mapIdx]
    have hk : k < S.cols := by omega
    have := HI i k h1 hk
    rw [if_neg (fun hh => by have := this.2 hh; omega)]
theorem mapS_mapS {S : PgS} {f g : Nat → Nat → Cl → Cl} : mapS (mapS S f) g = mapS S (fun i k y => g i k (f i k y)) := by
  unfold mapS
  congr 1
  apply List.ext_getElem (by simp)
  intro i h1 h2
  simp only [List.getElem_mapIdx]
  refine Prod.ext ?_ rfl
  apply List.ext_getElem (by simp)
  intro k h3 h4
  simp only [List.getElem_mapIdx]
/- streams: of numbers xs within an area y -/
def stT (y : BxI) (xs : List Int) : Int := y.t + max (at0 xs 0) 1 - 1
def stB (y : BxI) (xs : List Int) : Int := y.t + lastA (y.b - y.t) (at0 xs 2)
def stL (y : BxI) (xs : List Int) : Int := y.l + max (at0 xs 1) 1 - 1
def stR (y : BxI) (xs : List Int) : Int := y.l + lastA (y.r - y.l) (at0 xs 3)
/-- the numbers name rows and columns of the area -/
def stPre (y : BxI) (xs : List Int) : Bool := decide (y.t < y.b ∧ y.l < y.r ∧ 0 ≤ at0 xs 0 ∧ 0 ≤ at0 xs 1 ∧ 0 ≤ at0 xs 2 ∧ 0 ≤ at0 xs 3 ∧ stT y xs < stB y xs ∧ stL y xs < y.r)
def stOk (y : BxI) (xs : List Int) : Bool := stPre y xs && decide (¬ (stB y xs = stT y xs + 1 ∧ stR y xs ≤ stL y xs))
def stBox (y : BxI) (xs : List Int) (row : Int) : BxI := ⟨row, if row = stT y xs then stL y xs else y.l, row + 1, if row = stB y xs - 1 then stR y xs else y.r⟩
def stBoxes (y : BxI) (xs : List Int) : List BxI := (List.range (stB y xs - stT y xs).toNat).map fun j : Nat => stBox y xs (stT y xs + (j : Int))
def inSt (y : BxI) (xs : List Int) (i k : Nat) : Bool := decide (stT y xs ≤ i ∧ (i : Int) < stB y xs ∧ (if (i : Int) = stT y xs then stL y xs else y.l) ≤ k ∧ (k : Int) < (if (i : Int) = stB y xs - 1 then stR y xs else y.r))
def strS (S : PgS) (y : BxI) (xs : List Int) (f : Cl → Cl) : PgS := mapS S (fun i k c => if inSt y xs i k = true then f c else c)
/-- the same, up to a row -/
def strJ (S : PgS) (y : BxI) (xs : List Int) (f : Cl → Cl) (j : Nat) : PgS := mapS S (fun i k c => if inSt y xs i k = true ∧ (i : Int) < stT y xs + j then f c else c)
theorem strJ_zero {S : PgS} {y : BxI} {xs : List Int} {f : Cl → Cl} : strJ S y xs f 0 = S := mapS_id fun i hi k hk => if_neg (fun h => by
  have h1 := h.1
  unfold inSt at h1
  rw [decide_eq_true_eq] at h1
  omega)
theorem strJ_end {S : PgS} {y : BxI} {xs : List Int} {f : Cl → Cl} : strJ S y xs f (stB y xs - stT y xs).toNat = strS S y xs f := mapS_congr fun i hi k hk => by
  by_cases h : inSt y xs i k = true
  · rw [if_pos h, if_pos ⟨h, by unfold inSt at h; rw [decide_eq_true_eq] at h; omega⟩]
  · rw [if_neg h, if_neg (fun hh => h hh.1)]
theorem strJ_ok {S : PgS} (hS : S.Ok) {y : BxI} {xs : List Int} {f : Cl → Cl} (hf : ∀ c, c.ok → (f c).ok) (j : Nat) : (strJ S y xs f j).Ok := mapS_ok hS fun i hi k hk => by
  have := hS.ok _ (List.getElem_mem hi) _ (List.getElem_mem hk)
  split
  · exact hf _ this
  · exact this
theorem strJ_len {S : PgS} {y : BxI} {xs : List Int} {f : Cl → Cl} {j : Nat} : (strJ S y xs f j).rows.length = S.rows.length := mapS_len
theorem strJ_step {S : PgS} (hS : S.Ok) {y : BxI} {xs : List Int} {f : Cl → Cl} (hf : ∀ c, c.ok → (f c).ok) {j : Nat} (hj : (j : Int) < stB y xs - stT y xs) :
    eachS (strJ S y xs f j) (onB S.rows.length S.cols (stBox y xs (stT y xs + j))) (fun zs l r => eachR zs l r f) = strJ S y xs f (j + 1) := by
  have e := each_map (strJ_ok hS hf j (y := y) (xs := xs)) (stBox y xs (stT y xs + j)) f
  rw [strJ_len, show (strJ S y xs f j).cols = S.cols from rfl] at e
  rw [e]
  unfold strJ
  rw [mapS_mapS]
  refine mapS_congr fun i hi k hk => ?_
  unfold stBox
  simp only
  by_cases h : (i : Int) = stT y xs + j
  · have h1 : ¬ (inSt y xs i k = true ∧ (i : Int) < stT y xs + j) := by omega
    rw [if_neg h1]
    have h2 : (stT y xs + ↑j ≤ ↑i ∧ ↑i < stT y xs + ↑j + 1 ∧ (if stT y xs + ↑j = stT y xs then stL y xs else y.l) ≤ ↑k ∧ ↑k < (if stT y xs + ↑j = stB y xs - 1 then stR y xs else y.r)) ↔ (inSt y xs i k = true ∧ (i : Int) < stT y xs + (j + 1 : Nat)) := by
      unfold inSt
      rw [decide_eq_true_eq, h]
      omega
    by_cases q : inSt y xs i k = true ∧ (i : Int) < stT y xs + (j + 1 : Nat)
    · rw [if_pos q, if_pos (h2.2 q)]
    · rw [if_neg q, if_neg (fun hh => q (h2.1 hh))]
  · have h2 : (inSt y xs i k = true ∧ (i : Int) < stT y xs + (j + 1 : Nat)) ↔ (inSt y xs i k = true ∧ (i : Int) < stT y xs + j) := ⟨fun hh => ⟨hh.1, by have := hh.2; omega⟩, fun hh => ⟨hh.1, by have := hh.2; omega⟩⟩
    rw [if_neg (show ¬ (stT y xs + ↑j ≤ ↑i ∧ ↑i < stT y xs + ↑j + 1 ∧ _) from fun hh => h (by have := hh.1; have := hh.2.1; omega))]
    by_cases q : inSt y xs i k = true ∧ (i : Int) < stT y xs + j
    · rw [if_pos q, if_pos (h2.2 q)]
    · rw [if_neg q, if_neg (fun hh => q (h2.1 hh))]
/- the three rectangles that a stream is told by -/
def stN1 (xs : List Int) : List Int := [at0 xs 0, 0, at0 xs 2, 0]
def stN2 (xs : List Int) : List Int := [0, at0 xs 1, 0, 0]
def stN3 (xs : List Int) : List Int := [0, 0, 0, at0 xs 3]
theorem st_pre (y : BxI) (xs : List Int) : (rectOk y.t y.l y.b y.r (stN1 xs) 0 && rectOk y.t y.l y.b y.r (stN2 xs) 0 && rectOk y.t y.l y.b y.r (stN3 xs) 0) = stPre y xs := by
  have e1 : ∀ a b c d : Int, num0 [a, b, c, d] 0 0 = a ∧ num0 [a, b, c, d] 0 1 = b ∧ num0 [a, b, c, d] 0 2 = c ∧ num0 [a, b, c, d] 0 3 = d := fun a b c d => ⟨rfl, rfl, rfl, rfl⟩
  unfold rectOk stN1 stN2 stN3 stPre sideOk
  simp only [(e1 _ _ _ _).1, (e1 _ _ _ _).2.1, (e1 _ _ _ _).2.2.1, (e1 _ _ _ _).2.2.2]
  unfold stT stB stL
  have z1 : ∀ n, lastA n 0 = n := fun n => by simp [lastA]
  have z3 : ∀ n l, 1 ≤ n → 0 ≤ l → 1 ≤ lastA n l := fun n l h1 h2 => by unfold lastA; split <;> omega
  have z4 := z3 (y.r - y.l) (at0 xs 3)
  rw [z1, z1]
  generalize lastA (y.b - y.t) (at0 xs 2) = e2
  generalize lastA (y.r - y.l) (at0 xs 3) = e3 at z4
  rw [Bool.eq_iff_iff]
  simp only [Bool.and_eq_true, decide_eq_true_eq]
  generalize at0 xs 0 = a0
  generalize at0 xs 1 = a1
  generalize at0 xs 2 = a2
  generalize at0 xs 3 = a3 at z4
  omega
theorem st_vals {y : BxI} {xs : List Int} (h : stPre y xs = true) : rectT y.t y.l y.b y.r (stN1 xs) 0 = stT y xs ∧ rectB y.t y.l y.b y.r (stN1 xs) 0 = stB y xs ∧ rectL y.t y.l y.b y.r (stN2 xs) 0 = stL y xs ∧ rectR y.t y.l y.b y.r (stN3 xs) 0 = stR y xs := by
  have h0 := h
  rw [← st_pre] at h
  simp only [Bool.and_eq_true] at h
  obtain ⟨⟨h1, h2⟩, h3⟩ := h
  have e1 : ∀ a b c d : Int, num0 [a, b, c, d] 0 0 = a ∧ num0 [a, b, c, d] 0 1 = b ∧ num0 [a, b, c, d] 0 2 = c ∧ num0 [a, b, c, d] 0 3 = d := fun a b c d => ⟨rfl, rfl, rfl, rfl⟩
  unfold stPre at h0
  rw [decide_eq_true_eq] at h0
  obtain ⟨q1, q2, q3, q4, q5, q6, q7, q8⟩ := h0
  unfold rectT rectB rectL rectR
  rw [if_pos h1, if_pos h1, if_pos h2, if_pos h3]
  unfold stN1 stN2 stN3 sideF sideL
  simp only [(e1 _ _ _ _).1, (e1 _ _ _ _).2.1, (e1 _ _ _ _).2.2.1, (e1 _ _ _ _).2.2.2]
  unfold stT stB stL stR
  refine ⟨?_, ?_, ?_, ?_⟩
  · rw [if_neg (by omega)]; omega
  · rw [if_neg (by omega)]
  · rw [if_neg (by omega)]; omega
  · rw [if_neg (by omega)]
end Go.Proofs.YtignkkejkknddaaGreat
/- rect: Fill, Erase.  -/
namespace Go.Proofs.YtignkkejkknddaaGreat
open Go.RowKit
set_option linter.unusedVariables false
set_option linter.unusedSimpArgs false

/-- an area, as far as it lies on a page; a rectangle of it that numbers tell -/
def arB (S : PgS) (x : BxI) : BxI := onB S.rows.length S.cols x
def reB (y : BxI) (xs : List Int) (i : Int) : BxI := ⟨rectT y.t y.l y.b y.r xs i, rectL y.t y.l y.b y.r xs i, rectB y.t y.l y.b y.r xs i, rectR y.t y.l y.b y.r xs i⟩
def reOk (y : BxI) (xs : List Int) (i : Int) : Bool := rectOk y.t y.l y.b y.r xs i
theorem arB_bd {S : PgS} (hS : S.Ok) (x : BxI) : (-1000000 ≤ (arB S x).t ∧ (arB S x).t ≤ 1000000) ∧ (-1000000 ≤ (arB S x).l ∧ (arB S x).l ≤ 1000000) ∧ (-1000000 ≤ (arB S x).b ∧ (arB S x).b ≤ 1000000) ∧ (-1000000 ≤ (arB S x).r ∧ (arB S x).r ≤ 1000000) := by
  have h := onB_in S.rows.length S.cols x
  have r2 := hS.r2
  have c2 := hS.c2
  unfold arB
  omega
theorem ar_meet (S : PgS) (x : BxI) (w : World) : Calls Tryz.prog 40 #[boxV x.t x.l x.b x.r, boxV 0 0 S.rows.length S.cols] w (Gives w (boxV (arB S x).t (arB S x).l (arB S x).b (arB S x).r)) := meet_c x.t x.l x.b x.r 0 0 S.rows.length S.cols w
theorem al_at (w : World) (o : Obj) {g : Nat} (h : g = w.heap.size) : (w.alloc o).heap[g]? = some o := by
  subst h
  exact heap_alloc_new w o
theorem al0 (w : World) (o1 o2 : Obj) : ((w.alloc o1).alloc o2).heap[w.heap.size]? = some o1 := by
  have hb : Below (w.alloc o1).heap.size (w.alloc o1) ((w.alloc o1).alloc o2) := by (repeat' (first | (with_reducible exact Below.refl _ _) | (with_reducible refine Below.alloc ?_ ?_ _) | (with_reducible refine below_ext ?_ ?_ _) | (with_reducible refine Below.drew ?_) | (with_reducible refine below_drewN ?_ _) | (with_reducible refine Below.setCell ?_ ?_ _) | go_size | (simp only [go_sem]; omega) | (simp [go_sem]; done) | (simp [go_sem]; omega)))
  exact (hb.block w.heap.size (by simp)).trans (heap_alloc_new w o1)
theorem al1 (w : World) (o1 o2 : Obj) : ((w.alloc o1).alloc o2).heap[w.heap.size + 1]? = some o2 := al_at _ _ (by simp)
/-- a list of numbers, as a call is handed it -/
structure NumL (w : World) (a : Option Addr) (c : Nat) (xs : List Int) : Prop where
  rd : Ints w a xs
  lc : xs.length ≤ c
  cm : c ≤ 9223372036854775807
  hi : ∀ n ∈ xs, n ≤ 9223372036854775807
section
variable {w w' : World} {F : Nat → Prop} {p c : Nat} {S : PgS} {a : Option Addr} {xs : List Int}
theorem NumL.grow (h : NumL w a c xs) (hb : Below w.heap.size w w') : NumL w' a c xs := ⟨h.rd.below hb, h.lc, h.cm, h.hi⟩
theorem re_rect (h : NumL w a c xs) (hS : S.Ok) (x : BxI) (i : Int) : Calls Tryz.prog 39 #[boxV (arB S x).t (arB S x).l (arB S x).b (arB S x).r, .slice a xs.length c, .int .i64 i] w (Gives w (.tuple #[boxV (reB (arB S x) xs i).t (reB (arB S x) xs i).l (reB (arB S x) xs i).b (reB (arB S x) xs i).r, .bool (reOk (arB S x) xs i)])) := by
  obtain ⟨h1, h2, h3, h4⟩ := arB_bd hS x
  exact rect_c _ _ _ _ a c xs i w h1 h2 h3 h4 h.rd (Nat.le_trans h.lc h.cm) h.lc h.cm h.hi
def rwipeF (sel : Bool) : List Cl → Int → Int → List Cl := if sel = true then fun xs l r => eachR xs l r cleanC else fun xs l r => eachR xs l r fun _ => erC
def rwipeS (S : PgS) (x : BxI) (xs : List Int) (sel : Bool) : PgS := if reOk (arB S x) xs 0 = true then eachS S (onB S.rows.length S.cols (reB (arB S x) xs 0)) (rwipeF sel) else S
set_option maxRecDepth 100000 in
set_option maxHeartbeats 8000000 in
theorem erase_rect (h : PageAt w F p S) (hS : S.Ok) (hx : NumL w a c xs) (x : BxI) (sel : Bool) :
    Calls Tryz.prog 25 #[.pointer (some ⟨p, 0, none⟩), boxV x.t x.l x.b x.r, .slice a xs.length c, .bool sel] w (fun e w' => e = .returned (.bool (reOk (arB S x) xs 0)) ∧ Did F p (rwipeS S x xs sel) w w') := by
  have BX := Lib.hid (fun w' (hb : Below w.heap.size w w') => box_p (h.grow hb))
  have MT := Lib.hid (fun w' => ar_meet S x w')
  have RC := Lib.hid (fun w' (hb : Below w.heap.size w w') => re_rect (hx.grow hb) hS x 0)
  have FP : Hid (∀ w', Below w.heap.size w w' → sel = false → Calls Tryz.prog 72 #[.pointer (some ⟨p, 0, none⟩), boxV (reB (arB S x) xs 0).t (reB (arB S x) xs 0).l (reB (arB S x) xs 0).b (reB (arB S x) xs 0).r] w' (fun e w2 => e = .returned (.tuple #[]) ∧ Did F p (eachS S (onB S.rows.length S.cols (reB (arB S x) xs 0)) (rwipeF sel)) w' w2)) := Lib.hid (fun w' hb hs => by subst hs; exact erase_p (h.grow hb) hS (reB (arB S x) xs 0))
  have CP : Hid (∀ w', Below w.heap.size w w' → sel = true → Calls Tryz.prog 73 #[.pointer (some ⟨p, 0, none⟩), boxV (reB (arB S x) xs 0).t (reB (arB S x) xs 0).l (reB (arB S x) xs 0).b (reB (arB S x) xs 0).r] w' (fun e w2 => e = .returned (.tuple #[]) ∧ Did F p (eachS S (onB S.rows.length S.cols (reB (arB S x) xs 0)) (rwipeF sel)) w' w2)) := Lib.hid (fun w' hb hs => by subst hs; exact clean_p (h.grow hb) hS (reB (arB S x) xs 0))
  have FS := Lib.hid (show rwipeS S x xs sel = if reOk (arB S x) xs 0 = true then eachS S (onB S.rows.length S.cols (reB (arB S x) xs 0)) (rwipeF sel) else S from rfl)
  have hP := Lib.hid h
  generalize eachS S (onB S.rows.length S.cols (reB (arB S x) xs 0)) (rwipeF sel) = T at FP CP FS
  generalize reB (arB S x) xs 0 = q at RC FP CP
  generalize reOk (arB S x) xs 0 = ok at RC FS ⊢
  generalize arB S x = z at MT RC
  obtain ⟨xt, xl, xb, xr⟩ := x
  obtain ⟨zt, zl, zb, zr⟩ := z
  obtain ⟨qt, ql, qb, qr⟩ := q
  simp only at MT RC FP CP
  clear h hx
  go_enter Tryz.func25, Tryz.ntmps25
  go_upto_region 1 with fail
  generalize hW : w.alloc (.cells #[.int .i64 xt, .int .i64 xl, .int .i64 xb, .int .i64 xr] 31) = W
  have hsz : W.heap.size = w.heap.size + 1 := by subst hW; simp [go_sem]
  have hB : Below w.heap.size w W := by subst hW; (repeat' (first | (with_reducible exact Below.refl _ _) | (with_reducible refine Below.alloc ?_ ?_ _) | (with_reducible refine below_ext ?_ ?_ _) | (with_reducible refine Below.drew ?_) | (with_reducible refine below_drewN ?_ _) | (with_reducible refine Below.setCell ?_ ?_ _) | go_size | (simp only [go_sem]; omega) | (simp [go_sem]; done) | (simp [go_sem]; omega)))
  have b0 : W.heap[w.heap.size]? = some (.cells #[.int .i64 xt, .int .i64 xl, .int .i64 xb, .int .i64 xr] 31 (0, 0)) := by subst hW; exact al_at _ _ rfl
  clear hW
  go_cut [9, 10] (fun v9 v10 wx => ∃ g, v9 = .pointer (some ⟨g, 0, none⟩) ∧ v10 = .bool ok ∧ Below W.heap.size W wx ∧ wx.heap[g]? = some (.cells #[.int .i64 qt, .int .i64 ql, .int .i64 qb, .int .i64 qr] 31 (0, 0)))
  case first =>
    have k0 : W.cell? ⟨w.heap.size, 0, none⟩ = some (.int .i64 xt) := by rw [cell_in b0]; rfl
    have k1 : W.cell? ⟨w.heap.size, 1, none⟩ = some (.int .i64 xl) := by rw [cell_in b0]; rfl
    have k2 : W.cell? ⟨w.heap.size, 2, none⟩ = some (.int .i64 xb) := by rw [cell_in b0]; rfl
    have k3 : W.cell? ⟨w.heap.size, 3, none⟩ = some (.int .i64 xr) := by rw [cell_in b0]; rfl
    have KS : ∀ w', Below W.heap.size W w' → w'.cell? ⟨w.heap.size, 0, none⟩ = some (.int .i64 xt) ∧ w'.cell? ⟨w.heap.size, 1, none⟩ = some (.int .i64 xl) ∧ w'.cell? ⟨w.heap.size, 2, none⟩ = some (.int .i64 xb) ∧ w'.cell? ⟨w.heap.size, 3, none⟩ = some (.int .i64 xr) := fun w' h => ⟨(h.cell (p := ⟨w.heap.size, 0, none⟩) (by simp; omega)).trans k0, (h.cell (p := ⟨w.heap.size, 1, none⟩) (by simp; omega)).trans k1, (h.cell (p := ⟨w.heap.size, 2, none⟩) (by simp; omega)).trans k2, (h.cell (p := ⟨w.heap.size, 3, none⟩) (by simp; omega)).trans k3⟩
    have hBW := Lib.hid (fun w' (h : Below W.heap.size W w') => hB.trans (h.mono hB.size))
    go_region_held3 (fun w' => w'.cell? ⟨w.heap.size, 0, none⟩ = some (.int .i64 xt) ∧ w'.cell? ⟨w.heap.size, 1, none⟩ = some (.int .i64 xl) ∧ w'.cell? ⟨w.heap.size, 2, none⟩ = some (.int .i64 xb) ∧ w'.cell? ⟨w.heap.size, 3, none⟩ = some (.int .i64 xr)) (exact KS _ (by (repeat' (first | (with_reducible exact Below.refl _ _) | (with_reducible refine Below.alloc ?_ ?_ _) | (with_reducible refine below_ext ?_ ?_ _) | (with_reducible refine Below.drew ?_) | (with_reducible refine below_drewN ?_ _) | (with_reducible refine Below.setCell ?_ ?_ _) | go_size | (simp only [go_sem]; omega) | (simp [go_sem]; done) | (simp [go_sem]; omega))))) ((first
      | (go_at_call 24; ((with_reducible refine (BX.out _ (hBW.out _ (by (repeat' (first | (with_reducible exact Below.refl _ _) | (with_reducible refine Below.alloc ?_ ?_ _) | (with_reducible refine below_ext ?_ ?_ _) | (with_reducible refine Below.drew ?_) | (with_reducible refine below_drewN ?_ _) | (with_reducible refine Below.setCell ?_ ?_ _) | go_size | (simp only [go_sem]; omega) | (simp [go_sem]; done) | (simp [go_sem]; omega)))))).mono ?_); rintro _ _ hgets; obtain ⟨rfl, x1, rfl⟩ := hgets.get; clear hgets))
      | (go_at_call 40; ((with_reducible refine (MT.out _).mono ?_); rintro _ _ hgets; obtain ⟨rfl, _, rfl⟩ := hgets.get; clear hgets))
      | (go_at_call 39; ((with_reducible refine (RC.out _ (hBW.out _ (by (repeat' (first | (with_reducible exact Below.refl _ _) | (with_reducible refine Below.alloc ?_ ?_ _) | (with_reducible refine below_ext ?_ ?_ _) | (with_reducible refine Below.drew ?_) | (with_reducible refine below_drewN ?_ _) | (with_reducible refine Below.setCell ?_ ?_ _) | go_size | (simp only [go_sem]; omega) | (simp [go_sem]; done) | (simp [go_sem]; omega)))))).mono ?_); rintro _ _ hgets; obtain ⟨rfl, x3, rfl⟩ := hgets.get; clear hgets))))
    all_goals clear KS k0 k1 k2 k3 b0 hBW BX MT RC FP CP
    all_goals go_wp2
    all_goals go_meet
    all_goals refine ⟨_, rfl, rfl, by (repeat' (first | (with_reducible exact Below.refl _ _) | (with_reducible refine Below.alloc ?_ ?_ _) | (with_reducible refine below_ext ?_ ?_ _) | (with_reducible refine Below.drew ?_) | (with_reducible refine below_drewN ?_ _) | (with_reducible refine Below.setCell ?_ ?_ _) | go_size | (simp only [go_sem]; omega) | (simp [go_sem]; done) | (simp [go_sem]; omega))), ?_⟩
    all_goals repeat (refine (block_ext _ _ (by simp [go_sem, hsz])).trans ?_)
    all_goals exact al_at _ _ (by simp [go_sem, hsz])
  obtain ⟨g, rfl, rfl, hB2, bg⟩ := hcut
  have hBw : Below w.heap.size w wc := hB.trans (hB2.mono hB.size)
  have hg := heap_in bg
  have k0 : wc.cell? ⟨g, 0, none⟩ = some (.int .i64 qt) := by rw [cell_in bg]; rfl
  have k1 : wc.cell? ⟨g, 1, none⟩ = some (.int .i64 ql) := by rw [cell_in bg]; rfl
  have k2 : wc.cell? ⟨g, 2, none⟩ = some (.int .i64 qb) := by rw [cell_in bg]; rfl
  have k3 : wc.cell? ⟨g, 3, none⟩ = some (.int .i64 qr) := by rw [cell_in bg]; rfl
  have hlt := Lib.hid hP.out.lt
  replace hBw := Lib.hid hBw
  clear BX MT RC b0 bg hB hB2 hsz
  cases ok
  · cases sel
    all_goals go_wp2
    all_goals go_returns
    all_goals refine ⟨rfl, ?_⟩
    all_goals rw [FS.out]
    all_goals exact Did.same hP.out hBw.out
  · cases sel
    · go_wp2_with ((go_at_call 72); (with_reducible refine (FP.out _ hBw.out rfl).mono ?_); (rintro _ W2 ⟨rfl, hD⟩); replace hD := Lib.hid (Did.back hD hBw.out hlt.out))
      go_returns
      refine ⟨rfl, ?_⟩
      rw [FS.out]
      exact hD.out
    · go_wp2_with ((go_at_call 73); (with_reducible refine (CP.out _ hBw.out rfl).mono ?_); (rintro _ W2 ⟨rfl, hD⟩); replace hD := Lib.hid (Did.back hD hBw.out hlt.out))
      go_returns
      refine ⟨rfl, ?_⟩
      rw [FS.out]
      exact hD.out
end
end Go.Proofs.YtignkkejkknddaaGreat
/- rect: the numbers from a place on; the box of a book's pages; the page of a number.  -/
namespace Go.Proofs.YtignkkejkknddaaGreat
open Go.RowKit
set_option linter.unusedVariables false
set_option linter.unusedSimpArgs false

/-- where a list of numbers goes on from place m -/
def cutN (a : Option Addr) (k m : Nat) : Option Addr := if k = m then a else a.map (·.add m)
theorem slice_ints (a : Option Addr) (n k m : Nat) (w : World) (hm : m ≤ n) : (Instr.sliceAt 22 (.slice a n k) (some (.int .i64 m)) none none).run Tryz.prog w = .ok (.slice (cutN a k m) (n - m) (k - m)) w := by
  have h0 : (0 : Int) ≤ (m : Int) := by omega
  have h1 : (m : Int) ≤ (n : Int) := by omega
  unfold cutN
  simp [go_sem, h0, h1]
theorem num_cut {w : World} {a : Option Addr} {k : Nat} {xs : List Int} (h : NumL w a k xs) (m : Nat) : NumL w (cutN a k (min m xs.length)) (k - min m xs.length) (xs.drop m) := by
  have lc := h.lc
  have cm := h.cm
  refine ⟨fun h0 => ?_, by rw [List.length_drop]; omega, by omega, fun n hn => h.hi n (List.mem_of_mem_drop hn)⟩
  have h1 : m < xs.length := by rw [List.length_drop] at h0; omega
  obtain ⟨b, off, e, hl, hd⟩ := h.rd (by omega)
  refine ⟨b, off + m, ?_, hl, fun i hi j v hv => ?_⟩
  · unfold cutN
    rw [Nat.min_eq_left (by omega), if_neg (by omega), e]
    simp [addr_add]
  · rw [List.length_drop] at hi
    have := hd (i + m) (by omega) j v (by rw [← hv]; simp [Nat.add_comm])
    rw [← this]
    congr 2
    omega
attribute [local go_sem ↓] slice_ints
theorem tail_c {a : Option Addr} {c : Nat} {xs : List Int} (m : Nat) (hm : m ≤ 1000) (hl : xs.length ≤ 9223372036854775807) (w : World) :
    Calls Tryz.prog 78 #[.slice a xs.length c, .int .i64 m] w (Same w (.slice (cutN a c (min m xs.length)) (xs.drop m).length (c - min m xs.length))) := by
  rw [List.length_drop]
  rcases Nat.le_total m xs.length with h | h
  · have h1 : (m : Int) ≤ (xs.length : Int) := by omega
    have e : min m xs.length = m := by omega
    rw [e]
    have h2 : min (m : Int) (xs.length : Int) = m := by omega
    go_enter Tryz.func78, Tryz.ntmps78
    go_wp2
    go_returns
    exact ⟨rfl, rfl⟩
  · have e : min m xs.length = xs.length := by omega
    rw [e, show xs.length - m = 0 by omega]
    have h2 : min (m : Int) (xs.length : Int) = xs.length := by omega
    go_enter Tryz.func78, Tryz.ntmps78
    go_wp2
    go_returns
    exact ⟨rfl, rfl⟩
end Go.Proofs.YtignkkejkknddaaGreat
/- rect.flow: the boxes of a stream.  -/
namespace Go.Proofs.YtignkkejkknddaaGreat
open Go.RowKit
set_option linter.unusedVariables false
set_option linter.unusedSimpArgs false

def encBx (b : BxI) : List Value := [.int .i64 b.t, .int .i64 b.l, .int .i64 b.b, .int .i64 b.r]
theorem encBx_len (b : BxI) : (encBx b).length = 4 := rfl
theorem encBx_one (b : BxI) : ∀ u ∈ encBx b, u.oneCell' = true := by
  intro u hu
  simp [encBx] at hu
  rcases hu with rfl | rfl | rfl | rfl <;> rfl
theorem bx_info : (Tryz.prog.info? 31).map (fun i => (i.zero, i.size, i.bytes)) = some (some (.agg #[.int .i64 0, .int .i64 0, .int .i64 0, .int .i64 0]), 4, 32) := by kernel_rfl
def flB (y : BxI) (xs : List Int) : List BxI := if stOk y xs = true then stBoxes y xs else []
theorem four_num {w : World} {q : Nat} {n0 n1 n2 n3 : Int} (h : w.heap[q]? = some (.cells #[.int .i64 n0, .int .i64 n1, .int .i64 n2, .int .i64 n3] 3 (0, 0))) (h0 : n0 ≤ 9223372036854775807 ∧ n1 ≤ 9223372036854775807 ∧ n2 ≤ 9223372036854775807 ∧ n3 ≤ 9223372036854775807) : NumL w (some ⟨q, 0, none⟩) 4 [n0, n1, n2, n3] := by
  obtain ⟨h1, h2, h3, h4⟩ := h0
  refine ⟨fun _ => ⟨q, 0, rfl, heap_in h, fun i hi j v hv => ?_⟩, Nat.le_refl _, by omega, fun n hn => ?_⟩
  · have hj : j = 0 := by
      have := (List.getElem?_eq_some_iff.1 hv).1
      simp [encI] at this
      exact this
    subst hj
    simp only [List.length_cons, List.length_nil] at hi
    have hi4 : i = 0 ∨ i = 1 ∨ i = 2 ∨ i = 3 := by omega
    rcases hi4 with rfl | rfl | rfl | rfl <;> (rw [cell_in h]; simpa [encI] using hv)
  · simp at hn
    rcases hn with rfl | rfl | rfl | rfl <;> assumption
theorem rect_lit (y : BxI) (ht : -1000000 ≤ y.t ∧ y.t ≤ 1000000) (hl : -1000000 ≤ y.l ∧ y.l ≤ 1000000) (hb : -1000000 ≤ y.b ∧ y.b ≤ 1000000) (hr : -1000000 ≤ y.r ∧ y.r ≤ 1000000) (n0 n1 n2 n3 : Int) (h0 : n0 ≤ 9223372036854775807 ∧ n1 ≤ 9223372036854775807 ∧ n2 ≤ 9223372036854775807 ∧ n3 ≤ 9223372036854775807)
    (w : World) (q : Nat) (h : w.heap[q]? = some (.cells #[.int .i64 n0, .int .i64 n1, .int .i64 n2, .int .i64 n3] 3 (0, 0))) :
    Calls Tryz.prog 39 #[boxV y.t y.l y.b y.r, .slice (some ⟨q, 0, none⟩) 4 4, .int .i64 0] w (Gives w (.tuple #[boxV (reB y [n0, n1, n2, n3] 0).t (reB y [n0, n1, n2, n3] 0).l (reB y [n0, n1, n2, n3] 0).b (reB y [n0, n1, n2, n3] 0).r, .bool (reOk y [n0, n1, n2, n3] 0)])) := by
  have hx := four_num h h0
  exact rect_c _ _ _ _ _ 4 [n0, n1, n2, n3] 0 w ht hl hb hr hx.rd (by simp) hx.lc hx.cm hx.hi
theorem stBoxes_take {y : BxI} {xs : List Int} {j : Nat} : ((List.range j).map fun i : Nat => stBox y xs (stT y xs + (i : Int))) ++ [stBox y xs (stT y xs + (j : Int))] = (List.range (j + 1)).map fun i : Nat => stBox y xs (stT y xs + (i : Int)) := by
  rw [List.range_succ, List.map_append]
  rfl
theorem bx_new {w : World} {g : Nat} {e : TypeId} (b : BxI) (hg : g = w.heap.size) : Rd encBx 4 (w.alloc (.cells #[.int .i64 b.t, .int .i64 b.l, .int .i64 b.b, .int .i64 b.r] e)) (some ⟨g, 0, none⟩) [b] :=
  (Own.new (B := 0) (e := e) encBx_len hg (xs := [b]) rfl _ rfl (Nat.zero_le _) (by simp [maxLen])).rd encBx_len
section
variable {w : World} {a : Option Addr} {c : Nat} {xs : List Int}
set_option maxRecDepth 100000 in
set_option maxHeartbeats 16000000 in
theorem flow_c (hx : NumL w a c xs) (y : BxI) (hy : (-1000000 ≤ y.t ∧ y.t ≤ 1000000) ∧ (-1000000 ≤ y.l ∧ y.l ≤ 1000000) ∧ (-1000000 ≤ y.b ∧ y.b ≤ 1000000) ∧ (-1000000 ≤ y.r ∧ y.r ≤ 1000000)) :
    Calls Tryz.prog 75 #[boxV y.t y.l y.b y.r, .slice a xs.length c] w (fun e w' => ∃ A C x, e = .returned (.tuple #[.slice A (flB y xs).length C, .bool (stOk y xs)]) ∧ w' = ext w x ∧ Own encBx 4 31 w.heap.size (ext w x) (.slice A (flB y xs).length C) (flB y xs)) := by
  obtain ⟨ht, hl, hb, hr⟩ := hy
  have hle : ∀ i, at0 xs i ≤ 9223372036854775807 := fun i => by
    unfold at0
    split
    · omega
    · rw [List.getD_eq_getElem?_getD]
      cases e : xs[i.toNat]? with
      | none => simp
      | some v => exact hx.hi v (List.mem_of_getElem? e)
  have RW := Lib.hid (fun w' (h : Below w.heap.size w w') i => raw_c a c xs i w' (hx.grow h).rd (Nat.le_trans hx.lc hx.cm))
  have R1 := Lib.hid (fun w' q => rect_lit y ht hl hb hr (at0 xs 0) 0 (at0 xs 2) 0 ⟨hle _, by omega, hle _, by omega⟩ w' q)
  have R2 := Lib.hid (fun w' q => rect_lit y ht hl hb hr 0 (at0 xs 1) 0 0 ⟨by omega, hle _, by omega, by omega⟩ w' q)
  have R3 := Lib.hid (fun w' q => rect_lit y ht hl hb hr 0 0 0 (at0 xs 3) ⟨by omega, by omega, by omega, hle _⟩ w' q)
  have PRE := st_pre y xs
  have VAL := fun h => st_vals (y := y) (xs := xs) h
  rw [show rectOk y.t y.l y.b y.r (stN1 xs) 0 = reOk y [at0 xs 0, 0, at0 xs 2, 0] 0 from rfl, show rectOk y.t y.l y.b y.r (stN2 xs) 0 = reOk y [0, at0 xs 1, 0, 0] 0 from rfl, show rectOk y.t y.l y.b y.r (stN3 xs) 0 = reOk y [0, 0, 0, at0 xs 3] 0 from rfl] at PRE
  rw [show rectT y.t y.l y.b y.r (stN1 xs) 0 = (reB y [at0 xs 0, 0, at0 xs 2, 0] 0).t from rfl, show rectB y.t y.l y.b y.r (stN1 xs) 0 = (reB y [at0 xs 0, 0, at0 xs 2, 0] 0).b from rfl, show rectL y.t y.l y.b y.r (stN2 xs) 0 = (reB y [0, at0 xs 1, 0, 0] 0).l from rfl, show rectR y.t y.l y.b y.r (stN3 xs) 0 = (reB y [0, 0, 0, at0 xs 3] 0).r from rfl] at VAL
  have hlA : ∀ n l, lastA n l ≤ n := fun n l => by unfold lastA; split <;> omega
  have bT : stPre y xs = true → y.t ≤ stT y xs ∧ stT y xs < stB y xs ∧ stB y xs ≤ y.b ∧ y.l ≤ stL y xs ∧ stL y xs < y.r ∧ y.l < stR y xs ∧ stR y xs ≤ y.r ∧ y.l < y.r := fun h => by
    unfold stPre at h
    rw [decide_eq_true_eq] at h
    obtain ⟨q1, q2, q3, q4, q5, q6, q7, q8⟩ := h
    have e2 := hlA (y.b - y.t) (at0 xs 2)
    have e3 := hlA (y.r - y.l) (at0 xs 3)
    have e4 : 1 ≤ lastA (y.r - y.l) (at0 xs 3) := by unfold lastA; split <;> omega
    refine ⟨by unfold stT; omega, q7, by unfold stB; omega, by unfold stL; omega, q8, by unfold stR; omega, by unfold stR; omega, q2⟩
  have OKE : stOk y xs = (stPre y xs && decide (¬ (stB y xs = stT y xs + 1 ∧ stR y xs ≤ stL y xs))) := rfl
  have FB : flB y xs = if stOk y xs = true then stBoxes y xs else [] := rfl
  have SB : stBoxes y xs = (List.range (stB y xs - stT y xs).toNat).map fun j : Nat => stBox y xs (stT y xs + (j : Int)) := rfl
  have TK : ∀ j : Nat, _ := fun j => stBoxes_take (y := y) (xs := xs) (j := j)
  have SX : ∀ r, stBox y xs r = ⟨r, if r = stT y xs then stL y xs else y.l, r + 1, if r = stB y xs - 1 then stR y xs else y.r⟩ := fun r => rfl
  generalize flB y xs = fl at FB ⊢
  generalize stOk y xs = ok at OKE FB ⊢
  generalize stPre y xs = pre at *
  generalize stBoxes y xs = all at FB SB
  generalize stT y xs = T at *
  generalize stB y xs = B at *
  generalize stL y xs = L at *
  generalize stR y xs = R at *
  generalize hst : (fun r => stBox y xs r) = sx at *
  have hst' : ∀ r, stBox y xs r = sx r := fun r => by rw [← hst]
  simp only [hst'] at SB TK SX
  clear hst hst'
  generalize reB y [at0 xs 0, 0, at0 xs 2, 0] 0 = b1 at *
  generalize reB y [0, at0 xs 1, 0, 0] 0 = b2 at *
  generalize reB y [0, 0, 0, at0 xs 3] 0 = b3 at *
  generalize reOk y [at0 xs 0, 0, at0 xs 2, 0] 0 = k1 at *
  generalize reOk y [0, at0 xs 1, 0, 0] 0 = k2 at *
  generalize reOk y [0, 0, 0, at0 xs 3] 0 = k3 at *
  obtain ⟨yt, yl, yb, yr⟩ := y
  obtain ⟨t1, l1, c1, r1⟩ := b1
  obtain ⟨t2, l2, c2, r2⟩ := b2
  obtain ⟨t3, l3, c3, r3⟩ := b3
  simp only at R1 R2 R3 VAL bT SX ht hl hb hr
  replace PRE := Lib.hid PRE
  replace VAL := Lib.hid VAL
  replace bT := Lib.hid bT
  replace OKE := Lib.hid OKE
  replace FB := Lib.hid FB
  replace SB := Lib.hid SB
  replace TK := Lib.hid TK
  replace SX := Lib.hid SX
  clear hx hle hlA
  go_enter Tryz.func75, Tryz.ntmps75
  go_upto_region 2 with (go_at_call 42; ((with_reducible refine (RW.out _ (by (repeat' (first | (with_reducible exact Below.refl _ _) | (with_reducible refine Below.alloc ?_ ?_ _) | (with_reducible refine below_ext ?_ ?_ _) | (with_reducible refine Below.drew ?_) | (with_reducible refine below_drewN ?_ _) | (with_reducible refine Below.setCell ?_ ?_ _) | go_size | (simp only [go_sem]; omega) | (simp [go_sem]; done) | (simp [go_sem]; omega)))) _).mono ?_); rintro _ _ ⟨rfl, rfl⟩))
  generalize hW : w.alloc (.cells #[.int .i64 yt, .int .i64 yl, .int .i64 yb, .int .i64 yr] 31) = W
  have hlt : w.heap.size < W.heap.size := by subst hW; simp [go_sem]
  have hB : Below w.heap.size w W := by subst hW; (repeat' (first | (with_reducible exact Below.refl _ _) | (with_reducible refine Below.alloc ?_ ?_ _) | (with_reducible refine below_ext ?_ ?_ _) | (with_reducible refine Below.drew ?_) | (with_reducible refine below_drewN ?_ _) | (with_reducible refine Below.setCell ?_ ?_ _) | go_size | (simp only [go_sem]; omega) | (simp [go_sem]; done) | (simp [go_sem]; omega)))
  have b0 : W.heap[w.heap.size]? = some (.cells #[.int .i64 yt, .int .i64 yl, .int .i64 yb, .int .i64 yr] 31 (0, 0)) := by subst hW; exact al_at _ _ rfl
  clear hW
  have k0 : W.cell? ⟨w.heap.size, 0, none⟩ = some (.int .i64 yt) := by rw [cell_in b0]; rfl
  have k1' : W.cell? ⟨w.heap.size, 1, none⟩ = some (.int .i64 yl) := by rw [cell_in b0]; rfl
  have k2' : W.cell? ⟨w.heap.size, 2, none⟩ = some (.int .i64 yb) := by rw [cell_in b0]; rfl
  have k3' : W.cell? ⟨w.heap.size, 3, none⟩ = some (.int .i64 yr) := by rw [cell_in b0]; rfl
  have KS : ∀ w', Below W.heap.size W w' → w'.cell? ⟨w.heap.size, 0, none⟩ = some (.int .i64 yt) ∧ w'.cell? ⟨w.heap.size, 1, none⟩ = some (.int .i64 yl) ∧ w'.cell? ⟨w.heap.size, 2, none⟩ = some (.int .i64 yb) ∧ w'.cell? ⟨w.heap.size, 3, none⟩ = some (.int .i64 yr) := fun w' h => ⟨(h.cell (p := ⟨w.heap.size, 0, none⟩) (by simp; omega)).trans k0, (h.cell (p := ⟨w.heap.size, 1, none⟩) (by simp; omega)).trans k1', (h.cell (p := ⟨w.heap.size, 2, none⟩) (by simp; omega)).trans k2', (h.cell (p := ⟨w.heap.size, 3, none⟩) (by simp; omega)).trans k3'⟩
  have hBW := Lib.hid (fun w' (h : Below W.heap.size W w') => hB.trans (h.mono hB.size))
  go_cut [8, 9] (fun v8 v9 wx => ∃ g, v8 = .pointer (some ⟨g, 0, none⟩) ∧ v9 = .bool k1 ∧ Below W.heap.size W wx ∧ wx.heap[g]? = some (.cells #[.int .i64 t1, .int .i64 l1, .int .i64 c1, .int .i64 r1] 31 (0, 0)))
  case first =>
    go_region_held3 (fun w' => w'.cell? ⟨w.heap.size, 0, none⟩ = some (.int .i64 yt) ∧ w'.cell? ⟨w.heap.size, 1, none⟩ = some (.int .i64 yl) ∧ w'.cell? ⟨w.heap.size, 2, none⟩ = some (.int .i64 yb) ∧ w'.cell? ⟨w.heap.size, 3, none⟩ = some (.int .i64 yr)) (exact KS _ (by (repeat' (first | (with_reducible exact Below.refl _ _) | (with_reducible refine Below.alloc ?_ ?_ _) | (with_reducible refine below_ext ?_ ?_ _) | (with_reducible refine Below.drew ?_) | (with_reducible refine below_drewN ?_ _) | (with_reducible refine Below.setCell ?_ ?_ _) | go_size | (simp only [go_sem]; omega) | (simp [go_sem]; done) | (simp [go_sem]; omega))))) ((first
      | (go_at_call 42; ((with_reducible refine (RW.out _ (hBW.out _ (by (repeat' (first | (with_reducible exact Below.refl _ _) | (with_reducible refine Below.alloc ?_ ?_ _) | (with_reducible refine below_ext ?_ ?_ _) | (with_reducible refine Below.drew ?_) | (with_reducible refine below_drewN ?_ _) | (with_reducible refine Below.setCell ?_ ?_ _) | go_size | (simp only [go_sem]; omega) | (simp [go_sem]; done) | (simp [go_sem]; omega))))) _).mono ?_); rintro _ _ ⟨rfl, rfl⟩))
      | (go_at_call 39; ((with_reducible refine (R1.out _ _ (by (repeat (first | ((with_reducible refine heap_at _ _ ?_); (focus (first | rfl | (simp [go_sem]; done) | (simp [go_sem]; omega)))) | ((with_reducible refine (heap_old _ _ ?_).trans ?_); (focus (first | (simp [go_sem]; done) | (simp [go_sem]; omega)))) | ((with_reducible refine (block_ext _ _ ?_).trans ?_); (focus (first | (simp [go_sem]; done) | (simp [go_sem]; omega)))) | ((with_reducible refine (heap_drew _ _).trans ?_)))))).mono ?_); rintro _ _ hgets; obtain ⟨rfl, x1, rfl⟩ := hgets.get; clear hgets))))
    all_goals go_wp2
    all_goals go_meet
    all_goals refine ⟨_, rfl, rfl, by (repeat' (first | (with_reducible exact Below.refl _ _) | (with_reducible refine Below.alloc ?_ ?_ _) | (with_reducible refine below_ext ?_ ?_ _) | (with_reducible refine Below.drew ?_) | (with_reducible refine below_drewN ?_ _) | (with_reducible refine Below.setCell ?_ ?_ _) | go_size | (simp only [go_sem]; omega) | (simp [go_sem]; done) | (simp [go_sem]; omega))), ?_⟩
    all_goals (repeat (first | ((with_reducible refine heap_at _ _ ?_); (focus (first | rfl | (simp [go_sem]; done) | (simp [go_sem]; omega)))) | ((with_reducible refine (heap_old _ _ ?_).trans ?_); (focus (first | (simp [go_sem]; done) | (simp [go_sem]; omega)))) | ((with_reducible refine (block_ext _ _ ?_).trans ?_); (focus (first | (simp [go_sem]; done) | (simp [go_sem]; omega)))) | ((with_reducible refine (heap_drew _ _).trans ?_))))
  obtain ⟨g1, rfl, rfl, hB1, bg1⟩ := hcut
  have hg1 := heap_in bg1
  obtain ⟨Wa, eWa⟩ : ∃ Wa, Wa = wc := ⟨_, rfl⟩
  rw [← eWa] at hB1 bg1 hg1 ⊢
  clear eWa wc
  have hl1 : w.heap.size < Wa.heap.size := Nat.lt_of_lt_of_le hlt hB1.size
  have a0 := (hB1.block w.heap.size hlt).trans b0
  have q0 : Wa.cell? ⟨w.heap.size, 0, none⟩ = some (.int .i64 yt) := by rw [cell_in a0]; rfl
  have q1 : Wa.cell? ⟨w.heap.size, 1, none⟩ = some (.int .i64 yl) := by rw [cell_in a0]; rfl
  have q2 : Wa.cell? ⟨w.heap.size, 2, none⟩ = some (.int .i64 yb) := by rw [cell_in a0]; rfl
  have q3 : Wa.cell? ⟨w.heap.size, 3, none⟩ = some (.int .i64 yr) := by rw [cell_in a0]; rfl
  clear KS k0 k1' k2' k3'
  go_upto_region 3 with fail
  go_cut [10, 11, 12, 13] (fun v10 v11 v12 v13 wx => ∃ g h, v10 = .pointer (some ⟨g, 0, none⟩) ∧ v11 = .bool k2 ∧ v12 = undef ∧ v13 = undef ∧ Below Wa.heap.size Wa wx ∧ wx.heap[g]? = some (.cells #[.int .i64 t2, .int .i64 l2, .int .i64 c2, .int .i64 r2] 31 (0, 0)))
  case first =>
    go_wp2_with (go_at_call 39; ((with_reducible refine (R2.out _ _ (by (repeat (first | ((with_reducible refine heap_at _ _ ?_); (focus (first | rfl | (simp [go_sem]; done) | (simp [go_sem]; omega)))) | ((with_reducible refine (heap_old _ _ ?_).trans ?_); (focus (first | (simp [go_sem]; done) | (simp [go_sem]; omega)))) | ((with_reducible refine (block_ext _ _ ?_).trans ?_); (focus (first | (simp [go_sem]; done) | (simp [go_sem]; omega)))) | ((with_reducible refine (heap_drew _ _).trans ?_)))))).mono ?_); rintro _ _ hgets; obtain ⟨rfl, x2, rfl⟩ := hgets.get; clear hgets))
    go_meet
    refine ⟨_, 0, rfl, rfl, rfl, rfl, by (repeat' (first | (with_reducible exact Below.refl _ _) | (with_reducible refine Below.alloc ?_ ?_ _) | (with_reducible refine below_ext ?_ ?_ _) | (with_reducible refine Below.drew ?_) | (with_reducible refine below_drewN ?_ _) | (with_reducible refine Below.setCell ?_ ?_ _) | go_size | (simp only [go_sem]; omega) | (simp [go_sem]; done) | (simp [go_sem]; omega))), ?_⟩
    (repeat (first | ((with_reducible refine heap_at _ _ ?_); (focus (first | rfl | (simp [go_sem]; done) | (simp [go_sem]; omega)))) | ((with_reducible refine (heap_old _ _ ?_).trans ?_); (focus (first | (simp [go_sem]; done) | (simp [go_sem]; omega)))) | ((with_reducible refine (block_ext _ _ ?_).trans ?_); (focus (first | (simp [go_sem]; done) | (simp [go_sem]; omega)))) | ((with_reducible refine (heap_drew _ _).trans ?_))))
  obtain ⟨g2, _, rfl, rfl, rfl, rfl, hB2, bg2⟩ := hcut
  obtain ⟨Wb, eWb⟩ : ∃ Wb, Wb = wc := ⟨_, rfl⟩
  rw [← eWb] at hB2 bg2 ⊢
  clear eWb wc q0 q1 q2 q3
  have hl2 : w.heap.size < Wb.heap.size := Nat.lt_of_lt_of_le hl1 hB2.size
  have a1 := (hB2.block w.heap.size hl1).trans a0
  have q0 : Wb.cell? ⟨w.heap.size, 0, none⟩ = some (.int .i64 yt) := by rw [cell_in a1]; rfl
  have q1 : Wb.cell? ⟨w.heap.size, 1, none⟩ = some (.int .i64 yl) := by rw [cell_in a1]; rfl
  have q2 : Wb.cell? ⟨w.heap.size, 2, none⟩ = some (.int .i64 yb) := by rw [cell_in a1]; rfl
  have q3 : Wb.cell? ⟨w.heap.size, 3, none⟩ = some (.int .i64 yr) := by rw [cell_in a1]; rfl
  have bg1b := (hB2.block g1 hg1).trans bg1
  go_upto_region 4 with fail
  go_cut [12, 13] (fun v12 v13 wx => ∃ g, v12 = .pointer (some ⟨g, 0, none⟩) ∧ v13 = .bool k3 ∧ Below Wb.heap.size Wb wx ∧ wx.heap[g]? = some (.cells #[.int .i64 t3, .int .i64 l3, .int .i64 c3, .int .i64 r3] 31 (0, 0)))
  case first =>
    go_wp2_with (go_at_call 39; ((with_reducible refine (R3.out _ _ (by (repeat (first | ((with_reducible refine heap_at _ _ ?_); (focus (first | rfl | (simp [go_sem]; done) | (simp [go_sem]; omega)))) | ((with_reducible refine (heap_old _ _ ?_).trans ?_); (focus (first | (simp [go_sem]; done) | (simp [go_sem]; omega)))) | ((with_reducible refine (block_ext _ _ ?_).trans ?_); (focus (first | (simp [go_sem]; done) | (simp [go_sem]; omega)))) | ((with_reducible refine (heap_drew _ _).trans ?_)))))).mono ?_); rintro _ _ hgets; obtain ⟨rfl, x3, rfl⟩ := hgets.get; clear hgets))
    go_meet
    refine ⟨_, rfl, rfl, by (repeat' (first | (with_reducible exact Below.refl _ _) | (with_reducible refine Below.alloc ?_ ?_ _) | (with_reducible refine below_ext ?_ ?_ _) | (with_reducible refine Below.drew ?_) | (with_reducible refine below_drewN ?_ _) | (with_reducible refine Below.setCell ?_ ?_ _) | go_size | (simp only [go_sem]; omega) | (simp [go_sem]; done) | (simp [go_sem]; omega))), ?_⟩
    (repeat (first | ((with_reducible refine heap_at _ _ ?_); (focus (first | rfl | (simp [go_sem]; done) | (simp [go_sem]; omega)))) | ((with_reducible refine (heap_old _ _ ?_).trans ?_); (focus (first | (simp [go_sem]; done) | (simp [go_sem]; omega)))) | ((with_reducible refine (block_ext _ _ ?_).trans ?_); (focus (first | (simp [go_sem]; done) | (simp [go_sem]; omega)))) | ((with_reducible refine (heap_drew _ _).trans ?_))))
  obtain ⟨g3, rfl, rfl, hB3, bg3⟩ := hcut
  have BW : Below w.heap.size w wc := hB.trans (((hB1.trans (hB2.mono hB1.size)).trans (hB3.mono (Nat.le_trans hB1.size hB2.size))).mono hB.size)
  have e1 := (hB3.block g1 (heap_in bg1b)).trans bg1b
  have e2 := (hB3.block g2 (heap_in bg2)).trans bg2
  have e0 := (hB3.block w.heap.size hl2).trans a1
  obtain ⟨W3, eW3⟩ : ∃ W3, W3 = wc := ⟨_, rfl⟩
  rw [← eW3] at BW e0 e1 e2 bg3 ⊢
  clear q0 q1 q2 q3 a0 a1 b0 bg1 bg1b bg2 hB hB1 hB2 hB3 hg1 hlt hl1 hl2 eW3 wc hBW R1 R2 R3 RW
  have z1 : W3.cell? ⟨w.heap.size, 1, none⟩ = some (.int .i64 yl) := by rw [cell_in e0]; rfl
  have z3 : W3.cell? ⟨w.heap.size, 3, none⟩ = some (.int .i64 yr) := by rw [cell_in e0]; rfl
  have y0 : W3.cell? ⟨g1, 0, none⟩ = some (.int .i64 t1) := by rw [cell_in e1]; rfl
  have y2 : W3.cell? ⟨g1, 2, none⟩ = some (.int .i64 c1) := by rw [cell_in e1]; rfl
  have x1 : W3.cell? ⟨g2, 1, none⟩ = some (.int .i64 l2) := by rw [cell_in e2]; rfl
  have u3 : W3.cell? ⟨g3, 3, none⟩ = some (.int .i64 r3) := by rw [cell_in bg3]; rfl
  have hz := heap_in e0
  have hy := heap_in e1
  have hx := heap_in e2
  have hu := heap_in bg3
  clear e0 e1 e2 bg3
  replace BW := Lib.hid BW
  cases hp : pre
  · rw [hp] at PRE OKE
    have hok : ok = false := by rw [OKE.out]; rfl
    subst hok
    have hfl : fl = [] := by rw [FB.out]; rfl
    subst hfl
    have PR := PRE.out
    clear PRE OKE FB VAL bT TK SX SB
    have key : ∃ A C x, Ending.returned (Value.tuple #[.slice none 0 0, .bool false]) = .returned (.tuple #[.slice A ([] : List BxI).length C, .bool false]) ∧ W3 = ext w x ∧ Own encBx 4 31 w.heap.size (ext w x) (.slice A ([] : List BxI).length C) [] := by
      obtain ⟨x, hx⟩ := ext_of BW.out
      exact ⟨none, 0, x, rfl, hx, Own.nil _ _ _ _ _⟩
    replace key := Lib.hid key
    cases k1
    · go_wp2
      go_returns
      exact key.out
    · cases k2
      · go_wp2
        go_returns
        exact key.out
      · cases k3
        · go_wp2
          go_returns
          exact key.out
        · exact absurd PR (by decide)
  · obtain ⟨v1, v2, v3, v4⟩ := VAL.out hp
    obtain ⟨i1, i2, i3, i4, i5, i6, i7, i8⟩ := bT.out hp
    rw [hp] at PRE OKE
    have PR := PRE.out
    simp only [Bool.and_eq_true] at PR
    obtain ⟨⟨rfl, rfl⟩, rfl⟩ := PR
    subst v1 v2 v3 v4
    clear PRE VAL bT hp
    have hwB : IntKind.i64.wrap (c1 - 1) = c1 - 1 := wrap_i64 (by omega) (by omega)
    go_upto_region 7 with fail
    go_upto_region 9 with fail
    go_loopw [14, 15] (fun v i wr => ∃ (j : Nat) (A : Option Addr) (C : Nat) (x : More), (ok = false → j = 0) ∧ (j : Int) ≤ c1 - t1 ∧ i = .int .i64 (t1 + j) ∧ v = .slice A j C ∧ wr = ext W3 x ∧ Hid (Own encBx 4 31 W3.heap.size (ext W3 x) (.slice A j C) ((List.range j).map fun i : Nat => sx (t1 + (i : Int))))) (fun _ i _ => (c1 - intOf i).toNat)
    case atStart => exact ⟨0, none, 0, ⟨#[], W3.drawn⟩, fun _ => rfl, by omega, by simp, rfl, by simp [ext], Lib.hid (Own.nil _ _ _ _ _)⟩
    case round =>
      obtain ⟨j, A, C, x, hj0, hj, rfl, rfl, rfl, hO⟩ := hrel
      have tk := TK.out j
      by_cases hlt : t1 + (j : Int) < c1
      · obtain ⟨r0, hr0⟩ : ∃ r0, r0 = t1 + (j : Int) := ⟨_, rfl⟩
        rw [← hr0] at tk hlt ⊢
        have sxe := SX.out r0
        have hw1 : IntKind.i64.wrap (r0 + 1) = r0 + 1 := wrap_i64 (by omega) (by omega)
        have hd : decide (r0 < c1) = true := by simpa using hlt
        obtain ⟨b1, lv, HF1, hlv, hb1⟩ : ∃ b1 lv, (r0 == t1) = b1 ∧ lv = (if r0 = t1 then l2 else yl) ∧ ((b1 = true ∧ lv = l2 ∧ r0 = t1) ∨ (b1 = false ∧ lv = yl ∧ r0 ≠ t1)) := by
          by_cases e : r0 = t1
          · exact ⟨true, l2, by simpa using e, by rw [if_pos e], .inl ⟨rfl, rfl, e⟩⟩
          · exact ⟨false, yl, by simpa using e, by rw [if_neg e], .inr ⟨rfl, rfl, e⟩⟩
        obtain ⟨b2, rv, HF2, hrv, hb2⟩ : ∃ b2 rv, (r0 == c1 - 1) = b2 ∧ rv = (if r0 = c1 - 1 then r3 else yr) ∧ ((b2 = true ∧ rv = r3 ∧ r0 = c1 - 1) ∨ (b2 = false ∧ rv = yr ∧ r0 ≠ c1 - 1)) := by
          by_cases e : r0 = c1 - 1
          · exact ⟨true, r3, by simpa using e, by rw [if_pos e], .inl ⟨rfl, rfl, e⟩⟩
          · exact ⟨false, yr, by simpa using e, by rw [if_neg e], .inr ⟨rfl, rfl, e⟩⟩
        rw [← hlv, ← hrv] at sxe
        have hemp : (decide (r0 + 1 ≤ r0) || decide (rv ≤ lv)) = !ok := by
          rw [OKE.out, Bool.true_and]
          have h1 : decide (r0 + 1 ≤ r0) = false := by simp; omega
          rw [h1, Bool.false_or]
          by_cases q : c1 = t1 + 1 ∧ r3 ≤ l2
          · rw [decide_eq_true (by omega), decide_eq_false (fun h => h q)]; rfl
          · rw [decide_eq_false (by omega), decide_eq_true q]; rfl
        have EM := Lib.hid (fun w' => empty_c r0 lv (r0 + 1) rv w')
        rw [hemp] at EM
        rw [sxe] at tk
        have hjl : (j : Int) ≤ 2000000 := by omega
        have hjn : j + 1 = (List.range (j + 1)).length := by simp
        replace tk := Lib.hid tk
        clear hemp hlv hrv sxe
        replace hr0 := Lib.hid hr0
        replace hO := hO.out
        generalize hbs : ((List.range j).map fun i : Nat => sx (t1 + (i : Int))) = bs at hO tk
        have hbl : bs.length = j := by rw [← hbs]; simp
        clear hbs hjn
        subst hbl
        replace hO := Lib.hid hO
        replace hj0 := Lib.hid hj0
        replace hj := Lib.hid hj
        cases ok
        · have hfl : fl = [] := by rw [FB.out]; rfl
          subst hfl
          rcases hb1 with ⟨rfl, rfl, -⟩ | ⟨rfl, rfl, -⟩ <;> rcases hb2 with ⟨rfl, rfl, -⟩ | ⟨rfl, rfl, -⟩
          all_goals go_wp2_with (go_at_call 90; ((with_reducible refine (EM.out _).mono ?_); rintro _ _ hgets; obtain ⟨rfl, x5, rfl⟩ := hgets.get; clear hgets))
          all_goals go_returns
          all_goals refine (show ∀ W', Below w.heap.size w W' → ∃ A C x, Ending.returned (Value.tuple #[.slice none 0 0, .bool false]) = .returned (.tuple #[.slice A ([] : List BxI).length C, .bool false]) ∧ W' = ext w x ∧ Own encBx 4 31 w.heap.size (ext w x) (.slice A ([] : List BxI).length C) [] from fun W' h => by
            obtain ⟨x, hx⟩ := ext_of h
            exact ⟨none, 0, x, rfl, hx, Own.nil _ _ _ _ _⟩) _ (BW.out.trans (Below.mono (B := W3.heap.size) (by (repeat' (first | (with_reducible exact Below.refl _ _) | (with_reducible refine Below.alloc ?_ ?_ _) | (with_reducible refine below_ext ?_ ?_ _) | (with_reducible refine Below.drew ?_) | (with_reducible refine below_drewN ?_ _) | (with_reducible refine Below.setCell ?_ ?_ _) | go_size | (simp only [go_sem]; omega) | (simp [go_sem]; done) | (simp [go_sem]; omega)))) BW.out.size))
        · rcases hb1 with ⟨rfl, rfl, -⟩ | ⟨rfl, rfl, -⟩ <;> rcases hb2 with ⟨rfl, rfl, -⟩ | ⟨rfl, rfl, -⟩
          all_goals go_wp2_with (first
            | (go_at_call 90; ((with_reducible refine (EM.out _).mono ?_); rintro _ _ hgets; obtain ⟨rfl, x5, rfl⟩ := hgets.get; clear hgets))
            | (at_builtin
               refine append_rd (U := W3) (.tmp 88) (.tmp 90) 130 31 _ 32 rfl rfl Tryz.underlying130 bx_info rfl (by omega) encBx_len encBx_one bs [⟨r0, lv, r0 + 1, rv⟩] _ _ 1 rfl rfl ?_ (((hO.out.alloc _).ext _).alloc _) (bx_new ⟨r0, lv, r0 + 1, rv⟩ (by simp [go_sem])) (by simp [maxLen]; omega) (by simp; omega) ?_
               · (repeat' (first | (with_reducible exact Below.refl _ _) | (with_reducible refine Below.alloc ?_ ?_ _) | (with_reducible refine below_ext ?_ ?_ _) | (with_reducible refine Below.drew ?_) | (with_reducible refine below_drewN ?_ _) | (with_reducible refine Below.setCell ?_ ?_ _) | go_size | (simp only [go_sem]; omega) | (simp [go_sem]; done) | (simp [go_sem]; omega)))
               intro A' c' x3 zs hz1 hO1
               have hO2 := Lib.hid hO1
               have hz2 := Lib.hid hz1
               clear hO1 hz1))
          all_goals rw [tk.out] at hz2
          all_goals go_wp2
          all_goals go_roundw
          all_goals try (case rel => exact ⟨bs.length + 1, A', c', x3, fun h => (by cases h), by have := hr0.out; omega, by rw [hr0.out]; go_num, by rw [hz2.out]; simp, rfl, Lib.hid (by have := hO2.out; rw [hz2.out] at this; simpa using this)⟩)
          all_goals try (case measure => simp [intOf]; omega)
      · have e2 : (j : Int) = c1 - t1 := by omega
        have hok : ok = true := by
          cases ok
          · exact absurd (hj0 rfl) (by omega)
          · rfl
        subst hok
        have hfl : fl = all := by rw [FB.out]; rfl
        subst hfl
        have hal : fl = (List.range j).map fun i : Nat => sx (t1 + (i : Int)) := by rw [SB.out, ← e2]; simp
        have hjl : fl.length = j := by rw [hal]; simp
        rw [← hal, ← hjl] at hO
        subst hjl
        have hd : decide (t1 + (fl.length : Int) < c1) = false := by simp; omega
        clear hj0 hj hal FB SB TK SX OKE tk hlt e2
        go_wp2
        go_returns
        obtain ⟨x', hx'⟩ := ext_of (BW.out.trans (Below.mono (B := W3.heap.size) (below_of_ext W3 x) BW.out.size))
        refine ⟨A, C, x', rfl, hx', ?_⟩
        rw [← hx']
        exact hO.out.mono BW.out.size
end
end Go.Proofs.YtignkkejkknddaaGreat
/- rect.Change.  -/
namespace Go.Proofs.YtignkkejkknddaaGreat
open Go.RowKit
set_option linter.unusedVariables false
set_option linter.unusedSimpArgs false

def chF (fl : Bool) (ns : List Int) : Cl → Cl := if fl = true then flipC ns else applyC ns
theorem chF_ok (fl : Bool) (ns : List Int) (c : Cl) (h : c.ok) : (chF fl ns c).ok := by
  unfold chF
  split
  · exact flipC_ok h
  · exact applyC_ok h
def chB (y : BxI) (xs : List Int) (st : Bool) : List BxI := if st = true then flB y xs else if reOk y xs 0 = true then [reB y xs 0] else []
def chOk (y : BxI) (xs : List Int) (st : Bool) : Bool := if st = true then stOk y xs else reOk y xs 0
def chS (S : PgS) (bs : List BxI) (f : Cl → Cl) : PgS := bs.foldl (fun T b => eachS T (onB T.rows.length T.cols b) (fun zs l r => eachR zs l r f)) S
theorem chS_snoc (S : PgS) (bs : List BxI) (b : BxI) (f : Cl → Cl) : chS S (bs ++ [b]) f = eachS (chS S bs f) (onB (chS S bs f).rows.length (chS S bs f).cols b) (fun zs l r => eachR zs l r f) := by
  unfold chS
  rw [List.foldl_append]
  rfl
theorem chS_ok {S : PgS} (hS : S.Ok) {f : Cl → Cl} (hf : ∀ c, c.ok → (f c).ok) : ∀ bs : List BxI, (chS S bs f).Ok := fun bs => by
  unfold chS
  induction bs generalizing S with
  | nil => exact hS
  | cons b bs ih => exact ih (eachS_ok hS _ (fun xs l r => eachR_len xs l r _) (fun xs l r h => eachR_ok h fun y hy => hf y hy))
theorem flB_len (y : BxI) (xs : List Int) (h1 : -1000000 ≤ y.t) (h2 : y.b ≤ 1000000) : (flB y xs).length ≤ 2000000 := by
  unfold flB
  split
  · rename_i h
    unfold stBoxes
    rw [List.length_map, List.length_range]
    unfold stOk stPre at h
    simp only [Bool.and_eq_true, decide_eq_true_eq] at h
    have hB : stB y xs ≤ y.b := by unfold stB lastA; split <;> omega
    have hT : y.t ≤ stT y xs := by unfold stT; omega
    omega
  · simp
/-- the page within the loop over the boxes -/
structure LpSt (w0 : World) (F : Nat → Prop) (p : Nat) (T : PgS) (wr : World) : Prop where
  keep : Keep F w0 wr
  foot : ∃ F', PageAt wr F' p T ∧ ∀ b, F' b → F b ∨ w0.heap.size ≤ b
section
variable {w w0 wr wz : World} {F : Nat → Prop} {p : Nat} {S T U : PgS} {a : Option Addr} {c : Nat} {xs : List Int}
theorem LpSt.start (h : PageAt w0 F p T) : LpSt w0 F p T w0 := ⟨Keep.refl _ _, F, h, fun b hb => .inl hb⟩
theorem LpSt.grow (h : LpSt w0 F p T wr) (hb : Below wr.heap.size wr wz) : LpSt w0 F p T wz := by
  obtain ⟨k, F', h1, h2⟩ := h
  exact ⟨k.trans (Keep.of_below (F := F) hb) (fun x hx => .inl hx), F', h1.grow hb, h2⟩
theorem LpSt.did (h : LpSt w0 F p T wr) {F' : Nat → Prop} (h1 : ∀ b, F' b → F b ∨ w0.heap.size ≤ b) (d : Did F' p U wr wz) : LpSt w0 F p U wz := by
  refine ⟨h.keep.trans d.1 h1, _, d.2, fun b hb => ?_⟩
  rcases hb with hb | hb
  · exact h1 b hb
  · exact .inr (Nat.le_trans h.keep.size hb.1)
theorem LpSt.fin (h : LpSt w0 F p T wr) (hF : ∀ b, F b → b < w0.heap.size) : Did F p T w0 wr := by
  obtain ⟨k, F', h1, h2⟩ := h
  refine ⟨k, h1.mono (fun b hb => ?_) (fun b hb => ?_)⟩
  · rcases h2 b hb with hb' | hb'
    · exact .inl hb'
    · exact .inr ⟨hb', h1.lt b hb⟩
  · rcases hb with hb | hb
    · exact Nat.lt_of_lt_of_le (hF b hb) k.size
    · exact hb.2
theorem LpSt.num (h : LpSt w0 F p T wr) (hx : NumL w0 a c xs) (hA : 0 < xs.length → ∀ q o, a = some ⟨q, o, none⟩ → ¬ F q) : NumL wr a c xs := ⟨Rd.keep' hx.rd h.keep hA, hx.lc, hx.cm, hx.hi⟩
/-- a change of a box, by either function -/
theorem LpSt.change (h : LpSt w0 F p T wr) (hT : T.Ok) (hF : ∀ b, F b → b < w0.heap.size) {A : Option Addr} {C : Nat} {ns : List Int} (rd : Ints w0 A ns) (hA : 0 < ns.length → ∀ q o, A = some ⟨q, o, none⟩ → ¬ F q) (hl : ns.length ≤ 9223372036854775807) (b : BxI) (fl : Bool) (K : Nat) (hK : K = if fl = true then 77 else 76) (w' : World) (hb : Below wr.heap.size wr w') :
    Calls Tryz.prog K #[.pointer (some ⟨p, 0, none⟩), boxV b.t b.l b.b b.r, .slice A ns.length C] w' (fun e w2 => e = .returned (.tuple #[]) ∧ LpSt w0 F p (eachS T (onB T.rows.length T.cols b) (fun zs l r => eachR zs l r (chF fl ns))) w2) := by
  obtain ⟨F', h1, h2⟩ := h.foot
  have g1 := h1.grow hb
  have hk := (h.grow hb).keep
  have rd2 : Ints w' A ns := Rd.keep' rd hk hA
  have hA2 : 0 < ns.length → ∀ q o, A = some ⟨q, o, none⟩ → ¬ F' q := fun h0 q o e f => by
    rcases h2 q f with hq | hq
    · exact hA h0 q o e hq
    · obtain ⟨b', o', e', hlt, -⟩ := rd h0
      rw [e] at e'
      injection e' with e'
      injection e' with e1 e2
      omega
  cases fl
  · obtain rfl : K = 76 := hK
    refine (change_p g1 hT b A C ns rd2 hA2 hl).mono ?_
    rintro e w2 ⟨rfl, hD⟩
    exact ⟨rfl, (h.grow hb).did h2 hD⟩
  · obtain rfl : K = 77 := hK
    refine (flip_p g1 hT b A C ns rd2 hA2 hl).mono ?_
    rintro e w2 ⟨rfl, hD⟩
    exact ⟨rfl, (h.grow hb).did h2 hD⟩
theorem LpSt.back (h : LpSt w0 F p T wr) (hb : Below w.heap.size w w0) (hF : ∀ b, F b → b < w.heap.size) : Did F p T w wr :=
  Did.back (h.fin (fun b hb2 => Nat.lt_of_lt_of_le (hF b hb2) hb.size)) hb hF
/-- a list of boxes, off the blocks below B -/
def BxL (w : World) (B : Nat) (A : Option Addr) (bs : List BxI) : Prop := Rd encBx 4 w A bs ∧ (0 < bs.length → ∀ b o, A = some ⟨b, o, none⟩ → B ≤ b)
theorem BxL.of {B n C : Nat} {A : Option Addr} {bs : List BxI} (h : Own encBx 4 31 B w (.slice A n C) bs) : BxL w B A bs := by
  refine ⟨h.rd encBx_len, fun h0 b o e => ?_⟩
  obtain ⟨g, c', e2, -, -⟩ := h.some_of h0
  injection e2 with e2
  have := h.lt g (by rw [e2]; rfl)
  rw [e] at e2
  injection e2 with e2
  injection e2 with e2
  omega
theorem four_put {B b : Nat} {v0 v1 v2 v3 : Value} {t : TypeId} (h : wr.heap[b]? = some (.cells #[v0, v1, v2, v3] t (0, 0))) (hb : Below B w wr) (hB : B ≤ b) (u0 u1 u2 u3 : Value) :
    Below B w ((((wr.setCell ⟨b, 0, none⟩ u0).setCell ⟨b, 1, none⟩ u1).setCell ⟨b, 2, none⟩ u2).setCell ⟨b, 3, none⟩ u3) ∧ ((((wr.setCell ⟨b, 0, none⟩ u0).setCell ⟨b, 1, none⟩ u1).setCell ⟨b, 2, none⟩ u2).setCell ⟨b, 3, none⟩ u3).heap[b]? = some (.cells #[u0, u1, u2, u3] t (0, 0)) :=
  ⟨below_set (below_set (below_set (below_set hb _ _ hB) _ _ hB) _ _ hB) _ _ hB, by simp [World.setCell, Array.getElem?_modify, h]⟩
set_option maxRecDepth 100000 in
set_option maxHeartbeats 16000000 in
theorem change_rect (h : PageAt w F p S) (hS : S.Ok) (hFl : ∀ b, F b → b < w.heap.size) (hx : NumL w a c xs) (hA : 0 < xs.length → ∀ q o, a = some ⟨q, o, none⟩ → ¬ F q) (x : BxI) (st fl : Bool) :
    Calls Tryz.prog 27 #[.pointer (some ⟨p, 0, none⟩), boxV x.t x.l x.b x.r, .slice a xs.length c, .bool st, .bool fl] w (fun e w' => e = .returned (.bool (chOk (arB S x) xs st)) ∧ Did F p (chS S (chB (arB S x) xs st) (chF fl (xs.drop 4))) w w') := by
  obtain ⟨ht, hl, hbb, hr⟩ := arB_bd hS x
  have BX := Lib.hid (fun w' (hb : Below w.heap.size w w') => box_p (h.grow hb))
  have MT := Lib.hid (fun w' => ar_meet S x w')
  have RC := Lib.hid (fun w' (hb : Below w.heap.size w w') => re_rect (hx.grow hb) hS x 0)
  have FL := Lib.hid (fun w' (hb : Below w.heap.size w w') => flow_c (hx.grow hb) (arB S x) ⟨ht, hl, hbb, hr⟩)
  have TL := Lib.hid (fun w' => tail_c (a := a) (c := c) (xs := xs) 4 (by omega) (Nat.le_trans hx.lc hx.cm) w')
  rw [show ((4 : Nat) : Int) = 4 from rfl] at TL
  have hlen : (chB (arB S x) xs st).length ≤ 2000000 := by
    unfold chB
    split
    · exact flB_len _ _ ht.1 hbb.2
    · split <;> simp
  have okT : ∀ k, (chS S ((chB (arB S x) xs st).take k) (chF fl (xs.drop 4))).Ok := fun k => chS_ok hS (chF_ok fl _) _
  have stp : ∀ k (hk : k < (chB (arB S x) xs st).length), chS S ((chB (arB S x) xs st).take (k + 1)) (chF fl (xs.drop 4)) = eachS (chS S ((chB (arB S x) xs st).take k) (chF fl (xs.drop 4))) (onB (chS S ((chB (arB S x) xs st).take k) (chF fl (xs.drop 4))).rows.length (chS S ((chB (arB S x) xs st).take k) (chF fl (xs.drop 4))).cols (chB (arB S x) xs st)[k]) (fun zs l r => eachR zs l r (chF fl (xs.drop 4))) := fun k hk => by
    rw [List.take_succ_eq_append_getElem hk, chS_snoc]
  have hdl : (xs.drop 4).length ≤ 9223372036854775807 := by have := hx.lc; have := hx.cm; rw [List.length_drop]; omega
  have NC := fun w' (hb : Below w.heap.size w w') => num_cut (hx.grow hb) 4
  have hA2 : 0 < (xs.drop 4).length → ∀ q o, cutN a c (min 4 xs.length) = some ⟨q, o, none⟩ → ¬ F q := fun h0 q o e => by
    have h1 : 0 < xs.length := by rw [List.length_drop] at h0; omega
    obtain ⟨b', o', e', -, -⟩ := hx.rd h1
    unfold cutN at e
    rw [e'] at e
    refine hA h1 q o' ?_
    split at e
    · injection e with e; injection e with e1 e2; rw [e', e1]
    · simp only [addr_add, Option.map_some] at e
      injection e with e; injection e with e1 e2; rw [e', e1]
  have CB : chB (arB S x) xs st = if st = true then flB (arB S x) xs else if reOk (arB S x) xs 0 = true then [reB (arB S x) xs 0] else [] := rfl
  have CO : chOk (arB S x) xs st = if st = true then stOk (arB S x) xs else reOk (arB S x) xs 0 := rfl
  have all0 : (chB (arB S x) xs st).take (chB (arB S x) xs st).length = chB (arB S x) xs st := List.take_length
  generalize chB (arB S x) xs st = bs at *
  generalize chOk (arB S x) xs st = ok at CO ⊢
  generalize hxd : xs.drop 4 = ns at *
  clear hxd
  generalize cutN a c (min 4 xs.length) = aN at *
  generalize c - min 4 xs.length = cN at *
  generalize flB (arB S x) xs = fb at FL CB
  generalize stOk (arB S x) xs = k2 at FL CO
  generalize reB (arB S x) xs 0 = q at RC CB
  generalize reOk (arB S x) xs 0 = k1 at RC CB CO
  generalize arB S x = z at MT RC FL
  have hP := Lib.hid h
  obtain ⟨xt, xl, xb, xr⟩ := x
  obtain ⟨zt, zl, zb, zr⟩ := z
  obtain ⟨qt, ql, qb, qr⟩ := q
  simp only at MT RC FL
  replace CB := Lib.hid CB
  replace CO := Lib.hid CO
  replace okT := Lib.hid okT
  replace stp := Lib.hid stp
  replace NC := Lib.hid NC
  replace hA2 := Lib.hid hA2
  replace all0 := Lib.hid all0
  replace hdl := Lib.hid hdl
  replace hFl := Lib.hid hFl
  clear h hx hA ht hl hbb hr
  go_enter Tryz.func27, Tryz.ntmps27
  go_upto_region 1 with fail
  generalize hW : w.alloc (.cells #[.int .i64 xt, .int .i64 xl, .int .i64 xb, .int .i64 xr] 31) = W
  have hlt : w.heap.size < W.heap.size := by subst hW; simp [go_sem]
  have hB : Below w.heap.size w W := by subst hW; (repeat' (first | (with_reducible exact Below.refl _ _) | (with_reducible refine Below.alloc ?_ ?_ _) | (with_reducible refine below_ext ?_ ?_ _) | (with_reducible refine Below.drew ?_) | (with_reducible refine below_drewN ?_ _) | (with_reducible refine Below.setCell ?_ ?_ _) | go_size | (simp only [go_sem]; omega) | (simp [go_sem]; done) | (simp [go_sem]; omega)))
  have b0 : W.heap[w.heap.size]? = some (.cells #[.int .i64 xt, .int .i64 xl, .int .i64 xb, .int .i64 xr] 31 (0, 0)) := by subst hW; exact al_at _ _ rfl
  clear hW
  have KB : ∀ w', Below W.heap.size W w' → w'.heap[w.heap.size]? = some (.cells #[.int .i64 xt, .int .i64 xl, .int .i64 xb, .int .i64 xr] 31 (0, 0)) := fun w' h => (h.block _ hlt).trans b0
  have KS : ∀ w', Below W.heap.size W w' → w'.cell? ⟨w.heap.size, 0, none⟩ = some (.int .i64 xt) ∧ w'.cell? ⟨w.heap.size, 1, none⟩ = some (.int .i64 xl) ∧ w'.cell? ⟨w.heap.size, 2, none⟩ = some (.int .i64 xb) ∧ w'.cell? ⟨w.heap.size, 3, none⟩ = some (.int .i64 xr) := fun w' h => ⟨by rw [cell_in (KB _ h)]; rfl, by rw [cell_in (KB _ h)]; rfl, by rw [cell_in (KB _ h)]; rfl, by rw [cell_in (KB _ h)]; rfl⟩
  have hBW := Lib.hid (fun w' (h : Below W.heap.size W w') => hB.trans (h.mono hB.size))
  go_cut [6] (fun v6 wx => v6 = .pointer (some ⟨w.heap.size, 0, none⟩) ∧ Below w.heap.size w wx ∧ wx.heap[w.heap.size]? = some (.cells #[.int .i64 zt, .int .i64 zl, .int .i64 zb, .int .i64 zr] 31 (0, 0)))
  case first =>
    (refine wp_region_F (S := (fun w' => w'.cell? ⟨w.heap.size, 0, none⟩ = some (.int .i64 xt) ∧ w'.cell? ⟨w.heap.size, 1, none⟩ = some (.int .i64 xl) ∧ w'.cell? ⟨w.heap.size, 2, none⟩ = some (.int .i64 xb) ∧ w'.cell? ⟨w.heap.size, 3, none⟩ = some (.int .i64 xr))) 4 [false, false, false, false, false] rfl rfl (by kernel_rfl) ?_ (fun hHeld => ?_); (focus ((try dsimp only); (exact KS _ (by (repeat' (first | (with_reducible exact Below.refl _ _) | (with_reducible refine Below.alloc ?_ ?_ _) | (with_reducible refine below_ext ?_ ?_ _) | (with_reducible refine Below.drew ?_) | (with_reducible refine below_drewN ?_ _) | (with_reducible refine Below.setCell ?_ ?_ _) | go_size | (simp only [go_sem]; omega) | (simp [go_sem]; done) | (simp [go_sem]; omega))))); done)))
    ((refine AtF.take (oi := ?_) (v := ?_) 0 ?_ ?_ ?_ ?_ (Or.inl ⟨?_, ?_⟩) (by assumption) ?_; rotate_left 2; rfl; kernel_rfl; kernel_rfl; exact (fun _ _ _ h => h); rfl; (focus (intro w hSw; (try dsimp only at hSw); go_simp; (try with_reducible rfl); done)); (try simp only [Act.put, List.setIfInBounds_toArray, List.set_cons_zero, List.set_cons_succ])); (refine AtF.take (oi := ?_) (v := ?_) 1 ?_ ?_ ?_ ?_ (Or.inl ⟨?_, ?_⟩) (by assumption) ?_; rotate_left 2; rfl; kernel_rfl; kernel_rfl; exact (fun _ _ _ h => h); rfl; (focus (intro w hSw; (try dsimp only at hSw); go_simp; (try with_reducible rfl); done)); (try simp only [Act.put, List.setIfInBounds_toArray, List.set_cons_zero, List.set_cons_succ])))
    (refine AtF.only (oi := ?_) 2 ?_ ?_ (fun K hK => ?_); rotate_left 1; rfl; kernel_rfl; (try go_simp); (go_at_call 24; ((with_reducible refine (BX.out _ (hBW.out _ (by (repeat' (first | (with_reducible exact Below.refl _ _) | (with_reducible refine Below.alloc ?_ ?_ _) | (with_reducible refine below_ext ?_ ?_ _) | (with_reducible refine Below.drew ?_) | (with_reducible refine below_drewN ?_ _) | (with_reducible refine Below.setCell ?_ ?_ _) | go_size | (simp only [go_sem]; omega) | (simp [go_sem]; done) | (simp [go_sem]; omega)))))).mono ?_); rintro _ _ hgets; obtain ⟨rfl, x1, rfl⟩ := hgets.get; clear hgets)); (refine hK.out _ _ ?_ (fun hHeld => ?_)); (focus ((try dsimp only); (exact KS _ (by (repeat' (first | (with_reducible exact Below.refl _ _) | (with_reducible refine Below.alloc ?_ ?_ _) | (with_reducible refine below_ext ?_ ?_ _) | (with_reducible refine Below.drew ?_) | (with_reducible refine below_drewN ?_ _) | (with_reducible refine Below.setCell ?_ ?_ _) | go_size | (simp only [go_sem]; omega) | (simp [go_sem]; done) | (simp [go_sem]; omega))))); done)); clear hK K; (try simp only [Act.put, List.setIfInBounds_toArray, List.set_cons_zero, List.set_cons_succ]))
    (refine AtF.only (oi := ?_) 3 ?_ ?_ (fun K hK => ?_); rotate_left 1; rfl; kernel_rfl; (try go_simp); (go_at_call 40; ((with_reducible refine (MT.out _).mono ?_); rintro _ _ hgets; obtain ⟨rfl, x2, rfl⟩ := hgets.get; clear hgets)); (refine hK.out _ _ ?_ (fun hHeld => ?_)); (focus ((try dsimp only); (exact KS _ (by (repeat' (first | (with_reducible exact Below.refl _ _) | (with_reducible refine Below.alloc ?_ ?_ _) | (with_reducible refine below_ext ?_ ?_ _) | (with_reducible refine Below.drew ?_) | (with_reducible refine below_drewN ?_ _) | (with_reducible refine Below.setCell ?_ ?_ _) | go_size | (simp only [go_sem]; omega) | (simp [go_sem]; done) | (simp [go_sem]; omega))))); done)); clear hK K; (try simp only [Act.put, List.setIfInBounds_toArray, List.set_cons_zero, List.set_cons_succ]))
    obtain ⟨W2, hW2⟩ : ∃ W2, W2 = ext (ext W x1) x2 := ⟨_, rfl⟩
    have hB2 : Below W.heap.size W W2 := by rw [hW2]; (repeat' (first | (with_reducible exact Below.refl _ _) | (with_reducible refine Below.alloc ?_ ?_ _) | (with_reducible refine below_ext ?_ ?_ _) | (with_reducible refine Below.drew ?_) | (with_reducible refine below_drewN ?_ _) | (with_reducible refine Below.setCell ?_ ?_ _) | go_size | (simp only [go_sem]; omega) | (simp [go_sem]; done) | (simp [go_sem]; omega)))
    rw [← hW2]
    clear hW2 hHeld
    have b2 := KB _ hB2
    have f2 := fun i => frozen_in (q := i) b2
    have c0 := (KS _ hB2).1
    have c1 := (KS _ hB2).2.1
    have c2 := (KS _ hB2).2.2.1
    have c3 := (KS _ hB2).2.2.2
    have hlt2 := Nat.lt_of_lt_of_le hlt hB2.size
    have FN := Lib.hid (four_put b2 (hB.trans (hB2.mono hB.size)) (Nat.le_refl _) (.int .i64 zt) (.int .i64 zl) (.int .i64 zb) (.int .i64 zr))
    (refine AtF.last (oi := ?_) ?_ ?_ (fun K hK => ?_); rotate_left 1; rfl; kernel_rfl; go_simp; skip; refine hK.out _ _ ?_; clear hK K; (try simp only [Act.put, List.setIfInBounds_toArray, List.set_cons_zero, List.set_cons_succ]))
    go_wp2
    go_meet
    exact ⟨rfl, FN.out⟩
  obtain ⟨rfl, BW, b0⟩ := hcut
  obtain ⟨W1, eW1⟩ : ∃ W1, W1 = wc := ⟨_, rfl⟩
  rw [← eW1] at BW b0 ⊢
  clear eW1 wc KB KS hBW hB hlt
  have hg0 := heap_in b0
  have q0 : W1.cell? ⟨w.heap.size, 0, none⟩ = some (.int .i64 zt) := by rw [cell_in b0]; rfl
  have q1 : W1.cell? ⟨w.heap.size, 1, none⟩ = some (.int .i64 zl) := by rw [cell_in b0]; rfl
  have q2 : W1.cell? ⟨w.heap.size, 2, none⟩ = some (.int .i64 zb) := by rw [cell_in b0]; rfl
  have q3 : W1.cell? ⟨w.heap.size, 3, none⟩ = some (.int .i64 zr) := by rw [cell_in b0]; rfl
  have hBW := Lib.hid (fun w' (h : Below W1.heap.size W1 w') => BW.trans (h.mono BW.size))
  have hle : w.heap.size ≤ W1.heap.size := BW.size
  clear b0
  replace BW := Lib.hid BW
  go_upto_if 27 with (go_at_call 39; ((with_reducible refine (RC.out _ (hBW.out _ (by (repeat' (first | (with_reducible exact Below.refl _ _) | (with_reducible refine Below.alloc ?_ ?_ _) | (with_reducible refine below_ext ?_ ?_ _) | (with_reducible refine Below.drew ?_) | (with_reducible refine below_drewN ?_ _) | (with_reducible refine Below.setCell ?_ ?_ _) | go_size | (simp only [go_sem]; omega) | (simp [go_sem]; done) | (simp [go_sem]; omega)))))).mono ?_); rintro _ _ hgets; obtain ⟨rfl, x3, rfl⟩ := hgets.get; clear hgets))
  go_cut [11] (fun v11 wx => ∃ A C, v11 = .slice A (if k1 = true then [(⟨qt, ql, qb, qr⟩ : BxI)] else []).length C ∧ Below W1.heap.size W1 wx ∧ BxL wx w.heap.size A (if k1 = true then [(⟨qt, ql, qb, qr⟩ : BxI)] else []))
  case first =>
    cases k1
    · go_wp2
      go_meet
      exact ⟨_, _, rfl, by (repeat' (first | (with_reducible exact Below.refl _ _) | (with_reducible refine Below.alloc ?_ ?_ _) | (with_reducible refine below_ext ?_ ?_ _) | (with_reducible refine Below.drew ?_) | (with_reducible refine below_drewN ?_ _) | (with_reducible refine Below.setCell ?_ ?_ _) | go_size | (simp only [go_sem]; omega) | (simp [go_sem]; done) | (simp [go_sem]; omega))), fun h => absurd h (by simp), fun h => absurd h (by simp)⟩
    · go_wp2
      go_meet
      refine ⟨_, 1, show _ = Value.slice _ 1 1 from rfl, by (repeat' (first | (with_reducible exact Below.refl _ _) | (with_reducible refine Below.alloc ?_ ?_ _) | (with_reducible refine below_ext ?_ ?_ _) | (with_reducible refine Below.drew ?_) | (with_reducible refine below_drewN ?_ _) | (with_reducible refine Below.setCell ?_ ?_ _) | go_size | (simp only [go_sem]; omega) | (simp [go_sem]; done) | (simp [go_sem]; omega))), ?_, fun h b o e => ?_⟩
      · exact bx_new ⟨qt, ql, qb, qr⟩ (by simp [go_sem])
      injection e with e
      injection e with e
      rw [← e]
      (try simp)
      omega
  obtain ⟨A1, C1, rfl, hB1, hL1⟩ := hcut
  obtain ⟨W3, eW3⟩ : ∃ W3, W3 = wc := ⟨_, rfl⟩
  rw [← eW3] at hB1 hL1 ⊢
  clear eW3 wc
  generalize hL0 : (if k1 = true then [(⟨qt, ql, qb, qr⟩ : BxI)] else []) = L1 at hL1 CB ⊢
  have r0 := (hB1.cell (p := ⟨w.heap.size, 0, none⟩) (by simp; omega)).trans q0
  have r1 := (hB1.cell (p := ⟨w.heap.size, 1, none⟩) (by simp; omega)).trans q1
  have r2 := (hB1.cell (p := ⟨w.heap.size, 2, none⟩) (by simp; omega)).trans q2
  have r3 := (hB1.cell (p := ⟨w.heap.size, 3, none⟩) (by simp; omega)).trans q3
  clear q0 q1 q2 q3 hL0
  have hg3 : w.heap.size < W3.heap.size := Nat.lt_of_lt_of_le hg0 hB1.size
  have hBW3 := Lib.hid (fun w' (h : Below W3.heap.size W3 w') => (hBW.out _ hB1).trans (h.mono (Nat.le_of_lt hg3)))
  go_upto_if 30 with fail
  go_cut [11, 12, 13] (fun v11 v12 v13 wx => ∃ A C, v11 = .slice A bs.length C ∧ v13 = .bool ok ∧ Below W3.heap.size W3 wx ∧ BxL wx w.heap.size A bs)
  case first =>
    cases st
    · obtain rfl : bs = L1 := CB.out
      obtain rfl : ok = k1 := CO.out
      go_wp2
      go_meet
      exact ⟨_, _, rfl, rfl, by (repeat' (first | (with_reducible exact Below.refl _ _) | (with_reducible refine Below.alloc ?_ ?_ _) | (with_reducible refine below_ext ?_ ?_ _) | (with_reducible refine Below.drew ?_) | (with_reducible refine below_drewN ?_ _) | (with_reducible refine Below.setCell ?_ ?_ _) | go_size | (simp only [go_sem]; omega) | (simp [go_sem]; done) | (simp [go_sem]; omega))), hL1⟩
    · obtain rfl : bs = fb := CB.out
      obtain rfl : ok = k2 := CO.out
      go_wp2_with ((go_at_call 75); (with_reducible refine (FL.out _ (hBW3.out _ (by (repeat' (first | (with_reducible exact Below.refl _ _) | (with_reducible refine Below.alloc ?_ ?_ _) | (with_reducible refine below_ext ?_ ?_ _) | (with_reducible refine Below.drew ?_) | (with_reducible refine below_drewN ?_ _) | (with_reducible refine Below.setCell ?_ ?_ _) | go_size | (simp only [go_sem]; omega) | (simp [go_sem]; done) | (simp [go_sem]; omega)))))).mono ?_); (rintro _ _ ⟨A5, C5, x5, rfl, rfl, hO5⟩); replace hO5 := Lib.hid hO5)
      go_meet
      refine ⟨_, _, rfl, rfl, by (repeat' (first | (with_reducible exact Below.refl _ _) | (with_reducible refine Below.alloc ?_ ?_ _) | (with_reducible refine below_ext ?_ ?_ _) | (with_reducible refine Below.drew ?_) | (with_reducible refine below_drewN ?_ _) | (with_reducible refine Below.setCell ?_ ?_ _) | go_size | (simp only [go_sem]; omega) | (simp [go_sem]; done) | (simp [go_sem]; omega))), ?_⟩
      exact BxL.of (hO5.out.mono (by (try simp); omega))
  obtain ⟨A, C, rfl, rfl, hB2, hL2⟩ := hcut
  obtain ⟨W4, eW4⟩ : ∃ W4, W4 = wc := ⟨_, rfl⟩
  rw [← eW4] at hB2 hL2 ⊢
  clear eW4 wc
  have hB4 : Below w.heap.size w W4 := hBW3.out _ hB2
  have h4 := Nat.lt_of_lt_of_le hg3 hB2.size
  obtain ⟨K, hK⟩ : ∃ K, K = if fl = true then 77 else 76 := ⟨_, rfl⟩
  have hKe : ∀ args w, (callFunc K args).run Tryz.prog w = .ok (.enter K args) w := by
    rw [hK]
    cases fl
    · exact enters_of Tryz.func76 (by kernel_rfl) rfl
    · exact enters_of Tryz.func77 (by kernel_rfl) rfl
  replace hK := Lib.hid hK
  have LS := LpSt.start (hP.out.grow hB4)
  have hFl4 : ∀ b, F b → b < W4.heap.size := fun b hb => by have := hFl.out b hb; omega
  have NC4 := NC.out _ hB4
  clear r0 r1 r2 r3 FL RC BX MT hg0 hBW hle hB1 hL1 hg3 hBW3 hB2 NC
  go_upto_if 39 with fail
  go_cut [14] (fun v14 wx => v14 = .func (.func K) #[.pointer (some ⟨p, 0, none⟩)] #[] ∧ wx = W4)
  case first =>
    cases fl
    · obtain rfl : K = 76 := hK.out
      go_wp2
      go_meet
      exact ⟨rfl, rfl⟩
    · obtain rfl : K = 77 := hK.out
      go_wp2
      go_meet
      exact ⟨rfl, rfl⟩
  obtain ⟨rfl, eW⟩ := hcut
  rw [eW]
  clear eW wc
  go_upto_region 12 with fail
  go_loopw [44] (fun i wr => ∃ k : Nat, k ≤ bs.length ∧ i = .int .i64 k ∧ Hid (LpSt W4 F p (chS S (bs.take k) (chF fl ns)) wr)) (fun i _ => bs.length - (intOf i).toNat)
  case atStart => exact ⟨0, by omega, rfl, Lib.hid (by simpa [chS] using LS)⟩
  case round =>
    obtain ⟨k, hk, rfl, G⟩ := hrel
    by_cases hlt : k < bs.length
    · have okk := okT.out k
      have stk := Lib.hid (stp.out k hlt)
      generalize chS S (bs.take k) (chF fl ns) = Tk at G okk stk
      have rdk : Rd encBx 4 wr A bs := Rd.keep' hL2.1 G.out.keep (fun h0 q o e f => by have := hL2.2 h0 q o e; have := hFl.out q f; omega)
      obtain ⟨g1, o1, hA1, hgl, hd⟩ := rdk (by omega)
      subst hA1
      have d0 := hd k hlt 0 _ rfl
      have d1 := hd k hlt 1 _ rfl
      have d2 := hd k hlt 2 _ rfl
      have d3 := hd k hlt 3 _ rfl
      have CH := Lib.hid (fun w' (hb : Below wr.heap.size wr w') => G.out.change okk hFl4 NC4.rd hA2.out hdl.out (C := cN) bs[k] fl K hK.out w' hb)
      generalize bs[k] = bx at CH d0 d1 d2 d3 stk
      obtain ⟨bt, bl, bb, br⟩ := bx
      simp only [Nat.add_zero, ← Nat.add_assoc] at CH d0 d1 d2 d3 stk
      clear hd rdk G okk
      go_upto_region 14 with fail
      generalize hW5 : wr.alloc (.cells #[.int .i64 bt, .int .i64 bl, .int .i64 bb, .int .i64 br] 31) = W5
      have hlt5 : wr.heap.size < W5.heap.size := by subst hW5; simp [go_sem]
      have hB5 : Below wr.heap.size wr W5 := by subst hW5; (repeat' (first | (with_reducible exact Below.refl _ _) | (with_reducible refine Below.alloc ?_ ?_ _) | (with_reducible refine below_ext ?_ ?_ _) | (with_reducible refine Below.drew ?_) | (with_reducible refine below_drewN ?_ _) | (with_reducible refine Below.setCell ?_ ?_ _) | go_size | (simp only [go_sem]; omega) | (simp [go_sem]; done) | (simp [go_sem]; omega)))
      have b5 : W5.heap[wr.heap.size]? = some (.cells #[.int .i64 bt, .int .i64 bl, .int .i64 bb, .int .i64 br] 31 (0, 0)) := by subst hW5; exact al_at _ _ rfl
      clear hW5
      have KS : ∀ w', Below W5.heap.size W5 w' → w'.cell? ⟨wr.heap.size, 0, none⟩ = some (.int .i64 bt) ∧ w'.cell? ⟨wr.heap.size, 1, none⟩ = some (.int .i64 bl) ∧ w'.cell? ⟨wr.heap.size, 2, none⟩ = some (.int .i64 bb) ∧ w'.cell? ⟨wr.heap.size, 3, none⟩ = some (.int .i64 br) := fun w' h => ⟨by rw [cell_in ((h.block _ hlt5).trans b5)]; rfl, by rw [cell_in ((h.block _ hlt5).trans b5)]; rfl, by rw [cell_in ((h.block _ hlt5).trans b5)]; rfl, by rw [cell_in ((h.block _ hlt5).trans b5)]; rfl⟩
      have CH5 := Lib.hid (fun w' (h : Below W5.heap.size W5 w') => CH.out w' (hB5.trans (h.mono hB5.size)))
      clear CH
      (refine wp_region_F (S := (fun w' => w'.cell? ⟨wr.heap.size, 0, none⟩ = some (.int .i64 bt) ∧ w'.cell? ⟨wr.heap.size, 1, none⟩ = some (.int .i64 bl) ∧ w'.cell? ⟨wr.heap.size, 2, none⟩ = some (.int .i64 bb) ∧ w'.cell? ⟨wr.heap.size, 3, none⟩ = some (.int .i64 br))) 4 [false, false, false, false, false] rfl rfl (by kernel_rfl) ?_ (fun hHeld => ?_); (focus ((try dsimp only); (exact KS _ (by (repeat' (first | (with_reducible exact Below.refl _ _) | (with_reducible refine Below.alloc ?_ ?_ _) | (with_reducible refine below_ext ?_ ?_ _) | (with_reducible refine Below.drew ?_) | (with_reducible refine below_drewN ?_ _) | (with_reducible refine Below.setCell ?_ ?_ _) | go_size | (simp only [go_sem]; omega) | (simp [go_sem]; done) | (simp [go_sem]; omega))))); done)))
      ((refine AtF.take (oi := ?_) (v := ?_) 0 ?_ ?_ ?_ ?_ (Or.inl ⟨?_, ?_⟩) (by assumption) ?_; rotate_left 2; rfl; kernel_rfl; kernel_rfl; exact (fun _ _ _ h => h); rfl; (focus (intro w hSw; (try dsimp only at hSw); go_simp; (try with_reducible rfl); done)); (try simp only [Act.put, List.setIfInBounds_toArray, List.set_cons_zero, List.set_cons_succ])); (refine AtF.take (oi := ?_) (v := ?_) 1 ?_ ?_ ?_ ?_ (Or.inl ⟨?_, ?_⟩) (by assumption) ?_; rotate_left 2; rfl; kernel_rfl; kernel_rfl; exact (fun _ _ _ h => h); rfl; (focus (intro w hSw; (try dsimp only at hSw); go_simp; (try with_reducible rfl); done)); (try simp only [Act.put, List.setIfInBounds_toArray, List.set_cons_zero, List.set_cons_succ])); (refine AtF.take (oi := ?_) (v := ?_) 2 ?_ ?_ ?_ ?_ (Or.inl ⟨?_, ?_⟩) (by assumption) ?_; rotate_left 2; rfl; kernel_rfl; kernel_rfl; exact (fun _ _ _ h => h); rfl; (focus (intro w hSw; (try dsimp only at hSw); go_simp; (try with_reducible rfl); done)); (try simp only [Act.put, List.setIfInBounds_toArray, List.set_cons_zero, List.set_cons_succ])))
      (refine AtF.only (oi := ?_) 3 ?_ ?_ (fun K hK => ?_); rotate_left 1; rfl; kernel_rfl; (try go_simp); (go_at_call 78; ((with_reducible refine (TL.out _).mono ?_); rintro _ _ ⟨rfl, rfl⟩)); (refine hK.out _ _ ?_ (fun hHeld => ?_)); (focus ((try dsimp only); (exact KS _ (by (repeat' (first | (with_reducible exact Below.refl _ _) | (with_reducible refine Below.alloc ?_ ?_ _) | (with_reducible refine below_ext ?_ ?_ _) | (with_reducible refine Below.drew ?_) | (with_reducible refine below_drewN ?_ _) | (with_reducible refine Below.setCell ?_ ?_ _) | go_size | (simp only [go_sem]; omega) | (simp [go_sem]; done) | (simp [go_sem]; omega))))); done)); clear hK K; (try simp only [Act.put, List.setIfInBounds_toArray, List.set_cons_zero, List.set_cons_succ]))
      (refine AtF.last (oi := ?_) ?_ ?_ (fun K hK => ?_); rotate_left 1; rfl; kernel_rfl; go_simp; (with_reducible refine (CH5.out _ (by (repeat' (first | (with_reducible exact Below.refl _ _) | (with_reducible refine Below.alloc ?_ ?_ _) | (with_reducible refine below_ext ?_ ?_ _) | (with_reducible refine Below.drew ?_) | (with_reducible refine below_drewN ?_ _) | (with_reducible refine Below.setCell ?_ ?_ _) | go_size | (simp only [go_sem]; omega) | (simp [go_sem]; done) | (simp [go_sem]; omega))))).mono ?_); (rintro _ W6 ⟨rfl, G6⟩); replace G6 := Lib.hid G6; refine hK.out _ _ ?_; clear hK K; (try simp only [Act.put, List.setIfInBounds_toArray, List.set_cons_zero, List.set_cons_succ]))
      clear KS hHeld b5
      go_wp2
      go_roundw
      case rel => exact ⟨k + 1, by omega, by go_num, by rw [stk.out]; exact G6⟩
      case measure => simp [intOf]; omega
    · obtain rfl : k = bs.length := by omega
      rw [all0.out] at G
      have FN := Lib.hid (G.out.back hB4 hFl.out)
      clear G
      go_wp2
      go_returns
      exact ⟨rfl, FN.out⟩
end
end Go.Proofs.YtignkkejkknddaaGreat
