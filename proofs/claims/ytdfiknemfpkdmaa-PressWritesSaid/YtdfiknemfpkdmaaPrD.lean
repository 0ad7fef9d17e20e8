/- press.Index.  -/
import Derived.Test.YtdfiknemfpkdmaaPrA
import Derived.Test.YtdfiknemfpkdmaaEdN
import Derived.Test.YtdfiknemfpkdmaaSh
namespace Go.Proofs.Ytdfiknemfpkdmaa
open Go.RowKit
set_option linter.unusedVariables false
set_option linter.unusedSimpArgs false

/-- every line is of single size -/
def PgS.One (S : PgS) : Prop := ∀ r ∈ S.rows, r.2 = 0
def fullP (S : PgS) : BxI := ⟨0, 0, S.rows.length, S.cols⟩
def downC (S : PgS) (x : Cu) : Cu := { x with row := min (x.row + 1) (S.rows.length - 1), wp := false }
def downP (S : PgS) (x : Cu) : PgS := if x.row = S.rows.length - 1 then moveS S (fullP S) 1 else S
structure OnPg (S : PgS) (x : Cu) : Prop where
  r0 : 0 ≤ x.row
  r1 : x.row < S.rows.length
  c0 : 0 ≤ x.col
  c1 : x.col < S.cols
theorem onP_id {S : PgS} {x : Cu} (h : OnPg S x) : onP S.rows.length S.cols x = x := by
  obtain ⟨h1, h2, h3, h4⟩ := h
  obtain ⟨row, col, rd, kp, wp, og, a, b, c, d, l, r, s⟩ := x
  simp only at h1 h2 h3 h4
  unfold onP clampI
  simp only [Cu.mk.injEq, and_true]
  omega
theorem inn_zero {m n : Nat} (h1 : 1 ≤ m) (h2 : 1 ≤ n) : inn (m : Int) n 0 0 0 0 = ⟨0, 0, m, n⟩ := by
  unfold inn
  rw [if_pos (by omega)]
  congr 1 <;> omega
theorem width_one {S : PgS} (hS : S.Ok) (hz : S.One) {k : Int} (h0 : 0 ≤ k) (h1 : k < S.rows.length) : widthI (lineOf S k).1.length (lineOf S k).2 = S.cols := by
  obtain ⟨i, rfl⟩ : ∃ i : Nat, k = i := ⟨k.toNat, by omega⟩
  have hi : i < S.rows.length := by omega
  rw [lineOf_in hi]
  have h1 := hS.len hi
  have h2 := hz _ (List.getElem_mem hi)
  have c1 := hS.c1
  rw [h1, h2]
  unfold widthI
  simp
theorem done_id {S : PgS} (hS : S.Ok) (hz : S.One) {x : Cu} (h : OnPg S x) : doneU S x = x := by
  unfold doneU
  rw [width_one hS hz h.r0 h.r1]
  obtain ⟨h1, h2, h3, h4⟩ := h
  obtain ⟨row, col, rd, kp, wp, og, a, b, c, d, l, r, s⟩ := x
  simp only at h1 h2 h3 h4
  unfold fitU
  have e : max 0 (min col (max (S.cols : Int) 1 - 1)) = col := by omega
  simp only [e, beq_self_eq_true, Bool.and_true]
theorem fullP_fits {S : PgS} (hS : S.Ok) : (fullP S).Fits S.rows.length S.cols := by constructor <;> simp [fullP]
theorem move_one {S : PgS} (hS : S.Ok) (hz : S.One) (n : Int) : (moveS S (fullP S) n).One := by
  intro r hr
  obtain ⟨i, hi, rfl⟩ := List.getElem_of_mem hr
  have hi2 : i < S.rows.length := by rw [moveS_len] at hi; exact hi
  have h := move_size n (fullP_fits hS) hi2
  rw [rowD_in hi] at h
  rw [h]
  split
  · unfold moveSrc
    split
    · rename_i h1 h2
      have : ((i : Int) + n).toNat < S.rows.length := by simp only [fullP] at h2; omega
      simp only [List.getD_eq_getElem?_getD, List.getElem?_eq_getElem this, Option.getD_some]
      exact hz _ (List.getElem_mem this)
    · rfl
  · rw [rowD_in hi2]
    exact hz _ (List.getElem_mem hi2)
theorem downP_len {S : PgS} {x : Cu} : (downP S x).rows.length = S.rows.length ∧ (downP S x).cols = S.cols := by
  unfold downP
  split
  · exact ⟨moveS_len, rfl⟩
  · exact ⟨rfl, rfl⟩
theorem downP_ok {S : PgS} (hS : S.Ok) (x : Cu) : (downP S x).Ok := by
  unfold downP
  split
  · exact moveS_fit hS (fullP_fits hS) 1
  · exact hS
theorem downP_one {S : PgS} (hS : S.Ok) (hz : S.One) (x : Cu) : (downP S x).One := by
  unfold downP
  split
  · exact move_one hS hz 1
  · exact hz
theorem downC_on {S : PgS} (hS : S.Ok) {x : Cu} (h : OnPg S x) : OnPg (downP S x) (downC S x) := by
  have r1 := hS.r1
  obtain ⟨h1, h2, h3, h4⟩ := h
  refine ⟨?_, ?_, h3, ?_⟩
  · show 0 ≤ min _ _
    omega
  · rw [downP_len.1]
    show min _ _ < _
    omega
  · rw [downP_len.2]
    exact h4
/-- besides what is done to a page, some blocks of the call's own change -/
theorem Did.side {F K : Nat → Prop} {p : Nat} {T : PgS} {w a b c : World} (hb : Below w.heap.size w a) (hF : ∀ b, F b → b < w.heap.size) (h : Did F p T a b) (k : Keep K b c) (h1 : ∀ x, K x → w.heap.size ≤ x ∧ x < a.heap.size) : Did F p T w c := by
  have s1 := hb.size
  have s2 := h.1.size
  have s3 := k.size
  refine ⟨((Keep.of_below (F := F) hb).trans h.1 (fun x hx => .inl hx)).trans k (fun x hx => .inr (h1 x hx).1), (h.2.keep k (fun x hx e => ?_)).mono (fun x hx => ?_) (fun x hx => ?_)⟩
  · have h2 := h1 x e
    rcases hx with hx | hx
    · have := hF x hx
      omega
    · have := hx.1
      omega
  · rcases hx with hx | hx
    · exact .inl hx
    · exact .inr ⟨by omega, by omega⟩
  · rcases hx with hx | hx
    · have := hF x hx
      omega
    · exact hx.2
theorem fullP_on {S : PgS} (hS : S.Ok) : onB S.rows.length S.cols (fullP S) = fullP S := by
  have r1 := hS.r1
  have c1 := hS.c1
  exact onB_fit (by constructor <;> simp [fullP]) (by simp [fullP]; omega) (by simp [fullP]; omega)
/-- the box of the margins -/
def innS (S : PgS) (m : BxI) : Bx := inn S.rows.length S.cols m.t m.l m.b m.r
def boxI (I : Bx) : BxI := ⟨I.t, I.l, I.b, I.r⟩
theorem innS_bd {S : PgS} (hS : S.Ok) (m : BxI) : (innS S m).inn S.rows.length S.cols := by
  have h := inn_bd (S.rows.length : Int) S.cols m.t m.l m.b m.r
  have r1 := hS.r1
  have c1 := hS.c1
  rwa [show max 1 (S.rows.length : Int) = S.rows.length by omega, show max 1 (S.cols : Int) = S.cols by omega] at h
def insideU (I : Bx) (x : Cu) : Bool := inB I.t I.l I.b I.r x.row x.col
def indexC (S : PgS) (m : BxI) (x : Cu) : Cu := if x.row = (innS S m).b - 1 then { x with wp := false } else { x with row := forthI x.row 1 ((innS S m).b - 1) (S.rows.length - 1), wp := false }
def indexP (S : PgS) (m : BxI) (x : Cu) : PgS := if x.row = (innS S m).b - 1 then (if insideU (innS S m) x = true then moveS S (onB S.rows.length S.cols (boxI (innS S m))) 1 else S) else S
theorem indexP_ok {S : PgS} (hS : S.Ok) (m : BxI) (x : Cu) : (indexP S m x).Ok := by
  unfold indexP
  split
  · split
    · exact moveS_ok hS _ 1
    · exact hS
  · exact hS
theorem onP_on {S : PgS} (hS : S.Ok) (x : Cu) : OnPg S (onP S.rows.length S.cols x) := by
  have h1 := clampI_nat hS.r1 x.row
  have h2 := clampI_nat hS.c1 x.col
  exact ⟨h1.1, h1.2, h2.1, h2.2⟩
section
variable {w : World} {F : Nat → Prop} {p : Nat} {S : PgS}
set_option maxRecDepth 100000 in
theorem feed_index {H : Nat} (h : PageAt w F p S) (hS : S.Ok) (hFl : ∀ b, F b → b < w.heap.size) {x : Cu} (hx : OnPg S x) (m : BxI) (hp : PrAt w H p x (frL S.rows.length S.cols m)) (hFH : ¬ F H) :
    Calls Try.prog 52 #[.pointer (some ⟨H, 0, none⟩), .bool (x.row == (innS S m).b - 1), .func (.func 54) #[.pointer (some ⟨p, 0, none⟩)] #[], .func (.func 55) #[x.v] #[]] w (fun e w' => e = .returned (.tuple #[]) ∧ ∃ W2, Did F p (indexP S m x) w W2 ∧ Keep (· = H) W2 w' ∧ PrAt w' H p (indexC S m x) (frL S.rows.length S.cols m)) := by
  have r1 := hS.r1
  have r2 := hS.r2
  have c1 := hS.c1
  have c2 := hS.c2
  have hm : ((S.rows.length : Nat) : Int) ≤ 2000 := by omega
  have hn : ((S.cols : Nat) : Int) ≤ 2000 := by omega
  obtain ⟨h1, h2, h3, h4⟩ := hx
  have e3 : clampI 0 (max 1 (S.rows.length : Int)) x.row = x.row := by unfold clampI; omega
  have e4 : clampI 0 (max 1 (S.cols : Int)) x.col = x.col := by unfold clampI; omega
  have hIn : ∀ w', Calls Try.prog 83 #[.agg (cuL x).toArray, .agg (frL S.rows.length S.cols m).toArray] w' (Gives w' (.bool (insideU (innS S m) x))) := fun w' => by
    have := inside_c (row := x.row) (col := x.col) (rd := x.rd) (kp := x.kp) (wp := x.wp) (og := x.og) (a := x.a) (b := x.b) (c := x.c) (d := x.d) (l := x.l) (r := x.r) (s := x.s) (pt := 0) (pl := 0) (mt := m.t) (ml := m.l) (mb := m.b) (mr := m.r) hm hn w'
    rw [e3, e4] at this
    exact this
  by_cases he : x.row = (innS S m).b - 1
  · rw [show (x.row == (innS S m).b - 1) = true by rw [← he]; simp]
    have e2 : indexC S m x = { x with wp := false } := by unfold indexC; rw [if_pos he]
    rw [e2]
    cases hi : insideU (innS S m) x
    · have e1 : indexP S m x = S := by unfold indexP; rw [if_pos he, hi]; rfl
      rw [e1]
      refine (feed_none rfl hp _ _ (fun w' => by rw [← hi]; exact hIn w')).mono ?_
      rintro e w' ⟨rfl, hk, hq⟩
      exact ⟨rfl, w, Did.refl h, hk, hq⟩
    · have e1 : indexP S m x = moveS S (onB S.rows.length S.cols (boxI (innS S m))) 1 := by unfold indexP; rw [if_pos he, hi]; rfl
      rw [e1]
      refine feed_scroll rfl hp hFl hFH _ (enters_of Try.func54 (by kernel_rfl) rfl) _ (innS S m).t (innS S m).l (innS S m).b (innS S m).r (fun w' => by rw [← hi]; exact hIn w') (fun w' => ?_) (fun w' hb => ?_)
      · exact inner_f (pt := 0) (pl := 0) (pb := S.rows.length) (pr := S.cols) (mt := m.t) (ml := m.l) (mb := m.b) (mr := m.r) hm hn w'
      · exact up_p (h.grow hb) hS (boxI (innS S m)) 1
  · rw [show (x.row == (innS S m).b - 1) = false by simpa using he]
    have e1 : indexP S m x = S := by unfold indexP; rw [if_neg he]
    have e2 : indexC S m x = { x with row := forthI x.row 1 ((innS S m).b - 1) (S.rows.length - 1), wp := false } := by unfold indexC; rw [if_neg he]
    rw [e1, e2]
    refine (feed_move (z := { x with row := forthI x.row 1 ((innS S m).b - 1) (S.rows.length - 1), wp := false }) rfl hp 55 x.v _ (enters_of Try.func55 (by kernel_rfl) rfl) (fun w' hb => ?_)).mono ?_
    · have := down_c (row := x.row) (col := x.col) (rd := x.rd) (kp := x.kp) (wp := x.wp) (og := x.og) (a := x.a) (b := x.b) (c := x.c) (d := x.d) (l := x.l) (r := x.r) (s := x.s) (pt := 0) (pl := 0) (mt := m.t) (ml := m.l) (mb := m.b) (mr := m.r) hm hn 1 w'
      rw [e3, e4, show max 1 (S.rows.length : Int) - 1 = (S.rows.length : Int) - 1 by omega] at this
      exact this
    · rintro e w' ⟨rfl, hk, hq⟩
      exact ⟨rfl, w, Did.refl h, hk, hq⟩
set_option maxRecDepth 100000 in
set_option maxHeartbeats 8000000 in
theorem index_g (h : PageAt w F p S) (hS : S.Ok) (hFl : ∀ b, F b → b < w.heap.size) (x : Cu) (f m : BxI) :
    Calls Try.prog 24 #[.pointer (some ⟨p, 0, none⟩), x.v, .agg #[.int .i64 f.t, .int .i64 f.l, .int .i64 f.b, .int .i64 f.r, .int .i64 m.t, .int .i64 m.l, .int .i64 m.b, .int .i64 m.r]] w (fun e w' => e = .returned (doneU (indexP S m (onP S.rows.length S.cols x)) (indexC S m (onP S.rows.length S.cols x))).v ∧ Did F p (indexP S m (onP S.rows.length S.cols x)) w w') := by
  have r1 := hS.r1
  have r2 := hS.r2
  have c1 := hS.c1
  have c2 := hS.c2
  have ON := Lib.hid (fun w' (hb : Below w.heap.size w w') => on_s (h.grow hb) hS x f m)
  have hx := onP_on hS x
  generalize onP S.rows.length S.cols x = x' at ON hx ⊢
  obtain ⟨row, col, rd, kp, wp, og, a, b, c, d, l, r, s⟩ := x
  obtain ⟨mt, ml, mb, mr⟩ := m
  obtain ⟨fT, fL, fB, fR⟩ := f
  simp only at ON ⊢
  go_enter Try.func24, Try.ntmps24
  go_upto_region 2 with (first
    | (refine wpList_load_mid rfl 49 (.tmp 4) rfl _ 0 rfl [.int .i64 row, .int .i64 col, .int .u8 rd, .bool kp, .bool wp, .bool og, .int .i64 a, .int .i64 b, .int .i64 c, .int .i64 d, .int .i64 l, .int .i64 r, .int .i64 s] _ ?_ Try.underlying49 rfl (by kernel_rfl) ?_)
    | (refine wpList_load_mid rfl 69 (.tmp 5) rfl _ 0 rfl [.int .i64 fT, .int .i64 fL, .int .i64 fB, .int .i64 fR, .int .i64 mt, .int .i64 ml, .int .i64 mb, .int .i64 mr] _ ?_ Try.underlying69 rfl (by kernel_rfl) ?_)
    | ((go_at_call 48); (with_reducible refine (ON.out _ (by (repeat' (first | (with_reducible exact Below.refl _ _) | (with_reducible refine Below.alloc ?_ ?_ _) | (with_reducible refine below_ext ?_ ?_ _) | (with_reducible refine Below.drew ?_) | (with_reducible refine below_drewN ?_ _) | (with_reducible refine Below.setCell ?_ ?_ _) | go_size | (simp only [go_sem]; omega) | (simp [go_sem]; done) | (simp [go_sem]; omega))))).mono ?_); (rintro _ _ ⟨H, y, rfl, rfl, hH, hP⟩)))
  · exact range_blk (by (repeat (first | ((with_reducible refine heap_at _ _ ?_); (focus (first | rfl | (simp [go_sem]; done) | (simp [go_sem]; omega)))) | ((with_reducible refine (heap_old _ _ ?_).trans ?_); (focus (first | (simp [go_sem]; done) | (simp [go_sem]; omega)))) | ((with_reducible refine (block_ext _ _ ?_).trans ?_); (focus (first | (simp [go_sem]; done) | (simp [go_sem]; omega)))) | ((with_reducible refine (heap_drew _ _).trans ?_))))) 0 _ rfl
  · exact range_blk (by (repeat (first | ((with_reducible refine heap_at _ _ ?_); (focus (first | rfl | (simp [go_sem]; done) | (simp [go_sem]; omega)))) | ((with_reducible refine (heap_old _ _ ?_).trans ?_); (focus (first | (simp [go_sem]; done) | (simp [go_sem]; omega)))) | ((with_reducible refine (block_ext _ _ ?_).trans ?_); (focus (first | (simp [go_sem]; done) | (simp [go_sem]; omega)))) | ((with_reducible refine (heap_drew _ _).trans ?_))))) 0 _ rfl
  obtain ⟨W1, hW1⟩ : ∃ W1, W1 = ext (((w.alloc (.cells #[.int .i64 row, .int .i64 col, .int .u8 rd, .bool kp, .bool wp, .bool og, .int .i64 a, .int .i64 b, .int .i64 c, .int .i64 d, .int .i64 l, .int .i64 r, .int .i64 s] 49)).alloc (.cells #[.int .i64 fT, .int .i64 fL, .int .i64 fB, .int .i64 fR, .int .i64 mt, .int .i64 ml, .int .i64 mb, .int .i64 mr] 69)).alloc (.cells #[.int .i64 0, .int .i64 0, .int .u8 0, .bool false, .bool false, .bool false, .int .i64 0, .int .i64 0, .int .i64 0, .int .i64 0, .int .i64 0, .int .i64 0, .int .i64 0] 49)) y := ⟨_, rfl⟩
  have hb : Below w.heap.size w W1 := by rw [hW1]; (repeat' (first | (with_reducible exact Below.refl _ _) | (with_reducible refine Below.alloc ?_ ?_ _) | (with_reducible refine below_ext ?_ ?_ _) | (with_reducible refine Below.drew ?_) | (with_reducible refine below_drewN ?_ _) | (with_reducible refine Below.setCell ?_ ?_ _) | go_size | (simp only [go_sem]; omega) | (simp [go_sem]; done) | (simp [go_sem]; omega)))
  have hR : W1.heap[w.heap.size + 1 + 1]? = some (.cells #[.int .i64 0, .int .i64 0, .int .u8 0, .bool false, .bool false, .bool false, .int .i64 0, .int .i64 0, .int .i64 0, .int .i64 0, .int .i64 0, .int .i64 0, .int .i64 0] 49 (0, 0)) := by rw [hW1]; (repeat (first | ((with_reducible refine heap_at _ _ ?_); (focus (first | rfl | (simp [go_sem]; done) | (simp [go_sem]; omega)))) | ((with_reducible refine (heap_old _ _ ?_).trans ?_); (focus (first | (simp [go_sem]; done) | (simp [go_sem]; omega)))) | ((with_reducible refine (block_ext _ _ ?_).trans ?_); (focus (first | (simp [go_sem]; done) | (simp [go_sem]; omega)))) | ((with_reducible refine (heap_drew _ _).trans ?_))))
  have hH2 : w.heap.size + 3 ≤ H := by
    have : (((w.alloc (.cells #[.int .i64 row, .int .i64 col, .int .u8 rd, .bool kp, .bool wp, .bool og, .int .i64 a, .int .i64 b, .int .i64 c, .int .i64 d, .int .i64 l, .int .i64 r, .int .i64 s] 49)).alloc (.cells #[.int .i64 fT, .int .i64 fL, .int .i64 fB, .int .i64 fR, .int .i64 mt, .int .i64 ml, .int .i64 mb, .int .i64 mr] 69)).alloc (.cells #[.int .i64 0, .int .i64 0, .int .u8 0, .bool false, .bool false, .bool false, .int .i64 0, .int .i64 0, .int .i64 0, .int .i64 0, .int .i64 0, .int .i64 0, .int .i64 0] 49)).heap.size = w.heap.size + 3 := by simp [go_sem]
    omega
  rw [← hW1] at hP ⊢
  clear hW1 hH ON
  have hm : ((S.rows.length : Nat) : Int) ≤ 2000 := by omega
  have hn : ((S.cols : Nat) : Int) ≤ 2000 := by omega
  obtain ⟨rowP, colP, rdP, kpP, wpP, ogP, aP, bP, cP, dP, lP, rP, sP⟩ := x'
  have hib := innS_bd hS ⟨mt, ml, mb, mr⟩
  unfold Bx.inn at hib
  obtain ⟨ib0, ib1, ib2, -, -, -⟩ := hib
  have IN : Hid (∀ w', Calls Try.prog 53 #[.agg (frL S.rows.length S.cols ⟨mt, ml, mb, mr⟩).toArray] w' (Gives w' (boxV (innS S ⟨mt, ml, mb, mr⟩).t (innS S ⟨mt, ml, mb, mr⟩).l (innS S ⟨mt, ml, mb, mr⟩).b (innS S ⟨mt, ml, mb, mr⟩).r))) :=
    Lib.hid (fun w' => inner_f (pt := 0) (pl := 0) (pb := S.rows.length) (pr := S.cols) (mt := mt) (ml := ml) (mb := mb) (mr := mr) hm hn w')
  have FD := Lib.hid (fun w' (hb' : Below W1.heap.size W1 w') => feed_index (h.grow (hb.trans (hb'.mono hb.size))) hS (fun b hb2 => by have := hFl b hb2; have := hb.size; have := hb'.size; omega) hx ⟨mt, ml, mb, mr⟩ (hP.grow hb') (fun hFH => by have := hFl _ hFH; omega))
  simp only [Cu.v] at FD
  have hwr : IntKind.i64.wrap ((innS S ⟨mt, ml, mb, mr⟩).b - 1) = (innS S ⟨mt, ml, mb, mr⟩).b - 1 := wrap_i64 (by omega) (by omega)
  have p0 := hP.page
  have pr := hP.row
  have pc := hP.cur
  have pf := hP.frame
  have hHl := hP.lt
  go_upto_region 2 with fail
  (refine wp_region_F (S := (fun w' => w'.cell? ⟨H, 0, none⟩ = some (.pointer (some ⟨p, 0, none⟩)) ∧ w'.cell? ⟨H, 1, none⟩ = some (.int .i64 rowP) ∧ w'.rangeAt H 1 (cuL ⟨rowP, colP, rdP, kpP, wpP, ogP, aP, bP, cP, dP, lP, rP, sP⟩) ∧ w'.rangeAt H 14 (frL S.rows.length S.cols ⟨mt, ml, mb, mr⟩))) 25 [false, false, false, false, false, false, false, false, false, false, false, false, false, false, false, false, false, false, false, false, false, false, false, false, false, false] rfl rfl (by kernel_rfl) ?_ (fun hHeld => ?_); (focus ((try dsimp only); (exact ⟨by simp [go_sem, p0], by simp [go_sem, pr], pc, pf⟩); done)))
  ((refine AtF.take (oi := ?_) (v := ?_) 0 ?_ ?_ ?_ ?_ (Or.inl ⟨?_, ?_⟩) (by assumption) ?_; rotate_left 2; rfl; kernel_rfl; kernel_rfl; exact (fun _ _ _ h => h); rfl; (focus (intro w hSw; (try dsimp only at hSw); go_simp; (try with_reducible rfl); done)); (try simp only [Act.put, List.setIfInBounds_toArray, List.set_cons_zero, List.set_cons_succ])); (refine AtF.take (oi := ?_) (v := ?_) 1 ?_ ?_ ?_ ?_ (Or.inl ⟨?_, ?_⟩) (by assumption) ?_; rotate_left 2; rfl; kernel_rfl; kernel_rfl; exact (fun _ _ _ h => h); rfl; (focus (intro w hSw; (try dsimp only at hSw); go_simp; (try with_reducible rfl); done)); (try simp only [Act.put, List.setIfInBounds_toArray, List.set_cons_zero, List.set_cons_succ])); (refine AtF.take (oi := ?_) (v := ?_) 2 ?_ ?_ ?_ ?_ (Or.inl ⟨?_, ?_⟩) (by assumption) ?_; rotate_left 2; rfl; kernel_rfl; kernel_rfl; exact (fun _ _ _ h => h); rfl; (focus (intro w hSw; (try dsimp only at hSw); go_simp; (try with_reducible rfl); done)); (try simp only [Act.put, List.setIfInBounds_toArray, List.set_cons_zero, List.set_cons_succ])); (refine AtF.take (oi := ?_) (v := ?_) 3 ?_ ?_ ?_ ?_ (Or.inl ⟨?_, ?_⟩) (by assumption) ?_; rotate_left 2; rfl; kernel_rfl; kernel_rfl; exact (fun _ _ _ h => h); rfl; (focus (intro w hSw; (try dsimp only at hSw); go_simp; (try with_reducible rfl); done)); (try simp only [Act.put, List.setIfInBounds_toArray, List.set_cons_zero, List.set_cons_succ])); (refine AtF.take (oi := ?_) (v := ?_) 4 ?_ ?_ ?_ ?_ (Or.inl ⟨?_, ?_⟩) (by assumption) ?_; rotate_left 2; rfl; kernel_rfl; kernel_rfl; exact (fun _ _ _ h => h); rfl; (focus (intro w hSw; (try dsimp only at hSw); go_simp; (try with_reducible rfl); done)); (try simp only [Act.put, List.setIfInBounds_toArray, List.set_cons_zero, List.set_cons_succ])); (refine AtF.take (oi := ?_) (v := ?_) 5 ?_ ?_ ?_ ?_ (Or.inl ⟨?_, ?_⟩) (by assumption) ?_; rotate_left 2; rfl; kernel_rfl; kernel_rfl; exact (fun _ _ _ h => h); rfl; (focus (intro w hSw; (try dsimp only at hSw); go_simp; (try with_reducible rfl); done)); (try simp only [Act.put, List.setIfInBounds_toArray, List.set_cons_zero, List.set_cons_succ])); (refine AtF.take (oi := ?_) (v := ?_) 6 ?_ ?_ ?_ ?_ (Or.inl ⟨?_, ?_⟩) (by assumption) ?_; rotate_left 2; rfl; kernel_rfl; kernel_rfl; exact (fun _ _ _ h => h); rfl; (focus (intro w hSw; (try dsimp only at hSw); go_simp; (try with_reducible rfl); done)); (try simp only [Act.put, List.setIfInBounds_toArray, List.set_cons_zero, List.set_cons_succ])); (refine AtF.take (oi := ?_) (v := ?_) 7 ?_ ?_ ?_ ?_ (Or.inl ⟨?_, ?_⟩) (by assumption) ?_; rotate_left 2; rfl; kernel_rfl; kernel_rfl; exact (fun _ _ _ h => h); rfl; (focus (intro w hSw; (try dsimp only at hSw); go_simp; (try with_reducible rfl); done)); (try simp only [Act.put, List.setIfInBounds_toArray, List.set_cons_zero, List.set_cons_succ])); (refine AtF.take (oi := ?_) (v := ?_) 8 ?_ ?_ ?_ ?_ (Or.inl ⟨?_, ?_⟩) (by assumption) ?_; rotate_left 2; rfl; kernel_rfl; kernel_rfl; exact (fun _ _ _ h => h); rfl; (focus (intro w hSw; (try dsimp only at hSw); go_simp; (try with_reducible rfl); done)); (try simp only [Act.put, List.setIfInBounds_toArray, List.set_cons_zero, List.set_cons_succ])); (refine AtF.take (oi := ?_) (v := ?_) 9 ?_ ?_ ?_ ?_ (Or.inl ⟨?_, ?_⟩) (by assumption) ?_; rotate_left 2; rfl; kernel_rfl; kernel_rfl; exact (fun _ _ _ h => h); rfl; (focus (intro w hSw; (try dsimp only at hSw); go_simp; (try with_reducible rfl); done)); (try simp only [Act.put, List.setIfInBounds_toArray, List.set_cons_zero, List.set_cons_succ])))
  (refine AtF.take (oi := ?_) (v := .agg (frL S.rows.length S.cols ⟨mt, ml, mb, mr⟩).toArray) 10 ?_ ?_ ?_ ?_ ?_ (by assumption) ?_; rotate_left 1; rfl; kernel_rfl; kernel_rfl; exact (fun _ _ _ h => h); (focus ((refine yieldsIf_load_mid rfl 69 (.tmp 21) rfl H 14 rfl (frL S.rows.length S.cols ⟨mt, ml, mb, mr⟩) _ (fun w' hS => hS.2.2.2) Try.underlying69 rfl (by kernel_rfl)); done)); (try simp only [Act.put, List.setIfInBounds_toArray, List.set_cons_zero, List.set_cons_succ]))
  ((refine AtF.take (oi := ?_) (v := ?_) 15 ?_ ?_ ?_ ?_ (Or.inl ⟨?_, ?_⟩) (by assumption) ?_; rotate_left 2; rfl; kernel_rfl; kernel_rfl; exact (fun _ _ _ h => h); rfl; (focus (intro w hSw; (try dsimp only at hSw); go_simp; (try with_reducible rfl); done)); (try simp only [Act.put, List.setIfInBounds_toArray, List.set_cons_zero, List.set_cons_succ])); (refine AtF.take (oi := ?_) (v := ?_) 16 ?_ ?_ ?_ ?_ (Or.inl ⟨?_, ?_⟩) (by assumption) ?_; rotate_left 2; rfl; kernel_rfl; kernel_rfl; exact (fun _ _ _ h => h); rfl; (focus (intro w hSw; (try dsimp only at hSw); go_simp; (try with_reducible rfl); done)); (try simp only [Act.put, List.setIfInBounds_toArray, List.set_cons_zero, List.set_cons_succ])); (refine AtF.take (oi := ?_) (v := ?_) 17 ?_ ?_ ?_ ?_ (Or.inl ⟨?_, ?_⟩) (by assumption) ?_; rotate_left 2; rfl; kernel_rfl; kernel_rfl; exact (fun _ _ _ h => h); rfl; (focus (intro w hSw; (try dsimp only at hSw); go_simp; (try with_reducible rfl); done)); (try simp only [Act.put, List.setIfInBounds_toArray, List.set_cons_zero, List.set_cons_succ])); (refine AtF.take (oi := ?_) (v := ?_) 18 ?_ ?_ ?_ ?_ (Or.inl ⟨?_, ?_⟩) (by assumption) ?_; rotate_left 2; rfl; kernel_rfl; kernel_rfl; exact (fun _ _ _ h => h); rfl; (focus (intro w hSw; (try dsimp only at hSw); go_simp; (try with_reducible rfl); done)); (try simp only [Act.put, List.setIfInBounds_toArray, List.set_cons_zero, List.set_cons_succ])); (refine AtF.take (oi := ?_) (v := ?_) 19 ?_ ?_ ?_ ?_ (Or.inl ⟨?_, ?_⟩) (by assumption) ?_; rotate_left 2; rfl; kernel_rfl; kernel_rfl; exact (fun _ _ _ h => h); rfl; (focus (intro w hSw; (try dsimp only at hSw); go_simp; (try with_reducible rfl); done)); (try simp only [Act.put, List.setIfInBounds_toArray, List.set_cons_zero, List.set_cons_succ])); (refine AtF.take (oi := ?_) (v := ?_) 20 ?_ ?_ ?_ ?_ (Or.inl ⟨?_, ?_⟩) (by assumption) ?_; rotate_left 2; rfl; kernel_rfl; kernel_rfl; exact (fun _ _ _ h => h); rfl; (focus (intro w hSw; (try dsimp only at hSw); go_simp; (try with_reducible rfl); done)); (try simp only [Act.put, List.setIfInBounds_toArray, List.set_cons_zero, List.set_cons_succ])); (refine AtF.take (oi := ?_) (v := ?_) 21 ?_ ?_ ?_ ?_ (Or.inl ⟨?_, ?_⟩) (by assumption) ?_; rotate_left 2; rfl; kernel_rfl; kernel_rfl; exact (fun _ _ _ h => h); rfl; (focus (intro w hSw; (try dsimp only at hSw); go_simp; (try with_reducible rfl); done)); (try simp only [Act.put, List.setIfInBounds_toArray, List.set_cons_zero, List.set_cons_succ])); (refine AtF.take (oi := ?_) (v := ?_) 22 ?_ ?_ ?_ ?_ (Or.inl ⟨?_, ?_⟩) (by assumption) ?_; rotate_left 2; rfl; kernel_rfl; kernel_rfl; exact (fun _ _ _ h => h); rfl; (focus (intro w hSw; (try dsimp only at hSw); go_simp; (try with_reducible rfl); done)); (try simp only [Act.put, List.setIfInBounds_toArray, List.set_cons_zero, List.set_cons_succ])))
  (refine AtF.take (oi := ?_) (v := .agg (cuL ⟨rowP, colP, rdP, kpP, wpP, ogP, aP, bP, cP, dP, lP, rP, sP⟩).toArray) 23 ?_ ?_ ?_ ?_ ?_ (by assumption) ?_; rotate_left 1; rfl; kernel_rfl; kernel_rfl; exact (fun _ _ _ h => h); (focus ((refine yieldsIf_load_mid rfl 49 (.tmp 34) rfl H 1 rfl (cuL ⟨rowP, colP, rdP, kpP, wpP, ogP, aP, bP, cP, dP, lP, rP, sP⟩) _ (fun w' hS => hS.2.2.1) Try.underlying49 rfl (by kernel_rfl)); done)); (try simp only [Act.put, List.setIfInBounds_toArray, List.set_cons_zero, List.set_cons_succ]))
  ((refine AtF.take (oi := ?_) (v := ?_) 24 ?_ ?_ ?_ ?_ (Or.inl ⟨?_, ?_⟩) (by assumption) ?_; rotate_left 2; rfl; kernel_rfl; kernel_rfl; exact (fun _ _ _ h => h); rfl; (focus (intro w hSw; (try dsimp only at hSw); go_simp; (try with_reducible rfl); done)); (try simp only [Act.put, List.setIfInBounds_toArray, List.set_cons_zero, List.set_cons_succ])))
  (refine AtF.only (oi := ?_) 11 ?_ ?_ (fun K hK => ?_); rotate_left 1; rfl; kernel_rfl; (try go_simp); (go_at_call 53; ((with_reducible refine (IN.out _).mono ?_); rintro _ _ hgets; obtain ⟨rfl, x1, rfl⟩ := hgets.get; clear hgets)); (refine hK.out _ _ ?_ (fun hHeld => ?_)); (focus ((try dsimp only); (exact ⟨by simp [go_sem, p0, hHl], by simp [go_sem, pr, hHl], range_grow pc hHl _, range_grow pf hHl _⟩); done)); clear hK K; (try simp only [Act.put, List.setIfInBounds_toArray, List.set_cons_zero, List.set_cons_succ]))
  ((refine AtF.take (oi := ?_) (v := ?_) 12 ?_ ?_ ?_ ?_ (Or.inl ⟨?_, ?_⟩) (by assumption) ?_; rotate_left 2; rfl; kernel_rfl; kernel_rfl; exact (fun _ _ _ h => h); rfl; (focus (intro w hSw; (try dsimp only at hSw); go_simp; (try with_reducible rfl); done)); (try simp only [Act.put, List.setIfInBounds_toArray, List.set_cons_zero, List.set_cons_succ])); (refine AtF.take (oi := ?_) (v := ?_) 13 ?_ ?_ ?_ ?_ (Or.inl ⟨?_, ?_⟩) (by assumption) ?_; rotate_left 2; rfl; kernel_rfl; kernel_rfl; exact (fun _ _ _ h => h); rfl; (focus (intro w hSw; (try dsimp only at hSw); go_simp; (try with_reducible rfl); done)); (try simp only [Act.put, List.setIfInBounds_toArray, List.set_cons_zero, List.set_cons_succ])); (refine AtF.take (oi := ?_) (v := ?_) 14 ?_ ?_ ?_ ?_ (Or.inl ⟨?_, ?_⟩) (by assumption) ?_; rotate_left 2; rfl; kernel_rfl; kernel_rfl; exact (fun _ _ _ h => h); rfl; (focus (intro w hSw; (try dsimp only at hSw); go_simp; (try with_reducible rfl); done)); (try simp only [Act.put, List.setIfInBounds_toArray, List.set_cons_zero, List.set_cons_succ])))
  (try simp only [hwr])
  (refine AtF.last (oi := ?_) ?_ ?_ (fun K hK => ?_); rotate_left 1; rfl; kernel_rfl; go_simp; ((go_at_call 52); (with_reducible refine (FD.out _ (by (repeat' (first | (with_reducible exact Below.refl _ _) | (with_reducible refine Below.alloc ?_ ?_ _) | (with_reducible refine below_ext ?_ ?_ _) | (with_reducible refine Below.drew ?_) | (with_reducible refine below_drewN ?_ _) | (with_reducible refine Below.setCell ?_ ?_ _) | go_size | (simp only [go_sem]; omega) | (simp [go_sem]; done) | (simp [go_sem]; omega))))).mono ?_); (rintro _ W3 ⟨rfl, W2, hD, hKp, hP3⟩)); refine hK.out _ _ ?_; clear hK K; (try simp only [Act.put, List.setIfInBounds_toArray, List.set_cons_zero, List.set_cons_succ]))
  clear hHeld FD IN
  have hTok := indexP_ok hS ⟨mt, ml, mb, mr⟩ ⟨rowP, colP, rdP, kpP, wpP, ogP, aP, bP, cP, dP, lP, rP, sP⟩
  generalize hTe : indexP S ⟨mt, ml, mb, mr⟩ ⟨rowP, colP, rdP, kpP, wpP, ogP, aP, bP, cP, dP, lP, rP, sP⟩ = T at hD hTok
  generalize hze : indexC S ⟨mt, ml, mb, mr⟩ ⟨rowP, colP, rdP, kpP, wpP, ogP, aP, bP, cP, dP, lP, rP, sP⟩ = z' at hP3
  replace hTe := Lib.hid hTe
  replace hze := Lib.hid hze
  have hWb : Below w.heap.size w (ext W1 x1) := by (repeat' (first | (with_reducible exact Below.refl _ _) | (with_reducible refine Below.alloc ?_ ?_ _) | (with_reducible refine below_ext ?_ ?_ _) | (with_reducible refine Below.drew ?_) | (with_reducible refine below_drewN ?_ _) | (with_reducible refine Below.setCell ?_ ?_ _) | go_size | (simp only [go_sem]; omega) | (simp [go_sem]; done) | (simp [go_sem]; omega)))
  have hs1 : W1.heap.size ≤ (ext W1 x1).heap.size := by simp [go_sem]
  have hPg : PageAt W3 (more F (ext W1 x1) W2) p T := hD.2.keep hKp (fun q hq e => by
    subst e
    rcases hq with hq | hq
    · have := hFl _ hq
      omega
    · have := hq.1
      omega)
  have FT : Hid (∀ w', Below W3.heap.size W3 w' → Calls Try.prog 49 #[.pointer (some ⟨H, 0, none⟩)] w' (Gives w' (.agg (cuL (doneU T z')).toArray))) := Lib.hid (fun w' hb' => fit_s (hPg.grow hb') hTok (hP3.grow hb'))
  generalize hdz : doneU T z' = z at FT
  replace hdz := Lib.hid hdz
  have s2 := hD.1.size
  have s3 := hKp.size
  have hRl : w.heap.size + 1 + 1 < W1.heap.size := heap_in hR
  have hR3 : W3.heap[w.heap.size + 1 + 1]? = some (.cells #[.int .i64 0, .int .i64 0, .int .u8 0, .bool false, .bool false, .bool false, .int .i64 0, .int .i64 0, .int .i64 0, .int .i64 0, .int .i64 0, .int .i64 0, .int .i64 0] 49 (0, 0)) := by
    refine (hKp.block _ (by omega) (by omega)).trans ((hD.1.block _ (by omega) (fun hq => by have := hFl _ hq; omega)).trans ?_)
    exact ((block_ext _ _ hRl)).trans hR
  have hRl3 := heap_in hR3
  have FN := Lib.hid (fun W5 (k5 : Keep (fun q => q = H ∨ q = w.heap.size + 1 + 1) W2 W5) => Did.side hWb hFl hD k5 (fun q hq => by omega))
  have KP := Lib.hid hKp
  have h5k := setCells_any (cuL z) 0 W3 _ hR3 (by simp)
  rw [show ((#[.int .i64 0, .int .i64 0, .int .u8 0, .bool false, .bool false, .bool false, .int .i64 0, .int .i64 0, .int .i64 0, .int .i64 0, .int .i64 0, .int .i64 0, .int .i64 0] : Array Value).toList.take 0 ++ cuL z ++ (#[.int .i64 0, .int .i64 0, .int .u8 0, .bool false, .bool false, .bool false, .int .i64 0, .int .i64 0, .int .i64 0, .int .i64 0, .int .i64 0, .int .i64 0, .int .i64 0] : Array Value).toList.drop (0 + (cuL z).length)).toArray = (cuL z).toArray from rfl] at h5k
  have c20 : W3.cell? ⟨w.heap.size + 1 + 1, 0, none⟩ = some (.int .i64 0) := by rw [cell_in hR3]; rfl
  have f20 := frozen_in (q := 0) hR3
  have c21 : W3.cell? ⟨w.heap.size + 1 + 1, 1, none⟩ = some (.int .i64 0) := by rw [cell_in hR3]; rfl
  have f21 := frozen_in (q := 1) hR3
  have c22 : W3.cell? ⟨w.heap.size + 1 + 1, 2, none⟩ = some (.int .u8 0) := by rw [cell_in hR3]; rfl
  have f22 := frozen_in (q := 2) hR3
  have c23 : W3.cell? ⟨w.heap.size + 1 + 1, 3, none⟩ = some (.bool false) := by rw [cell_in hR3]; rfl
  have f23 := frozen_in (q := 3) hR3
  have c24 : W3.cell? ⟨w.heap.size + 1 + 1, 4, none⟩ = some (.bool false) := by rw [cell_in hR3]; rfl
  have f24 := frozen_in (q := 4) hR3
  have c25 : W3.cell? ⟨w.heap.size + 1 + 1, 5, none⟩ = some (.bool false) := by rw [cell_in hR3]; rfl
  have f25 := frozen_in (q := 5) hR3
  have c26 : W3.cell? ⟨w.heap.size + 1 + 1, 6, none⟩ = some (.int .i64 0) := by rw [cell_in hR3]; rfl
  have f26 := frozen_in (q := 6) hR3
  have c27 : W3.cell? ⟨w.heap.size + 1 + 1, 7, none⟩ = some (.int .i64 0) := by rw [cell_in hR3]; rfl
  have f27 := frozen_in (q := 7) hR3
  have c28 : W3.cell? ⟨w.heap.size + 1 + 1, 8, none⟩ = some (.int .i64 0) := by rw [cell_in hR3]; rfl
  have f28 := frozen_in (q := 8) hR3
  have c29 : W3.cell? ⟨w.heap.size + 1 + 1, 9, none⟩ = some (.int .i64 0) := by rw [cell_in hR3]; rfl
  have f29 := frozen_in (q := 9) hR3
  have c30 : W3.cell? ⟨w.heap.size + 1 + 1, 10, none⟩ = some (.int .i64 0) := by rw [cell_in hR3]; rfl
  have f30 := frozen_in (q := 10) hR3
  have c31 : W3.cell? ⟨w.heap.size + 1 + 1, 11, none⟩ = some (.int .i64 0) := by rw [cell_in hR3]; rfl
  have f31 := frozen_in (q := 11) hR3
  have c32 : W3.cell? ⟨w.heap.size + 1 + 1, 12, none⟩ = some (.int .i64 0) := by rw [cell_in hR3]; rfl
  have f32 := frozen_in (q := 12) hR3
  clear hD hKp hPg hR3 hP3
  go_wp2_with (first
    | ((go_at_call 49); (with_reducible refine (FT.out _ (by (repeat' (first | (with_reducible exact Below.refl _ _) | (with_reducible refine Below.alloc ?_ ?_ _) | (with_reducible refine below_ext ?_ ?_ _) | (with_reducible refine Below.drew ?_) | (with_reducible refine below_drewN ?_ _) | (with_reducible refine Below.setCell ?_ ?_ _) | go_size | (simp only [go_sem]; omega) | (simp [go_sem]; done) | (simp [go_sem]; omega))))).mono ?_); (rintro _ _ hgets); (obtain ⟨rfl, x4, rfl⟩ := hgets.get); clear hgets))
  have e5 : (((((((((((((W3.setCell ⟨w.heap.size + 1 + 1, 0, none⟩ (.int .i64 z.row)).setCell ⟨w.heap.size + 1 + 1, 1, none⟩ (.int .i64 z.col)).setCell ⟨w.heap.size + 1 + 1, 2, none⟩ (.int .u8 z.rd)).setCell ⟨w.heap.size + 1 + 1, 3, none⟩ (.bool z.kp)).setCell ⟨w.heap.size + 1 + 1, 4, none⟩ (.bool z.wp)).setCell ⟨w.heap.size + 1 + 1, 5, none⟩ (.bool z.og)).setCell ⟨w.heap.size + 1 + 1, 6, none⟩ (.int .i64 z.a)).setCell ⟨w.heap.size + 1 + 1, 7, none⟩ (.int .i64 z.b)).setCell ⟨w.heap.size + 1 + 1, 8, none⟩ (.int .i64 z.c)).setCell ⟨w.heap.size + 1 + 1, 9, none⟩ (.int .i64 z.d)).setCell ⟨w.heap.size + 1 + 1, 10, none⟩ (.int .i64 z.l)).setCell ⟨w.heap.size + 1 + 1, 11, none⟩ (.int .i64 z.r)).setCell ⟨w.heap.size + 1 + 1, 12, none⟩ (.int .i64 z.s)) = W3.setCells (w.heap.size + 1 + 1) 0 (cuL z) := rfl
  rw [e5]
  clear e5
  obtain ⟨h5, k5⟩ := h5k
  replace h5 := (block_ext _ x4 (heap_in h5)).trans h5
  replace k5 := k5.trans (Keep.of_below (F := fun _ => False) (below_of_ext _ x4)) (fun q hq => hq.elim)
  generalize ext (W3.setCells (w.heap.size + 1 + 1) 0 (cuL z)) x4 = W5 at h5 k5 ⊢
  have hl5 := heap_in h5
  have d20 : W5.cell? ⟨w.heap.size + 1 + 1, 0, none⟩ = some (.int .i64 z.row) := by rw [cell_in h5]; rfl
  have d21 : W5.cell? ⟨w.heap.size + 1 + 1, 1, none⟩ = some (.int .i64 z.col) := by rw [cell_in h5]; rfl
  have d22 : W5.cell? ⟨w.heap.size + 1 + 1, 2, none⟩ = some (.int .u8 z.rd) := by rw [cell_in h5]; rfl
  have d23 : W5.cell? ⟨w.heap.size + 1 + 1, 3, none⟩ = some (.bool z.kp) := by rw [cell_in h5]; rfl
  have d24 : W5.cell? ⟨w.heap.size + 1 + 1, 4, none⟩ = some (.bool z.wp) := by rw [cell_in h5]; rfl
  have d25 : W5.cell? ⟨w.heap.size + 1 + 1, 5, none⟩ = some (.bool z.og) := by rw [cell_in h5]; rfl
  have d26 : W5.cell? ⟨w.heap.size + 1 + 1, 6, none⟩ = some (.int .i64 z.a) := by rw [cell_in h5]; rfl
  have d27 : W5.cell? ⟨w.heap.size + 1 + 1, 7, none⟩ = some (.int .i64 z.b) := by rw [cell_in h5]; rfl
  have d28 : W5.cell? ⟨w.heap.size + 1 + 1, 8, none⟩ = some (.int .i64 z.c) := by rw [cell_in h5]; rfl
  have d29 : W5.cell? ⟨w.heap.size + 1 + 1, 9, none⟩ = some (.int .i64 z.d) := by rw [cell_in h5]; rfl
  have d30 : W5.cell? ⟨w.heap.size + 1 + 1, 10, none⟩ = some (.int .i64 z.l) := by rw [cell_in h5]; rfl
  have d31 : W5.cell? ⟨w.heap.size + 1 + 1, 11, none⟩ = some (.int .i64 z.r) := by rw [cell_in h5]; rfl
  have d32 : W5.cell? ⟨w.heap.size + 1 + 1, 12, none⟩ = some (.int .i64 z.s) := by rw [cell_in h5]; rfl
  refine bodyPost_ret (by simp [results, Try.results24, go_sem, d20, d21, d22, d23, d24, d25, d26, d27, d28, d29, d30, d31, d32]; try rfl) rfl ?_
  rw [hTe.out, hze.out, hdz.out]
  refine ⟨rfl, FN.out _ ?_⟩
  exact (KP.out.mono (fun q hq => .inl hq)).trans (k5.mono (G := fun q => q = H ∨ q = w.heap.size + 1 + 1) (fun q hq => .inr hq)) (fun q hq => .inl hq)
end
end Go.Proofs.Ytdfiknemfpkdmaa
/- press.Next.  -/
namespace Go.Proofs.Ytdfiknemfpkdmaa
open Go.RowKit
set_option linter.unusedVariables false
set_option linter.unusedSimpArgs false

def retU (S : PgS) (m : BxI) (x : Cu) : Cu := { x with col := firstCol x.col (innS S m).l x.og, wp := false }
def nextC (S : PgS) (m : BxI) (x : Cu) : Cu := doneU (indexP S m (onP S.rows.length S.cols (retU S m x))) (indexC S m (onP S.rows.length S.cols (retU S m x)))
def nextP (S : PgS) (m : BxI) (x : Cu) : PgS := indexP S m (onP S.rows.length S.cols (retU S m x))
theorem nextP_ok {S : PgS} (hS : S.Ok) (m : BxI) (x : Cu) : (nextP S m x).Ok := indexP_ok hS m _
theorem range_same {w w' : World} {b o : Nat} {vs : List Value} (h : w.rangeAt b o vs) (e : w'.heap[b]? = w.heap[b]?) : w'.rangeAt b o vs := fun j v hv => (cell_of_heap e).trans (h j v hv)
section
variable {w : World} {F : Nat → Prop} {p : Nat} {S : PgS}
set_option maxRecDepth 100000 in
set_option maxHeartbeats 8000000 in
theorem next_g (h : PageAt w F p S) (hS : S.Ok) (hFl : ∀ b, F b → b < w.heap.size) (x : Cu) (f m : BxI) :
    Calls Try.prog 81 #[.pointer (some ⟨p, 0, none⟩), x.v, .agg #[.int .i64 f.t, .int .i64 f.l, .int .i64 f.b, .int .i64 f.r, .int .i64 m.t, .int .i64 m.l, .int .i64 m.b, .int .i64 m.r]] w (fun e w' => e = .returned (nextC S m (onP S.rows.length S.cols x)).v ∧ Did F p (nextP S m (onP S.rows.length S.cols x)) w w') := by
  have r1 := hS.r1
  have r2 := hS.r2
  have c1 := hS.c1
  have c2 := hS.c2
  have ON := Lib.hid (fun w' (hb : Below w.heap.size w w') => on_s (h.grow hb) hS x f m)
  have hx := onP_on hS x
  generalize onP S.rows.length S.cols x = x' at ON hx ⊢
  obtain ⟨row, col, rd, kp, wp, og, a, b, c, d, l, r, s⟩ := x
  obtain ⟨mt, ml, mb, mr⟩ := m
  obtain ⟨fT, fL, fB, fR⟩ := f
  simp only at ON ⊢
  go_enter Try.func81, Try.ntmps81
  go_upto_region 2 with (first
    | (refine wpList_load_mid rfl 49 (.tmp 4) rfl _ 0 rfl [.int .i64 row, .int .i64 col, .int .u8 rd, .bool kp, .bool wp, .bool og, .int .i64 a, .int .i64 b, .int .i64 c, .int .i64 d, .int .i64 l, .int .i64 r, .int .i64 s] _ ?_ Try.underlying49 rfl (by kernel_rfl) ?_)
    | (refine wpList_load_mid rfl 69 (.tmp 5) rfl _ 0 rfl [.int .i64 fT, .int .i64 fL, .int .i64 fB, .int .i64 fR, .int .i64 mt, .int .i64 ml, .int .i64 mb, .int .i64 mr] _ ?_ Try.underlying69 rfl (by kernel_rfl) ?_)
    | ((go_at_call 48); (with_reducible refine (ON.out _ (by (repeat' (first | (with_reducible exact Below.refl _ _) | (with_reducible refine Below.alloc ?_ ?_ _) | (with_reducible refine below_ext ?_ ?_ _) | (with_reducible refine Below.drew ?_) | (with_reducible refine below_drewN ?_ _) | (with_reducible refine Below.setCell ?_ ?_ _) | go_size | (simp only [go_sem]; omega) | (simp [go_sem]; done) | (simp [go_sem]; omega))))).mono ?_); (rintro _ _ ⟨H, y, rfl, rfl, hH, hP⟩)))
  · exact range_blk (by (repeat (first | ((with_reducible refine heap_at _ _ ?_); (focus (first | rfl | (simp [go_sem]; done) | (simp [go_sem]; omega)))) | ((with_reducible refine (heap_old _ _ ?_).trans ?_); (focus (first | (simp [go_sem]; done) | (simp [go_sem]; omega)))) | ((with_reducible refine (block_ext _ _ ?_).trans ?_); (focus (first | (simp [go_sem]; done) | (simp [go_sem]; omega)))) | ((with_reducible refine (heap_drew _ _).trans ?_))))) 0 _ rfl
  · exact range_blk (by (repeat (first | ((with_reducible refine heap_at _ _ ?_); (focus (first | rfl | (simp [go_sem]; done) | (simp [go_sem]; omega)))) | ((with_reducible refine (heap_old _ _ ?_).trans ?_); (focus (first | (simp [go_sem]; done) | (simp [go_sem]; omega)))) | ((with_reducible refine (block_ext _ _ ?_).trans ?_); (focus (first | (simp [go_sem]; done) | (simp [go_sem]; omega)))) | ((with_reducible refine (heap_drew _ _).trans ?_))))) 0 _ rfl
  obtain ⟨W1, hW1⟩ : ∃ W1, W1 = ext (((w.alloc (.cells #[.int .i64 row, .int .i64 col, .int .u8 rd, .bool kp, .bool wp, .bool og, .int .i64 a, .int .i64 b, .int .i64 c, .int .i64 d, .int .i64 l, .int .i64 r, .int .i64 s] 49)).alloc (.cells #[.int .i64 fT, .int .i64 fL, .int .i64 fB, .int .i64 fR, .int .i64 mt, .int .i64 ml, .int .i64 mb, .int .i64 mr] 69)).alloc (.cells #[.int .i64 0, .int .i64 0, .int .u8 0, .bool false, .bool false, .bool false, .int .i64 0, .int .i64 0, .int .i64 0, .int .i64 0, .int .i64 0, .int .i64 0, .int .i64 0] 49)) y := ⟨_, rfl⟩
  have hb : Below w.heap.size w W1 := by rw [hW1]; (repeat' (first | (with_reducible exact Below.refl _ _) | (with_reducible refine Below.alloc ?_ ?_ _) | (with_reducible refine below_ext ?_ ?_ _) | (with_reducible refine Below.drew ?_) | (with_reducible refine below_drewN ?_ _) | (with_reducible refine Below.setCell ?_ ?_ _) | go_size | (simp only [go_sem]; omega) | (simp [go_sem]; done) | (simp [go_sem]; omega)))
  have hR : W1.heap[w.heap.size + 1 + 1]? = some (.cells #[.int .i64 0, .int .i64 0, .int .u8 0, .bool false, .bool false, .bool false, .int .i64 0, .int .i64 0, .int .i64 0, .int .i64 0, .int .i64 0, .int .i64 0, .int .i64 0] 49 (0, 0)) := by rw [hW1]; (repeat (first | ((with_reducible refine heap_at _ _ ?_); (focus (first | rfl | (simp [go_sem]; done) | (simp [go_sem]; omega)))) | ((with_reducible refine (heap_old _ _ ?_).trans ?_); (focus (first | (simp [go_sem]; done) | (simp [go_sem]; omega)))) | ((with_reducible refine (block_ext _ _ ?_).trans ?_); (focus (first | (simp [go_sem]; done) | (simp [go_sem]; omega)))) | ((with_reducible refine (heap_drew _ _).trans ?_))))
  have hH2 : w.heap.size + 3 ≤ H := by
    have : (((w.alloc (.cells #[.int .i64 row, .int .i64 col, .int .u8 rd, .bool kp, .bool wp, .bool og, .int .i64 a, .int .i64 b, .int .i64 c, .int .i64 d, .int .i64 l, .int .i64 r, .int .i64 s] 49)).alloc (.cells #[.int .i64 fT, .int .i64 fL, .int .i64 fB, .int .i64 fR, .int .i64 mt, .int .i64 ml, .int .i64 mb, .int .i64 mr] 69)).alloc (.cells #[.int .i64 0, .int .i64 0, .int .u8 0, .bool false, .bool false, .bool false, .int .i64 0, .int .i64 0, .int .i64 0, .int .i64 0, .int .i64 0, .int .i64 0, .int .i64 0] 49)).heap.size = w.heap.size + 3 := by simp [go_sem]
    omega
  have pf1 : W1.rangeAt (w.heap.size + 1) 0 [.int .i64 fT, .int .i64 fL, .int .i64 fB, .int .i64 fR, .int .i64 mt, .int .i64 ml, .int .i64 mb, .int .i64 mr] := range_blk (by rw [hW1]; (repeat (first | ((with_reducible refine heap_at _ _ ?_); (focus (first | rfl | (simp [go_sem]; done) | (simp [go_sem]; omega)))) | ((with_reducible refine (heap_old _ _ ?_).trans ?_); (focus (first | (simp [go_sem]; done) | (simp [go_sem]; omega)))) | ((with_reducible refine (block_ext _ _ ?_).trans ?_); (focus (first | (simp [go_sem]; done) | (simp [go_sem]; omega)))) | ((with_reducible refine (heap_drew _ _).trans ?_))))) 0 _ rfl
  rw [← hW1] at hP ⊢
  clear hW1 hH ON
  have hm : ((S.rows.length : Nat) : Int) ≤ 2000 := by omega
  have hn : ((S.cols : Nat) : Int) ≤ 2000 := by omega
  obtain ⟨rowP, colP, rdP, kpP, wpP, ogP, aP, bP, cP, dP, lP, rP, sP⟩ := x'
  have e3 : clampI 0 (max 1 (S.rows.length : Int)) rowP = rowP := by have := hx.r0; have := hx.r1; simp only at *; unfold clampI; omega
  have e4 : clampI 0 (max 1 (S.cols : Int)) colP = colP := by have := hx.c0; have := hx.c1; simp only at *; unfold clampI; omega
  have RT : Hid (∀ w', Calls Try.prog 101 #[.agg (cuL ⟨rowP, colP, rdP, kpP, wpP, ogP, aP, bP, cP, dP, lP, rP, sP⟩).toArray, .agg (frL S.rows.length S.cols ⟨mt, ml, mb, mr⟩).toArray] w' (Gives w' (retU S ⟨mt, ml, mb, mr⟩ ⟨rowP, colP, rdP, kpP, wpP, ogP, aP, bP, cP, dP, lP, rP, sP⟩).v)) := Lib.hid (fun w' => by
    have := return_c (row := rowP) (col := colP) (rd := rdP) (kp := kpP) (wp := wpP) (og := ogP) (a := aP) (b := bP) (c := cP) (d := dP) (l := lP) (r := rP) (s := sP) (pt := 0) (pl := 0) (mt := mt) (ml := ml) (mb := mb) (mr := mr) hm hn w'
    rw [e3, e4] at this
    exact this)
  have IX := Lib.hid (fun w' (hb' : Below W1.heap.size W1 w') => index_g (h.grow (hb.trans (hb'.mono hb.size))) hS (fun b hb2 => by have := hFl b hb2; have := hb.size; have := hb'.size; omega) (retU S ⟨mt, ml, mb, mr⟩ ⟨rowP, colP, rdP, kpP, wpP, ogP, aP, bP, cP, dP, lP, rP, sP⟩) ⟨fT, fL, fB, fR⟩ ⟨mt, ml, mb, mr⟩)
  simp only at IX
  have pc := hP.cur
  have pf := hP.frame
  have hHl := hP.lt
  have hRl : w.heap.size + 1 + 1 < W1.heap.size := heap_in hR
  go_upto_region 2 with fail
  (refine wp_region_F (S := (fun w' => w'.rangeAt H 1 (cuL ⟨rowP, colP, rdP, kpP, wpP, ogP, aP, bP, cP, dP, lP, rP, sP⟩) ∧ w'.rangeAt H 14 (frL S.rows.length S.cols ⟨mt, ml, mb, mr⟩) ∧ w'.rangeAt (w.heap.size + 1) 0 [.int .i64 fT, .int .i64 fL, .int .i64 fB, .int .i64 fR, .int .i64 mt, .int .i64 ml, .int .i64 mb, .int .i64 mr])) 12 [false, false, false, false, false, false, false, false, false, false, false, false, false] rfl rfl (by kernel_rfl) ?_ (fun hHeld => ?_); (focus ((try dsimp only); (exact ⟨pc, pf, pf1⟩); done)))
  ((refine AtF.take (oi := ?_) (v := ?_) 0 ?_ ?_ ?_ ?_ (Or.inl ⟨?_, ?_⟩) (by assumption) ?_; rotate_left 2; rfl; kernel_rfl; kernel_rfl; exact (fun _ _ _ h => h); rfl; (focus (intro w hSw; (try dsimp only at hSw); go_simp; (try with_reducible rfl); done)); (try simp only [Act.put, List.setIfInBounds_toArray, List.set_cons_zero, List.set_cons_succ])); (refine AtF.take (oi := ?_) (v := ?_) 1 ?_ ?_ ?_ ?_ (Or.inl ⟨?_, ?_⟩) (by assumption) ?_; rotate_left 2; rfl; kernel_rfl; kernel_rfl; exact (fun _ _ _ h => h); rfl; (focus (intro w hSw; (try dsimp only at hSw); go_simp; (try with_reducible rfl); done)); (try simp only [Act.put, List.setIfInBounds_toArray, List.set_cons_zero, List.set_cons_succ])); (refine AtF.take (oi := ?_) (v := ?_) 2 ?_ ?_ ?_ ?_ (Or.inl ⟨?_, ?_⟩) (by assumption) ?_; rotate_left 2; rfl; kernel_rfl; kernel_rfl; exact (fun _ _ _ h => h); rfl; (focus (intro w hSw; (try dsimp only at hSw); go_simp; (try with_reducible rfl); done)); (try simp only [Act.put, List.setIfInBounds_toArray, List.set_cons_zero, List.set_cons_succ])); (refine AtF.take (oi := ?_) (v := ?_) 3 ?_ ?_ ?_ ?_ (Or.inl ⟨?_, ?_⟩) (by assumption) ?_; rotate_left 2; rfl; kernel_rfl; kernel_rfl; exact (fun _ _ _ h => h); rfl; (focus (intro w hSw; (try dsimp only at hSw); go_simp; (try with_reducible rfl); done)); (try simp only [Act.put, List.setIfInBounds_toArray, List.set_cons_zero, List.set_cons_succ])))
  (refine AtF.take (oi := ?_) (v := .agg (cuL ⟨rowP, colP, rdP, kpP, wpP, ogP, aP, bP, cP, dP, lP, rP, sP⟩).toArray) 4 ?_ ?_ ?_ ?_ ?_ (by assumption) ?_; rotate_left 1; rfl; kernel_rfl; kernel_rfl; exact (fun _ _ _ h => h); (focus ((refine yieldsIf_load_mid rfl 49 (.tmp 15) rfl H 1 rfl (cuL ⟨rowP, colP, rdP, kpP, wpP, ogP, aP, bP, cP, dP, lP, rP, sP⟩) _ (fun w' hS => hS.1) Try.underlying49 rfl (by kernel_rfl)); done)); (try simp only [Act.put, List.setIfInBounds_toArray, List.set_cons_zero, List.set_cons_succ]))
  ((refine AtF.take (oi := ?_) (v := ?_) 5 ?_ ?_ ?_ ?_ (Or.inl ⟨?_, ?_⟩) (by assumption) ?_; rotate_left 2; rfl; kernel_rfl; kernel_rfl; exact (fun _ _ _ h => h); rfl; (focus (intro w hSw; (try dsimp only at hSw); go_simp; (try with_reducible rfl); done)); (try simp only [Act.put, List.setIfInBounds_toArray, List.set_cons_zero, List.set_cons_succ])); (refine AtF.take (oi := ?_) (v := ?_) 6 ?_ ?_ ?_ ?_ (Or.inl ⟨?_, ?_⟩) (by assumption) ?_; rotate_left 2; rfl; kernel_rfl; kernel_rfl; exact (fun _ _ _ h => h); rfl; (focus (intro w hSw; (try dsimp only at hSw); go_simp; (try with_reducible rfl); done)); (try simp only [Act.put, List.setIfInBounds_toArray, List.set_cons_zero, List.set_cons_succ])); (refine AtF.take (oi := ?_) (v := ?_) 7 ?_ ?_ ?_ ?_ (Or.inl ⟨?_, ?_⟩) (by assumption) ?_; rotate_left 2; rfl; kernel_rfl; kernel_rfl; exact (fun _ _ _ h => h); rfl; (focus (intro w hSw; (try dsimp only at hSw); go_simp; (try with_reducible rfl); done)); (try simp only [Act.put, List.setIfInBounds_toArray, List.set_cons_zero, List.set_cons_succ])))
  (refine AtF.take (oi := ?_) (v := .agg (frL S.rows.length S.cols ⟨mt, ml, mb, mr⟩).toArray) 8 ?_ ?_ ?_ ?_ ?_ (by assumption) ?_; rotate_left 1; rfl; kernel_rfl; kernel_rfl; exact (fun _ _ _ h => h); (focus ((refine yieldsIf_load_mid rfl 69 (.tmp 19) rfl H 14 rfl (frL S.rows.length S.cols ⟨mt, ml, mb, mr⟩) _ (fun w' hS => hS.2.1) Try.underlying69 rfl (by kernel_rfl)); done)); (try simp only [Act.put, List.setIfInBounds_toArray, List.set_cons_zero, List.set_cons_succ]))
  (refine AtF.take (oi := ?_) (v := .agg #[.int .i64 fT, .int .i64 fL, .int .i64 fB, .int .i64 fR, .int .i64 mt, .int .i64 ml, .int .i64 mb, .int .i64 mr]) 10 ?_ ?_ ?_ ?_ ?_ (by assumption) ?_; rotate_left 1; rfl; kernel_rfl; kernel_rfl; exact (fun _ _ _ h => h); (focus ((refine yieldsIf_load_mid rfl 69 (.tmp 5) rfl (w.heap.size + 1) 0 rfl [.int .i64 fT, .int .i64 fL, .int .i64 fB, .int .i64 fR, .int .i64 mt, .int .i64 ml, .int .i64 mb, .int .i64 mr] _ (fun w' hS => hS.2.2) Try.underlying69 rfl (by kernel_rfl)); done)); (try simp only [Act.put, List.setIfInBounds_toArray, List.set_cons_zero, List.set_cons_succ]))
  (refine AtF.only (oi := ?_) 9 ?_ ?_ (fun K hK => ?_); rotate_left 1; rfl; kernel_rfl; (try go_simp); (go_at_call 101; ((with_reducible refine (RT.out _).mono ?_); rintro _ _ hgets; obtain ⟨rfl, x1, rfl⟩ := hgets.get; clear hgets)); (refine hK.out _ _ ?_ (fun hHeld => ?_)); (focus ((try dsimp only); (exact ⟨range_grow pc hHl _, range_grow pf hHl _, range_grow pf1 (by omega) _⟩); done)); clear hK K; (try simp only [Act.put, List.setIfInBounds_toArray, List.set_cons_zero, List.set_cons_succ]))
  (refine AtF.only (oi := ?_) 11 ?_ ?_ (fun K hK => ?_); rotate_left 1; rfl; kernel_rfl; (try go_simp); ((go_at_call 24); (with_reducible refine (IX.out _ (by (repeat' (first | (with_reducible exact Below.refl _ _) | (with_reducible refine Below.alloc ?_ ?_ _) | (with_reducible refine below_ext ?_ ?_ _) | (with_reducible refine Below.drew ?_) | (with_reducible refine below_drewN ?_ _) | (with_reducible refine Below.setCell ?_ ?_ _) | go_size | (simp only [go_sem]; omega) | (simp [go_sem]; done) | (simp [go_sem]; omega))))).mono ?_); (rintro _ W3 ⟨rfl, hD⟩)); (refine hK.out _ _ ?_ (fun hHeld => ?_)); (focus ((try dsimp only); (exact ⟨range_same (range_grow pc hHl _) (hD.1.block _ (by simp; omega) (fun hq => by have := hFl _ hq; omega)), range_same (range_grow pf hHl _) (hD.1.block _ (by simp; omega) (fun hq => by have := hFl _ hq; omega)), range_same (range_grow pf1 (by omega) _) (hD.1.block _ (by simp; omega) (fun hq => by have := hFl _ hq; omega))⟩); done)); clear hK K; (try simp only [Act.put, List.setIfInBounds_toArray, List.set_cons_zero, List.set_cons_succ]))
  have hs1 : W1.heap.size ≤ (ext W1 x1).heap.size := by simp [go_sem]
  have s2 := hD.1.size
  have hR3 : W3.heap[w.heap.size + 1 + 1]? = some (.cells #[.int .i64 0, .int .i64 0, .int .u8 0, .bool false, .bool false, .bool false, .int .i64 0, .int .i64 0, .int .i64 0, .int .i64 0, .int .i64 0, .int .i64 0, .int .i64 0] 49 (0, 0)) := by
    refine (hD.1.block _ (by omega) (fun hq => by have := hFl _ hq; omega)).trans ?_
    exact ((block_ext _ _ hRl)).trans hR
  clear IX RT hHeld
  (refine AtF.last (oi := ?_) ?_ ?_ (fun K hK => ?_); rotate_left 1; rfl; kernel_rfl; refine step_do rfl ?_; (refine wp_store_all 49 (.tmp 6) (.tmp 23) rfl (w.heap.size + 1 + 1) (cuL (nextC S ⟨mt, ml, mb, mr⟩ ⟨rowP, colP, rdP, kpP, wpP, ogP, aP, bP, cP, dP, lP, rP, sP⟩)) rfl rfl hR3 rfl (by kernel_rfl) rfl ?_); (intro W5 k5 h5); refine hK.out _ _ ?_; clear hK K; (try simp only [Act.put, List.setIfInBounds_toArray, List.set_cons_zero, List.set_cons_succ]))
  have hWb : Below w.heap.size w (ext W1 x1) := by (repeat' (first | (with_reducible exact Below.refl _ _) | (with_reducible refine Below.alloc ?_ ?_ _) | (with_reducible refine below_ext ?_ ?_ _) | (with_reducible refine Below.drew ?_) | (with_reducible refine below_drewN ?_ _) | (with_reducible refine Below.setCell ?_ ?_ _) | go_size | (simp only [go_sem]; omega) | (simp [go_sem]; done) | (simp [go_sem]; omega)))
  have hFN := Did.side hWb hFl hD k5 (fun q hq => by omega)
  generalize hze : nextC S ⟨mt, ml, mb, mr⟩ ⟨rowP, colP, rdP, kpP, wpP, ogP, aP, bP, cP, dP, lP, rP, sP⟩ = z at h5
  replace hze := Lib.hid hze
  have FN := Lib.hid hFN
  clear hFN hD k5 hR3
  go_wp2_with fail
  have hl5 := heap_in h5
  have d20 : W5.cell? ⟨w.heap.size + 1 + 1, 0, none⟩ = some (.int .i64 z.row) := by rw [cell_in h5]; rfl
  have d21 : W5.cell? ⟨w.heap.size + 1 + 1, 1, none⟩ = some (.int .i64 z.col) := by rw [cell_in h5]; rfl
  have d22 : W5.cell? ⟨w.heap.size + 1 + 1, 2, none⟩ = some (.int .u8 z.rd) := by rw [cell_in h5]; rfl
  have d23 : W5.cell? ⟨w.heap.size + 1 + 1, 3, none⟩ = some (.bool z.kp) := by rw [cell_in h5]; rfl
  have d24 : W5.cell? ⟨w.heap.size + 1 + 1, 4, none⟩ = some (.bool z.wp) := by rw [cell_in h5]; rfl
  have d25 : W5.cell? ⟨w.heap.size + 1 + 1, 5, none⟩ = some (.bool z.og) := by rw [cell_in h5]; rfl
  have d26 : W5.cell? ⟨w.heap.size + 1 + 1, 6, none⟩ = some (.int .i64 z.a) := by rw [cell_in h5]; rfl
  have d27 : W5.cell? ⟨w.heap.size + 1 + 1, 7, none⟩ = some (.int .i64 z.b) := by rw [cell_in h5]; rfl
  have d28 : W5.cell? ⟨w.heap.size + 1 + 1, 8, none⟩ = some (.int .i64 z.c) := by rw [cell_in h5]; rfl
  have d29 : W5.cell? ⟨w.heap.size + 1 + 1, 9, none⟩ = some (.int .i64 z.d) := by rw [cell_in h5]; rfl
  have d30 : W5.cell? ⟨w.heap.size + 1 + 1, 10, none⟩ = some (.int .i64 z.l) := by rw [cell_in h5]; rfl
  have d31 : W5.cell? ⟨w.heap.size + 1 + 1, 11, none⟩ = some (.int .i64 z.r) := by rw [cell_in h5]; rfl
  have d32 : W5.cell? ⟨w.heap.size + 1 + 1, 12, none⟩ = some (.int .i64 z.s) := by rw [cell_in h5]; rfl
  refine bodyPost_ret (by simp [results, Try.results81, go_sem, d20, d21, d22, d23, d24, d25, d26, d27, d28, d29, d30, d31, d32]; try rfl) rfl ?_
  rw [hze.out]
  exact ⟨rfl, FN.out⟩
end
end Go.Proofs.Ytdfiknemfpkdmaa
/- press.Glyph: where it stands between its steps.  -/
namespace Go.Proofs.Ytdfiknemfpkdmaa
open Go.RowKit
set_option linter.unusedVariables false
set_option linter.unusedSimpArgs false

abbrev cu0 : List Value := [.int .i64 0, .int .i64 0, .int .u8 0, .bool false, .bool false, .bool false, .int .i64 0, .int .i64 0, .int .i64 0, .int .i64 0, .int .i64 0, .int .i64 0, .int .i64 0]
/-- a walk that began in w: its page, its sheet (block H), what the call was handed, where its answer goes -/
structure GlSt (w : World) (F : Nat → Prop) (p H : Nat) (fr fa : List Value) (wr ins : Bool) (T : PgS) (y : Cu) (W : World) : Prop where
  keep : Keep F w W
  foot : ∃ F', PageAt W F' p T ∧ (∀ b, F' b → F b ∨ w.heap.size + 4 ≤ b) ∧ ¬ F' H
  sh : PrAt W H p y fr
  fb : W.heap[w.heap.size + 1]? = some (.cells fa.toArray 69 (0, 0))
  wy : W.heap[w.heap.size + 2]? = some (.cells #[.bool wr, .bool ins] 71 (0, 0))
  rb : W.heap[w.heap.size + 3]? = some (.cells cu0.toArray 49 (0, 0))
  hH : w.heap.size + 4 ≤ H
section
variable {w W W' : World} {F : Nat → Prop} {p H : Nat} {fr fa : List Value} {wr ins : Bool} {T U : PgS} {y z : Cu}
theorem GlSt.grow (h : GlSt w F p H fr fa wr ins T y W) (hb : Below W.heap.size W W') : GlSt w F p H fr fa wr ins T y W' := by
  obtain ⟨F', h1, h2, h3⟩ := h.foot
  exact ⟨h.keep.trans (Keep.of_below (F := fun _ => False) hb) (fun x hx => hx.elim), ⟨F', h1.grow hb, h2, h3⟩, h.sh.grow hb, (hb.block _ (heap_in h.fb)).trans h.fb, (hb.block _ (heap_in h.wy)).trans h.wy, (hb.block _ (heap_in h.rb)).trans h.rb, h.hH⟩
theorem GlSt.ext (h : GlSt w F p H fr fa wr ins T y W) (x : More) : GlSt w F p H fr fa wr ins T y (ext W x) := h.grow (below_of_ext W x)
theorem GlSt.set (h : GlSt w F p H fr fa wr ins T y W) (k : Keep (· = H) W W') (hp : PrAt W' H p z fr) : GlSt w F p H fr fa wr ins T z W' := by
  obtain ⟨F', h1, h2, h3⟩ := h.foot
  have hH := h.hH
  have l1 := heap_in h.fb
  have l2 := heap_in h.wy
  have l3 := heap_in h.rb
  exact ⟨h.keep.trans k (fun x hx => .inr (by omega)), ⟨F', h1.keep k (fun b hb e => h3 (e ▸ hb)), h2, h3⟩, hp, (k.block _ l1 (by omega)).trans h.fb, (k.block _ l2 (by omega)).trans h.wy, (k.block _ l3 (by omega)).trans h.rb, hH⟩
theorem GlSt.did (h : GlSt w F p H fr fa wr ins T y W) (hF : ∀ b, F b → b < w.heap.size) {F' : Nat → Prop} (h1 : PageAt W F' p T) (h2 : ∀ b, F' b → F b ∨ w.heap.size + 4 ≤ b) (h3 : ¬ F' H) (d : Did F' p U W W') : GlSt w F p H fr fa wr ins U y W' := by
  have hH := h.hH
  have l1 := heap_in h.fb
  have l2 := heap_in h.wy
  have l3 := heap_in h.rb
  have hs := h.keep.size
  have n : ∀ i, i < 4 → ¬ F' (w.heap.size + i) := fun i hi hf => by
    rcases h2 _ hf with q | q
    · have := hF _ q
      omega
    · omega
  refine ⟨h.keep.trans d.1 (fun x hx => (h2 x hx).elim .inl (fun e => .inr (by omega))), ⟨more F' W W', d.2, fun b hb => ?_, fun hb => ?_⟩, (d.1.block _ h.sh.lt h3).trans h.sh, (d.1.block _ l1 (n 1 (by omega))).trans h.fb, (d.1.block _ l2 (n 2 (by omega))).trans h.wy, (d.1.block _ l3 (n 3 (by omega))).trans h.rb, hH⟩
  · rcases hb with hb | hb
    · exact h2 b hb
    · have := hb.1
      omega
  · rcases hb with hb | hb
    · exact h3 hb
    · have := hb.1
      have := h.sh.lt
      omega
theorem GlSt.fin (h : GlSt w F p H fr fa wr ins T y W) (hF : ∀ b, F b → b < w.heap.size) (k : Keep (· = w.heap.size + 3) W W') : Did F p T w W' := by
  obtain ⟨F', h1, h2, h3⟩ := h.foot
  have n : ¬ F' (w.heap.size + 3) := fun hf => by
    rcases h2 _ hf with q | q
    · have := hF _ q
      omega
    · omega
  have s1 := h.keep.size
  have s2 := k.size
  refine ⟨h.keep.trans k (fun x hx => .inr (by omega)), (h1.keep k (fun b hb e => n (e ▸ hb))).mono (fun b hb => ?_) (fun b hb => ?_)⟩
  · have hl := (h1.lt b hb)
    rcases h2 b hb with q | q
    · exact .inl q
    · exact .inr ⟨by omega, by omega⟩
  · rcases hb with hb | hb
    · have := hF b hb
      omega
    · exact hb.2
theorem GlSt.wrap? (h : GlSt w F p H fr fa wr ins T y W) : W.cell? ⟨w.heap.size + 2, 0, none⟩ = some (.bool wr) := by rw [cell_in h.wy]; rfl
theorem GlSt.ins? (h : GlSt w F p H fr fa wr ins T y W) : W.cell? ⟨w.heap.size + 2, 1, none⟩ = some (.bool ins) := by rw [cell_in h.wy]; rfl
theorem GlSt.col? (h : GlSt w F p H fr fa wr ins T y W) : W.cell? ⟨H, 2, none⟩ = some (.int .i64 y.col) := by rw [cell_in h.sh]; rfl
theorem GlSt.rd? (h : GlSt w F p H fr fa wr ins T y W) : W.cell? ⟨H, 3, none⟩ = some (.int .u8 y.rd) := by rw [cell_in h.sh]; rfl
theorem GlSt.kp? (h : GlSt w F p H fr fa wr ins T y W) : W.cell? ⟨H, 4, none⟩ = some (.bool y.kp) := by rw [cell_in h.sh]; rfl
theorem GlSt.wp? (h : GlSt w F p H fr fa wr ins T y W) : W.cell? ⟨H, 5, none⟩ = some (.bool y.wp) := by rw [cell_in h.sh]; rfl
theorem GlSt.size (h : GlSt w F p H fr fa wr ins T y W) : w.heap.size + 4 ≤ W.heap.size := by have := h.sh.lt; have := h.hH; omega
theorem GlSt.fit (h : GlSt w F p H fr fa wr ins T y W) (hT : T.Ok) : Calls Try.prog 49 #[.pointer (some ⟨H, 0, none⟩)] W (Gives W (.agg (cuL (doneU T y)).toArray)) := by
  obtain ⟨F', h1, h2, h3⟩ := h.foot
  exact fit_s h1 hT h.sh
theorem GlSt.width (h : GlSt w F p H fr fa wr ins T y W) (hT : T.Ok) : Calls Try.prog 80 #[.pointer (some ⟨H, 0, none⟩)] W (Gives W (.int .i64 (widthI (lineOf T y.row).1.length (lineOf T y.row).2))) := by
  obtain ⟨F', h1, h2, h3⟩ := h.foot
  exact width_s h1 hT h.sh
theorem GlSt.cols (h : GlSt w F p H fr fa wr ins T y W) : Calls Try.prog 17 #[.pointer (some ⟨p, 0, none⟩)] W (Gives W (.int .i64 T.cols)) := by
  obtain ⟨F', h1, h2, h3⟩ := h.foot
  exact cols_p h1
theorem GlSt.put (h : GlSt w F p H fr fa wr ins T y W) (hT : T.Ok) (hF : ∀ b, F b → b < w.heap.size) (i j : Int) (c : Cl) : Calls Try.prog 82 #[.pointer (some ⟨p, 0, none⟩), .agg #[.int .i64 i, .int .i64 j], cellV c] W (fun e W' => e = .returned (.tuple #[]) ∧ GlSt w F p H fr fa wr ins (putS T i j c) y W') := by
  obtain ⟨F', h1, h2, h3⟩ := h.foot
  refine (put_p h1 hT i j c).mono ?_
  rintro e W' ⟨rfl, hd⟩
  exact ⟨rfl, h.did hF h1 h2 h3 hd⟩
theorem GlSt.next (h : GlSt w F p H fr fa wr ins T y W) (hT : T.Ok) (hF : ∀ b, F b → b < w.heap.size) (x : Cu) (f m : BxI) : Calls Try.prog 81 #[.pointer (some ⟨p, 0, none⟩), .agg (cuL x).toArray, .agg #[.int .i64 f.t, .int .i64 f.l, .int .i64 f.b, .int .i64 f.r, .int .i64 m.t, .int .i64 m.l, .int .i64 m.b, .int .i64 m.r]] W (fun e W' => e = .returned (.agg (cuL (nextC T m (onP T.rows.length T.cols x))).toArray) ∧ GlSt w F p H fr fa wr ins (nextP T m (onP T.rows.length T.cols x)) y W') := by
  obtain ⟨F', h1, h2, h3⟩ := h.foot
  refine (next_g h1 hT h1.lt x f m).mono ?_
  rintro e W' ⟨rfl, hd⟩
  exact ⟨rfl, h.did hF h1 h2 h3 hd⟩
theorem GlSt.store (h : GlSt w F p H fr fa wr ins T y W) (z : Cu) : W.there H 1 13 ∧ ∃ W', W.setCells H 1 (cuL z) = W' ∧ GlSt w F p H fr fa wr ins T z W' := by
  obtain ⟨W', e, k, c⟩ := h.sh.store z
  exact ⟨h.sh.there1, W', e, h.set k c⟩
theorem GlSt.setWrap (h : GlSt w F p H fr fa wr ins T y W) (v : Bool) : GlSt w F p H fr fa wr ins T { y with wp := v } (W.setCell ⟨H, 5, none⟩ (.bool v)) := by
  obtain ⟨k, c⟩ := h.sh.wrap v
  exact h.set k c
theorem GlSt.setCol (h : GlSt w F p H fr fa wr ins T y W) (v : Int) : GlSt w F p H fr fa wr ins T { y with col := v } (W.setCell ⟨H, 2, none⟩ (.int .i64 v)) := by
  refine h.set ((Keep.refl (· = H) W).set (p := ⟨H, 2, none⟩) (.inl rfl) _) ?_
  have h1 : W.heap[H]? = _ := h.sh
  unfold PrAt
  simp [World.setCell, Array.getElem?_modify, h1]
theorem GlSt.answer (h : GlSt w F p H fr fa wr ins T y W) (hF : ∀ b, F b → b < w.heap.size) (z : Cu) : ∃ W', W.setCells (w.heap.size + 3) 0 (cuL z) = W' ∧ Did F p T w W' ∧ W'.heap[w.heap.size + 3]? = some (.cells (cuL z).toArray 49 (0, 0)) := by
  obtain ⟨W', e, k, c⟩ := store_all h.rb (cuL z) rfl
  exact ⟨W', e, h.fin hF k, c⟩
end
end Go.Proofs.Ytdfiknemfpkdmaa
