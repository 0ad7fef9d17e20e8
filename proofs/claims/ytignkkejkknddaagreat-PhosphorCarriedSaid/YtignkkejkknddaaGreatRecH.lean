/- phosphorlaw16.Book: the books that a beginning tells.  -/
import Derived.Test.YtignkkejkknddaaGreatRbkB
import Derived.Test.YtignkkejkknddaaGreatSh
import Derived.Test.YtignkkejkknddaaGreatRecD
namespace Go.Proofs.YtignkkejkknddaaGreat
open Go.RowKit
set_option linter.unusedVariables false
set_option linter.unusedSimpArgs false

/-- the first l lines of a page; the others empty -/
def takeL (S : PgS) (l : Nat) : PgS := ⟨S.rows.mapIdx fun i r => if i < l then r else (List.replicate S.cols erC, 0), S.cols⟩
theorem takeL_len (S : PgS) (l : Nat) : (takeL S l).rows.length = S.rows.length := by simp [takeL]
theorem takeL_zero {S : PgS} (hS : S.Ok) : takeL S 0 = newS S.rows.length S.cols := by
  have hM : dimN (S.rows.length : Int) = S.rows.length := by have := hS.r1; have := hS.r2; unfold dimN; omega
  have hN : dimN (S.cols : Int) = S.cols := by have := hS.c1; have := hS.c2; unfold dimN; omega
  unfold takeL newS resizeS
  rw [hM, hN]
  congr 1
  apply List.ext_getElem (by simp)
  intro i h1 h2
  simp [resRow]
theorem takeL_end (S : PgS) : takeL S S.rows.length = S := by
  cases S with | mk rows cols =>
  unfold takeL
  congr 1
  apply List.ext_getElem (by simp)
  intro i h1 h2
  simp only [List.getElem_mapIdx]
  rw [if_pos h2]
theorem takeL_ok {S : PgS} (hS : S.Ok) (l : Nat) : (takeL S l).Ok := by
  refine ⟨by rw [takeL_len]; exact hS.r1, by rw [takeL_len]; exact hS.r2, hS.c1, hS.c2, fun r hr => ?_, fun r hr y hy => ?_⟩
  · obtain ⟨i, hi, rfl⟩ := List.getElem_of_mem hr
    have hi' := hi
    rw [takeL_len] at hi'
    simp only [takeL, List.getElem_mapIdx]
    split
    · exact hS.len hi'
    · simp
  · obtain ⟨i, hi, rfl⟩ := List.getElem_of_mem hr
    have hi' := hi
    rw [takeL_len] at hi'
    simp only [takeL, List.getElem_mapIdx] at hy
    split at hy
    · exact hS.ok _ (List.getElem_mem hi') y hy
    · rw [List.mem_replicate] at hy
      rw [hy.2]
      simp [Cl.ok, erC]
theorem takeL_step {S : PgS} (hS : S.Ok) {l : Nat} (hl : l < S.rows.length) (hz : 0 ≤ S.rows[l].2 ∧ S.rows[l].2 ≤ 3) : setLineS (takeL S l) l S.rows[l].1 S.rows[l].2 = takeL S (l + 1) := by
  unfold setLineS
  rw [if_pos (by unfold thereI; rw [takeL_len]; simp; omega), show (takeL S l).cols = S.cols from rfl, resR_self (hS.len hl), Int.toNat_natCast, show sizeI S.rows[l].2 = S.rows[l].2 by unfold sizeI; rw [if_neg (by omega)]]
  unfold setRowS takeL
  congr 1
  apply List.ext_getElem (by simp)
  intro i h1 h2
  rw [List.getElem_set]
  simp only [List.getElem_mapIdx]
  by_cases e : l = i
  · subst e
    rw [if_pos rfl, if_pos (by omega)]
  · rw [if_neg e]
    by_cases h : i < l
    · rw [if_pos h, if_pos (by omega)]
    · rw [if_neg h, if_neg (by omega)]
/-- the page number i of a book that a beginning tells -/
def bkP (b : BgD) (i : Nat) : PgS := putS (begS b) 0 i ⟨64 + i, 0, false⟩
def bkNp (n : Int) : Nat := (clampR n 1 4).toNat
def bkJ (b : BgD) (np j : Nat) : BkS := ⟨(List.range np).map fun i => if i < j then bkP b i else newS (begM b) (begN b), newS 1 (begN b), 0, false⟩
def bkS (b : BgD) (n : Int) : BkS := bkJ b (bkNp n) (bkNp n)
theorem bkNp_in (n : Int) : 1 ≤ bkNp n ∧ bkNp n ≤ 4 ∧ clampR n 1 4 = bkNp n := by
  have := clampR_in n (show (1 : Int) ≤ 4 by omega)
  unfold bkNp
  omega
section
variable {b : BgD} {np j l : Nat}
theorem bkJ_len : (bkJ b np j).pages.length = np := by simp [bkJ]
theorem bkP_len (i : Nat) : (bkP b i).rows.length = begM b ∧ (bkP b i).cols = begN b := by
  unfold bkP putS
  split
  · exact ⟨by rw [setRowS_len]; simp [begS], rfl⟩
  · exact ⟨by simp [begS], rfl⟩
theorem bkP_z {i : Nat} {r : List Cl × Int} (hr : r ∈ (bkP b i).rows) : 0 ≤ r.2 ∧ r.2 ≤ 3 := by
  have hb : ∀ q ∈ (begS b).rows, 0 ≤ q.2 ∧ q.2 ≤ 3 := fun q hq => by
    simp only [begS, List.mem_map] at hq
    obtain ⟨k, _, rfl⟩ := hq
    exact begZ_in b.ss k
  unfold bkP putS at hr
  split at hr
  · unfold setRowS at hr
    rcases List.mem_or_eq_of_mem_set hr with hr | rfl
    · exact hb r hr
    · simp only
      rw [List.getD_eq_getElem?_getD]
      cases e : (begS b).rows[(0 : Int).toNat]? with
      | none => simp
      | some q => exact hb q (List.mem_of_getElem? e)
  · exact hb r hr
theorem bkP_ok {w : World} (hb : b.Ok w) {i : Nat} (hi : i ≤ 100) : (bkP b i).Ok := putS_ok (begS_ok hb) _ _ ⟨by simp only; omega, by simp⟩
theorem bkJ_ok {w : World} (hb : b.Ok w) (h1 : 1 ≤ np) (h2 : np ≤ 4) : (bkJ b np j).Ok := by
  refine ⟨by rw [bkJ_len]; exact h1, by rw [bkJ_len]; omega, by rw [bkJ_len]; exact h1, fun P hP => ?_, newS_ok _ _⟩
  simp only [bkJ, List.mem_map, List.mem_range] at hP
  obtain ⟨i, hi, rfl⟩ := hP
  split
  · exact bkP_ok hb (by omega)
  · exact newS_ok _ _
theorem bkJ_zero (h1 : 1 ≤ np) (h2 : np ≤ 4) : newB np (begM b) (begN b) = bkJ b np 0 := by
  unfold newB bkJ
  rw [show (max 1 (min (np : Int) 16)).toNat = np by omega]
  congr 1
  apply List.ext_getElem (by simp)
  intro i h1 h2
  simp
theorem bkJ_set (hj : j < np) : (bkJ b np j).set j (bkP b j) = bkJ b np (j + 1) := by
  unfold BkS.set
  rw [if_pos (by rw [bkJ_len]; exact hj)]
  unfold bkJ
  congr 1
  apply List.ext_getElem (by simp)
  intro i h1 h2
  rw [List.getElem_set]
  simp only [List.getElem_map, List.getElem_range]
  by_cases e : j = i
  · subst e
    rw [if_pos rfl, if_pos (by omega)]
  · rw [if_neg e]
    by_cases h : i < j
    · rw [if_pos h, if_pos (by omega)]
    · rw [if_neg h, if_neg (by omega)]
theorem bk_set_set (S : BkS) (i : Nat) (P Q : PgS) : (S.set i P).set i Q = S.set i Q := by
  unfold BkS.set
  by_cases h : i < S.pages.length
  · simp [h]
  · simp [h]
theorem bkJ_start {w : World} (hb : b.Ok w) (hj : j < np) (h4 : np ≤ 4) : (bkJ b np j).set j (takeL (bkP b j) 0) = bkJ b np j := by
  rw [takeL_zero (bkP_ok hb (by omega)), (bkP_len j).1, (bkP_len j).2]
  unfold BkS.set
  rw [if_pos (by rw [bkJ_len]; exact hj)]
  unfold bkJ
  congr 1
  apply List.ext_getElem (by simp)
  intro i h1 h2
  rw [List.getElem_set]
  simp only [List.getElem_map, List.getElem_range]
  by_cases e : j = i
  · subst e
    rw [if_pos rfl, if_neg (by omega)]
  · rw [if_neg e]
theorem bkJ_page (hj : j < np) (P : PgS) (h' : j < ((bkJ b np j).set j P).pages.length) : ((bkJ b np j).set j P).pages[j] = P := by
  unfold BkS.set
  simp [bkJ_len, hj]
theorem bkJ_done (hj : j < np) (h' : j < (bkJ b np (j + 1)).pages.length) : (bkJ b np (j + 1)).pages[j] = bkP b j := by simp [bkJ]
end
end Go.Proofs.YtignkkejkknddaaGreat
/- phosphorlaw16.Book: the walk.  -/
namespace Go.Proofs.YtignkkejkknddaaGreat
open Go.RowKit
set_option linter.unusedVariables false
set_option linter.unusedSimpArgs false

abbrev rbA (A : Option Addr) (n c : Nat) (sA : Option Addr) (sm sc : Nat) (sn nw : Int) (bl : Bool) : Array Value := #[.slice A n c, .slice sA sm sc, .int .i64 sn, .int .i64 nw, .bool bl]
/-- the program's book and the document's, while they are laid: W3 the world behind book.New, F0 its blocks, H the document's variable, N the size ahead of both -/
structure BL (W3 : World) (N : Nat) (F0 : Nat → Prop) (cB H : Nat) (Tc Td : BkS) (wr : World) (F : Nat → Prop) (A : Option Addr) (n c : Nat) (sA : Option Addr) (sm sc : Nat) (sn nw : Int) (bl : Bool) : Prop where
  bk : BkAt wr F cB Tc
  ref : RBk wr (fun x => F x ∨ (x < N ∨ x = H)) (.agg (rbA A n c sA sm sc sn nw bl)) Td
  var : wr.heap[H]? = some (.cells (rbA A n c sA sm sc sn nw bl) 41 (0, 0))
  keep : Keep (fun x => F0 x ∨ x = H) W3 wr
  new : ∀ x, F x → F0 x ∨ W3.heap.size ≤ x
section
variable {W3 wr w1 w2 : World} {N : Nat} {F0 F : Nat → Prop} {cB H n c sm sc : Nat} {Tc Td T : BkS} {A sA : Option Addr} {sn nw : Int} {bl : Bool}
theorem BL.grow (h : BL W3 N F0 cB H Tc Td wr F A n c sA sm sc sn nw bl) (hb : Below wr.heap.size wr w1) : BL W3 N F0 cB H Tc Td w1 F A n c sA sm sc sn nw bl :=
  ⟨h.bk.grow hb, h.ref.grow hb, (hb.block H (heap_in h.var)).trans h.var, h.keep.trans (Keep.of_below (F := fun _ => False) hb) (fun _ f => f.elim), h.new⟩
/-- the document's book is another one, and stored -/
theorem BL.stored {A' sA' : Option Addr} {n' c' sm' sc' : Nat} {sn' nw' : Int} {bl' : Bool} (h : BL W3 N F0 cB H Tc Td wr F A n c sA sm sc sn nw bl) (hb : Below wr.heap.size wr w1) (hr : RBk w1 (fun x => F x ∨ (x < N ∨ x = H)) (.agg (rbA A' n' c' sA' sm' sc' sn' nw' bl')) T)
    (hk : Keep (· = H) w1 w2) (hv : w2.heap[H]? = some (.cells (rbA A' n' c' sA' sm' sc' sn' nw' bl') 41 (0, 0))) (hHF : ∀ x, F x → x ≠ H) : BL W3 N F0 cB H Tc T w2 F A' n' c' sA' sm' sc' sn' nw' bl' := by
  have h1 := h.grow hb
  exact ⟨h1.bk.keep hk hHF, hr.keep hk (fun x hx e => hx (.inr (.inr e))), hv, h1.keep.trans hk (fun x e => .inl (.inr e)), h.new⟩
/-- a deed on a page of the program's book -/
theorem BL.did (h : BL W3 N F0 cB H Tc Td wr F A n c sA sm sc sn nw bl) (hd : BDid F cB T wr w2) (hH : ¬ F H) (hH3 : H < W3.heap.size) (hN3 : N ≤ W3.heap.size) (h0 : ∀ x, F0 x → N ≤ x) : BL W3 N F0 cB H T Td w2 (more F wr w2) A n c sA sm sc sn nw bl := by
  obtain ⟨hk, hb⟩ := hd
  have hs := h.keep.size
  refine ⟨hb, (h.ref.mono (G := fun x => more F wr w2 x ∨ (x < N ∨ x = H)) (fun x hx g => g.imp_left (fun m => m.elim id (fun e => by omega)))).keep hk (fun x hx f => hx (.inl (.inl f))), (hk.block H (heap_in h.var) hH).trans h.var, h.keep.trans hk (fun x hx => (h.new x hx).imp_left .inl), fun x hx => ?_⟩
  rcases hx with hx | hx
  · exact h.new x hx
  · exact .inr (by omega)
end
theorem BL.page_ {wr : World} {N : Nat} {F : Nat → Prop} {H n c sm sc : Nat} {Td : BkS} {A sA : Option Addr} {sn nw : Int} {bl : Bool} {G : Nat → Prop} (h : RBk wr G (.agg (rbA A n c sA sm sc sn nw bl)) Td) {i : Nat} (hi : i < Td.pages.length) :
    ∃ (r : RPg) (L o : Nat), A = some ⟨L, o, none⟩ ∧ RefAt wr G r.v Td.pages[i] ∧ wr.cell? ⟨L, o + i * 2, none⟩ = some r.V ∧ L < wr.heap.size := by
  obtain ⟨A', c', us, s, e, ho⟩ := h
  injection e with e
  injection e with e
  injection e with e1 e2
  injection e1 with e1 _ _
  subst e1
  obtain ⟨r, L, o, -, hA, h1, h2, -, h4⟩ := ho.ps.get hi
  exact ⟨r, L, o, hA, h1, h2, h4⟩
theorem BL.page {W3 wr : World} {N : Nat} {F0 F : Nat → Prop} {cB H n c sm sc : Nat} {Tc Td : BkS} {A sA : Option Addr} {sn nw : Int} {bl : Bool} (h : BL W3 N F0 cB H Tc Td wr F A n c sA sm sc sn nw bl) {i : Nat} (hi : i < Td.pages.length) :
    ∃ (r : RPg) (L o : Nat), A = some ⟨L, o, none⟩ ∧ RefAt wr (fun x => F x ∨ (x < N ∨ x = H)) r.v Td.pages[i] ∧ wr.cell? ⟨L, o + i * 2, none⟩ = some r.V ∧ L < wr.heap.size := BL.page_ (F := F) (N := N) (H := H) h.ref hi
/-- the answer of Book -/
def BookR (B : BgD) (n : Int) (w : World) (e : Ending) (w' : World) : Prop := ∃ (cB : Nat) (F : Nat → Prop) (U : Value), e = .returned (.tuple #[ptrV cB, U]) ∧ Below w.heap.size w w' ∧ BkAt w' F cB (bkS B n) ∧ RBk w' (fun x => F x ∨ x < w.heap.size) U (bkS B n) ∧ ∀ x, F x → w.heap.size ≤ x
set_option maxRecDepth 100000 in
set_option maxHeartbeats 32000000 in
theorem book_16 (B : BgD) (np : Int) (w : World) (h : B.Ok w) : Calls Tryz.prog 8 #[B.v, .int .i64 np] w (BookR B np w) := by
  obtain ⟨BA, hBA⟩ : ∃ BA, BA = B.cells.toArray := ⟨_, rfl⟩
  have SH := Lib.hid (fun w' (hb : Below w.heap.size w w') => (by have := sheet_c B w' (h.below hb); unfold BgD.v at this; rw [← hBA] at this; exact this : Calls Tryz.prog 32 #[.agg BA] w' (SheetR B w')))
  have CL := Lib.hid (fun w' => clamp_l np 1 4 w')
  have hm := begM_in B
  have hn := begN_in B
  have hnp := bkNp_in np
  rw [hnp.2.2] at CL
  have okJ := Lib.hid (fun j => bkJ_ok (j := j) h hnp.1 hnp.2.1)
  have okP := Lib.hid (fun i (hi : i < bkNp np) => bkP_ok h (show i ≤ 100 by omega))
  have hbz := Lib.hid (bkJ_zero (b := B) hnp.1 hnp.2.1)
  have hst := Lib.hid (fun j (hj : j < bkNp np) => bkJ_start h hj hnp.2.1)
  have okS := Lib.hid (begS_ok h)
  unfold BookR bkS
  generalize bkNp np = K at *
  unfold BgD.v
  rw [← hBA]
  replace hBA := Lib.hid hBA
  clear h
  go_enter Tryz.func8, Tryz.ntmps8
  go_upto_region 1 with fail
  generalize hW0 : (w.alloc (.cells BA 33)).alloc (.cells #[.slice none 0 0, .slice none 0 0, .int .i64 0, .int .i64 0, .bool false] 41) = W0
  have hs0 : W0.heap.size = w.heap.size + 2 := by subst hW0; simp [go_sem]
  have hB0 : Below w.heap.size w W0 := by subst hW0; (repeat' (first | (with_reducible exact Below.refl _ _) | (with_reducible refine Below.alloc ?_ ?_ _) | (with_reducible refine below_ext ?_ ?_ _) | (with_reducible refine Below.drew ?_) | (with_reducible refine below_drewN ?_ _) | (with_reducible refine Below.setCell ?_ ?_ _) | go_size | (simp only [go_sem]; omega) | (simp [go_sem]; done) | (simp [go_sem]; omega)))
  have b0 : W0.heap[w.heap.size]? = some (.cells B.cells.toArray 33 (0, 0)) := by subst hW0; rw [← hBA.out]; exact al0 _ _ _
  have b5 : W0.heap[w.heap.size + 1]? = some (.cells #[.slice none 0 0, .slice none 0 0, .int .i64 0, .int .i64 0, .bool false] 41 (0, 0)) := by subst hW0; exact al1 _ _ _
  clear hW0
  have SH0 := Lib.hid (fun w' (hb : Below W0.heap.size W0 w') => SH.out w' (hB0.trans (hb.mono hB0.size)))
  rw [hBA.out] at SH0
  have rg0 := range_blk b0 0 B.cells (by simp [BgD.cells])
  clear SH
  go_upto_region 2 with (first
    | (refine wpList_load_mid rfl 33 (.tmp 2) rfl w.heap.size 0 rfl B.cells _ rg0 Tryz.underlying33 rfl (by kernel_rfl) ?_)
    | ((go_at_call 32); (with_reducible refine (SH0.out _ (by (repeat' (first | (with_reducible exact Below.refl _ _) | (with_reducible refine Below.alloc ?_ ?_ _) | (with_reducible refine below_ext ?_ ?_ _) | (with_reducible refine Below.drew ?_) | (with_reducible refine below_drewN ?_ _) | (with_reducible refine Below.setCell ?_ ?_ _) | go_size | (simp only [go_sem]; omega) | (simp [go_sem]; done) | (simp [go_sem]; omega))))).mono ?_); (rintro _ W1 ⟨p, Fs, As, cs, rfl, hB1, hP, hR, hFs⟩); (replace hB1 := Lib.hid hB1); (replace hR := Lib.hid hR); (replace hP := Lib.hid hP); (replace hFs := Lib.hid hFs))
    | (refine wpList_store_mid rfl 84 (.tmp 7) (.tmp 17) rfl W1.heap.size 0 #[.slice As (begM B) cs, .int .i64 (begN B), .int .i64 B.cu.row, .int .i64 B.cu.col, .int .u8 B.cu.rd, .bool B.cu.kp, .bool B.cu.wp, .bool B.cu.og, .int .i64 B.cu.a, .int .i64 B.cu.b, .int .i64 B.cu.c, .int .i64 B.cu.d, .int .i64 B.cu.l, .int .i64 B.cu.r, .int .i64 B.cu.s, .int .i64 B.m.t, .int .i64 B.m.l, .int .i64 B.m.b, .int .i64 B.m.r] rfl rfl (there_blk (heap_at W1 (.cells zero14 84) rfl) (Nat.le_refl _)) (by kernel_rfl) (all_one _ rfl) ?_))
  obtain ⟨W2, e2, hg2, c2⟩ := store_new W1 zero14 84 [.slice As (begM B) cs, .int .i64 (begN B), .int .i64 B.cu.row, .int .i64 B.cu.col, .int .u8 B.cu.rd, .bool B.cu.kp, .bool B.cu.wp, .bool B.cu.og, .int .i64 B.cu.a, .int .i64 B.cu.b, .int .i64 B.cu.c, .int .i64 B.cu.d, .int .i64 B.cu.l, .int .i64 B.cu.r, .int .i64 B.cu.s, .int .i64 B.m.t, .int .i64 B.m.l, .int .i64 B.m.b, .int .i64 B.m.r] rfl
  rw [e2]
  simp only [Act.put]
  have hBW := hB0.trans (hB1.out.mono hB0.size)
  have hP2 := hP.out.grow hg2
  have hR2 := hR.out.grow hg2
  have hsW1 := hB1.out.size
  obtain ⟨HS, hHS⟩ : ∃ HS, HS = W1.heap.size := ⟨_, rfl⟩
  rw [← hHS] at c2 ⊢
  have hHl : HS < W2.heap.size := heap_in c2
  have hBw : Below w.heap.size w W2 := hBW.trans (hg2.mono hBW.size)
  have b52 := (hg2.block _ (by omega)).trans ((hB1.out.block _ (by omega)).trans b5)
  have hHw : w.heap.size + 2 ≤ HS := by omega
  have hUv := hR2.v
  clear hBW hB1 hP hR hFs b0 b5 hB0 rg0 SH0 hBA e2 hg2 hP2 hs0 hsW1 hHS
  have KS : ∀ w', Below W2.heap.size W2 w' → w'.cell? ⟨HS, 0, none⟩ = some (.slice As (begM B) cs) ∧ w'.cell? ⟨HS, 1, none⟩ = some (.int .i64 (begN B)) := fun w' h => ⟨by rw [cell_in ((h.block _ hHl).trans c2)]; rfl, by rw [cell_in ((h.block _ hHl).trans c2)]; rfl⟩
  have RN := Lib.hid (fun w' (F : Nat → Prop) (hF : ∀ x, F x → x < w'.heap.size) => (by have := rnew_c F K (begM B) (begN B) w' hF; rw [hbz.out] at this; exact this : Calls Tryz.prog 33 #[.int .i64 K, .int .i64 (begM B), .int .i64 (begN B)] w' (NewRB F (bkJ B K 0) w')))
  go_cut [8] (fun v8 wx => ∃ (H : Nat) (A : Option Addr) (n c : Nat) (sA : Option Addr) (sm sc : Nat) (sn nw : Int) (bl : Bool), v8 = .pointer (some ⟨H, 0, none⟩) ∧ Below W2.heap.size W2 wx ∧ W2.heap.size ≤ H ∧ wx.heap[H]? = some (.cells (rbA A n c sA sm sc sn nw bl) 41 (0, 0)) ∧ RBk wx (fun x => x < W2.heap.size ∨ x = H) (.agg (rbA A n c sA sm sc sn nw bl)) (bkJ B K 0))
  case first =>
    (refine wp_region_F (S := (fun w' => w'.cell? ⟨HS, 0, none⟩ = some (.slice As (begM B) cs) ∧ w'.cell? ⟨HS, 1, none⟩ = some (.int .i64 (begN B)))) 11 [false, false, false, false, false, false, false, false, false, false, false, false] rfl rfl (by kernel_rfl) ?_ (fun hHeld => ?_); (focus ((try dsimp only); (exact KS _ (by (repeat' (first | (with_reducible exact Below.refl _ _) | (with_reducible refine Below.alloc ?_ ?_ _) | (with_reducible refine below_ext ?_ ?_ _) | (with_reducible refine Below.drew ?_) | (with_reducible refine below_drewN ?_ _) | (with_reducible refine Below.setCell ?_ ?_ _) | go_size | (simp only [go_sem]; omega) | (simp [go_sem]; done) | (simp [go_sem]; omega))))); done)))
    ((refine AtF.take (oi := ?_) (v := ?_) 0 ?_ ?_ ?_ ?_ (Or.inl ⟨?_, ?_⟩) (by assumption) ?_; rotate_left 2; rfl; kernel_rfl; kernel_rfl; exact (fun _ _ _ h => h); rfl; (focus (intro w hSw; (try dsimp only at hSw); go_simp; (try with_reducible rfl); done)); (try simp only [Act.put, List.setIfInBounds_toArray, List.set_cons_zero, List.set_cons_succ])); (refine AtF.take (oi := ?_) (v := ?_) 2 ?_ ?_ ?_ ?_ (Or.inl ⟨?_, ?_⟩) (by assumption) ?_; rotate_left 2; rfl; kernel_rfl; kernel_rfl; exact (fun _ _ _ h => h); rfl; (focus (intro w hSw; (try dsimp only at hSw); go_simp; (try with_reducible rfl); done)); (try simp only [Act.put, List.setIfInBounds_toArray, List.set_cons_zero, List.set_cons_succ])); (refine AtF.take (oi := ?_) (v := ?_) 3 ?_ ?_ ?_ ?_ (Or.inl ⟨?_, ?_⟩) (by assumption) ?_; rotate_left 2; rfl; kernel_rfl; kernel_rfl; exact (fun _ _ _ h => h); rfl; (focus (intro w hSw; (try dsimp only at hSw); go_simp; (try with_reducible rfl); done)); (try simp only [Act.put, List.setIfInBounds_toArray, List.set_cons_zero, List.set_cons_succ])); (refine AtF.take (oi := ?_) (v := ?_) 4 ?_ ?_ ?_ ?_ (Or.inl ⟨?_, ?_⟩) (by assumption) ?_; rotate_left 2; rfl; kernel_rfl; kernel_rfl; exact (fun _ _ _ h => h); rfl; (focus (intro w hSw; (try dsimp only at hSw); go_simp; (try with_reducible rfl); done)); (try simp only [Act.put, List.setIfInBounds_toArray, List.set_cons_zero, List.set_cons_succ])); (refine AtF.take (oi := ?_) (v := ?_) 5 ?_ ?_ ?_ ?_ (Or.inl ⟨?_, ?_⟩) (by assumption) ?_; rotate_left 2; rfl; kernel_rfl; kernel_rfl; exact (fun _ _ _ h => h); rfl; (focus (intro w hSw; (try dsimp only at hSw); go_simp; (try with_reducible rfl); done)); (try simp only [Act.put, List.setIfInBounds_toArray, List.set_cons_zero, List.set_cons_succ])); (refine AtF.take (oi := ?_) (v := ?_) 6 ?_ ?_ ?_ ?_ (Or.inl ⟨?_, ?_⟩) (by assumption) ?_; rotate_left 2; rfl; kernel_rfl; kernel_rfl; exact (fun _ _ _ h => h); rfl; (focus (intro w hSw; (try dsimp only at hSw); go_simp; (try with_reducible rfl); done)); (try simp only [Act.put, List.setIfInBounds_toArray, List.set_cons_zero, List.set_cons_succ])); (refine AtF.take (oi := ?_) (v := ?_) 7 ?_ ?_ ?_ ?_ (Or.inl ⟨?_, ?_⟩) (by assumption) ?_; rotate_left 2; rfl; kernel_rfl; kernel_rfl; exact (fun _ _ _ h => h); rfl; (focus (intro w hSw; (try dsimp only at hSw); go_simp; (try with_reducible rfl); done)); (try simp only [Act.put, List.setIfInBounds_toArray, List.set_cons_zero, List.set_cons_succ])); (refine AtF.take (oi := ?_) (v := ?_) 8 ?_ ?_ ?_ ?_ (Or.inl ⟨?_, ?_⟩) (by assumption) ?_; rotate_left 2; rfl; kernel_rfl; kernel_rfl; exact (fun _ _ _ h => h); rfl; (focus (intro w hSw; (try dsimp only at hSw); go_simp; (try with_reducible rfl); done)); (try simp only [Act.put, List.setIfInBounds_toArray, List.set_cons_zero, List.set_cons_succ])))
    (refine AtF.either (oi := ?_) (oj := ?_) 1 10 ?_ ?_ ?_ (fun K hK => ?_) (fun K hK => ?_); rotate_left 2; rfl; rfl; kernel_rfl)
    · ((try go_simp); (go_at_call 34; ((with_reducible refine (CL.out _).mono ?_); rintro _ _ hgets; obtain ⟨rfl, x1, rfl⟩ := hgets.get; clear hgets)); (refine hK.out _ _ ?_ (fun hHeld => ?_)); (focus ((try dsimp only); (exact KS _ (by (repeat' (first | (with_reducible exact Below.refl _ _) | (with_reducible refine Below.alloc ?_ ?_ _) | (with_reducible refine below_ext ?_ ?_ _) | (with_reducible refine Below.drew ?_) | (with_reducible refine below_drewN ?_ _) | (with_reducible refine Below.setCell ?_ ?_ _) | go_size | (simp only [go_sem]; omega) | (simp [go_sem]; done) | (simp [go_sem]; omega))))); done)); clear hK K; (try simp only [Act.put, List.setIfInBounds_toArray, List.set_cons_zero, List.set_cons_succ]))
      (refine AtF.either (oi := ?_) (oj := ?_) 9 10 ?_ ?_ ?_ (fun K hK => ?_) (fun K hK => ?_); rotate_left 2; rfl; rfl; kernel_rfl)
      · ((try go_simp); ((go_at_call 33); (with_reducible refine (RN.out _ (fun x => x < W2.heap.size) (fun x hx => by simp; omega)).mono ?_); (rintro _ _ ⟨U, x2, rfl, rfl, hr⟩); (have hr2 := hr); (obtain ⟨A, c, us, ⟨tA, tm, tc, tn⟩, rfl, -⟩ := hr2); (simp only [RPg.V] at hr ⊢); replace hr := Lib.hid hr); (refine hK.out _ _ ?_ (fun hHeld => ?_)); (focus ((try dsimp only); (exact KS _ (by (repeat' (first | (with_reducible exact Below.refl _ _) | (with_reducible refine Below.alloc ?_ ?_ _) | (with_reducible refine below_ext ?_ ?_ _) | (with_reducible refine Below.drew ?_) | (with_reducible refine below_drewN ?_ _) | (with_reducible refine Below.setCell ?_ ?_ _) | go_size | (simp only [go_sem]; omega) | (simp [go_sem]; done) | (simp [go_sem]; omega))))); done)); clear hK K; (try simp only [Act.put, List.setIfInBounds_toArray, List.set_cons_zero, List.set_cons_succ]))
        (refine AtF.only (oi := ?_) 10 ?_ ?_ (fun K hK => ?_); rotate_left 1; rfl; kernel_rfl; (try go_simp); skip; (refine hK.out _ _ ?_ (fun hHeld => ?_)); (focus ((try dsimp only); (exact KS _ (by (repeat' (first | (with_reducible exact Below.refl _ _) | (with_reducible refine Below.alloc ?_ ?_ _) | (with_reducible refine below_ext ?_ ?_ _) | (with_reducible refine Below.drew ?_) | (with_reducible refine below_drewN ?_ _) | (with_reducible refine Below.setCell ?_ ?_ _) | go_size | (simp only [go_sem]; omega) | (simp [go_sem]; done) | (simp [go_sem]; omega))))); done)); clear hK K; (try simp only [Act.put, List.setIfInBounds_toArray, List.set_cons_zero, List.set_cons_succ]))
        (refine AtF.last (oi := ?_) ?_ ?_ (fun K hK => ?_); rotate_left 1; rfl; kernel_rfl; go_simp; skip; refine hK.out _ _ ?_; clear hK K; (try simp only [Act.put, List.setIfInBounds_toArray, List.set_cons_zero, List.set_cons_succ]))
        clear hHeld
        go_wp2
        go_meet
        refine ⟨_, A, (bkJ B K 0).pages.length, c, tA, tm, tc, tn, (bkJ B K 0).now, (bkJ B K 0).below, rfl, by (repeat' (first | (with_reducible exact Below.refl _ _) | (with_reducible refine Below.alloc ?_ ?_ _) | (with_reducible refine below_ext ?_ ?_ _) | (with_reducible refine Below.drew ?_) | (with_reducible refine below_drewN ?_ _) | (with_reducible refine Below.setCell ?_ ?_ _) | go_size | (simp only [go_sem]; omega) | (simp [go_sem]; done) | (simp [go_sem]; omega))), ?_, heap_at _ _ (by simp), ?_⟩
        · (try simp); omega
        · exact (RBk.off hr.out (by simp)).grow (by (repeat' (first | (with_reducible exact Below.refl _ _) | (with_reducible refine Below.alloc ?_ ?_ _) | (with_reducible refine below_ext ?_ ?_ _) | (with_reducible refine Below.drew ?_) | (with_reducible refine below_drewN ?_ _) | (with_reducible refine Below.setCell ?_ ?_ _) | go_size | (simp only [go_sem]; omega) | (simp [go_sem]; done) | (simp [go_sem]; omega))))
      · ((try go_simp); skip; (refine hK.out _ _ ?_ (fun hHeld => ?_)); (focus ((try dsimp only); (exact KS _ (by (repeat' (first | (with_reducible exact Below.refl _ _) | (with_reducible refine Below.alloc ?_ ?_ _) | (with_reducible refine below_ext ?_ ?_ _) | (with_reducible refine Below.drew ?_) | (with_reducible refine below_drewN ?_ _) | (with_reducible refine Below.setCell ?_ ?_ _) | go_size | (simp only [go_sem]; omega) | (simp [go_sem]; done) | (simp [go_sem]; omega))))); done)); clear hK K; (try simp only [Act.put, List.setIfInBounds_toArray, List.set_cons_zero, List.set_cons_succ]))
        (refine AtF.only (oi := ?_) 9 ?_ ?_ (fun K hK => ?_); rotate_left 1; rfl; kernel_rfl; (try go_simp); ((go_at_call 33); (with_reducible refine (RN.out _ (fun x => x < W2.heap.size ∨ x = (ext W2 x1).heap.size) (fun x hx => by simp at hx ⊢; omega)).mono ?_); (rintro _ _ ⟨U, x2, rfl, rfl, hr⟩); (have hr2 := hr); (obtain ⟨A, c, us, ⟨tA, tm, tc, tn⟩, rfl, -⟩ := hr2); (simp only [RPg.V] at hr ⊢); replace hr := Lib.hid hr); (refine hK.out _ _ ?_ (fun hHeld => ?_)); (focus ((try dsimp only); (exact KS _ (by (repeat' (first | (with_reducible exact Below.refl _ _) | (with_reducible refine Below.alloc ?_ ?_ _) | (with_reducible refine below_ext ?_ ?_ _) | (with_reducible refine Below.drew ?_) | (with_reducible refine below_drewN ?_ _) | (with_reducible refine Below.setCell ?_ ?_ _) | go_size | (simp only [go_sem]; omega) | (simp [go_sem]; done) | (simp [go_sem]; omega))))); done)); clear hK K; (try simp only [Act.put, List.setIfInBounds_toArray, List.set_cons_zero, List.set_cons_succ]))
        (refine AtF.last (oi := ?_) ?_ ?_ (fun K hK => ?_); rotate_left 1; rfl; kernel_rfl; go_simp; skip; refine hK.out _ _ ?_; clear hK K; (try simp only [Act.put, List.setIfInBounds_toArray, List.set_cons_zero, List.set_cons_succ]))
        clear hHeld
        go_wp2
        go_meet
        refine ⟨_, A, (bkJ B K 0).pages.length, c, tA, tm, tc, tn, (bkJ B K 0).now, (bkJ B K 0).below, rfl, by (repeat' (first | (with_reducible exact Below.refl _ _) | (with_reducible refine Below.alloc ?_ ?_ _) | (with_reducible refine below_ext ?_ ?_ _) | (with_reducible refine Below.drew ?_) | (with_reducible refine below_drewN ?_ _) | (with_reducible refine Below.setCell ?_ ?_ _) | go_size | (simp only [go_sem]; omega) | (simp [go_sem]; done) | (simp [go_sem]; omega))), ?_, ?_, ?_⟩
        · simp
        · (repeat (first | ((with_reducible refine heap_at _ _ ?_); (focus (first | rfl | (simp [go_sem]; done) | (simp [go_sem]; omega)))) | ((with_reducible refine (heap_old _ _ ?_).trans ?_); (focus (first | (simp [go_sem]; done) | (simp [go_sem]; omega)))) | ((with_reducible refine (block_ext _ _ ?_).trans ?_); (focus (first | (simp [go_sem]; done) | (simp [go_sem]; omega)))) | ((with_reducible refine (heap_drew _ _).trans ?_))))
        · exact (hr.out.keep (Keep.ext (keep_swap _ _ _ rfl) (by simp) x2) (fun x hx e => hx (.inr (by simpa using e)))).mono (fun x _ g => by simpa using g)
    · ((try go_simp); skip; (refine hK.out _ _ ?_ (fun hHeld => ?_)); (focus ((try dsimp only); (exact KS _ (by (repeat' (first | (with_reducible exact Below.refl _ _) | (with_reducible refine Below.alloc ?_ ?_ _) | (with_reducible refine below_ext ?_ ?_ _) | (with_reducible refine Below.drew ?_) | (with_reducible refine below_drewN ?_ _) | (with_reducible refine Below.setCell ?_ ?_ _) | go_size | (simp only [go_sem]; omega) | (simp [go_sem]; done) | (simp [go_sem]; omega))))); done)); clear hK K; (try simp only [Act.put, List.setIfInBounds_toArray, List.set_cons_zero, List.set_cons_succ]))
      (refine AtF.only (oi := ?_) 1 ?_ ?_ (fun K hK => ?_); rotate_left 1; rfl; kernel_rfl; (try go_simp); (go_at_call 34; ((with_reducible refine (CL.out _).mono ?_); rintro _ _ hgets; obtain ⟨rfl, x1, rfl⟩ := hgets.get; clear hgets)); (refine hK.out _ _ ?_ (fun hHeld => ?_)); (focus ((try dsimp only); (exact KS _ (by (repeat' (first | (with_reducible exact Below.refl _ _) | (with_reducible refine Below.alloc ?_ ?_ _) | (with_reducible refine below_ext ?_ ?_ _) | (with_reducible refine Below.drew ?_) | (with_reducible refine below_drewN ?_ _) | (with_reducible refine Below.setCell ?_ ?_ _) | go_size | (simp only [go_sem]; omega) | (simp [go_sem]; done) | (simp [go_sem]; omega))))); done)); clear hK K; (try simp only [Act.put, List.setIfInBounds_toArray, List.set_cons_zero, List.set_cons_succ]))
      (refine AtF.only (oi := ?_) 9 ?_ ?_ (fun K hK => ?_); rotate_left 1; rfl; kernel_rfl; (try go_simp); ((go_at_call 33); (with_reducible refine (RN.out _ (fun x => x < W2.heap.size ∨ x = W2.heap.size) (fun x hx => by simp at hx ⊢; omega)).mono ?_); (rintro _ _ ⟨U, x2, rfl, rfl, hr⟩); (have hr2 := hr); (obtain ⟨A, c, us, ⟨tA, tm, tc, tn⟩, rfl, -⟩ := hr2); (simp only [RPg.V] at hr ⊢); replace hr := Lib.hid hr); (refine hK.out _ _ ?_ (fun hHeld => ?_)); (focus ((try dsimp only); (exact KS _ (by (repeat' (first | (with_reducible exact Below.refl _ _) | (with_reducible refine Below.alloc ?_ ?_ _) | (with_reducible refine below_ext ?_ ?_ _) | (with_reducible refine Below.drew ?_) | (with_reducible refine below_drewN ?_ _) | (with_reducible refine Below.setCell ?_ ?_ _) | go_size | (simp only [go_sem]; omega) | (simp [go_sem]; done) | (simp [go_sem]; omega))))); done)); clear hK K; (try simp only [Act.put, List.setIfInBounds_toArray, List.set_cons_zero, List.set_cons_succ]))
      (refine AtF.last (oi := ?_) ?_ ?_ (fun K hK => ?_); rotate_left 1; rfl; kernel_rfl; go_simp; skip; refine hK.out _ _ ?_; clear hK K; (try simp only [Act.put, List.setIfInBounds_toArray, List.set_cons_zero, List.set_cons_succ]))
      clear hHeld
      go_wp2
      go_meet
      refine ⟨_, A, (bkJ B K 0).pages.length, c, tA, tm, tc, tn, (bkJ B K 0).now, (bkJ B K 0).below, rfl, by (repeat' (first | (with_reducible exact Below.refl _ _) | (with_reducible refine Below.alloc ?_ ?_ _) | (with_reducible refine below_ext ?_ ?_ _) | (with_reducible refine Below.drew ?_) | (with_reducible refine below_drewN ?_ _) | (with_reducible refine Below.setCell ?_ ?_ _) | go_size | (simp only [go_sem]; omega) | (simp [go_sem]; done) | (simp [go_sem]; omega))), ?_, ?_, ?_⟩
      · simp
      · (repeat (first | ((with_reducible refine heap_at _ _ ?_); (focus (first | rfl | (simp [go_sem]; done) | (simp [go_sem]; omega)))) | ((with_reducible refine (heap_old _ _ ?_).trans ?_); (focus (first | (simp [go_sem]; done) | (simp [go_sem]; omega)))) | ((with_reducible refine (block_ext _ _ ?_).trans ?_); (focus (first | (simp [go_sem]; done) | (simp [go_sem]; omega)))) | ((with_reducible refine (heap_drew _ _).trans ?_))))
      · exact hr.out.keep (Keep.ext (Keep.ext (keep_swap _ _ _ rfl) (by simp) x1) (by simp) x2) (fun x hx e => hx (.inr (by simpa using e)))
  obtain ⟨H, A, n, c, sA, sm, sc, sn, nw, bl, rfl, hB3, hHN, v3, hr3⟩ := hcut
  obtain ⟨W3, eW3⟩ : ∃ W3, W3 = wc := ⟨_, rfl⟩
  rw [← eW3] at hB3 v3 hr3 ⊢
  clear eW3 wc KS RN CL
  have d0 : W3.cell? ⟨HS, 0, none⟩ = some (.slice As (begM B) cs) := by rw [cell_in ((hB3.block _ hHl).trans c2)]; rfl
  have d1 : W3.cell? ⟨HS, 1, none⟩ = some (.int .i64 (begN B)) := by rw [cell_in ((hB3.block _ hHl).trans c2)]; rfl
  obtain ⟨u0, u1, u2, u3, u4, vl, -⟩ := five v3
  have hl3 := hB3.size
  have hHS3 : HS < W3.heap.size := by omega
  have nn : n = K := by
    obtain ⟨A', c', us', s', e', -⟩ := hr3
    injection e' with e'
    injection e' with e'
    injection e' with e1 e2
    injection e1 with _ e1 _
    rw [e1, bkJ_len]
  subst nn
  have NB := Lib.hid (fun w' => (by have := new_b n (begM B) (begN B) w'; rw [hbz.out] at this; exact this : Calls Tryz.prog 35 #[.int .i64 n, .int .i64 (begM B), .int .i64 (begN B)] w' (NewBk (bkJ B n 0) w')))
  replace v3 := Lib.hid v3
  replace hr3 := Lib.hid hr3
  go_upto_region 4 with ((go_at_call 35); (with_reducible refine (NB.out _).mono ?_); (rintro _ _ ⟨cB, F0, x3, rfl, rfl, hF0, hBk⟩); (replace hBk := Lib.hid hBk))
  obtain ⟨W4, hW4⟩ : ∃ W4, W4 = ext W3 x3 := ⟨_, rfl⟩
  have hB4 : Below W3.heap.size W3 W4 := by rw [hW4]; exact below_of_ext _ _
  rw [← hW4] at hBk ⊢
  clear hW4 NB
  obtain ⟨N, hN⟩ : ∃ N, N = W2.heap.size := ⟨_, rfl⟩
  have hNw : w.heap.size + 2 ≤ N ∧ HS < N ∧ N ≤ H ∧ H < W3.heap.size := by omega
  have BL0 : BL W4 N F0 cB H (bkJ B n 0) (bkJ B n 0) W4 F0 A n c sA sm sc sn nw bl := by
    refine ⟨hBk.out, (RBk.mono hr3.out (G := fun x => F0 x ∨ (x < N ∨ x = H)) (fun x hx g => ?_)).grow hB4, (hB4.block _ vl).trans v3.out, Keep.refl _ _, fun x hx => .inl hx⟩
    rcases g with g | g
    · have := hF0 x g; omega
    · rw [← hN]; exact g
  have hUv4 : RefAt W4 (fun x => N ≤ x) (.agg #[.slice As (begM B) cs, .int .i64 (begN B)]) (begS B) := by
    obtain ⟨V, rows, e, hl, hv⟩ := hUv
    exact ⟨V, rows, e, (hl.grow hB3).grow hB4, hv, fun x hx e => by have := hl.lt hx; omega⟩
  have c4 := (hB4.block _ hHS3).trans ((hB3.block _ hHl).trans c2)
  have hB4w : Below w.heap.size w W4 := (hBw.trans (hB3.mono hBw.size)).trans (hB4.mono (Nat.le_trans hBw.size hB3.size))
  have b54 := (hB4.block (w.heap.size + 1) (by omega)).trans ((hB3.block (w.heap.size + 1) (by omega)).trans b52)
  have hW34 := hB4.size
  have q0 := (hB4.cell (p := ⟨H, 0, none⟩) vl).trans u0
  have hl4 : H < W4.heap.size := by omega
  have hF0N : ∀ x, F0 x → W3.heap.size ≤ x := hF0
  replace BL0 := Lib.hid BL0
  replace hUv4 := Lib.hid hUv4
  replace hB4w := Lib.hid hB4w
  replace b54 := Lib.hid b54
  replace c4 := Lib.hid c4
  replace hN := Lib.hid hN
  clear d0 d1 u0 u1 u2 u3 u4 vl v3 hr3 hBk hB3 hB4 hBw b52 hUv hR2 c2 hl3 hHN hHl hHw hHS3
  go_upto_region 5 with fail
  clear q0
  go_loopw [42] (fun i wr => ∃ (j : Nat) (F : Nat → Prop) (A : Option Addr) (n' c : Nat) (sA : Option Addr) (sm sc : Nat) (sn nw : Int) (bl : Bool), j ≤ n ∧ i = .int .i64 j ∧ Hid (BL W4 N F0 cB H (bkJ B n j) (bkJ B n j) wr F A n' c sA sm sc sn nw bl)) (fun i _ => n - (intOf i).toNat)
  case atStart => exact ⟨0, _, _, _, _, _, _, _, _, _, _, by omega, rfl, BL0⟩
  case round =>
    obtain ⟨j, F, A, n', c, sA, sm, sc, sn, nw, bl, hj, rfl, hL⟩ := hrel
    by_cases hlt : j < n
    · have hd : decide ((j : Int) < (n : Int)) = true := by simp; omega
      obtain ⟨u0, u1, u2, u3, u4, vl, -⟩ := five hL.out.var
      have hFN : ∀ x, F x → W3.heap.size ≤ x := fun x hx => (hL.out.new x hx).elim (hF0N x) (fun e => by omega)
      have cS := (hL.out.keep.block HS (by omega) (fun g => g.elim (fun f => by have := hF0N _ f; omega) (fun e => by omega))).trans c4.out
      have hHSr := heap_in cS
      have d0 : wr.cell? ⟨HS, 0, none⟩ = some (.slice As (begM B) cs) := by rw [cell_in cS]; rfl
      have d1 : wr.cell? ⟨HS, 1, none⟩ = some (.int .i64 (begN B)) := by rw [cell_in cS]; rfl
      have RS := (hUv4.out.keep' hL.out.keep (fun x hx g => by
        have hx' : x < N := by omega
        exact g.elim (fun f => by have := hF0N _ f; omega) (fun e => by omega))).v
      have PT := Lib.hid (fun w' (hb : Below wr.heap.size wr w') => refput_c _ (begS B) 0 j ⟨64 + j, 0, false⟩ w' (RS.grow hb) okS.out)
      rw [show putS (begS B) 0 j ⟨64 + (j : Int), 0, false⟩ = bkP B j from rfl] at PT
      have hFG : ∀ x, (F x ∨ (x < N ∨ x = H)) → x < wr.heap.size := fun x hx => by
        rcases hx with hx | hx | hx
        · exact hL.out.bk.lt x hx
        · omega
        · rw [hx]; exact vl
      have SP := Lib.hid (fun w' (hb : Below wr.heap.size wr w') (p : RPg) (hp : RefAt w' (fun x => F x ∨ (x < N ∨ x = H)) p.v (bkP B j)) => setpage_c j (by rw [bkJ_len]; exact hlt) (hL.out.ref.grow hb) (okJ.out j) p hp (fun x hx => Nat.lt_of_lt_of_le (hFG x hx) hb.size))
      rw [bkJ_set hlt] at SP
      have v1 : IntKind.i64.wrap (64 + (j : Int)) = 64 + j := wrap_i64 (by omega) (by omega)
      have v2 : IntKind.i32.wrap (64 + (j : Int)) = 64 + j := IntWalk.i32_in _ (by omega)
      go_upto_region 7 with fail
      have KS : ∀ w', Below wr.heap.size wr w' → (w'.cell? ⟨HS, 0, none⟩ = some (.slice As (begM B) cs) ∧ w'.cell? ⟨HS, 1, none⟩ = some (.int .i64 (begN B))) ∧ (w'.cell? ⟨H, 0, none⟩ = some (.slice A n' c) ∧ w'.cell? ⟨H, 1, none⟩ = some (.slice sA sm sc) ∧ w'.cell? ⟨H, 2, none⟩ = some (.int .i64 sn) ∧ w'.cell? ⟨H, 3, none⟩ = some (.int .i64 nw) ∧ w'.cell? ⟨H, 4, none⟩ = some (.bool bl)) := fun w' h => ⟨⟨(h.cell (p := ⟨HS, 0, none⟩) hHSr).trans d0, (h.cell (p := ⟨HS, 1, none⟩) hHSr).trans d1⟩, (h.cell (p := ⟨H, 0, none⟩) vl).trans u0, (h.cell (p := ⟨H, 1, none⟩) vl).trans u1, (h.cell (p := ⟨H, 2, none⟩) vl).trans u2, (h.cell (p := ⟨H, 3, none⟩) vl).trans u3, (h.cell (p := ⟨H, 4, none⟩) vl).trans u4⟩
      (refine wp_region_F (S := (fun w' => (w'.cell? ⟨HS, 0, none⟩ = some (.slice As (begM B) cs) ∧ w'.cell? ⟨HS, 1, none⟩ = some (.int .i64 (begN B))) ∧ (w'.cell? ⟨H, 0, none⟩ = some (.slice A n' c) ∧ w'.cell? ⟨H, 1, none⟩ = some (.slice sA sm sc) ∧ w'.cell? ⟨H, 2, none⟩ = some (.int .i64 sn) ∧ w'.cell? ⟨H, 3, none⟩ = some (.int .i64 nw) ∧ w'.cell? ⟨H, 4, none⟩ = some (.bool bl)))) 11 [false, false, false, false, false, false, false, false, false, false, false, false] rfl rfl (by kernel_rfl) ?_ (fun hHeld => ?_); (focus ((try dsimp only); (exact KS _ (by (repeat' (first | (with_reducible exact Below.refl _ _) | (with_reducible refine Below.alloc ?_ ?_ _) | (with_reducible refine below_ext ?_ ?_ _) | (with_reducible refine Below.drew ?_) | (with_reducible refine below_drewN ?_ _) | (with_reducible refine Below.setCell ?_ ?_ _) | go_size | (simp only [go_sem]; omega) | (simp [go_sem]; done) | (simp [go_sem]; omega))))); done)))
      ((refine AtF.take (oi := ?_) (v := ?_) 0 ?_ ?_ ?_ ?_ (Or.inl ⟨?_, ?_⟩) (by assumption) ?_; rotate_left 2; rfl; kernel_rfl; kernel_rfl; exact (fun _ _ _ h => h); rfl; (focus (intro w hSw; (try dsimp only at hSw); go_simp; (try with_reducible rfl); done)); (try simp only [Act.put, List.setIfInBounds_toArray, List.set_cons_zero, List.set_cons_succ])); (refine AtF.take (oi := ?_) (v := ?_) 1 ?_ ?_ ?_ ?_ (Or.inl ⟨?_, ?_⟩) (by assumption) ?_; rotate_left 2; rfl; kernel_rfl; kernel_rfl; exact (fun _ _ _ h => h); rfl; (focus (intro w hSw; (try dsimp only at hSw); go_simp; (try with_reducible rfl); done)); (try simp only [Act.put, List.setIfInBounds_toArray, List.set_cons_zero, List.set_cons_succ])); (refine AtF.take (oi := ?_) (v := ?_) 2 ?_ ?_ ?_ ?_ (Or.inl ⟨?_, ?_⟩) (by assumption) ?_; rotate_left 2; rfl; kernel_rfl; kernel_rfl; exact (fun _ _ _ h => h); rfl; (focus (intro w hSw; (try dsimp only at hSw); go_simp; (try with_reducible rfl); done)); (try simp only [Act.put, List.setIfInBounds_toArray, List.set_cons_zero, List.set_cons_succ])); (refine AtF.take (oi := ?_) (v := ?_) 3 ?_ ?_ ?_ ?_ (Or.inl ⟨?_, ?_⟩) (by assumption) ?_; rotate_left 2; rfl; kernel_rfl; kernel_rfl; exact (fun _ _ _ h => h); rfl; (focus (intro w hSw; (try dsimp only at hSw); go_simp; (try with_reducible rfl); done)); (try simp only [Act.put, List.setIfInBounds_toArray, List.set_cons_zero, List.set_cons_succ])); (refine AtF.take (oi := ?_) (v := ?_) 4 ?_ ?_ ?_ ?_ (Or.inl ⟨?_, ?_⟩) (by assumption) ?_; rotate_left 2; rfl; kernel_rfl; kernel_rfl; exact (fun _ _ _ h => h); rfl; (focus (intro w hSw; (try dsimp only at hSw); go_simp; (try with_reducible rfl); done)); (try simp only [Act.put, List.setIfInBounds_toArray, List.set_cons_zero, List.set_cons_succ])); (refine AtF.take (oi := ?_) (v := ?_) 5 ?_ ?_ ?_ ?_ (Or.inl ⟨?_, ?_⟩) (by assumption) ?_; rotate_left 2; rfl; kernel_rfl; kernel_rfl; exact (fun _ _ _ h => h); rfl; (focus (intro w hSw; (try dsimp only at hSw); go_simp; (try with_reducible rfl); done)); (try simp only [Act.put, List.setIfInBounds_toArray, List.set_cons_zero, List.set_cons_succ])); (refine AtF.take (oi := ?_) (v := ?_) 6 ?_ ?_ ?_ ?_ (Or.inl ⟨?_, ?_⟩) (by assumption) ?_; rotate_left 2; rfl; kernel_rfl; kernel_rfl; exact (fun _ _ _ h => h); rfl; (focus (intro w hSw; (try dsimp only at hSw); go_simp; (try with_reducible rfl); done)); (try simp only [Act.put, List.setIfInBounds_toArray, List.set_cons_zero, List.set_cons_succ])); (refine AtF.take (oi := ?_) (v := ?_) 7 ?_ ?_ ?_ ?_ (Or.inl ⟨?_, ?_⟩) (by assumption) ?_; rotate_left 2; rfl; kernel_rfl; kernel_rfl; exact (fun _ _ _ h => h); rfl; (focus (intro w hSw; (try dsimp only at hSw); go_simp; (try with_reducible rfl); done)); (try simp only [Act.put, List.setIfInBounds_toArray, List.set_cons_zero, List.set_cons_succ])); (refine AtF.take (oi := ?_) (v := ?_) 8 ?_ ?_ ?_ ?_ (Or.inl ⟨?_, ?_⟩) (by assumption) ?_; rotate_left 2; rfl; kernel_rfl; kernel_rfl; exact (fun _ _ _ h => h); rfl; (focus (intro w hSw; (try dsimp only at hSw); go_simp; (try with_reducible rfl); done)); (try simp only [Act.put, List.setIfInBounds_toArray, List.set_cons_zero, List.set_cons_succ])))
      (refine AtF.only (oi := ?_) 9 ?_ ?_ (fun K hK => ?_); rotate_left 1; rfl; kernel_rfl; (try go_simp); ((go_at_call 37); (with_reducible refine (PT.out _ (by (repeat' (first | (with_reducible exact Below.refl _ _) | (with_reducible refine Below.alloc ?_ ?_ _) | (with_reducible refine below_ext ?_ ?_ _) | (with_reducible refine Below.drew ?_) | (with_reducible refine below_drewN ?_ _) | (with_reducible refine Below.setCell ?_ ?_ _) | go_size | (simp only [go_sem]; omega) | (simp [go_sem]; done) | (simp [go_sem]; omega))))).mono ?_); (rintro _ _ hnp); (obtain ⟨⟨pA, pm, pc, pn⟩, x5, rfl, rfl, hp5⟩ := NewRef.at (F := fun x => F x ∨ (x < N ∨ x = H)) hnp (fun x hx => by have := hFG x hx; simp; omega)); (simp only [RPg.v, RPg.V] at hp5 ⊢); clear hnp); (refine hK.out _ _ ?_ (fun hHeld => ?_)); (focus ((try dsimp only); (exact KS _ (by (repeat' (first | (with_reducible exact Below.refl _ _) | (with_reducible refine Below.alloc ?_ ?_ _) | (with_reducible refine below_ext ?_ ?_ _) | (with_reducible refine Below.drew ?_) | (with_reducible refine below_drewN ?_ _) | (with_reducible refine Below.setCell ?_ ?_ _) | go_size | (simp only [go_sem]; omega) | (simp [go_sem]; done) | (simp [go_sem]; omega))))); done)); clear hK K; (try simp only [Act.put, List.setIfInBounds_toArray, List.set_cons_zero, List.set_cons_succ]))
      have SP2 := Lib.hid (fun w' (hb : Below (ext wr x5).heap.size (ext wr x5) w') => SP.out w' ((show Below wr.heap.size wr (ext wr x5) by (repeat' (first | (with_reducible exact Below.refl _ _) | (with_reducible refine Below.alloc ?_ ?_ _) | (with_reducible refine below_ext ?_ ?_ _) | (with_reducible refine Below.drew ?_) | (with_reducible refine below_drewN ?_ _) | (with_reducible refine Below.setCell ?_ ?_ _) | go_size | (simp only [go_sem]; omega) | (simp [go_sem]; done) | (simp [go_sem]; omega)))).trans (hb.mono (by simp))) ⟨pA, pm, pc, pn⟩ (RefAt.grow (w := ext wr x5) hp5 hb))
      simp only [RPg.v, RPg.V] at SP2
      clear SP PT
      (refine AtF.only (oi := ?_) 10 ?_ ?_ (fun K hK => ?_); rotate_left 1; rfl; kernel_rfl; (try go_simp); ((go_at_call 36); (with_reducible refine (SP2.out _ (by (repeat' (first | (with_reducible exact Below.refl _ _) | (with_reducible refine Below.alloc ?_ ?_ _) | (with_reducible refine below_ext ?_ ?_ _) | (with_reducible refine Below.drew ?_) | (with_reducible refine below_drewN ?_ _) | (with_reducible refine Below.setCell ?_ ?_ _) | go_size | (simp only [go_sem]; omega) | (simp [go_sem]; done) | (simp [go_sem]; omega))))).mono ?_); (rintro _ _ ⟨U, x6, rfl, rfl, hr⟩); (have hr2 := hr); (obtain ⟨A2, c2, us, ⟨tA, tm, tc, tn⟩, rfl, -⟩ := hr2); (simp only [RPg.V] at hr ⊢); replace hr := Lib.hid hr); (refine hK.out _ _ ?_ (fun hHeld => ?_)); (focus ((try dsimp only); (exact KS _ (by (repeat' (first | (with_reducible exact Below.refl _ _) | (with_reducible refine Below.alloc ?_ ?_ _) | (with_reducible refine below_ext ?_ ?_ _) | (with_reducible refine Below.drew ?_) | (with_reducible refine below_drewN ?_ _) | (with_reducible refine Below.setCell ?_ ?_ _) | go_size | (simp only [go_sem]; omega) | (simp [go_sem]; done) | (simp [go_sem]; omega))))); done)); clear hK K; (try simp only [Act.put, List.setIfInBounds_toArray, List.set_cons_zero, List.set_cons_succ]))
      obtain ⟨W5, hW5⟩ : ∃ W5, W5 = ext (ext wr x5) x6 := ⟨_, rfl⟩
      have hB5 : Below wr.heap.size wr W5 := by rw [hW5]; (repeat' (first | (with_reducible exact Below.refl _ _) | (with_reducible refine Below.alloc ?_ ?_ _) | (with_reducible refine below_ext ?_ ?_ _) | (with_reducible refine Below.drew ?_) | (with_reducible refine below_drewN ?_ _) | (with_reducible refine Below.setCell ?_ ?_ _) | go_size | (simp only [go_sem]; omega) | (simp [go_sem]; done) | (simp [go_sem]; omega)))
      have hr5 : RBk W5 (fun x => F x ∨ (x < N ∨ x = H)) (.agg (rbA A2 (bkJ B n (j + 1)).pages.length c2 tA tm tc tn ((bkJ B n (j + 1)).now : Nat) (bkJ B n (j + 1)).below)) (bkJ B n (j + 1)) := by rw [hW5]; exact hr.out
      rw [← hW5]
      clear hHeld SP2 hr hp5 hW5
      have v5 := (hB5.block H vl).trans hL.out.var
      obtain ⟨z0, z1, z2, z3, z4, zl, zf⟩ := five v5
      (refine AtF.last (oi := ?_) ?_ ?_ (fun K hK => ?_); rotate_left 1; rfl; kernel_rfl; go_simp; skip; refine hK.out _ _ ?_; clear hK K; (try simp only [Act.put, List.setIfInBounds_toArray, List.set_cons_zero, List.set_cons_succ]))
      obtain ⟨W6, h6, hk6, hs6⟩ := store5 v5 (.slice A2 ((bkJ B n (j + 1)).pages.length) c2) (.slice tA tm tc) (.int .i64 tn) (.int .i64 ((bkJ B n (j + 1)).now : Nat)) (.bool (bkJ B n (j + 1)).below)
      rw [h6]
      have hL6 := hL.out.stored hB5 hr5 hk6 hs6 (fun x hx e => by have := hFN x hx; omega)
      clear hr5 hk6 hs6 h6 z0 z1 z2 z3 z4 zl zf hB5 v5 u0 u1 u2 u3 u4 vl KS d0 d1 cS hHSr RS v1 v2 hL hFG
      obtain ⟨r6, L6, o6, rfl, hR6, e6, hl6⟩ := hL6.page (i := j) (by rw [bkJ_len]; exact hlt)
      rw [bkJ_done hlt] at hR6
      have w0 := (five hL6.var).1
      have wl := (five hL6.var).2.2.2.2.2.1
      replace hL6 := Lib.hid hL6
      generalize (bkJ B n (j + 1)).pages.length = n6 at hL6 w0 ⊢
      generalize ((bkJ B n (j + 1)).now : Int) = nw6 at hL6 ⊢
      generalize (bkJ B n (j + 1)).below = bl6 at hL6 ⊢
      obtain ⟨rA, rm, rc, rn⟩ := r6
      obtain ⟨f1, f2⟩ := hR6.form
      rw [(bkP_len j).1] at f1
      simp only at f1 f2
      subst f1 f2
      simp only [RPg.V] at e6
      obtain ⟨hm1, hm2, -⟩ := hm
      have okPj := okP.out j hlt
      have stz := Lib.hid (fun k (hk : k < begM B) => takeL_step okPj (l := k) (by rw [(bkP_len j).1]; exact hk) (bkP_z (List.getElem_mem (by rw [(bkP_len j).1]; exact hk))))
      have okT := Lib.hid (fun k => takeL_ok okPj k)
      have hFG2 : ∀ {F2 : Nat → Prop}, (∀ x, F2 x → F0 x ∨ W4.heap.size ≤ x) → ∀ x, F2 x → W3.heap.size ≤ x := fun h x hx => (h x hx).elim (hF0N x) (fun e => by omega)
      have hA4 : W6.cell? ⟨H, 0, none⟩ = some (.slice (some ⟨L6, o6, none⟩) n6 c2) := w0
      have hn6 : j < n6 := by
        have h1 := hL6.out.ref
        obtain ⟨A', c', us', s', e', -⟩ := h1
        injection e' with e'
        injection e' with e'
        injection e' with e1 e2
        injection e1 with _ e1 _
        rw [e1, bkJ_len]
        exact hlt
      go_upto_region 9 with fail
      clear w0 hA4 e6
      go_loopw [63] (fun i wr2 => ∃ (k : Nat) (F2 : Nat → Prop), k ≤ begM B ∧ i = .int .i64 k ∧ Hid (BL W4 N F0 cB H ((bkJ B n j).set j (takeL (bkP B j) k)) (bkJ B n (j + 1)) wr2 F2 (some ⟨L6, o6, none⟩) n6 c2 tA tm tc tn nw6 bl6) ∧ Hid (RefAt wr2 (fun x => F2 x ∨ (x < N ∨ x = H)) (.agg #[.slice rA (begM B) rc, .int .i64 (bkP B j).cols]) (bkP B j))) (fun i _ => begM B - (intOf i).toNat)
      case atStart => exact ⟨0, F, by omega, rfl, Lib.hid (by rw [hst.out j hlt]; exact hL6.out), Lib.hid hR6⟩
      case round =>
        obtain ⟨k, F2, hk, rfl, hL2, hR2⟩ := hrel
        by_cases hkl : k < begM B
        · have hd2 : decide ((k : Int) < (begM B : Int)) = true := by simp; omega
          obtain ⟨V2, rows2, eV, hl2, hv2, hof2⟩ := hR2.out
          injection eV with eV
          injection eV with eV
          injection eV with eV _
          subst eV
          have hkP : k < (bkP B j).rows.length := by rw [(bkP_len j).1]; exact hkl
          obtain ⟨LL, g, kk, xs, z, rfl, hrow, hrm, hxk, hkm, r0, r1, hLL⟩ := hl2.at hv2 hkP
          have st1 := stz.out k hkl
          rw [hrow] at st1
          simp only at st1
          obtain ⟨V8, ps8, st8, hO⟩ := hL2.out.bk
          have okB := BkS.Ok.set (okJ.out j) j (okT.out k)
          obtain ⟨r8, hr8, hr8', hP8⟩ := hO.get (i := j) (by rw [BkS.set_len, bkJ_len]; exact hlt)
          rw [bkJ_page hlt] at hP8
          have PG := Lib.hid (fun w' (hb : Below wr.heap.size wr w') => page_b (hO.grow hb) okB hr8)
          have SL := Lib.hid (fun w' (hb : Below wr.heap.size wr w') => (by have := setline_p (hP8.grow hb) (okT.out k) k (some ⟨g, 0, none⟩) kk z xs (hrm.rd.below hb); rw [st1] at this; exact this : Calls Tryz.prog 38 #[.pointer (some ⟨r8.p, 0, none⟩), .int .i64 k, lineV (some ⟨g, 0, none⟩) xs.length kk z] w' (fun e w2 => e = .returned (.tuple #[]) ∧ Did r8.F r8.p (takeL (bkP B j) (k + 1)) w' w2)))
          have hPl := Lib.hid hP8.lt
          have FIN := Lib.hid (fun w2 (hD : Did r8.F r8.p (takeL (bkP B j) (k + 1)) wr w2) => (by
            have h1 := (hO.act hr8' hD).did
            rw [bk_set_set] at h1
            have hsz := hL2.out.keep.size
            have h2 := hL2.out.did h1 (fun f => by have := hFG2 (hL2.out.new) H f; omega) (by omega) (by omega) (fun x hx => by have := hF0N x hx; omega)
            refine ⟨h2, ?_⟩
            exact (hR2.out.mono (G := fun x => more F2 wr w2 x ∨ (x < N ∨ x = H)) (fun x hx q => q.imp_left (fun m => m.elim id (fun e => by omega)))).keep' h1.1 (fun x hx f => hx (.inl (.inl f))) :
            BL W4 N F0 cB H ((bkJ B n j).set j (takeL (bkP B j) (k + 1))) (bkJ B n (j + 1)) w2 (more F2 wr w2) (some ⟨L6, o6, none⟩) n6 c2 tA tm tc tn nw6 bl6 ∧ RefAt w2 (fun x => more F2 wr w2 x ∨ (x < N ∨ x = H)) (.agg #[.slice (some ⟨LL, 0, none⟩) (begM B) rc, .int .i64 (bkP B j).cols]) (bkP B j)))
          clear hl2 hv2 hof2 hrow hrm hO hP8 hr8 hr8' okB st1
          go_upto_region 11 with fail
          generalize hW7 : wr.alloc (.cells #[.slice (some ⟨g, 0, none⟩) xs.length kk, .int .i64 z] 67) = W7
          have hlt7 : wr.heap.size < W7.heap.size := by subst hW7; simp [go_sem]
          have hB7 : Below wr.heap.size wr W7 := by subst hW7; (repeat' (first | (with_reducible exact Below.refl _ _) | (with_reducible refine Below.alloc ?_ ?_ _) | (with_reducible refine below_ext ?_ ?_ _) | (with_reducible refine Below.drew ?_) | (with_reducible refine below_drewN ?_ _) | (with_reducible refine Below.setCell ?_ ?_ _) | go_size | (simp only [go_sem]; omega) | (simp [go_sem]; done) | (simp [go_sem]; omega)))
          have b7 : W7.heap[wr.heap.size]? = some (.cells #[.slice (some ⟨g, 0, none⟩) xs.length kk, .int .i64 z] 67 (0, 0)) := by subst hW7; exact al_at _ _ rfl
          clear hW7
          have KS : ∀ w', Below W7.heap.size W7 w' → w'.cell? ⟨wr.heap.size, 0, none⟩ = some (.slice (some ⟨g, 0, none⟩) xs.length kk) ∧ w'.cell? ⟨wr.heap.size, 1, none⟩ = some (.int .i64 z) := fun w' h => ⟨by rw [cell_in ((h.block _ hlt7).trans b7)]; rfl, by rw [cell_in ((h.block _ hlt7).trans b7)]; rfl⟩
          have hBW := Lib.hid (fun w' (h : Below W7.heap.size W7 w') => hB7.trans (h.mono hB7.size))
          (refine wp_region_F (S := (fun w' => w'.cell? ⟨wr.heap.size, 0, none⟩ = some (.slice (some ⟨g, 0, none⟩) xs.length kk) ∧ w'.cell? ⟨wr.heap.size, 1, none⟩ = some (.int .i64 z))) 5 [false, false, false, false, false, false] rfl rfl (by kernel_rfl) ?_ (fun hHeld => ?_); (focus ((try dsimp only); (exact KS _ (by (repeat' (first | (with_reducible exact Below.refl _ _) | (with_reducible refine Below.alloc ?_ ?_ _) | (with_reducible refine below_ext ?_ ?_ _) | (with_reducible refine Below.drew ?_) | (with_reducible refine below_drewN ?_ _) | (with_reducible refine Below.setCell ?_ ?_ _) | go_size | (simp only [go_sem]; omega) | (simp [go_sem]; done) | (simp [go_sem]; omega))))); done)))
          ((refine AtF.take (oi := ?_) (v := ?_) 0 ?_ ?_ ?_ ?_ (Or.inl ⟨?_, ?_⟩) (by assumption) ?_; rotate_left 2; rfl; kernel_rfl; kernel_rfl; exact (fun _ _ _ h => h); rfl; (focus (intro w hSw; (try dsimp only at hSw); go_simp; (try with_reducible rfl); done)); (try simp only [Act.put, List.setIfInBounds_toArray, List.set_cons_zero, List.set_cons_succ])); (refine AtF.take (oi := ?_) (v := ?_) 1 ?_ ?_ ?_ ?_ (Or.inl ⟨?_, ?_⟩) (by assumption) ?_; rotate_left 2; rfl; kernel_rfl; kernel_rfl; exact (fun _ _ _ h => h); rfl; (focus (intro w hSw; (try dsimp only at hSw); go_simp; (try with_reducible rfl); done)); (try simp only [Act.put, List.setIfInBounds_toArray, List.set_cons_zero, List.set_cons_succ])); (refine AtF.take (oi := ?_) (v := ?_) 3 ?_ ?_ ?_ ?_ (Or.inl ⟨?_, ?_⟩) (by assumption) ?_; rotate_left 2; rfl; kernel_rfl; kernel_rfl; exact (fun _ _ _ h => h); rfl; (focus (intro w hSw; (try dsimp only at hSw); go_simp; (try with_reducible rfl); done)); (try simp only [Act.put, List.setIfInBounds_toArray, List.set_cons_zero, List.set_cons_succ])); (refine AtF.take (oi := ?_) (v := ?_) 4 ?_ ?_ ?_ ?_ (Or.inl ⟨?_, ?_⟩) (by assumption) ?_; rotate_left 2; rfl; kernel_rfl; kernel_rfl; exact (fun _ _ _ h => h); rfl; (focus (intro w hSw; (try dsimp only at hSw); go_simp; (try with_reducible rfl); done)); (try simp only [Act.put, List.setIfInBounds_toArray, List.set_cons_zero, List.set_cons_succ])))
          (refine AtF.only (oi := ?_) 2 ?_ ?_ (fun K hK => ?_); rotate_left 1; rfl; kernel_rfl; (try go_simp); (go_at_call 17; ((with_reducible refine (PG.out _ (hBW.out _ (by (repeat' (first | (with_reducible exact Below.refl _ _) | (with_reducible refine Below.alloc ?_ ?_ _) | (with_reducible refine below_ext ?_ ?_ _) | (with_reducible refine Below.drew ?_) | (with_reducible refine below_drewN ?_ _) | (with_reducible refine Below.setCell ?_ ?_ _) | go_size | (simp only [go_sem]; omega) | (simp [go_sem]; done) | (simp [go_sem]; omega)))))).mono ?_); rintro _ _ hgets; obtain ⟨rfl, x8, rfl⟩ := hgets.get; clear hgets)); (refine hK.out _ _ ?_ (fun hHeld => ?_)); (focus ((try dsimp only); (exact KS _ (by (repeat' (first | (with_reducible exact Below.refl _ _) | (with_reducible refine Below.alloc ?_ ?_ _) | (with_reducible refine below_ext ?_ ?_ _) | (with_reducible refine Below.drew ?_) | (with_reducible refine below_drewN ?_ _) | (with_reducible refine Below.setCell ?_ ?_ _) | go_size | (simp only [go_sem]; omega) | (simp [go_sem]; done) | (simp [go_sem]; omega))))); done)); clear hK K; (try simp only [Act.put, List.setIfInBounds_toArray, List.set_cons_zero, List.set_cons_succ]))
          (refine AtF.last (oi := ?_) ?_ ?_ (fun K hK => ?_); rotate_left 1; rfl; kernel_rfl; go_simp; (with_reducible refine (SL.out _ (hBW.out _ (by (repeat' (first | (with_reducible exact Below.refl _ _) | (with_reducible refine Below.alloc ?_ ?_ _) | (with_reducible refine below_ext ?_ ?_ _) | (with_reducible refine Below.drew ?_) | (with_reducible refine below_drewN ?_ _) | (with_reducible refine Below.setCell ?_ ?_ _) | go_size | (simp only [go_sem]; omega) | (simp [go_sem]; done) | (simp [go_sem]; omega)))))).mono ?_); (rintro _ W8 ⟨rfl, hD⟩); (obtain ⟨hN1, hN2⟩ := FIN.out W8 (Did.back hD (hBW.out _ (by (repeat' (first | (with_reducible exact Below.refl _ _) | (with_reducible refine Below.alloc ?_ ?_ _) | (with_reducible refine below_ext ?_ ?_ _) | (with_reducible refine Below.drew ?_) | (with_reducible refine below_drewN ?_ _) | (with_reducible refine Below.setCell ?_ ?_ _) | go_size | (simp only [go_sem]; omega) | (simp [go_sem]; done) | (simp [go_sem]; omega))))) hPl.out)); (clear hD); (replace hN1 := Lib.hid hN1); (replace hN2 := Lib.hid hN2); refine hK.out _ _ ?_; clear hK K; (try simp only [Act.put, List.setIfInBounds_toArray, List.set_cons_zero, List.set_cons_succ]))
          clear hHeld KS b7 FIN SL PG
          go_wp2
          exact ⟨⟨k + 1, _, by omega, by go_num, hN1, hN2⟩, by simp [intOf]; omega⟩
        · obtain rfl : k = begM B := by omega
          have hd2 : decide ((begM B : Int) < (begM B : Int)) = false := by simp
          have e : (bkJ B n j).set j (takeL (bkP B j) (begM B)) = bkJ B n (j + 1) := by
            rw [← (bkP_len (b := B) j).1, takeL_end, bkJ_set hlt]
          rw [e] at hL2
          clear hR2 hR6 hL6 hl6 e stz okT
          go_wp2
          exact ⟨⟨j + 1, _, _, _, _, _, _, _, _, _, _, by omega, by go_num, hL2⟩, by simp [intOf]; omega⟩
    · obtain rfl : j = n := by omega
      have hd : decide ((j : Int) < (j : Int)) = false := by simp
      obtain ⟨u0, u1, u2, u3, u4, vl, -⟩ := five hL.out.var
      have hFN : ∀ x, F x → W3.heap.size ≤ x := fun x hx => (hL.out.new x hx).elim (hF0N x) (fun e => by omega)
      have hG5 : ∀ x, (F0 x ∨ x = H) → w.heap.size + 2 ≤ x := fun x g => g.elim (fun f => by have := hF0N _ f; omega) (fun e => by omega)
      have b5r := (hL.out.keep.block (w.heap.size + 1) (by omega) (fun g => by have := hG5 _ g; omega)).trans b54.out
      have hbw : Below w.heap.size w wr := hB4w.out.trans (hL.out.keep.below (fun x hx => by have := hG5 x hx; omega) hB4w.out.size)
      obtain ⟨r0, r1, r2, r3, r4, rl, rf⟩ := five b5r
      have rf0 := rf 0
      have rf1 := rf 1
      have rf2 := rf 2
      have rf3 := rf 3
      have rf4 := rf 4
      clear rf
      go_upto_region 14 with fail
      (refine wp_region_F (S := (fun w' => w'.cell? ⟨H, 0, none⟩ = some (.slice A n' c) ∧ w'.cell? ⟨H, 1, none⟩ = some (.slice sA sm sc) ∧ w'.cell? ⟨H, 2, none⟩ = some (.int .i64 sn) ∧ w'.cell? ⟨H, 3, none⟩ = some (.int .i64 nw) ∧ w'.cell? ⟨H, 4, none⟩ = some (.bool bl))) 3 [false, false, false, false] rfl rfl (by kernel_rfl) ?_ (fun hHeld => ?_); (focus ((try dsimp only); (refine ⟨?_, ?_, ?_, ?_, ?_⟩ <;> simp [go_sem, u0, u1, u2, u3, u4, vl]); done)))
      ((refine AtF.take (oi := ?_) (v := ?_) 0 ?_ ?_ ?_ ?_ (Or.inl ⟨?_, ?_⟩) (by assumption) ?_; rotate_left 2; rfl; kernel_rfl; kernel_rfl; exact (fun _ _ _ h => h); rfl; (focus (intro w hSw; (try dsimp only at hSw); go_simp; (try with_reducible rfl); done)); (try simp only [Act.put, List.setIfInBounds_toArray, List.set_cons_zero, List.set_cons_succ])); (refine AtF.take (oi := ?_) (v := ?_) 1 ?_ ?_ ?_ ?_ (Or.inl ⟨?_, ?_⟩) (by assumption) ?_; rotate_left 2; rfl; kernel_rfl; kernel_rfl; exact (fun _ _ _ h => h); rfl; (focus (intro w hSw; (try dsimp only at hSw); go_simp; (try with_reducible rfl); done)); (try simp only [Act.put, List.setIfInBounds_toArray, List.set_cons_zero, List.set_cons_succ])))
      (refine AtF.only (oi := ?_) 2 ?_ ?_ (fun K hK => ?_); rotate_left 1; rfl; kernel_rfl; (try go_simp); skip; (refine hK.out _ _ ?_ (fun hHeld => ?_)); (focus ((try dsimp only); (refine ⟨?_, ?_, ?_, ?_, ?_⟩ <;> simp [go_sem, u0, u1, u2, u3, u4, vl]); done)); clear hK K; (try simp only [Act.put, List.setIfInBounds_toArray, List.set_cons_zero, List.set_cons_succ]))
      (refine AtF.last (oi := ?_) ?_ ?_ (fun K hK => ?_); rotate_left 1; rfl; kernel_rfl; go_simp; skip; refine hK.out _ _ ?_; clear hK K; (try simp only [Act.put, List.setIfInBounds_toArray, List.set_cons_zero, List.set_cons_succ]))
      go_wp2
      obtain ⟨W6, h6, hk6, hs6⟩ := store5 b5r (.slice A n' c) (.slice sA sm sc) (.int .i64 sn) (.int .i64 nw) (.bool bl)
      rw [h6]
      have hgd : Below W6.heap.size W6 W6.drew := by (repeat' (first | (with_reducible exact Below.refl _ _) | (with_reducible refine Below.alloc ?_ ?_ _) | (with_reducible refine below_ext ?_ ?_ _) | (with_reducible refine Below.drew ?_) | (with_reducible refine below_drewN ?_ _) | (with_reducible refine Below.setCell ?_ ?_ _) | go_size | (simp only [go_sem]; omega) | (simp [go_sem]; done) | (simp [go_sem]; omega)))
      have hb6 : Below w.heap.size w W6 := hbw.trans (hk6.below (fun x hx => by omega) hbw.size)
      have hbk := (hL.out.bk.keep hk6 (fun x hx e => by have := hFN x hx; omega)).grow hgd
      have hrf := ((hL.out.ref.keep hk6 (fun x hx e => hx (.inr (.inl (by omega))))).grow hgd).mono (G := fun x => F x ∨ x < w.heap.size) (fun x _ g => g.imp_right (fun g => .inl (by omega)))
      have FN : Hid (∃ (cB2 : Nat) (F : Nat → Prop) (U : Value), Value.tuple #[ptrV cB, .agg (rbA A n' c sA sm sc sn nw bl)] = .tuple #[ptrV cB2, U] ∧ Below w.heap.size w W6.drew ∧ BkAt W6.drew F cB2 (bkJ B j j) ∧ RBk W6.drew (fun x => F x ∨ x < w.heap.size) U (bkJ B j j) ∧ ∀ x, F x → w.heap.size ≤ x) := Lib.hid ⟨cB, F, _, rfl, hb6.trans (hgd.mono hb6.size), hbk, hrf, fun x hx => by have := hFN x hx; omega⟩
      obtain ⟨s0, s1, s2, s3, s4, sl, -⟩ := five hs6
      clear hs6 h6 hbk hrf hL b5r
      simp [bodyPost, go_sem, s0, s1, s2, s3, s4]
      exact ⟨_, by simp [results, Tryz.f8, go_sem, s0, s1, s2, s3, s4] <;> rfl, FN.out⟩
end Go.Proofs.YtignkkejkknddaaGreat
