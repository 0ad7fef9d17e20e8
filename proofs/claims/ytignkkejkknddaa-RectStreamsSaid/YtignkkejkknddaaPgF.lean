/- Pages: an act of both: what it makes, plainly and in memory.  -/
import Derived.Test.YtignkkejkknddaaPgAct
import Derived.Test.YtignkkejkknddaaPgPen
import Derived.Test.YtignkkejkknddaaPgC
import Derived.Test.YtignkkejkknddaaPgD
import Derived.Test.YtignkkejkknddaaPgA
import Derived.Test.YtignkkejkknddaaPgE
import Derived.Test.YtignkkejkknddaaLineE
namespace Go.Proofs.Ytignkkejkknddaa
open Go.RowKit
set_option linter.unusedVariables false
set_option linter.unusedSimpArgs false

/-- what an act makes of a page -/
def doS (S : PgS) (a : ActD) : PgS :=
  let B := onB S.rows.length S.cols a.b
  if a.kd = 1 then moveS S B (clampR a.n 0 1000)
  else if a.kd = 2 then moveS S B (-clampR a.n 0 1000)
  else if a.kd = 3 then eachS S B (fun xs l r => movR xs l r (-clampR a.n 0 (cntN xs.length l r 0)))
  else if a.kd = 4 then eachS S B (fun xs l r => movR xs l r (clampR a.n 0 (cntN xs.length l r 0)))
  else if a.kd = 5 then eachS S B (fun xs l r => eachR xs l r fun _ => a.y)
  else if a.kd = 6 then eachS S B (fun xs l r => eachR xs l r fun _ => erC)
  else if a.kd = 7 then eachS S B (fun xs l r => eachR xs l r cleanC)
  else if a.kd = 8 then eachS S B (fun xs l r => eachR xs l r (applyC a.ps))
  else if a.kd = 9 then eachS S B (fun xs l r => eachR xs l r (flipC a.ps))
  else if a.kd = 10 then eachS S B (fun xs l r => eachR xs l r (keepC a.y.k))
  else if a.kd = 11 then pasteS S S B a.r a.c
  else if a.kd = 12 then setLineS S a.n a.rw a.r
  else if a.kd = 13 then putS S a.r a.c a.y
  else if a.kd = 14 then resizeS S a.n a.c
  else S
/-- how both end: the page p and the document's page U' are both T; U' lies in new blocks -/
def DoN (F : Nat → Prop) (p : Nat) (T : PgS) (w : World) (e : Ending) (w' : World) : Prop := ∃ U' F', e = .returned U' ∧ Keep F w w' ∧ PageAt w' F' p T ∧ RefAt w' (fun b => F' b ∨ b < w.heap.size) U' T ∧ ∀ b, F' b → F b ∨ w.heap.size ≤ b
/-- how both end: U' lies off the blocks G, too -/
def DoR (F : Nat → Prop) (p : Nat) (G : Nat → Prop) (T : PgS) (w : World) (e : Ending) (w' : World) : Prop := ∃ U' F', e = .returned U' ∧ Keep F w w' ∧ PageAt w' F' p T ∧ RefAt w' (fun b => F' b ∨ G b) U' T ∧ ∀ b, F' b → F b ∨ w.heap.size ≤ b
theorem DoN.r {F G : Nat → Prop} {p : Nat} {T : PgS} {w w' : World} {e : Ending} (h : DoN F p T w e w') (hG : ∀ b, G b → b < w.heap.size) : DoR F p G T w e w' := by
  obtain ⟨U, F', h1, h2, h3, h4, h5⟩ := h
  exact ⟨U, F', h1, h2, h3, h4.mono (fun b _ hb => hb.imp id (hG b)), h5⟩
theorem store2 {w1 : World} {R : Nat} {V n v0 v1 : Value} (r0 : w1.cell? ⟨R, 0, none⟩ = some v0) (r1 : w1.cell? ⟨R, 1, none⟩ = some v1) :
    ∃ W3, (w1.setCell ⟨R, 0, none⟩ V).setCell ⟨R, 1, none⟩ n = W3 ∧ W3.cell? ⟨R, 0, none⟩ = some V ∧ W3.cell? ⟨R, 1, none⟩ = some n ∧ R < W3.heap.size :=
  ⟨_, rfl, (World.cell?_setCell_other _ _ _ _ (by simp)).trans (World.cell?_setCell_same _ _ _ r0), World.cell?_setCell_same _ _ _ ((World.cell?_setCell_other _ _ _ _ (by simp)).trans r1), by simpa using World.block_lt_of_cell? _ _ r0⟩
theorem PgO.off2 {F : Nat → Prop} {p : Nat} {T : PgS} {w w' : World} {R : Nat} (h : PageAt w F p T) (hs : w.heap.size ≤ w'.heap.size) (hf : ∀ b, b ≠ R → b < w.heap.size → w'.heap[b]? = w.heap[b]?) (hR : ¬ F R) : PageAt w' F p T := by
  obtain ⟨⟨V, rows, h1, h2, h3, h4⟩, h5, h6⟩ := h
  exact ⟨⟨V, rows, (hf p (fun e => hR (e ▸ h5)) (h6 p h5)).trans h1, h2.same (fun b hb => hf b (fun e => hR (e ▸ h4 b hb)) (h2.lt hb)), h3, h4⟩, h5, fun b hb => Nat.lt_of_lt_of_le (h6 b hb) hs⟩
theorem do_fin {F : Nat → Prop} {p R : Nat} {T : PgS} {w w0 w1 W3 : World} {x : More} {V : Value} {rws : List RowM} (hD : Did F p T w0 w1) (hb0 : Below w.heap.size w w0) (hF : ∀ b, F b → b < w.heap.size) (hR : w.heap.size ≤ R) (hR0 : R < w0.heap.size)
    (hl : Lns (ext w1 x) V rws) (hv : rws.map RowM.val = T.rows) (hf : ∀ b, foot V rws b → w1.heap.size ≤ b) (e3 : (w1.setCell ⟨R, 0, none⟩ V).setCell ⟨R, 1, none⟩ (.int .i64 T.cols) = W3) : DoN F p T w (.returned (.agg #[V, .int .i64 T.cols])) (ext W3 x) := by
  have h1 := hD.1.size
  have hs3 : W3.heap.size = w1.heap.size := by rw [← e3]; simp
  have hR1 : R < w1.heap.size := Nat.lt_of_lt_of_le hR0 h1
  have hfar : ∀ b, b ≠ R → W3.heap[b]? = w1.heap[b]? := fun b hb => by
    rw [← e3, Below.heap_setCell _ _ _ _ hb, Below.heap_setCell _ _ _ _ hb]
  have hfar2 : ∀ b, b ≠ R → (ext W3 x).heap[b]? = (ext w1 x).heap[b]? := fun b hb => by
    rcases Nat.lt_or_ge b w1.heap.size with h | h
    · rw [block_ext _ _ (by omega), block_ext _ _ h]; exact hfar b hb
    · simp only [ext]
      rw [Array.getElem?_append_right (by omega), Array.getElem?_append_right h, hs3]
  have hK : Keep F w (ext W3 x) := by
    have k1 : Keep F w w1 := (Keep.of_below (F := F) hb0).trans hD.1 (fun b hb => .inl hb)
    have k2 : Keep F w W3 := by rw [← e3]; exact (k1.set (.inr hR) _).set (.inr hR) _
    exact k2.trans (Keep.of_below (F := fun _ => False) (below_of_ext W3 x)) (fun _ h => h.elim)
  refine ⟨_, more F w0 w1, rfl, hK, ?_, ⟨V, rws, rfl, hl.same fun b hb => hfar2 b (fun e => by have := hf b hb; omega), hv, fun b hb hm => ?_⟩, fun b hb => ?_⟩
  · refine (PgO.off2 (R := R) hD.2 (by omega) (fun b hb _ => hfar b hb) (fun h => ?_)).grow (below_of_ext W3 x)
    rcases h with h | h
    · have := hF R h; omega
    · omega
  · have := hf b hb
    have := hb0.size
    rcases hm with (hm | hm) | hm
    · have := hF b hm
      omega
    · omega
    · omega
  · rcases hb with hb | hb
    · exact .inl hb
    · exact .inr (Nat.le_trans hb0.size hb.1)
/-- counts: the program's and the document's -/
theorem clamp_up (n : Int) : clampR (max n 0) (-1000) 1000 = clampR n 0 1000 := by unfold clampR; split <;> split <;> (try split) <;> (try split) <;> omega
theorem clamp_down (n : Int) : clampR (-clampR n 0 1000) (-1000) 1000 = -clampR n 0 1000 := by have := clampR_in n (show (0 : Int) ≤ 1000 by omega); generalize clampR n 0 1000 = k at *; unfold clampR; split <;> (try split) <;> omega
theorem eachS_congr {S : PgS} (hS : S.Ok) (b : BxI) {f g : List Cl → Int → Int → List Cl} (h : ∀ xs, xs.length ≤ 500 → f xs b.l b.r = g xs b.l b.r) : eachS S b f = eachS S b g := by
  unfold eachS
  refine rowsJ_congr fun i hi _ _ => ?_
  rw [h S.rows[i].1 (by rw [hS.len hi]; exact hS.c2)]
theorem shiftF_left (n : Int) (xs : List Cl) (l r : Int) (h : xs.length ≤ 500) : shiftF (-clampR n 0 1000) xs l r = movR xs l r (-clampR n 0 (cntN xs.length l r 0)) := by
  unfold shiftF
  congr 1
  have hb := cntN_bd xs.length l r
  generalize cntN xs.length l r 0 = c at hb ⊢
  unfold clampR
  split <;> split <;> (try split) <;> (try split) <;> (try split) <;> (try split) <;> omega
theorem shiftF_right (n : Int) (xs : List Cl) (l r : Int) (h : xs.length ≤ 500) : shiftF (max n 0) xs l r = movR xs l r (clampR n 0 (cntN xs.length l r 0)) := by
  unfold shiftF
  congr 1
  have hb := cntN_bd xs.length l r
  generalize cntN xs.length l r 0 = c at hb ⊢
  unfold clampR
  split <;> split <;> (try split) <;> (try split) <;> (try split) <;> (try split) <;> omega
end Go.Proofs.Ytignkkejkknddaa
/- Pages: what acts make is a page again.  -/
namespace Go.Proofs.Ytignkkejkknddaa
set_option linter.unusedVariables false
set_option linter.unusedSimpArgs false

theorem updR_ok {xs : List Cl} {p : Nat → Bool} {g : Nat → Cl → Cl} {j : Nat} (h : ∀ y ∈ xs, y.ok) (hg : ∀ i y, y ∈ xs → p i = true → (g i y).ok) : ∀ y ∈ updR xs p g j, y.ok := fun y hy => by
  obtain ⟨i, hi, rfl⟩ := List.getElem_of_mem hy
  have hi' := hi
  rw [updR_len] at hi'
  rw [updR_get xs p g j i hi']
  split
  · rename_i q
    exact hg i _ (List.getElem_mem hi') q.2
  · exact h _ (List.getElem_mem hi')
theorem eachR_ok {xs : List Cl} {l r : Int} {F : Cl → Cl} (h : ∀ y ∈ xs, y.ok) (hF : ∀ y, y.ok → (F y).ok) : ∀ y ∈ eachR xs l r F, y.ok := updR_ok h fun _ y hy _ => hF y (h y hy)
theorem getD_ok {xs : List Cl} (h : ∀ y ∈ xs, y.ok) (i : Nat) : (xs.getD i noC).ok := by
  rw [List.getD_eq_getElem?_getD]
  cases hx : xs[i]? with
  | none => exact noC_ok
  | some y => exact h y (List.mem_of_getElem? hx)
theorem movR_ok {xs : List Cl} {l r k : Int} (h : ∀ y ∈ xs, y.ok) : ∀ y ∈ movR xs l r k, y.ok := updR_ok h fun i y hy _ => by
  unfold movG
  split
  · exact getD_ok h _
  · exact erC_ok
theorem cleanC_ok {y : Cl} (h : y.ok) : (cleanC y).ok := by
  unfold cleanC
  split
  · exact h
  · exact ⟨by simp, h.2⟩
theorem keepC_ok {b : Bool} {y : Cl} (h : y.ok) : (keepC b y).ok := h
theorem num_ok (f : Fl) : 0 ≤ f.num ∧ f.num ≤ 255 := by
  obtain ⟨a, b, c, d, e⟩ := f
  cases a <;> cases b <;> cases c <;> cases d <;> cases e <;> decide
theorem applyC_ok {p : List Int} {y : Cl} (h : y.ok) : (applyC p y).ok := ⟨h.1, num_ok _⟩
theorem flipC_ok {p : List Int} {y : Cl} (h : y.ok) : (flipC p y).ok := ⟨h.1, num_ok _⟩
theorem setRowS_ok {S : PgS} (hS : S.Ok) (i : Nat) {v : List Cl × Int} (hl : v.1.length = S.cols) (hv : ∀ y ∈ v.1, y.ok) : (setRowS S i v).Ok := by
  refine ⟨by rw [setRowS_len]; exact hS.r1, by rw [setRowS_len]; exact hS.r2, hS.c1, hS.c2, fun r hr => ?_, fun r hr y hy => ?_⟩
  · rcases List.mem_or_eq_of_mem_set hr with hr | rfl
    · exact hS.wid r hr
    · exact hl
  · rcases List.mem_or_eq_of_mem_set hr with hr | rfl
    · exact hS.ok r hr y hy
    · exact hv y hy
theorem layOn_ok {xs zs : List Cl} {o : Nat} (h : ∀ y ∈ xs, y.ok) (hz : ∀ y ∈ zs, y.ok) : ∀ y ∈ layOn xs o zs, y.ok := fun y hy => by
  unfold layOn at hy
  simp only [List.mem_append] at hy
  rcases hy with hy | hy | hy
  · exact h y (List.mem_of_mem_take hy)
  · exact hz y (by first | exact hy | exact List.mem_of_mem_take hy)
  · exact h y (List.mem_of_mem_drop hy)
theorem cutR_ok {xs : List Cl} {l r : Int} (h : ∀ y ∈ xs, y.ok) : ∀ y ∈ cutR xs l r, y.ok := fun y hy => h y (List.mem_of_mem_drop (List.mem_of_mem_take hy))
theorem moveS_ok {S : PgS} (hS : S.Ok) (b : BxI) (n : Int) : (moveS S (onB S.rows.length S.cols b) n).Ok := by
  have hb := onB_in S.rows.length S.cols b
  generalize onB S.rows.length S.cols b = y at hb ⊢
  have h1 : 0 ≤ y.t := by omega
  have h2 : y.b ≤ S.rows.length := by omega
  refine rowsJ_ok hS (fun i hi => moveRow_len hS h1 h2 n hi) (fun i hi c hc => ?_)
  unfold moveRow at hc
  split at hc
  · refine layOn_ok (hS.ok _ (List.getElem_mem hi)) (fun c hc => ?_) c hc
    exact cutR_ok (moveSrc_ok hS h1 h2 n i) c (List.mem_of_mem_take hc)
  · exact moveSrc_ok hS h1 h2 n i c hc
theorem putS_ok {S : PgS} (hS : S.Ok) (i j : Int) {y : Cl} (hy : y.ok) : (putS S i j y).Ok := by
  unfold putS
  split
  · rename_i h
    obtain ⟨a, b, rfl, rfl, ha, hb⟩ := inB_nat h
    have e : S.rows.getD ((a : Int)).toNat ([], 0) = S.rows[a] := by simp [ha]
    refine setRowS_ok hS _ (by rw [e, List.length_set]; exact hS.len ha) (fun c hc => ?_)
    rw [e] at hc
    rcases List.mem_or_eq_of_mem_set hc with hc | rfl
    · exact hS.ok _ (List.getElem_mem ha) c hc
    · exact hy
  · exact hS
theorem setLineS_ok {S : PgS} (hS : S.Ok) (i : Int) {xs : List Cl} (z : Int) (hx : ∀ y ∈ xs, y.ok) : (setLineS S i xs z).Ok := by
  unfold setLineS
  split
  · refine setRowS_ok hS _ (resR_len _ _) (fun c hc => ?_)
    rcases resR_mem hc with rfl | hc
    · exact erC_ok
    · exact hx c hc
  · exact hS
theorem doS_ok {S : PgS} (hS : S.Ok) (a : ActD) (hy : a.y.ok) (hr : ∀ y ∈ a.rw, y.ok) : (doS S a).Ok := by
  unfold doS
  dsimp only
  by_cases k1 : a.kd = 1
  · rw [if_pos k1]
    exact moveS_ok hS _ _
  rw [if_neg k1]
  by_cases k2 : a.kd = 2
  · rw [if_pos k2]
    exact moveS_ok hS _ _
  rw [if_neg k2]
  by_cases k3 : a.kd = 3
  · rw [if_pos k3]
    exact eachS_ok hS _ (fun _ _ _ => updR_len _ _ _ _) (fun _ _ _ h => movR_ok h)
  rw [if_neg k3]
  by_cases k4 : a.kd = 4
  · rw [if_pos k4]
    exact eachS_ok hS _ (fun _ _ _ => updR_len _ _ _ _) (fun _ _ _ h => movR_ok h)
  rw [if_neg k4]
  by_cases k5 : a.kd = 5
  · rw [if_pos k5]
    exact eachS_ok hS _ (fun _ _ _ => updR_len _ _ _ _) (fun _ _ _ h => eachR_ok h fun _ _ => hy)
  rw [if_neg k5]
  by_cases k6 : a.kd = 6
  · rw [if_pos k6]
    exact eachS_ok hS _ (fun _ _ _ => updR_len _ _ _ _) (fun _ _ _ h => eachR_ok h fun _ _ => erC_ok)
  rw [if_neg k6]
  by_cases k7 : a.kd = 7
  · rw [if_pos k7]
    exact eachS_ok hS _ (fun _ _ _ => updR_len _ _ _ _) (fun _ _ _ h => eachR_ok h fun _ q => cleanC_ok q)
  rw [if_neg k7]
  by_cases k8 : a.kd = 8
  · rw [if_pos k8]
    exact eachS_ok hS _ (fun _ _ _ => updR_len _ _ _ _) (fun _ _ _ h => eachR_ok h fun _ q => applyC_ok q)
  rw [if_neg k8]
  by_cases k9 : a.kd = 9
  · rw [if_pos k9]
    exact eachS_ok hS _ (fun _ _ _ => updR_len _ _ _ _) (fun _ _ _ h => eachR_ok h fun _ q => flipC_ok q)
  rw [if_neg k9]
  by_cases k10 : a.kd = 10
  · rw [if_pos k10]
    exact eachS_ok hS _ (fun _ _ _ => updR_len _ _ _ _) (fun _ _ _ h => eachR_ok h fun _ q => keepC_ok q)
  rw [if_neg k10]
  by_cases k11 : a.kd = 11
  · rw [if_pos k11]
    exact pasteJ_ok hS hS
  rw [if_neg k11]
  by_cases k12 : a.kd = 12
  · rw [if_pos k12]
    exact setLineS_ok hS _ _ hr
  rw [if_neg k12]
  by_cases k13 : a.kd = 13
  · rw [if_pos k13]
    exact putS_ok hS _ _ hy
  rw [if_neg k13]
  by_cases k14 : a.kd = 14
  · rw [if_pos k14]
    exact resizeS_ok S _ _ hS.ok
  rw [if_neg k14]
  exact hS
end Go.Proofs.Ytignkkejkknddaa
