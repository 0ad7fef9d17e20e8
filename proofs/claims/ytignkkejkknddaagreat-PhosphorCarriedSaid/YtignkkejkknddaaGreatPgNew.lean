/- Pages: Resize, New; what each function needs to know of a page.  -/
import Derived.Test.YtignkkejkknddaaGreatPg
namespace Go.Proofs.YtignkkejkknddaaGreat
open Go.RowKit
set_option linter.unusedVariables false
set_option linter.unusedSimpArgs false

theorem newL_row {w w' : World} {xs : List Cl} {sz : Int} {e : Ending} (h : NewL w xs sz e w') (h0 : 0 < xs.length) :
    ∃ (g c : Nat) (x : More), e = .returned (lineV (some ⟨g, 0, none⟩) xs.length c sz) ∧ w' = ext w x ∧ RowM.At (ext w x) ⟨g, c, xs, sz⟩ ∧ w.heap.size ≤ g := by
  obtain ⟨A, c, x, rfl, rfl, hO⟩ := h
  obtain ⟨g, rfl, h1, h2⟩ := hO.at0 h0
  refine ⟨g, c, x, rfl, rfl, hO.mono (Nat.zero_le _), (hO.lt g rfl).1⟩
theorem lns_append {U w : World} {ops : Array Oper} {rest : List Oper} {o : Oper} {a : Act} {Q : Exit → Act → World → Prop} {A : Option Addr} {n c : Nat} {rows : List RowM} (s x : Operand) (hgd : o.guard = none)
    (ho : o.op = .call { callee := .builtin .append, args := #[s, x], argTypes := #[37, 37] }) (r : RowM) (H : Nat) (hs : a.eval s = .slice A n c) (hx : a.eval x = .slice (some ⟨H, 0, none⟩) 1 1)
    (hU : Below U.heap.size U w) (hl : Lns w (.slice A n c) rows) (hb : ∀ b, foot (.slice A n c) rows b → U.heap.size ≤ b) (hr : r.At w) (hg : U.heap.size ≤ r.g) (hf : ∀ s ∈ rows, s.g ≠ r.g)
    (h0 : w.cell? ⟨H, 0, none⟩ = some r.sl) (h1 : w.cell? ⟨H, 1, none⟩ = some (.int .i64 r.z)) (hn : rows.length ≤ 1000)
    (h : ∀ A' c' x' zs, zs = rows ++ [r] → Lns (ext U x') (.slice A' zs.length c') zs → (∀ b, foot (.slice A' zs.length c') zs b → U.heap.size ≤ b) → wpList Tryz.prog ops Q rest (a.put o.dst (.slice A' zs.length c')) (ext U x')) : wpList Tryz.prog ops Q (o :: rest) a w := by
  refine wpList_plain hgd fun K hK => ?_
  have hrd : Rd encM 2 w (some ⟨H, 0, none⟩) [r] := fun _ => by
    refine ⟨H, 0, rfl, World.block_lt_of_cell? _ _ h0, fun i hi j v hv => ?_⟩
    obtain rfl : i = 0 := by simpa using hi
    match j, hv with
    | 0, hv => simp [encM] at hv; subst hv; simpa using h0
    | 1, hv => simp [encM] at hv; subst hv; simpa using h1
  obtain ⟨A', c', x', hrun, hO, hF, hG⟩ := run_append_far2 (P := Tryz.prog) U w 37 o.type 67 _ 32 Tryz.underlying37 line_info rfl (by omega) encM_len encM_one rows [r] _ (some ⟨H, 0, none⟩) 1 hU (hl.own.lift fun k hk => hb k (.inl hk)) hrd (by simp [maxLen]; omega) (by simp; omega)
  unfold Oper.wp execOp
  simp only [List.length_singleton] at hrun
  simp only [ho, resolve, invoke, builtin, Sem.run_bind, Sem.run_pure, Result.andThen_ok, List.map_toArray, List.map_cons, List.map_nil, hs, hx, hrun]
  refine hK _ _ (h A' c' x' _ rfl (hl.snoc hr hf (hO.mono (Nat.zero_le _)) hG) fun b hb' => ?_)
  rcases hb' with hb' | ⟨s, hs, rfl⟩
  · exact (hO.lt b hb').1
  · rcases List.mem_append.1 hs with hs | hs
    · exact hb _ (.inr ⟨s, hs, rfl⟩)
    · rw [List.mem_singleton.1 hs]; exact hg

section
variable {w w' : World} {F G : Nat → Prop} {p q : Nat} {S T : PgS} {U : Value}
/-- the form of a page's list -/
theorem Lns.form {V : Value} {rows : List RowM} (h : Lns w V rows) : ∃ A c, V = .slice A rows.length c ∧ rows.length ≤ c ∧ c ≤ maxLen := h.own.form
theorem Lns.form1 {V : Value} {rows : List RowM} (h : Lns w V rows) (h0 : 0 < rows.length) : ∃ L c, V = .slice (some ⟨L, 0, none⟩) rows.length c ∧ rows.length ≤ c ∧ c ≤ maxLen := h.own.some_of h0
theorem Lns.off {V : Value} {rows : List RowM} {t : TypeId} {cur : Array Value} (h : Lns w V rows) (hp : w.heap[p]? = some (.cells cur t (0, 0))) (h1 : t ≠ 67) (h2 : t ≠ 60) : ∀ b, foot V rows b → b ≠ p := by
  rintro b hb rfl
  rcases hb with hb | ⟨r, hr, rfl⟩
  · obtain ⟨c1, e⟩ := Own.blk h.own hb
    rw [hp] at e
    injection e with e
    injection e with _ e _
    exact h1 e
  · obtain ⟨c1, e⟩ := (h.row r hr).blk
    rw [hp] at e
    injection e with e
    injection e with _ e _
    exact h2 e
/-- a page, opened -/
structure PgO (w : World) (F : Nat → Prop) (p : Nat) (S : PgS) (A : Option Addr) (n c : Nat) (rows : List RowM) : Prop where
  blk : w.heap[p]? = some (.cells #[.slice A n c, .int .i64 S.cols] 120 (0, 0))
  l : Lns w (.slice A n c) rows
  len : n = rows.length
  nc : n ≤ c
  cm : c ≤ maxLen
  val : rows.map RowM.val = S.rows
  ft : ∀ b, foot (.slice A n c) rows b → F b
  self : F p
  lt : ∀ b, F b → b < w.heap.size
theorem PageAt.op (h : PageAt w F p S) : ∃ A n c rows, PgO w F p S A n c rows := by
  obtain ⟨⟨V, rows, h1, h2, h3, h4⟩, h5, h6⟩ := h
  obtain ⟨A, c, rfl, h7, h8⟩ := h2.form
  exact ⟨A, _, c, rows, h1, h2, rfl, h7, h8, h3, h4, h5, h6⟩
theorem PgO.at {A : Option Addr} {n c : Nat} {rows : List RowM} (h : PgO w F p S A n c rows) : PageAt w F p S := ⟨⟨_, rows, h.blk, h.l, h.val, h.ft⟩, h.self, h.lt⟩
theorem PgO.n {A : Option Addr} {n c : Nat} {rows : List RowM} (h : PgO w F p S A n c rows) : n = S.rows.length := by rw [h.len, ← h.val]; simp
theorem PgO.c0 {A : Option Addr} {n c : Nat} {rows : List RowM} (h : PgO w F p S A n c rows) : w.cell? ⟨p, 0, none⟩ = some (.slice A n c) := by rw [cell_in h.blk]; rfl
theorem PgO.c1 {A : Option Addr} {n c : Nat} {rows : List RowM} (h : PgO w F p S A n c rows) : w.cell? ⟨p, 1, none⟩ = some (.int .i64 S.cols) := by rw [cell_in h.blk]; rfl
theorem PgO.plt {A : Option Addr} {n c : Nat} {rows : List RowM} (h : PgO w F p S A n c rows) : p < w.heap.size := heap_in h.blk
theorem PgO.fz {A : Option Addr} {n c : Nat} {rows : List RowM} (h : PgO w F p S A n c rows) (q : Nat) : w.frozen? ⟨p, q, none⟩ = false := frozen_in h.blk
theorem PgO.off {A : Option Addr} {n c : Nat} {rows : List RowM} (h : PgO w F p S A n c rows) : ∀ b, foot (.slice A n c) rows b → b ≠ p := h.l.off h.blk (by decide) (by decide)
theorem PgO.some {A : Option Addr} {n c : Nat} {rows : List RowM} (h : PgO w F p S A n c rows) (h0 : 0 < S.rows.length) : ∃ L, A = Option.some ⟨L, 0, none⟩ := by
  obtain ⟨L, c, e, _⟩ := h.l.form1 (by rw [← h.len, h.n]; exact h0)
  injection e with e
  exact ⟨L, e⟩
theorem PgO.row {A : Option Addr} {n c : Nat} {rows : List RowM} (h : PgO w F p S A n c rows) {i : Nat} (hi : i < S.rows.length) : ∃ r, rows[i]? = Option.some r ∧ r.val = S.rows[i] := by
  have hi' : i < rows.length := by rw [← h.len, h.n]; exact hi
  refine ⟨rows[i], List.getElem?_eq_getElem hi', ?_⟩
  have := h.val
  simp only [← this, List.getElem_map]
theorem PgO.at2 {i : Nat} {L c n : Nat} {rows : List RowM} (h : PgO w F p S (Option.some ⟨L, 0, none⟩) n c rows) (hi : i < S.rows.length) : ∃ g k xs z, S.rows[i] = (xs, z) ∧ rows[i]? = Option.some ⟨g, k, xs, z⟩ ∧ RowM.At w ⟨g, k, xs, z⟩ ∧ xs.length ≤ k ∧ k ≤ maxLen ∧
    w.cell? ⟨L, i * 2, none⟩ = Option.some (.slice (Option.some ⟨g, 0, none⟩) xs.length k) ∧ w.cell? ⟨L, i * 2 + 1, none⟩ = Option.some (.int .i64 z) ∧ (∀ q, w.frozen? ⟨L, q, none⟩ = false) ∧ L < w.heap.size := by
  obtain ⟨⟨g, k, xs, z⟩, h1, h2⟩ := h.row hi
  obtain ⟨d0, d1, d2, d3⟩ := h.l.slot h1
  have hA := h.l.row _ (List.mem_of_getElem? h1)
  exact ⟨g, k, xs, z, h2.symm, h1, hA, hA.cap.1, hA.cap.2, d0, d1, d2, d3⟩
/-- the number of columns is stored -/
theorem page_set1 {V : Value} {m n : Int} (h : w.heap[p]? = some (.cells #[V, .int .i64 m] 120 (0, 0))) : (w.setCell ⟨p, 1, none⟩ (.int .i64 n)).heap[p]? = some (.cells #[V, .int .i64 n] 120 (0, 0)) := by
  simp only [World.setCell, Array.getElem?_modify, if_pos, h]
  simp
theorem page_set0 {V V' n : Value} (h : w.heap[p]? = some (.cells #[V, n] 120 (0, 0))) : (w.setCell ⟨p, 0, none⟩ V').heap[p]? = some (.cells #[V', n] 120 (0, 0)) := by
  simp only [World.setCell, Array.getElem?_modify, if_pos, h]
  simp
end
/-- so many, as Resize takes them -/
def dimN (n : Int) : Nat := (max 1 (min n 500)).toNat
theorem dimN_pos (n : Int) : 1 ≤ dimN n ∧ dimN n ≤ 500 ∧ newN (dimN n : Int) = dimN n ∧ max 1 (min n 500) = (dimN n : Int) := by unfold dimN newN; omega
/-- a line of a page that was resized -/
def resRow (S : PgS) (n : Nat) (i : Nat) : List Cl × Int := match S.rows[i]? with | some r => (resR r.1 n, r.2) | none => (List.replicate n erC, 0)
def resizeS (S : PgS) (m n : Int) : PgS := ⟨(List.range (dimN m)).map (resRow S (dimN n)), dimN n⟩
theorem resRow_len (S : PgS) (n i : Nat) : (resRow S n i).1.length = n := by
  unfold resRow
  split
  · exact resR_len _ _
  · simp
theorem resR_mem {xs : List Cl} {n : Nat} {y : Cl} (h : y ∈ resR xs n) : y = erC ∨ y ∈ xs := by
  unfold resR layOn at h
  simp only [List.take_zero, List.nil_append, List.length_replicate, Nat.zero_add, List.drop_replicate, List.mem_append, List.mem_replicate] at h
  rcases h with h | h
  · exact .inr (List.mem_of_mem_take h)
  · exact .inl h.2
theorem erC_ok : erC.ok := by simp [erC, Cl.ok]
theorem resizeS_ok (S : PgS) (m n : Int) (h : ∀ r ∈ S.rows, ∀ y ∈ r.1, y.ok) : (resizeS S m n).Ok := by
  have h1 := dimN_pos m
  have h2 := dimN_pos n
  refine ⟨by simp [resizeS]; omega, by simp [resizeS]; omega, h2.1, h2.2.1, fun r hr => ?_, fun r hr y hy => ?_⟩
  · simp only [resizeS, List.mem_map] at hr
    obtain ⟨i, _, rfl⟩ := hr
    exact resRow_len _ _ _
  · simp only [resizeS, List.mem_map] at hr
    obtain ⟨i, _, rfl⟩ := hr
    unfold resRow at hy
    split at hy
    · rename_i r hr
      rcases resR_mem hy with rfl | hy
      · exact erC_ok
      · exact h r (List.mem_of_getElem? hr) y hy
    · rw [List.eq_of_mem_replicate hy]; exact erC_ok
theorem resRow_some {S : PgS} {n i : Nat} (h : i < S.rows.length) : resRow S n i = (resR S.rows[i].1 n, S.rows[i].2) := by simp [resRow, h]
theorem resRow_none {S : PgS} {n i : Nat} (h : ¬ i < S.rows.length) : resRow S n i = (List.replicate n erC, 0) := by simp [resRow, h]
/-- lines that are being made, one by one, all of them new -/
structure Mk (U w : World) (V : Value) (vals : List (List Cl × Int)) (rows : List RowM) : Prop where
  l : Lns w V rows
  val : rows.map RowM.val = vals
  ft : ∀ b, foot V rows b → U.heap.size ≤ b
theorem Mk.snoc {U : World} {x x' : More} {V V' : Value} {vals : List (List Cl × Int)} {rows : List RowM} {r : RowM} {v : List Cl × Int} (h : Mk U (ext U x) V vals rows) (hl : Lns (ext U x') V' (rows ++ [r])) (hf : ∀ b, foot V' (rows ++ [r]) b → U.heap.size ≤ b) (hv : r.val = v) : Mk U (ext U x') V' (vals ++ [v]) (rows ++ [r]) :=
  ⟨hl, by rw [List.map_append, h.val, ← hv]; rfl, hf⟩
theorem Mk.nil (U w : World) : Mk U w (.slice none 0 0) [] [] := ⟨Lns.nil _, rfl, fun b hb => by rcases hb with h | ⟨r, h, _⟩ <;> cases h⟩
theorem Mk.fresh {U w : World} {V : Value} {vals : List (List Cl × Int)} {rows : List RowM} (h : Mk U w V vals rows) {g : Nat} (hg : w.heap.size ≤ g) : ∀ s ∈ rows, s.g ≠ g := fun s hs e => by
  have := (h.l.row s hs).lt
  omega
theorem Mk.len {U w : World} {V : Value} {vals : List (List Cl × Int)} {rows : List RowM} (h : Mk U w V vals rows) : rows.length = vals.length := by rw [← h.val]; simp
theorem Mk.grow {U w w' : World} {V : Value} {vals : List (List Cl × Int)} {rows : List RowM} (h : Mk U w V vals rows) (hb : Below w.heap.size w w') : Mk U w' V vals rows := ⟨h.l.grow hb, h.val, h.ft⟩
theorem mk_append {U w : World} {x x1 : More} {ops : Array Oper} {rest : List Oper} {o : Oper} {a : Act} {Q : Exit → Act → World → Prop} {A : Option Addr} {n c : Nat} {rows : List RowM} {vals : List (List Cl × Int)} (s xo : Operand) (hgd : o.guard = none)
    (ho : o.op = .call { callee := .builtin .append, args := #[s, xo], argTypes := #[37, 37] }) (g k : Nat) (xs : List Cl) (z : Int) (H : Nat) (hs : a.eval s = .slice A n c) (hx : a.eval xo = .slice (some ⟨H, 0, none⟩) 1 1)
    (hm : Mk U (ext U x) (.slice A n c) vals rows) (hR : RowM.At (ext (ext U x) x1) ⟨g, k, xs, z⟩) (hg : (ext U x).heap.size ≤ g) (hw : w = (ext (ext U x) x1).alloc (.cells #[.slice (some ⟨g, 0, none⟩) xs.length k, .int .i64 z] 67)) (hH : H = (ext (ext U x) x1).heap.size) (hn : vals.length ≤ 1000)
    (h : ∀ A' n' c' x' rows', Mk U (ext U x') (.slice A' n' c') (vals ++ [(xs, z)]) rows' → wpList Tryz.prog ops Q rest (a.put o.dst (.slice A' n' c')) (ext U x')) : wpList Tryz.prog ops Q (o :: rest) a w := by
  subst hw hH
  have hb1 : Below (ext U x).heap.size (ext U x) ((ext (ext U x) x1).alloc (.cells #[.slice (some ⟨g, 0, none⟩) xs.length k, .int .i64 z] 67)) := (below_of_ext _ _).alloc (by simp) _
  have hb2 : Below (ext (ext U x) x1).heap.size (ext (ext U x) x1) ((ext (ext U x) x1).alloc (.cells #[.slice (some ⟨g, 0, none⟩) xs.length k, .int .i64 z] 67)) := (Below.refl _ _).alloc (Nat.le_refl _) _
  refine lns_append (U := U) (rows := rows) s xo hgd ho ⟨g, k, xs, z⟩ _ hs hx ((below_of_ext U x).trans (hb1.mono (by simp))) (hm.l.grow hb1) hm.ft (hR.grow hb2) (Nat.le_trans (by simp) hg) (hm.fresh hg) ?_ ?_ (by rw [hm.len]; exact hn) ?_
  · rw [cell_in (heap_alloc_new _ _)]; rfl
  · rw [cell_in (heap_alloc_new _ _)]; rfl
  · intro A' c' x' zs hz hl hf
    subst hz
    exact h A' _ c' x' _ (hm.snoc hl hf rfl)
/-- the list is the page's: the end of Resize and Clone -/
theorem Mk.page {w U : World} {F : Nat → Prop} {p : Nat} {x : More} {V W : Value} {S : PgS} {rows : List RowM} (h : Mk U (ext U x) V S.rows rows) (hU : Keep F w U) (hp : U.heap[p]? = some (.cells #[W, .int .i64 S.cols] 120 (0, 0))) (hF : F p) (hlt : ∀ b, F b → b < w.heap.size) (hs : U.heap.size = w.heap.size) :
    Did F p S w ((ext U x).setCell ⟨p, 0, none⟩ V) := by
  have hpl := heap_in hp
  have hpe : (ext U x).heap[p]? = some (.cells #[W, .int .i64 S.cols] 120 (0, 0)) := (block_ext U x hpl).trans hp
  have hk : Keep F w (ext U x) := hU.trans (Keep.of_below (below_of_ext U x)) (F := F) (G := F) (fun b hb => .inl hb)
  have hk2 : Keep F w ((ext U x).setCell ⟨p, 0, none⟩ V) := hk.set (.inl hF) V
  refine ⟨hk2, ⟨⟨V, rows, page_set0 hpe, h.l.same fun b hb => ?_, h.val, fun b hb => ?_⟩, .inl hF, fun b hb => ?_⟩⟩
  · exact Below.heap_setCell _ _ _ _ (fun e => by have := h.ft b hb; simp at e; omega)
  · have := h.ft b hb
    have h2 := h.l.lt hb
    exact .inr ⟨by omega, by simpa using h2⟩
  · rcases hb with hb | hb
    · have := hlt b hb
      have := hk2.size
      omega
    · exact hb.2
set_option maxRecDepth 100000 in
set_option maxHeartbeats 4000000 in
theorem resize_p (F : Nat → Prop) (p : Nat) (S : PgS) (m n : Int) (w : World) (h : PageAt w F p S) :
    Calls Tryz.prog 81 #[.pointer (some ⟨p, 0, none⟩), .int .i64 m, .int .i64 n] w (fun e w' => e = .returned (.tuple #[]) ∧ Did F p (resizeS S m n) w w') := by
  obtain ⟨A, k, c, rows, H⟩ := h.op
  clear h
  have hm := (dimN_pos m).2.2.2
  have hn := (dimN_pos n).2.2.2
  have plt := H.plt
  have c0 := H.c0
  have c1 := H.c1
  have f0 := H.fz 0
  have f1 := H.fz 1
  have hkS := Lib.hid H.n
  have hM := Lib.hid (dimN_pos m)
  have hN := Lib.hid (dimN_pos n)
  obtain ⟨U, hU⟩ : ∃ U, U = w.setCell ⟨p, 1, none⟩ (.int .i64 (dimN n)) := ⟨_, rfl⟩
  have hUs : U.heap.size = w.heap.size := by rw [hU]; simp
  have u0 : U.cell? ⟨p, 0, none⟩ = some (.slice A k c) := by rw [hU]; exact (World.cell?_setCell_other _ _ _ _ (by simp)).trans c0
  have uf : U.frozen? ⟨p, 0, none⟩ = false := by rw [hU, World.frozen?_setCell]; exact f0
  have ul : p < U.heap.size := by rw [hUs]; exact plt
  have hK : Keep F w U := by rw [hU]; exact (Keep.refl F w).set (.inl H.self) _
  have hB : U.heap[p]? = some (.cells #[.slice A k c, .int .i64 (dimN n)] 120 (0, 0)) := by rw [hU]; exact page_set1 H.blk
  have hL := Lib.hid (show Lns U (.slice A k c) rows by rw [hU]; exact H.l.same fun b hb => Below.heap_setCell _ _ _ _ (H.off b hb))
  have hfin := Lib.hid (fun (x : More) (V : Value) (rows' : List RowM) (hk : Mk U (ext U x) V (resizeS S m n).rows rows') => Mk.page (S := resizeS S m n) hk hK hB H.self H.lt hUs)
  have hrow := Lib.hid (fun (L i : Nat) (e : A = some ⟨L, 0, none⟩) (hi : i < S.rows.length) => (show ∃ g kk xs z, S.rows[i] = (xs, z) ∧ rows[i]? = some ⟨g, kk, xs, z⟩ by
    subst e
    obtain ⟨g, kk, xs, z, h1, h2, _⟩ := H.at2 hi
    exact ⟨g, kk, xs, z, h1, h2⟩))
  have hsome := Lib.hid H.some
  have hresz : (resizeS S m n).rows = (List.range (dimN m)).map (resRow S (dimN n)) := rfl
  replace hresz := Lib.hid hresz
  clear H hK hB
  generalize resizeS S m n = R at hfin hresz ⊢
  generalize dimN m = M at hm hM hresz
  generalize dimN n = N at hn hN hresz hU
  have hUw := Lib.hid hU
  have hUs' := Lib.hid hUs
  clear hU hUs
  go_enter Tryz.func81, Tryz.ntmps81
  go_wp2
  rw [← hUw.out]
  go_loopw [6, 19] (fun lv iv wr => ∃ (j : Nat) (A' : Option Addr) (n' c' : Nat) (rows' : List RowM) (x : More), j ≤ M ∧ lv = .slice A' n' c' ∧ iv = .int .i64 j ∧ wr = ext U x ∧ Hid (Mk U (ext U x) (.slice A' n' c') ((List.range j).map (resRow S N)) rows')) (fun _ iv _ => M - (intOf iv).toNat)
  case atStart => exact ⟨0, none, 0, 0, [], ⟨#[], U.drawn⟩, by omega, rfl, rfl, by simp [ext], by exact Mk.nil _ _⟩
  case round =>
    obtain ⟨j, A', n', c', rows', x, hj, rfl, rfl, rfl, hmk⟩ := hrel
    by_cases hlt : j < M
    · have hn0 := hN.out
      by_cases hin : j < k
      · have hin' : j < S.rows.length := by have := hkS.out; omega
        obtain ⟨L, rfl⟩ := hsome.out (by omega)
        obtain ⟨g, kk, xs, z, e1, e2⟩ := hrow.out L j rfl hin'
        obtain ⟨d0, d1, _, d3⟩ := hL.out.slot e2
        have hA := hL.out.row _ (List.mem_of_getElem? e2)
        have X := Lib.hid hA.rd
        have CL := Lib.hid (fun w' (h : Rd encC 3 w' (some ⟨g, 0, none⟩) xs) => resize_l (some ⟨g, 0, none⟩) kk z N xs w' h)
        have hv := Lib.hid (show (resR xs (newN (N : Int)), z) = resRow S N j by rw [resRow_some hin', e1, hn0.2.2.1])
        have hpos := Lib.hid (show 0 < (resR xs (newN (N : Int))).length by rw [resR_len]; omega)
        simp only [RowM.sl] at d0
        generalize resR xs (newN (N : Int)) = ys at CL hv hpos
        clear hA
        go_wp2_with (first
          | (go_at_call 86
             (with_reducible refine (CL.out _ (by repeat (first | exact X.out | exact X | refine Rd.ext ?_ _ | refine Rd.alloc ?_ _ | refine Rd.drew ?_))).mono ?_)
             intro _ _ hp
             obtain ⟨g', k', x1, rfl, rfl, hR, hg⟩ := newL_row hp hpos.out
             have hR := Lib.hid hR
             have hg := Lib.hid hg
             clear hp)
          | (at_builtin
             refine mk_append (x := x) (x1 := x1) (.tmp 29) (.tmp 39) rfl rfl g' k' ys z _ rfl rfl hmk.out hR.out hg.out rfl (by simp [go_sem]) (by simp; omega) ?_
             intro A2 n2 c2 x2 rows2 hm2
             replace hm2 := Lib.hid hm2))
        rw [hv.out, ← List.map_singleton, ← List.map_append, ← List.range_succ] at hm2
        go_wp2_with fail
        exact ⟨⟨j + 1, A2, n2, c2, rows2, x2, by omega, rfl, by go_num, rfl, hm2⟩, by simp [intOf]; omega⟩
      · have hin' : ¬ j < S.rows.length := by have := hkS.out; omega
        have CL := Lib.hid (fun w' => new_l N w')
        have hv := Lib.hid (show (List.replicate (newN (N : Int)) erC, (0 : Int)) = resRow S N j by rw [resRow_none hin', hn0.2.2.1])
        have hpos := Lib.hid (show 0 < (List.replicate (newN (N : Int)) erC).length by simp; omega)
        generalize List.replicate (newN (N : Int)) erC = ys at CL hv hpos
        go_wp2_with (first
          | (go_at_call 110
             (with_reducible refine (CL.out _).mono ?_)
             intro _ _ hp
             obtain ⟨g', k', x1, rfl, rfl, hR, hg⟩ := newL_row hp hpos.out
             have hR := Lib.hid hR
             have hg := Lib.hid hg
             clear hp)
          | (at_builtin
             refine mk_append (x := x) (x1 := x1) (.tmp 41) (.tmp 44) rfl rfl g' k' ys 0 _ rfl rfl hmk.out hR.out hg.out rfl (by simp [go_sem]) (by simp; omega) ?_
             intro A2 n2 c2 x2 rows2 hm2
             replace hm2 := Lib.hid hm2))
        rw [hv.out, ← List.map_singleton, ← List.map_append, ← List.range_succ] at hm2
        go_wp2_with fail
        exact ⟨⟨j + 1, A2, n2, c2, rows2, x2, by omega, rfl, by go_num, rfl, hm2⟩, by simp [intOf]; omega⟩
    · obtain rfl : j = M := by omega
      have hD := hfin.out x _ rows' (by rw [hresz.out]; exact hmk.out)
      rw [setCell_ext U x p 0 _ ul] at hD
      replace hD := Lib.hid hD
      clear hmk
      go_wp2
      go_returns
      exact ⟨rfl, hD.out⟩
/-- a call that makes a page -/
def NewPg (S : PgS) (w : World) (e : Ending) (w' : World) : Prop := ∃ (p : Nat) (F : Nat → Prop) (x : More), e = .returned (.pointer (some ⟨p, 0, none⟩)) ∧ w' = ext w x ∧ (∀ b, F b → w.heap.size ≤ b) ∧ PageAt (ext w x) F p S
theorem page_zero (w : World) : PageAt (w.alloc (.cells #[.slice none 0 0, .int .i64 0] 120)) (· = w.heap.size) w.heap.size ⟨[], 0⟩ :=
  ⟨⟨_, [], heap_alloc_new w _, Lns.nil _, rfl, fun b hb => by rcases hb with h | ⟨r, h, _⟩ <;> cases h⟩, rfl, fun b hb => by subst hb; simp⟩
theorem Did.new {w w' : World} {o : Obj} {S : PgS} (h : Did (· = w.heap.size) w.heap.size S (w.alloc o) w') : NewPg S w (.returned (.pointer (some ⟨w.heap.size, 0, none⟩))) w' := by
  obtain ⟨x, rfl⟩ := ext_of (((Below.refl _ w).alloc (Nat.le_refl _) o).trans (h.1.below (B := w.heap.size) (fun b hb => by omega) (by simp)))
  refine ⟨_, _, x, rfl, rfl, fun b hb => ?_, h.2⟩
  rcases hb with rfl | ⟨h1, h2⟩
  · exact Nat.le_refl _
  · simp at h1; omega
set_option maxRecDepth 100000 in
theorem new_p (m n : Int) (w : World) : Calls Tryz.prog 31 #[.int .i64 m, .int .i64 n] w (NewPg (resizeS ⟨[], 0⟩ m n) w) := by
  have CL := Lib.hid (resize_p (· = w.heap.size) w.heap.size ⟨[], 0⟩ m n (w.alloc (.cells #[.slice none 0 0, .int .i64 0] 120)) (page_zero w))
  go_enter Tryz.func31, Tryz.ntmps31
  go_wp2_with (first
    | (go_at_call 81
       (with_reducible refine CL.out.mono ?_)
       rintro _ w1 ⟨rfl, hD⟩
       replace hD := Lib.hid hD))
  go_returns
  exact Did.new hD.out
end Go.Proofs.YtignkkejkknddaaGreat
