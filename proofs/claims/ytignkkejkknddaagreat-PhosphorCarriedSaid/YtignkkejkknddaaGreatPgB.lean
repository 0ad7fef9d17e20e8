/- Rows of cells in memory, one by one in a list: what Cells answers.  -/
import Derived.Test.YtignkkejkknddaaGreatPgA
import Derived.Test.YtignkkejkknddaaGreatApart
namespace Go.Proofs.YtignkkejkknddaaGreat
open Go.RowKit
set_option linter.unusedVariables false
set_option linter.unusedSimpArgs false

def RowD.adr (r : RowD) : Option Addr := r.b.map fun p => ⟨p.1, p.2, none⟩
def encQ (s : RowD × List Cl) : List Value := [s.1.v]
theorem encQ_len (s : RowD × List Cl) : (encQ s).length = 1 := rfl
theorem encQ_one (s : RowD × List Cl) : ∀ u ∈ encQ s, u.oneCell' = true := by
  intro u hu
  simp only [encQ, List.mem_singleton] at hu
  subst hu
  rfl
theorem cells_info : (Tryz.prog.info? 65).map (fun i => (i.zero, i.size, i.bytes)) = some (some (.slice none 0 0), 1, 24) := by kernel_rfl
/-- a list of rows, each of them memory of its own -/
structure CellsAt (B : Nat) (w : World) (V : Value) (rows : List (RowD × List Cl)) : Prop where
  own : Own encQ 1 65 B w V rows
  sep : RowsAt B w (rows.map Prod.fst)
  rd : ∀ s ∈ rows, s.1.n = s.2.length ∧ Rd encC 3 w s.1.adr s.2
section
variable {B : Nat} {w w' : World} {V : Value} {rows : List (RowD × List Cl)}
theorem Rd.keep {α : Type} {enc : α → List Value} {size : Nat} {a : Option Addr} {xs : List α} (h : Rd enc size w a xs) (hs : w.heap.size ≤ w'.heap.size) (hf : ∀ b off, a = some ⟨b, off, none⟩ → w'.heap[b]? = w.heap[b]?) : Rd enc size w' a xs := fun h0 => by
  obtain ⟨b, off, e, hlt, hc⟩ := h h0
  exact ⟨b, off, e, Nat.lt_of_lt_of_le hlt hs, fun i hi j v hv => (cell_of_heap (hf b off e)).trans (hc i hi j v hv)⟩
theorem adr_some {r : RowD} {b off : Nat} (h : r.adr = some ⟨b, off, none⟩) : r.b = some (b, off) := by
  unfold RowD.adr at h
  match hb : r.b with
  | none => rw [hb] at h; cases h
  | some p =>
    rw [hb] at h
    injection h with h
    injection h with h1 h2
    subst h1 h2
    rfl
theorem CellsAt.grow (h : CellsAt B w V rows) (hb : Below w.heap.size w w') : CellsAt B w' V rows :=
  ⟨h.own.below hb, h.sep.below hb, fun s hs => ⟨(h.rd s hs).1, (h.rd s hs).2.below hb⟩⟩
theorem CellsAt.keep {F : Nat → Prop} (h : CellsAt B w V rows) (hk : Keep F w w') (hF : ∀ b, F b → b < B) : CellsAt B w' V rows := by
  refine ⟨h.own.keep fun k hv => ?_, ⟨fun r hr => ?_, h.sep.sep⟩, fun s hs => ⟨(h.rd s hs).1, (h.rd s hs).2.keep hk.size fun b off e => ?_⟩⟩
  · have := h.own.lt k hv
    exact hk.block k this.2 (fun f => by have := hF k f; omega)
  · have hl := h.sep.live r hr
    refine ⟨hl.le, hl.nil, fun g off e => ?_⟩
    obtain ⟨h1, cur, h2, h3⟩ := hl.blk g off e
    exact ⟨h1, cur, (hk.block g (heap_in h2) (fun f => by have := hF g f; omega)).trans h2, h3⟩
  · have hl := h.sep.live s.1 (List.mem_map.2 ⟨s, hs, rfl⟩)
    obtain ⟨h1, cur, h2, h3⟩ := hl.blk b off (adr_some e)
    exact hk.block b (heap_in h2) (fun f => by have := hF b f; omega)
theorem CellsAt.nil (B : Nat) (w : World) : CellsAt B w (.slice none 0 0) [] := ⟨Own.nil _ _ _ _ _, RowsAt.nil _ _, fun s hs => by simp at hs⟩
theorem CellsAt.mono {B' : Nat} (h : CellsAt B w V rows) (hB : B' ≤ B) : CellsAt B' w V rows := ⟨h.own.mono hB, ⟨fun r hr => (h.sep.live r hr).mono hB, h.sep.sep⟩, h.rd⟩
theorem ownQR (h : Own encQ 1 65 B w V rows) : Own encR 1 65 B w V (rows.map Prod.fst) := by
  unfold Own at h ⊢
  rw [List.length_map, List.flatMap_map]
  exact h
/-- a row is appended -/
theorem cells_app {U w : World} {o : Oper} {a : Act} {K : Act → World → Prop} {Q : Exit → Act → World → Prop} {A : Option Addr} {n c : Nat} {x x1 : More} (s xo : Operand)
    (ho : o.op = .call { callee := .builtin .append, args := #[s, xo], argTypes := #[97, 97] }) (r : RowD) (xs : List Cl) (H : Nat) (hs : a.eval s = .slice A n c) (hx : a.eval xo = .slice (some ⟨H, 0, none⟩) 1 1)
    (hl : CellsAt U.heap.size (ext U x) (.slice A n c) rows) (hr : r.Live (ext U x).heap.size (ext (ext U x) x1)) (hn : r.n = xs.length) (rd : Rd encC 3 (ext (ext U x) x1) r.adr xs)
    (hw : w = (ext (ext U x) x1).alloc (.cells #[r.v] 65)) (hH : H = (ext (ext U x) x1).heap.size) (hm : rows.length ≤ 1000)
    (h : ∀ A' n' c' x', CellsAt U.heap.size (ext U x') (.slice A' n' c') (rows ++ [(r, xs)]) → K (a.put o.dst (.slice A' n' c')) (ext U x')) : Oper.wp Tryz.prog o a w K Q := by
  subst hw hH
  have hb1 : Below (ext U x).heap.size (ext U x) ((ext (ext U x) x1).alloc (.cells #[r.v] 65)) := (below_of_ext _ _).alloc (by simp) _
  have hb2 : Below (ext (ext U x) x1).heap.size (ext (ext U x) x1) ((ext (ext U x) x1).alloc (.cells #[r.v] 65)) := (Below.refl _ _).alloc (Nat.le_refl _) _
  have hU : Below U.heap.size U ((ext (ext U x) x1).alloc (.cells #[r.v] 65)) := (below_of_ext U x).trans (hb1.mono (by simp))
  have hl1 := hl.grow hb1
  have hrd : Rd encQ 1 ((ext (ext U x) x1).alloc (.cells #[r.v] 65)) (some ⟨(ext (ext U x) x1).heap.size, 0, none⟩) [(r, xs)] := fun _ => by
    refine ⟨_, 0, rfl, by simp, fun i hi j v hv => ?_⟩
    obtain rfl : i = 0 := by simpa using hi
    match j, hv with
    | 0, hv =>
      simp [encQ] at hv
      subst hv
      rw [cell_in (heap_alloc_new _ _)]
      rfl
  obtain ⟨A', c', x', hrun, hO, hF, hG⟩ := run_append_far2 (P := Tryz.prog) U _ 97 o.type 65 _ 24 Tryz.underlying97 cells_info rfl (by omega) encQ_len encQ_one rows [(r, xs)] _ (some ⟨(ext (ext U x) x1).heap.size, 0, none⟩) 1 hU hl1.own hrd (by simp [maxLen]; omega) (by simp; omega)
  unfold Oper.wp execOp
  simp only [List.length_singleton] at hrun
  simp only [ho, resolve, invoke, builtin, Sem.run_bind, Sem.run_pure, Result.andThen_ok, List.map_toArray, List.map_cons, List.map_nil, hs, hx, hrun]
  have hR := ownQR hl1.own
  have hsn : RowsAt U.heap.size ((ext (ext U x) x1).alloc (.cells #[r.v] 65)) (rows.map Prod.fst ++ [r]) := hl.sep.snoc (by simp) hb1 (hr.below hb2)
  have hkeep : ∀ q : RowD, q.Live U.heap.size ((ext (ext U x) x1).alloc (.cells #[r.v] 65)) → ∀ g off, q.b = some (g, off) → (ext U x').heap[g]? = ((ext (ext U x) x1).alloc (.cells #[r.v] 65)).heap[g]? := fun q hq g off e => by
    refine hG g (hq.lt e) (fun hv => ?_)
    obtain ⟨_, cur, h2, _⟩ := hq.blk g off e
    obtain ⟨cur', h3⟩ := Own.blk (hR.mono (Nat.zero_le _) : Own encR 1 65 0 _ _ _) hv
    rw [h2] at h3
    injection h3 with h3
    injection h3 with _ e _
    exact absurd e (by decide)
  refine h A' _ c' x' ⟨hO, ⟨fun q hq => ?_, ?_⟩, fun q hq => ?_⟩
  · rw [List.map_append] at hq
    have hl := hsn.live q hq
    refine ⟨hl.le, hl.nil, fun g off e => ?_⟩
    obtain ⟨h1, cur, h2, h3⟩ := hl.blk g off e
    exact ⟨h1, cur, (hkeep q hl g off e).trans h2, h3⟩
  · rw [List.map_append]; exact hsn.sep
  · have hl := hsn.live q.1 (by
      rw [show rows.map Prod.fst ++ [r] = (rows ++ [(r, xs)]).map Prod.fst by simp]
      exact List.mem_map.2 ⟨q, hq, rfl⟩)
    have h5 : q.1.n = q.2.length ∧ Rd encC 3 ((ext (ext U x) x1).alloc (.cells #[r.v] 65)) q.1.adr q.2 := by
      rcases List.mem_append.1 hq with hq | hq
      · exact hl1.rd q hq
      · rw [List.mem_singleton.1 hq]
        exact ⟨hn, rd.below hb2⟩
    have hsz := hF.size
    exact ⟨h5.1, h5.2.keep hsz fun b off e => hkeep q.1 hl b off (adr_some e)⟩
end
/-- what Cut answers is a row of its own -/
theorem cutL_row {w w' : World} {e : Ending} {xs : List Cl} {f t : Int} (h : CutL w xs f t e w') (hm : xs.length ≤ 1000000) : ∃ (r : RowD) (x : More), e = .returned (.slice r.adr r.n r.c) ∧ w' = ext w x ∧ r.Live w.heap.size (ext w x) ∧ r.n = (cutR xs f t).length ∧ Rd encC 3 (ext w x) r.adr (cutR xs f t) := by
  have hlen := cutR_len xs f t
  obtain ⟨A, c, x, rfl, hO, h⟩ := h
  have hle := offN_le xs.length f t (by omega)
  have hnil : (⟨none, 0, 0⟩ : RowD).Live w.heap.size (ext w x) := ⟨Nat.le_refl _, fun _ => rfl, fun g off e => by cases e⟩
  rcases h with ⟨hx, rfl⟩ | ⟨g, rfl, rfl⟩
  · have h0 : (cutR xs f t).length = 0 := by omega
    exact ⟨⟨none, 0, 0⟩, x, rfl, rfl, hnil, by rw [h0], fun h => by omega⟩
  · unfold cutW
    by_cases h0 : spanN xs.length f t = 0
    · have h1 : (cutR xs f t).length = 0 := by rw [hlen, h0]; rfl
      rw [if_pos h0]
      exact ⟨⟨none, 0, 0⟩, x, rfl, rfl, hnil, by rw [h1], fun h => by omega⟩
    · rw [if_neg h0]
      have hoff : offN xs.length f t = (spanA f).toNat := by unfold offN; rw [if_neg h0]
      have hcap : xs.length ≤ c := by
        obtain ⟨A0, c0, e0, h1, _⟩ := hO.form
        injection e0 with _ _ e0
        omega
      rw [hoff] at hle
      obtain ⟨r, hv, hn, hl⟩ := row_of_part hO (spanA f).toNat (spanN xs.length f t).toNat (spanN xs.length f t).toNat (by omega) (Nat.le_refl _)
      refine ⟨r, x, by rw [show Value.slice r.adr r.n r.c = r.v from rfl, hv]; simp, rfl, hl, by omega, ?_⟩
      have hadr : r.adr = some ⟨g, (spanA f).toNat * 3, none⟩ := by
        have := hv
        simp only [RowD.v] at this
        injection this with this
        simpa [RowD.adr] using this
      rw [hadr]
      obtain ⟨b, off, e2, hd⟩ := (hO.rd encC_len).drop (k := (spanA f).toNat) (by omega)
      injection e2 with e2
      injection e2 with e2 e3
      subst e2 e3
      have h4 := hd.take (spanN xs.length f t).toNat
      rw [Nat.zero_add] at h4
      unfold cutR
      rw [hoff]
      exact h4
/-- the rows of a box of a page -/
def cellsS (S : PgS) (b : BxI) : List (List Cl) := (List.range (b.b - b.t).toNat).map fun i => cutR (S.rows.getD (b.t.toNat + i) ([], 0)).1 b.l b.r
/-- a call that answers rows of its own -/
def NewCells (w : World) (vals : List (List Cl)) (e : Ending) (w' : World) : Prop := ∃ V rows x, e = .returned V ∧ w' = ext w x ∧ CellsAt w.heap.size (ext w x) V rows ∧ rows.map Prod.snd = vals
end Go.Proofs.YtignkkejkknddaaGreat
/- Pages: Cells.  -/
namespace Go.Proofs.YtignkkejkknddaaGreat
open Go.RowKit
set_option linter.unusedVariables false
set_option linter.unusedSimpArgs false

section
variable {F : Nat → Prop} {p : Nat} {S : PgS} {w : World}
set_option maxRecDepth 100000 in
set_option maxHeartbeats 4000000 in
theorem cells_p (h : PageAt w F p S) (hS : S.Ok) (b : BxI) : Calls Tryz.prog 44 #[.pointer (some ⟨p, 0, none⟩), boxV b.t b.l b.b b.r] w (NewCells w (cellsS S (onB S.rows.length S.cols b))) := by
  have ON := Lib.hid (fun w' (hb : Below w.heap.size w w') => on_p (h.grow hb) b)
  have HB := onB_in S.rows.length S.cols b
  generalize onB S.rows.length S.cols b = y at ON HB ⊢
  obtain ⟨t, l, b', r⟩ := y
  obtain ⟨xt, xl, xb, xr⟩ := b
  obtain ⟨A, n, c, rows, H⟩ := h.op
  obtain ⟨L, rfl⟩ := H.some (by have := hS.r1; omega)
  have c0 := H.c0
  have pl := H.plt
  obtain rfl := H.n
  have hr2 := hS.r2
  have hc2 := hS.c2
  have hrow := Lib.hid (fun (i : Nat) (hi : i < S.rows.length) => H.at2 hi)
  have hwid := Lib.hid (fun (i : Nat) (hi : i < S.rows.length) => hS.wid _ (List.getElem_mem hi))
  simp only at ON HB ⊢
  obtain ⟨m, hm⟩ : ∃ m : Nat, m = (b' - t).toNat := ⟨_, rfl⟩
  have hval : cellsS S ⟨t, l, b', r⟩ = (List.range m).map fun i => cutR (S.rows.getD (t.toNat + i) ([], 0)).1 l r := by
    unfold cellsS
    simp only [← hm]
  rw [hval]
  generalize hvs : (List.range m).map (fun i => cutR (S.rows.getD (t.toNat + i) ([], 0)).1 l r) = vals
  replace hvs := Lib.hid hvs
  clear hval H h hS
  go_enter Tryz.func44, Tryz.ntmps44
  go_wp2_with (go_at_call 92; ((with_reducible refine (ON.out _ (by (repeat' (first | (with_reducible exact Below.refl _ _) | (with_reducible refine Below.alloc ?_ ?_ _) | (with_reducible refine below_ext ?_ ?_ _) | (with_reducible refine Below.drew ?_) | (with_reducible refine below_drewN ?_ _) | (with_reducible refine Below.setCell ?_ ?_ _) | go_size | (simp only [go_sem]; omega) | (simp [go_sem]; done) | (simp [go_sem]; omega))))).mono ?_); rintro _ _ hgets; obtain ⟨rfl, x1, rfl⟩ := hgets.get; clear hgets))
  go_loopw [5, 6] (fun lv iv wr => ∃ (j : Nat) (A' : Option Addr) (n' c' : Nat) (rows' : List (RowD × List Cl)) (x : More), j ≤ m ∧ lv = .slice A' n' c' ∧ iv = .int .i64 (t + j) ∧ wr = ext (w.alloc (.cells #[.int .i64 t, .int .i64 l, .int .i64 b', .int .i64 r] 31)) x ∧
      Hid (CellsAt (w.alloc (.cells #[.int .i64 t, .int .i64 l, .int .i64 b', .int .i64 r] 31)).heap.size (ext (w.alloc (.cells #[.int .i64 t, .int .i64 l, .int .i64 b', .int .i64 r] 31)) x) (.slice A' n' c') rows') ∧ Hid (rows'.map Prod.snd = (List.range j).map fun i => cutR (S.rows.getD (t.toNat + i) ([], 0)).1 l r)) (fun _ iv _ => (b' - intOf iv).toNat)
  case atStart => exact ⟨0, none, 0, 0, [], _, by omega, rfl, by simp, rfl, CellsAt.nil _ _, rfl⟩
  case round =>
    obtain ⟨j, A', n', c', rows', x, hj, rfl, rfl, rfl, hC, hV⟩ := hrel
    by_cases hlt : t + j < b'
    · have hin : t.toNat + j < S.rows.length := by omega
      obtain ⟨g, k, xs, z, e1, e2, hA, h1, h2, d0, d1, _, d3⟩ := hrow.out (t.toNat + j) hin
      have hw := hwid.out (t.toNat + j) hin
      rw [e1] at hw
      simp only at hw
      have ei : t + (j : Int) = ((t.toNat + j : Nat) : Int) := by omega
      have X := Lib.hid hA.rd
      have hx6 : xs.length ≤ 1000000 := by omega
      have CU := Lib.hid (fun w' (h : Rd encC 3 w' (some ⟨g, 0, none⟩) xs) => cut_l (some ⟨g, 0, none⟩) k z xs l r w' h (fun e => by cases e) hx6 (by omega))
      have hval := Lib.hid (show cutR xs l r = cutR (S.rows.getD (t.toNat + j) ([], 0)).1 l r by simp [hin, e1])
      have hlen := Lib.hid (show rows'.length ≤ 1000 by have := congrArg List.length hV.out; simp at this; omega)
      clear hA e1 e2 hw
      generalize hq : t.toNat + j = q at ei hin d0 d1 hval
      replace hq := Lib.hid hq
      rw [ei]
      go_upto_region 6 with fail
      go_region_held3 (fun w' => w'.cell? ⟨p, 0, none⟩ = some (.slice (some ⟨L, 0, none⟩) S.rows.length c) ∧ w'.cell? ⟨w.heap.size, 1, none⟩ = some (.int .i64 l) ∧ w'.cell? ⟨w.heap.size, 3, none⟩ = some (.int .i64 r) ∧ w'.cell? ⟨L, q * 2, none⟩ = some (.slice (some ⟨g, 0, none⟩) xs.length k) ∧ w'.cell? ⟨L, q * 2 + 1, none⟩ = some (.int .i64 z)) ((refine ⟨?_, ?_, ?_, ?_, ?_⟩ <;> simp [go_sem, c0, pl, d0, d1, d3])) ((first
        | (go_at_call 93
           (with_reducible refine (CU.out _ (by repeat (first | exact X.out | exact X | refine Rd.ext ?_ _ | refine Rd.alloc ?_ _ | refine Rd.drew ?_))).mono ?_)
           intro _ _ hp
           obtain ⟨rw1, x3, rfl, rfl, hR, hn1, hrd1⟩ := cutL_row hp hx6
           try simp only [ext_drew] at hR hrd1
           replace hR := Lib.hid hR
           replace hn1 := Lib.hid hn1
           replace hrd1 := Lib.hid hrd1
           clear hp)
        | (refine step_do rfl (cells_app (x := x) (x1 := x3) (.tmp 18) (.tmp 31) rfl rw1 (cutR xs l r) _ rfl rfl hC.out hR.out hn1.out hrd1.out rfl (by simp [go_sem]) hlen.out ?_)
           intro A2 n2 c2 x4 hC2
           replace hC2 := Lib.hid hC2)))
      all_goals go_wp2
      all_goals
        refine ⟨⟨j + 1, A2, n2, c2, _, x4, by omega, rfl, by go_num, rfl, hC2, ?_⟩, by simp [intOf]; omega⟩
        refine Lib.hid ?_
        rw [List.map_append, hV.out, List.range_succ, List.map_append, List.map_singleton, List.map_singleton, hval.out, hq.out]
    · obtain rfl : j = m := by omega
      go_wp2
      go_returns
      obtain ⟨x5, e5⟩ := ext_of (show Below w.heap.size w (ext (w.alloc (.cells #[.int .i64 t, .int .i64 l, .int .i64 b', .int .i64 r] 31)) x) by (repeat' (first | (with_reducible exact Below.refl _ _) | (with_reducible refine Below.alloc ?_ ?_ _) | (with_reducible refine below_ext ?_ ?_ _) | (with_reducible refine Below.drew ?_) | (with_reducible refine below_drewN ?_ _) | (with_reducible refine Below.setCell ?_ ?_ _) | go_size | (simp only [go_sem]; omega) | (simp [go_sem]; done) | (simp [go_sem]; omega))))
      refine ⟨_, rows', x5, rfl, e5, ?_, hV.out.trans (by rw [← hvs.out])⟩
      have h9 := hC.out
      rw [e5] at h9
      exact h9.mono (by simp)
end
end Go.Proofs.YtignkkejkknddaaGreat
/- Pages, plainly: cell by cell changes of a page; what Copy makes of one.  -/
namespace Go.Proofs.YtignkkejkknddaaGreat
open Go.RowKit
set_option linter.unusedVariables false
set_option linter.unusedSimpArgs false

/-- each cell by its place -/
def mapS (S : PgS) (g : Nat → Nat → Cl → Cl) : PgS := ⟨S.rows.mapIdx fun i row => (row.1.mapIdx (g i), row.2), S.cols⟩
section
variable {S T : PgS} {g g' : Nat → Nat → Cl → Cl}
theorem mapS_len : (mapS S g).rows.length = S.rows.length := by simp [mapS]
theorem mapS_at {i : Nat} (h : i < S.rows.length) (h' : i < (mapS S g).rows.length) : (mapS S g).rows[i] = (S.rows[i].1.mapIdx (g i), S.rows[i].2) := by simp [mapS]
theorem mapS_congr (h : ∀ i (hi : i < S.rows.length) k (hk : k < S.rows[i].1.length), g i k S.rows[i].1[k] = g' i k S.rows[i].1[k]) : mapS S g = mapS S g' := by
  unfold mapS
  congr 1
  apply List.ext_getElem (by simp)
  intro i h1 h2
  simp only [List.length_mapIdx] at h1
  simp only [List.getElem_mapIdx]
  congr 1
  apply List.ext_getElem (by simp)
  intro k h3 h4
  simp only [List.length_mapIdx] at h3
  simp only [List.getElem_mapIdx]
  exact h i h1 k h3
theorem mapS_id (h : ∀ i (hi : i < S.rows.length) k (hk : k < S.rows[i].1.length), g i k S.rows[i].1[k] = S.rows[i].1[k]) : mapS S g = S := by
  cases S with | mk rows cols =>
  unfold mapS
  congr 1
  apply List.ext_getElem (by simp)
  intro i h1 h2
  simp only [List.getElem_mapIdx]
  refine Prod.ext ?_ rfl
  apply List.ext_getElem (by simp)
  intro k h3 h4
  simp only [List.getElem_mapIdx]
  exact h i h2 k h4
theorem mapS_row {i0 : Nat} (hi0 : i0 < S.rows.length) (h : ∀ i (hi : i < S.rows.length), i ≠ i0 → ∀ k (hk : k < S.rows[i].1.length), g i k S.rows[i].1[k] = g' i k S.rows[i].1[k]) {v : List Cl × Int} (hv : v = (S.rows[i0].1.mapIdx (g' i0), S.rows[i0].2)) : mapS S g' = setRowS (mapS S g) i0 v := by
  subst hv
  unfold mapS setRowS
  congr 1
  apply List.ext_getElem (by simp)
  intro i h1 h2
  simp only [List.length_mapIdx] at h1
  rw [List.getElem_set]
  simp only [List.getElem_mapIdx]
  by_cases e : i0 = i
  · subst e; rw [if_pos rfl]
  · rw [if_neg e]
    refine Prod.ext ?_ rfl
    apply List.ext_getElem (by simp)
    intro k h3 h4
    simp only [List.length_mapIdx] at h3
    simp only [List.getElem_mapIdx]
    exact (h i h1 (fun e' => e e'.symm) k h3).symm
theorem mapS_ok (h : S.Ok) (hg : ∀ i (hi : i < S.rows.length) k (hk : k < S.rows[i].1.length), (g i k S.rows[i].1[k]).ok) : (mapS S g).Ok := by
  refine ⟨by rw [mapS_len]; exact h.r1, by rw [mapS_len]; exact h.r2, h.c1, h.c2, fun r hr => ?_, fun r hr y hy => ?_⟩
  · obtain ⟨i, hi, rfl⟩ := List.getElem_of_mem hr
    have hi' := hi
    rw [mapS_len] at hi'
    rw [mapS_at hi', List.length_mapIdx]
    exact h.wid _ (List.getElem_mem hi')
  · obtain ⟨i, hi, rfl⟩ := List.getElem_of_mem hr
    have hi' := hi
    rw [mapS_len] at hi'
    rw [mapS_at hi'] at hy
    obtain ⟨k, hk, rfl⟩ := List.getElem_of_mem hy
    simp only [List.length_mapIdx] at hk
    simp only [List.getElem_mapIdx]
    exact hg i hi' k hk
theorem PgS.Ok.get (h : S.Ok) {i : Nat} (hi : i < S.rows.length) {k : Nat} (hk : k < S.rows[i].1.length) : S.rows[i].1[k].ok := h.ok _ (List.getElem_mem hi) _ (List.getElem_mem hk)
theorem PgS.Ok.len (h : S.Ok) {i : Nat} (hi : i < S.rows.length) : S.rows[i].1.length = S.cols := h.wid _ (List.getElem_mem hi)
end
/-- a cell of a page; nothing where there is none -/
def cellAt (T : PgS) (i k : Nat) : Cl := (T.rows.getD i ([], 0)).1.getD k noC
theorem cellAt_in {T : PgS} {i k : Nat} (h : i < T.rows.length) (hk : k < T.rows[i].1.length) : cellAt T i k = T.rows[i].1[k] := by simp [cellAt, h, hk]
theorem noC_ok : noC.ok := by simp [noC, Cl.ok]
theorem cellAt_ok {T : PgS} (h : T.Ok) (i k : Nat) : (cellAt T i k).ok := by
  by_cases h1 : i < T.rows.length
  · by_cases h2 : k < T.rows[i].1.length
    · rw [cellAt_in h1 h2]; exact h.get h1 h2
    · simp [cellAt, h1, h2, noC_ok]
  · simp [cellAt, h1, noC_ok]
/-- what is copied to a place: the first j rows of a box, from a place on -/
def pasteG (T : PgS) (b : BxI) (r c : Int) (j : Nat) (i k : Nat) (y : Cl) : Cl := if r ≤ i ∧ (i : Int) < r + j ∧ c ≤ k ∧ b.l + (k - c) < b.r then cellAt T (b.t + (i - r)).toNat (b.l + (k - c)).toNat else y
def pasteJ (S T : PgS) (b : BxI) (r c : Int) (j : Nat) : PgS := mapS S (pasteG T b r c j)
def pasteS (S T : PgS) (b : BxI) (r c : Int) : PgS := pasteJ S T b r c (b.b - b.t).toNat
section
variable {S T : PgS} {b : BxI} {r c : Int} {j : Nat}
theorem pasteJ_zero : pasteJ S T b r c 0 = S := mapS_id fun i hi k hk => if_neg (by omega)
theorem pasteJ_no (h : r + j < 0 ∨ (S.rows.length : Int) ≤ r + j) : pasteJ S T b r c (j + 1) = pasteJ S T b r c j := mapS_congr fun i hi k hk => by
  unfold pasteG
  congr 1
  simp only [Int.natCast_add, eq_iff_iff]
  omega
theorem pasteJ_right (hS : S.Ok) (h : (S.cols : Int) < c) : pasteJ S T b r c (j + 1) = pasteJ S T b r c j := mapS_congr fun i hi k hk => by
  rw [hS.len hi] at hk
  unfold pasteG
  rw [if_neg (by omega), if_neg (by omega)]
theorem pasteJ_left (h : c ≤ -(b.r - b.l)) : pasteJ S T b r c (j + 1) = pasteJ S T b r c j := mapS_congr fun i hi k hk => by
  unfold pasteG
  rw [if_neg (by omega), if_neg (by omega)]
theorem pasteJ_step (hS : S.Ok) (hT : T.Ok) (hl : 0 ≤ b.l) (hlr : b.l < b.r) (hr : b.r ≤ T.cols) (ht : 0 ≤ b.t) (hj : b.t.toNat + j < T.rows.length) (i0 : Nat) (hi : r + j = i0) (hi0 : i0 < S.rows.length) (hc : c ≤ S.cols) (cs : List Cl) (hcs : cs = cutR (T.rows.getD (b.t.toNat + j) ([], 0)).1 b.l b.r) (f : Int) (hf : f = max 0 c) (d : Nat) (hd : d = (-c).toNat) :
    pasteJ S T b r c (j + 1) = setRowS (pasteJ S T b r c j) i0 (layR S.rows[i0].1 f S.cols (cs.drop d), S.rows[i0].2) := by
  refine mapS_row hi0 (fun i hi' hne k hk => ?_) (Prod.ext ?_ rfl)
  · unfold pasteG
    congr 1
    simp only [Int.natCast_add, eq_iff_iff]
    omega
  · simp only
    have hTl := hT.len hj
    have hlen : cs.length = (b.r - b.l).toNat := by
      rw [hcs, cutR_len]
      simp only [hj, List.getD_eq_getElem?_getD, List.getElem?_eq_getElem, Option.getD_some, hTl]
      unfold spanN
      omega
    have hw := hS.len hi0
    have hspan : spanN S.rows[i0].1.length f S.cols = S.cols - f := by rw [hw]; unfold spanN; omega
    apply List.ext_getElem?
    intro k
    unfold layR
    rw [layOn_get _ _ _ _ (by
      have := offN_le S.rows[i0].1.length f S.cols (by omega)
      rw [List.length_take]; omega), List.length_take, List.length_drop, hspan, hlen, List.getElem?_mapIdx]
    rcases Nat.lt_or_ge k S.cols with hk | hk
    · rw [List.getElem?_eq_getElem (l := S.rows[i0].1) (i := k) (by omega)]
      simp only [Option.map_some]
      by_cases hin : f ≤ k ∧ b.l + (k - c) < b.r
      · have hoff : offN S.rows[i0].1.length f S.cols = f.toNat := by
          unfold offN
          rw [hspan, if_neg (by omega)]
          unfold spanA
          omega
        rw [hoff, if_pos (by omega), List.getElem?_take, if_pos (by omega), List.getElem?_drop]
        unfold pasteG
        rw [if_pos (by omega)]
        subst hcs
        have e0 : offN T.rows[b.t.toNat + j].1.length b.l b.r = b.l.toNat := by
          unfold offN
          rw [hTl, if_neg (by unfold spanN; omega)]
          unfold spanA
          omega
        unfold cutR
        simp only [hj, List.getD_eq_getElem?_getD, List.getElem?_eq_getElem, Option.getD_some]
        rw [e0, hTl, List.getElem?_take, if_pos (by unfold spanN; omega), List.getElem?_drop]
        have e1 : (b.t + ((i0 : Int) - r)).toNat = b.t.toNat + j := by omega
        have e2 : (b.l + ((k : Int) - c)).toNat = b.l.toNat + (d + (k - f.toNat)) := by omega
        have e3 : b.l.toNat + (d + (k - f.toNat)) < T.rows[b.t.toNat + j].1.length := by omega
        rw [e1, e2, cellAt_in hj e3, List.getElem?_eq_getElem e3]
      · have hno : ¬ (offN S.rows[i0].1.length f S.cols ≤ k ∧ k < offN S.rows[i0].1.length f S.cols + min (S.cols - f).toNat ((b.r - b.l).toNat - d)) := by
          rcases Int.lt_or_le f S.cols with h5 | h5
          · have hoff : offN S.rows[i0].1.length f S.cols = f.toNat := by
              unfold offN
              rw [hspan, if_neg (by omega)]
              unfold spanA
              omega
            rw [hoff]
            omega
          · omega
        rw [if_neg hno]
        unfold pasteG
        rw [if_neg (by omega)]
    · rw [if_neg (by
        have := offN_le S.rows[i0].1.length f S.cols (by omega)
        rw [hspan, hw] at this
        rw [hw]
        omega), List.getElem?_eq_none (l := S.rows[i0].1) (by omega)]
      rfl
theorem pasteJ_len : (pasteJ S T b r c j).rows.length = S.rows.length := mapS_len
theorem pasteJ_ok (hS : S.Ok) (hT : T.Ok) : (pasteJ S T b r c j).Ok := mapS_ok hS fun i hi k hk => by
  unfold pasteG
  split
  · exact cellAt_ok hT _ _
  · exact hS.get hi hk
/-- the row that comes next is still as it was -/
theorem pasteJ_at {i0 : Nat} (hi : r + j = i0) (hi0 : i0 < S.rows.length) (h' : i0 < (pasteJ S T b r c j).rows.length) : (pasteJ S T b r c j).rows[i0] = S.rows[i0] := by
  unfold pasteJ at h' ⊢
  rw [mapS_at hi0]
  refine Prod.ext ?_ rfl
  apply List.ext_getElem (by simp)
  intro k h3 h4
  simp only [List.getElem_mapIdx]
  unfold pasteG
  rw [if_neg (by omega)]
end
theorem onB_twice (m n : Nat) (x : BxI) : onB m n (onB m n x) = onB m n x := by
  have h := onB_in m n x
  generalize onB m n x = y at h ⊢
  obtain ⟨t, l, b, r⟩ := y
  simp only at h
  unfold onB meetI
  simp only [BxI.mk.injEq]
  split <;> omega
theorem Did.back {F : Nat → Prop} {p : Nat} {T : PgS} {w a b : World} (h : Did F p T a b) (hb : Below w.heap.size w a) (hF : ∀ x, F x → x < w.heap.size) : Did F p T w b := by
  have h1 := hb.size
  have h2 := h.1.size
  refine ⟨(Keep.of_below (F := F) hb).trans h.1 (fun x hx => .inl hx), h.2.mono (fun x hx => hx.elim .inl (fun e => .inr ⟨by omega, e.2⟩)) (fun x hx => ?_)⟩
  rcases hx with hx | hx
  · have := hF x hx
    omega
  · exact hx.2
end Go.Proofs.YtignkkejkknddaaGreat
/- Pages, plainly: rows of a box changed one by one.  -/
namespace Go.Proofs.YtignkkejkknddaaGreat
open Go.RowKit
set_option linter.unusedVariables false
set_option linter.unusedSimpArgs false

/-- j rows from t on are changed by f -/
def rowsJ (S : PgS) (t : Nat) (f : Nat → List Cl × Int → List Cl × Int) (j : Nat) : PgS := ⟨S.rows.mapIdx fun i row => if t ≤ i ∧ i < t + j then f i row else row, S.cols⟩
section
variable {S : PgS} {t j : Nat} {f g : Nat → List Cl × Int → List Cl × Int}
@[simp] theorem rowsJ_cols : (rowsJ S t f j).cols = S.cols := rfl
@[simp] theorem rowsJ_len : (rowsJ S t f j).rows.length = S.rows.length := by simp [rowsJ]
theorem rowsJ_get {i : Nat} (h : i < S.rows.length) (h' : i < (rowsJ S t f j).rows.length) : (rowsJ S t f j).rows[i] = if t ≤ i ∧ i < t + j then f i S.rows[i] else S.rows[i] := by simp [rowsJ]
theorem rowsJ_zero : rowsJ S t f 0 = S := by
  cases S with | mk rows cols =>
  unfold rowsJ
  congr 1
  apply List.ext_getElem (by simp)
  intro i h1 h2
  simp only [List.getElem_mapIdx]
  rw [if_neg (by omega)]
theorem rowsJ_at {i : Nat} (hi : t + j = i) (h : i < S.rows.length) (h' : i < (rowsJ S t f j).rows.length) : (rowsJ S t f j).rows[i] = S.rows[i] := by
  rw [rowsJ_get h, if_neg (by omega)]
theorem rowsJ_step {i : Nat} (hi : t + j = i) (h : i < S.rows.length) : rowsJ S t f (j + 1) = setRowS (rowsJ S t f j) i (f i S.rows[i]) := by
  unfold rowsJ setRowS
  congr 1
  apply List.ext_getElem (by simp)
  intro k h1 h2
  simp only [List.length_mapIdx] at h1
  rw [List.getElem_set]
  simp only [List.getElem_mapIdx]
  by_cases e : i = k
  · subst e; rw [if_pos rfl, if_pos (by omega)]
  · rw [if_neg e]
    by_cases h3 : t ≤ k ∧ k < t + j
    · rw [if_pos h3, if_pos (by omega)]
    · rw [if_neg h3, if_neg (by omega)]
theorem rowsJ_ok (hS : S.Ok) (hl : ∀ i (hi : i < S.rows.length), (f i S.rows[i]).1.length = S.cols) (hc : ∀ i (hi : i < S.rows.length), ∀ y ∈ (f i S.rows[i]).1, y.ok) : (rowsJ S t f j).Ok := by
  refine ⟨by rw [rowsJ_len]; exact hS.r1, by rw [rowsJ_len]; exact hS.r2, hS.c1, hS.c2, fun r hr => ?_, fun r hr y hy => ?_⟩
  · obtain ⟨i, hi, rfl⟩ := List.getElem_of_mem hr
    have hi' := hi
    rw [rowsJ_len] at hi'
    rw [rowsJ_get hi']
    split
    · exact hl i hi'
    · exact hS.len hi'
  · obtain ⟨i, hi, rfl⟩ := List.getElem_of_mem hr
    have hi' := hi
    rw [rowsJ_len] at hi'
    rw [rowsJ_get hi'] at hy
    split at hy
    · exact hc i hi' y hy
    · exact hS.ok _ (List.getElem_mem hi') y hy
end
/-- a deed on the span of every row of a box -/
def eachS (S : PgS) (b : BxI) (f : List Cl → Int → Int → List Cl) : PgS := rowsJ S b.t.toNat (fun _ row => (f row.1 b.l b.r, row.2)) (b.b - b.t).toNat
theorem eachS_ok {S : PgS} (hS : S.Ok) (b : BxI) {f : List Cl → Int → Int → List Cl} (hl : ∀ xs l r, (f xs l r).length = xs.length) (hc : ∀ xs l r, (∀ y ∈ xs, y.ok) → ∀ y ∈ f xs l r, y.ok) : (eachS S b f).Ok :=
  rowsJ_ok hS (fun i hi => by rw [hl]; exact hS.len hi) (fun i hi y hy => hc _ _ _ (hS.ok _ (List.getElem_mem hi)) y hy)
end Go.Proofs.YtignkkejkknddaaGreat
