/- A book in memory: its pages, each in blocks of its own; what stores and calls do to it.  -/
import Derived.Test.YtignkkejkknddaaGreatPgE
import Derived.Test.YtignkkejkknddaaGreatRowsApp
namespace Go.Proofs.YtignkkejkknddaaGreat
open Go.RowKit
set_option linter.unusedVariables false
set_option linter.unusedSimpArgs false

/-- a book, as plain data: its pages, the status line, where one looks -/
structure BkS where
  pages : List PgS
  status : PgS
  now : Nat
  below : Bool
def BkS.all (S : BkS) : List PgS := S.pages ++ [S.status]
/-- what is true of every book that was made -/
structure BkS.Ok (S : BkS) : Prop where
  p1 : 1 ≤ S.pages.length
  p2 : S.pages.length ≤ 16
  nw : S.now < S.pages.length
  pg : ∀ P ∈ S.pages, P.Ok
  st : S.status.Ok
/-- a page of a book: where it lies, its blocks -/
structure PgR where
  p : Nat
  F : Nat → Prop
def PgR.v (r : PgR) : Value := .pointer (some ⟨r.p, 0, none⟩)
def encP (r : PgR) : List Value := [r.v]
theorem encP_len (r : PgR) : (encP r).length = 1 := rfl
theorem encP_one (r : PgR) : ∀ u ∈ encP r, u.oneCell' = true := by
  intro u hu
  simp only [encP, List.mem_singleton] at hu
  subst hu
  rfl
theorem ptr_info : (Tryz.prog.info? 56).map (fun i => (i.zero, i.size, i.bytes)) = some (some (.pointer none), 1, 8) := by kernel_rfl
/-- another page: the i-th one, or, behind the last one, the status line -/
def BkS.set (S : BkS) (i : Nat) (P : PgS) : BkS := if i < S.pages.length then ⟨S.pages.set i P, S.status, S.now, S.below⟩ else ⟨S.pages, P, S.now, S.below⟩
theorem BkS.all_len (S : BkS) : S.all.length = S.pages.length + 1 := by simp [BkS.all]
theorem BkS.set_all (S : BkS) (i : Nat) (P : PgS) (h : i ≤ S.pages.length) : (S.set i P).all = S.all.set i P := by
  unfold BkS.set BkS.all
  split
  · rename_i h1
    rw [List.set_append_left _ _ h1]
  · obtain rfl : i = S.pages.length := by omega
    rw [List.set_append_right _ _ (Nat.le_refl _)]
    simp
theorem BkS.set_len (S : BkS) (i : Nat) (P : PgS) : (S.set i P).pages.length = S.pages.length := by
  unfold BkS.set; split <;> simp
theorem BkS.set_now (S : BkS) (i : Nat) (P : PgS) : (S.set i P).now = S.now := by unfold BkS.set; split <;> rfl
theorem BkS.set_below (S : BkS) (i : Nat) (P : PgS) : (S.set i P).below = S.below := by unfold BkS.set; split <;> rfl
theorem BkS.Ok.set {S : BkS} (h : S.Ok) (i : Nat) {P : PgS} (hP : P.Ok) : (S.set i P).Ok := by
  unfold BkS.set
  split
  · refine ⟨by simpa using h.p1, by simpa using h.p2, by simpa using h.nw, fun Q hQ => ?_, h.st⟩
    rcases List.mem_or_eq_of_mem_set hQ with hQ | rfl
    · exact h.pg Q hQ
    · exact hP
  · exact ⟨h.p1, h.p2, h.nw, h.pg, hP⟩
/-- a book of the program, opened: its block b; all its blocks lie in F -/
structure BkO (w : World) (F : Nat → Prop) (b : Nat) (S : BkS) (V : Value) (ps : List PgR) (st : PgR) : Prop where
  blk : w.heap[b]? = some (.cells #[V, .pointer (some ⟨st.p, 0, none⟩), .int .i64 S.now, .bool S.below] 110 (0, 0))
  own : Own encP 1 56 0 w V ps
  len : ps.length = S.pages.length
  pg : ∀ (i : Nat) (r : PgR) (P : PgS), (ps ++ [st])[i]? = some r → S.all[i]? = some P → PageAt w r.F r.p P
  sep : ∀ (i j : Nat) (r s : PgR), (ps ++ [st])[i]? = some r → (ps ++ [st])[j]? = some s → i ≠ j → ∀ x, r.F x → ¬ s.F x
  inF : ∀ r ∈ ps ++ [st], ∀ x, r.F x → F x
  offb : ∀ r ∈ ps ++ [st], ¬ r.F b
  offV : ∀ r ∈ ps ++ [st], ∀ x, V.ownBlock = some x → ¬ r.F x
  self : F b
  list : ∀ x, V.ownBlock = some x → F x
  lt : ∀ x, F x → x < w.heap.size
def BkAt (w : World) (F : Nat → Prop) (b : Nat) (S : BkS) : Prop := ∃ V ps st, BkO w F b S V ps st
/-- a call has made S of the book b -/
def BDid (F : Nat → Prop) (b : Nat) (S : BkS) (w w' : World) : Prop := Keep F w w' ∧ BkAt w' (more F w w') b S
/-- the same, and its list lies where it lay -/
def BDV (F : Nat → Prop) (b : Nat) (S : BkS) (V : Value) (w w' : World) : Prop := Keep F w w' ∧ ∃ ps st, BkO w' (more F w w') b S V ps st
theorem BDV.did {F : Nat → Prop} {b : Nat} {S : BkS} {V : Value} {w w' : World} (h : BDV F b S V w w') : BDid F b S w w' := ⟨h.1, V, h.2⟩
section
variable {w w' : World} {F G : Nat → Prop} {b i j : Nat} {S T : BkS} {V : Value} {ps : List PgR} {st r : PgR} {P : PgS}
theorem BkO.keep (h : BkO w F b S V ps st) (hk : Keep G w w') (hd : ∀ x, F x → ¬ G x) : BkO w' F b S V ps st :=
  ⟨(hk.block b (h.lt b h.self) (hd b h.self)).trans h.blk, h.own.keep (fun x hx => hk.block x (h.lt x (h.list x hx)) (hd x (h.list x hx))), h.len,
    fun i r P hr hP => (h.pg i r P hr hP).keep hk (fun x hx => hd x (h.inF r (List.mem_of_getElem? hr) x hx)), h.sep, h.inF, h.offb, h.offV, h.self, h.list, fun x hx => Nat.lt_of_lt_of_le (h.lt x hx) hk.size⟩
theorem BkO.grow (h : BkO w F b S V ps st) (hb : Below w.heap.size w w') : BkO w' F b S V ps st := h.keep (G := fun _ => False) (Keep.of_below hb) (fun _ _ h => h)
theorem BkO.mono (h : BkO w F b S V ps st) (hF : ∀ x, F x → G x) (hG : ∀ x, G x → x < w.heap.size) : BkO w G b S V ps st :=
  ⟨h.blk, h.own, h.len, h.pg, h.sep, fun r hr x hx => hF x (h.inF r hr x hx), h.offb, h.offV, hF b h.self, fun x hx => hF x (h.list x hx), hG⟩
theorem BkAt.keep (h : BkAt w F b S) (hk : Keep G w w') (hd : ∀ x, F x → ¬ G x) : BkAt w' F b S := by
  obtain ⟨V, ps, st, h⟩ := h
  exact ⟨V, ps, st, h.keep hk hd⟩
theorem BkAt.grow (h : BkAt w F b S) (hb : Below w.heap.size w w') : BkAt w' F b S := by
  obtain ⟨V, ps, st, h⟩ := h
  exact ⟨V, ps, st, h.grow hb⟩
theorem BkAt.mono (h : BkAt w F b S) (hF : ∀ x, F x → G x) (hG : ∀ x, G x → x < w.heap.size) : BkAt w G b S := by
  obtain ⟨V, ps, st, h⟩ := h
  exact ⟨V, ps, st, h.mono hF hG⟩
theorem BkAt.lt (h : BkAt w F b S) : ∀ x, F x → x < w.heap.size := by
  obtain ⟨V, ps, st, h⟩ := h
  exact h.lt
theorem BkO.all_len (h : BkO w F b S V ps st) : (ps ++ [st]).length = S.all.length := by simp [BkS.all, h.len]
theorem BkO.c0 (h : BkO w F b S V ps st) : w.cell? ⟨b, 0, none⟩ = some V := by rw [cell_in h.blk]; rfl
theorem BkO.c1 (h : BkO w F b S V ps st) : w.cell? ⟨b, 1, none⟩ = some (.pointer (some ⟨st.p, 0, none⟩)) := by rw [cell_in h.blk]; rfl
theorem BkO.c2 (h : BkO w F b S V ps st) : w.cell? ⟨b, 2, none⟩ = some (.int .i64 S.now) := by rw [cell_in h.blk]; rfl
theorem BkO.c3 (h : BkO w F b S V ps st) : w.cell? ⟨b, 3, none⟩ = some (.bool S.below) := by rw [cell_in h.blk]; rfl
theorem BkO.fz (h : BkO w F b S V ps st) (q : Nat) : w.frozen? ⟨b, q, none⟩ = false := frozen_in h.blk
theorem BkO.plt (h : BkO w F b S V ps st) : b < w.heap.size := heap_in h.blk
theorem BkO.form (h : BkO w F b S V ps st) : ∃ A c, V = .slice A S.pages.length c ∧ S.pages.length ≤ c ∧ c ≤ maxLen := by
  have := h.own.form
  rwa [h.len] at this
theorem BkO.form1 (h : BkO w F b S V ps st) (h0 : 0 < S.pages.length) : ∃ L c, V = .slice (some ⟨L, 0, none⟩) S.pages.length c ∧ S.pages.length ≤ c ∧ c ≤ maxLen := by
  have := h.own.some_of (by rw [h.len]; exact h0)
  rwa [h.len] at this
theorem BkO.stat (h : BkO w F b S V ps st) : PageAt w st.F st.p S.status := h.pg ps.length st S.status (by simp) (by rw [h.len]; simp [BkS.all])
theorem BkO.get (h : BkO w F b S V ps st) (hi : i < S.pages.length) : ∃ r, ps[i]? = some r ∧ (ps ++ [st])[i]? = some r ∧ PageAt w r.F r.p S.pages[i] := by
  have h1 : i < ps.length := by rw [h.len]; exact hi
  have h2 : (ps ++ [st])[i]? = some ps[i] := by rw [List.getElem?_append_left h1, List.getElem?_eq_getElem h1]
  exact ⟨ps[i], List.getElem?_eq_getElem h1, h2, h.pg i _ _ h2 (by unfold BkS.all; rw [List.getElem?_append_left hi, List.getElem?_eq_getElem hi])⟩
theorem BkO.cell {L n c : Nat} (h : BkO w F b S (.slice (some ⟨L, 0, none⟩) n c) ps st) (hr : ps[i]? = some r) : w.cell? ⟨L, i, none⟩ = some r.v ∧ (∀ q, w.frozen? ⟨L, q, none⟩ = false) ∧ L < w.heap.size := by
  obtain ⟨hlt, hr'⟩ := List.getElem?_eq_some_iff.1 hr
  obtain ⟨cur, hc⟩ := Own.blk h.own rfl
  have hd := h.own.cells (g := L) rfl (i * 1 + 0) r.v (by
    rw [flat_get encP_len ps i hlt 0 (by omega), hr']
    rfl)
  rw [addr_add] at hd
  exact ⟨by simpa using hd, fun q => frozen_in hc, heap_in hc⟩
theorem BkO.listNe {x : Nat} (h : BkO w F b S V ps st) (hx : V.ownBlock = some x) : x ≠ b := by
  rintro rfl
  obtain ⟨c1, h1⟩ := Own.blk h.own hx
  rw [h.blk] at h1
  injection h1 with h1
  injection h1 with _ e _
  exact absurd e (by decide)
/-- other numbers in the book's own block -/
theorem BkO.put {now : Nat} {bl : Bool} (h : BkO w F b S V ps st) (hb : w'.heap[b]? = some (.cells #[V, .pointer (some ⟨st.p, 0, none⟩), .int .i64 now, .bool bl] 110 (0, 0))) (hk : Keep (· = b) w w') : BkO w' F b ⟨S.pages, S.status, now, bl⟩ V ps st :=
  ⟨hb, h.own.keep (fun x hx => hk.block x (h.lt x (h.list x hx)) (h.listNe hx)), h.len,
    fun i r P hr hP => (h.pg i r P hr hP).keep hk (fun x hx e => h.offb r (List.mem_of_getElem? hr) (e ▸ hx)), h.sep, h.inF, h.offb, h.offV, h.self, h.list, fun x hx => Nat.lt_of_lt_of_le (h.lt x hx) hk.size⟩
theorem set_cell4 {v0 v1 v2 v3 : Value} {t : TypeId} (k : Nat) (v : Value) (h : w.heap[b]? = some (.cells #[v0, v1, v2, v3] t (0, 0))) : (w.setCell ⟨b, k, none⟩ v).heap[b]? = some (.cells (#[v0, v1, v2, v3].setIfInBounds k v) t (0, 0)) := by
  simp [World.setCell, Array.getElem?_modify, h]
theorem keep_set (w : World) (b k : Nat) (v : Value) : Keep (· = b) w (w.setCell ⟨b, k, none⟩ v) := Keep.set (F := (· = b)) (p := ⟨b, k, none⟩) (Keep.refl _ w) (.inl rfl) v
/-- a page of a book has become another one, or was put into another one's place -/
theorem BkO.change {p' : PgR} (h : BkO w F b S V ps st) (hr : (ps ++ [st])[i]? = some r) (hk : Keep G w w') (hG : ∀ x, G x → x = b ∨ V.ownBlock = some x ∨ r.F x) (hP : PageAt w' p'.F p'.p P) (hF : ∀ x, p'.F x → r.F x ∨ w.heap.size ≤ x)
    (hb : w'.heap[b]? = some (.cells #[V, .pointer (some ⟨((ps ++ [st]).set i p').getLastD st |>.p, 0, none⟩), .int .i64 S.now, .bool S.below] 110 (0, 0)))
    (hV : Own encP 1 56 0 w' V ((ps ++ [st]).set i p').dropLast) :
    ∃ ps' st', BkO w' (more F w w') b (S.set i P) V ps' st' := by
  have hi : i < (ps ++ [st]).length := (List.getElem?_eq_some_iff.1 hr).1
  have hi' : i ≤ S.pages.length := by have := h.len; simp at hi; omega
  obtain ⟨qs, q, hq⟩ : ∃ qs q, (ps ++ [st]).set i p' = qs ++ [q] := by
    have hne : (ps ++ [st]).set i p' ≠ [] := by intro e; have := congrArg List.length e; simp at this
    exact ⟨_, _, (List.dropLast_concat_getLast hne).symm⟩
  have e1 : ((ps ++ [st]).set i p').getLastD st = q := by rw [hq]; simp [List.getLastD_eq_getLast?]
  have e2 : ((ps ++ [st]).set i p').dropLast = qs := by rw [hq]; simp
  rw [e1] at hb
  rw [e2] at hV
  have hmem : ∀ s, s ∈ qs ++ [q] → s = p' ∨ s ∈ ps ++ [st] := fun s hs => by
    rw [← hq] at hs
    exact (List.mem_or_eq_of_mem_set hs).symm
  have hget : ∀ k s, (qs ++ [q])[k]? = some s → (k = i ∧ s = p') ∨ (k ≠ i ∧ (ps ++ [st])[k]? = some s) := fun k s hs => by
    rw [← hq, List.getElem?_set] at hs
    by_cases e : i = k
    · rw [if_pos e, if_pos hi] at hs
      injection hs with hs
      exact .inl ⟨e.symm, hs.symm⟩
    · rw [if_neg e] at hs
      exact .inr ⟨fun e' => e e'.symm, hs⟩
  have hrm := List.mem_of_getElem? hr
  have hlt : ∀ s ∈ ps ++ [st], ∀ x, s.F x → x < w.heap.size := fun s hs x hx => h.lt x (h.inF s hs x hx)
  refine ⟨qs, q, ?_, hV, ?_, fun k s Q hs hQ => ?_, fun k m s t hs ht hkm x hx hx' => ?_, fun s hs x hx => ?_, fun s hs hx => ?_, fun s hs x hv hx => ?_, .inl h.self, fun x hx => .inl (h.list x hx), fun x hx => ?_⟩
  · rw [BkS.set_now, BkS.set_below]; exact hb
  · rw [BkS.set_len, ← h.len]
    have := congrArg List.length hq
    simp at this
    omega
  · rw [BkS.set_all _ _ _ hi', List.getElem?_set] at hQ
    rcases hget k s hs with ⟨rfl, rfl⟩ | ⟨hne, hs'⟩
    · rw [if_pos rfl, if_pos (by rw [BkS.all_len]; omega)] at hQ
      injection hQ with hQ
      subst hQ
      exact hP
    · rw [if_neg (fun e => hne e.symm)] at hQ
      refine (h.pg k s Q hs' hQ).keep hk (fun x hx g => ?_)
      have hsm := List.mem_of_getElem? hs'
      rcases hG x g with rfl | hv | hr'
      · exact h.offb s hsm hx
      · exact h.offV s hsm x hv hx
      · exact h.sep k i s r hs' hr hne x hx hr'
  · rcases hget k s hs with ⟨rfl, rfl⟩ | ⟨hk1, hs'⟩ <;> rcases hget m t ht with ⟨rfl, rfl⟩ | ⟨hm1, ht'⟩
    · exact hkm rfl
    · rcases hF x hx with hx | hx
      · exact h.sep _ _ _ _ hr ht' hkm x hx hx'
      · have := hlt t (List.mem_of_getElem? ht') x hx'; omega
    · rcases hF x hx' with hx' | hx'
      · exact h.sep _ _ _ _ hs' hr hkm x hx hx'
      · have := hlt s (List.mem_of_getElem? hs') x hx; omega
    · exact h.sep _ _ _ _ hs' ht' hkm x hx hx'
  · rcases hmem s hs with rfl | hs
    · rcases hF x hx with hx' | hx'
      · exact .inl (h.inF r hrm x hx')
      · exact .inr ⟨hx', hP.lt x hx⟩
    · exact .inl (h.inF s hs x hx)
  · rcases hmem s hs with rfl | hs
    · rcases hF b hx with hx | hx
      · exact h.offb r hrm hx
      · have := h.plt; omega
    · exact h.offb s hs hx
  · rcases hmem s hs with rfl | hs
    · rcases hF x hx with hx | hx
      · exact h.offV r hrm x hv hx
      · have := h.lt x (h.list x hv); omega
    · exact h.offV s hs x hv hx
  · rcases hx with hx | hx
    · exact Nat.lt_of_lt_of_le (h.lt x hx) hk.size
    · exact hx.2
/-- lists that lie at the same places -/
theorem encP_same {ps qs : List PgR} (h : ps.map PgR.p = qs.map PgR.p) : ps.flatMap encP = qs.flatMap encP ∧ ps.length = qs.length := by
  have h2 : ps.length = qs.length := by have := congrArg List.length h; simpa using this
  refine ⟨?_, h2⟩
  have e : ∀ l : List PgR, l.flatMap encP = (l.map PgR.p).map (fun p => (.pointer (some ⟨p, 0, none⟩) : Value)) := fun l => by
    induction l with
    | nil => rfl
    | cons a l ih => simp [encP, PgR.v, ih]
  rw [e, e, h]
theorem ownP_same {ps qs : List PgR} {B : Nat} (h : Own encP 1 56 B w V ps) (e : ps.map PgR.p = qs.map PgR.p) : Own encP 1 56 B w V qs := by
  obtain ⟨e1, e2⟩ := encP_same e
  unfold Own at h ⊢
  rwa [e1, e2] at h
/-- a call has made P of the i-th page (behind the last: of the status line) -/
theorem BkO.act (h : BkO w F b S V ps st) (hr : (ps ++ [st])[i]? = some r) (hD : Did r.F r.p P w w') : BDV F b (S.set i P) V w w' := by
  have hrm := List.mem_of_getElem? hr
  have hi : i < (ps ++ [st]).length := (List.getElem?_eq_some_iff.1 hr).1
  have hmap : ((ps ++ [st]).set i (⟨r.p, more r.F w w'⟩ : PgR)).map PgR.p = (ps ++ [st]).map PgR.p := by
    rw [List.map_set]
    exact set_id (by rw [List.getElem?_map, hr]; rfl)
  refine ⟨hD.1.mono (fun x hx => h.inF r hrm x hx), ?_⟩
  refine (h.change (p' := ⟨r.p, more r.F w w'⟩) hr hD.1 (fun x hx => .inr (.inr hx)) hD.2 (fun x hx => hx.elim .inl (fun e => .inr e.1)) ?_ ?_).elim fun ps' ⟨st', h'⟩ => ⟨ps', st', h'⟩
  · have e : (((ps ++ [st]).set i (⟨r.p, more r.F w w'⟩ : PgR)).getLastD st).p = st.p := by
      have h1 := congrArg List.getLast? hmap
      rw [List.getLast?_map, List.getLast?_map] at h1
      rw [List.getLastD_eq_getLast?]
      simp only [List.getLast?_append, List.getLast?_singleton, Option.some_or, Option.map_some] at h1
      cases hl : ((ps ++ [st]).set i (⟨r.p, more r.F w w'⟩ : PgR)).getLast? with
      | none => rfl
      | some q => rw [hl] at h1; simpa using h1
    rw [e]
    exact (hD.1.block b h.plt (h.offb r hrm)).trans h.blk
  · refine ownP_same (h.own.keep (fun x hx => hD.1.block x (h.lt x (h.list x hx)) (h.offV r hrm x hx))) ?_
    have h1 := congrArg List.dropLast hmap
    rw [← List.map_dropLast, ← List.map_dropLast] at h1
    simpa using h1.symm
/-- a new page comes into the list -/
theorem BkO.swap {L n c : Nat} {q : Nat} {G : Nat → Prop} (h : BkO w F b S (.slice (some ⟨L, 0, none⟩) n c) ps st) (hi : i < S.pages.length) (hB : Below w.heap.size w w') (hP : PageAt w' G q P) (hG : ∀ x, G x → w.heap.size ≤ x) :
    BDV F b (S.set i P) (.slice (some ⟨L, 0, none⟩) n c) w (w'.setCell ⟨L, i, none⟩ (.pointer (some ⟨q, 0, none⟩))) := by
  obtain ⟨r, hr0, hr, -⟩ := h.get hi
  have hiL : i < ps.length := by rw [h.len]; exact hi
  have hn : n = ps.length := by
    obtain ⟨A, c, e, _, _⟩ := h.own.form
    injection e
  subst hn
  have hLb : L ≠ b := h.listNe rfl
  have hLlt : L < w.heap.size := h.lt L (h.list L rfl)
  have hk : Keep (· = L) w (w'.setCell ⟨L, i, none⟩ (.pointer (some ⟨q, 0, none⟩))) := Keep.set (F := (· = L)) (p := ⟨L, i, none⟩) (Keep.of_below hB) (.inl rfl) _
  have hfar : ∀ x, x ≠ L → (w'.setCell ⟨L, i, none⟩ (.pointer (some ⟨q, 0, none⟩))).heap[x]? = w'.heap[x]? := fun x hx => Below.heap_setCell _ _ _ _ hx
  refine ⟨hk.mono (fun x hx => hx ▸ h.list L rfl), ?_⟩
  have hset : (ps ++ [st]).set i (⟨q, G⟩ : PgR) = ps.set i ⟨q, G⟩ ++ [st] := List.set_append_left _ _ hiL
  refine (h.change (w' := w'.setCell ⟨L, i, none⟩ (.pointer (some ⟨q, 0, none⟩))) (p' := ⟨q, G⟩) (P := P) hr hk (fun x hx => .inr (.inl (by rw [hx]; rfl))) (hP.keep (F := (· = L)) (by exact keep_set w' L i _) (fun x hx e => by have := hG x hx; omega)) (fun x hx => .inr (hG x hx)) ?_ ?_).elim fun ps' ⟨st', h'⟩ => ⟨ps', st', h'⟩
  · rw [hset]
    simp only [List.getLastD_concat]
    rw [hfar b (fun e => hLb e.symm), hB.block b h.plt]
    exact h.blk
  · rw [hset, List.dropLast_concat]
    have h0 : w'.ownsRow 0 56 1 (.slice (some ⟨L, 0, none⟩) ps.length c) ps.length (ps.flatMap encP) := h.own.below hB
    have h3 := (h0.stored i (.pointer (some ⟨q, 0, none⟩))).1
    have e : (ps.flatMap encP).set i (.pointer (some ⟨q, 0, none⟩)) = (ps.set i (⟨q, G⟩ : PgR)).flatMap encP := by
      have hh : ∀ (l : List PgR) (k : Nat), (l.flatMap encP).set k (.pointer (some ⟨q, 0, none⟩)) = (l.set k (⟨q, G⟩ : PgR)).flatMap encP := fun l => by
        induction l with
        | nil => intro k; rfl
        | cons a l ih =>
          intro k
          cases k with
          | zero => rfl
          | succ k => simp only [List.flatMap_cons, List.set_cons_succ, ← ih k]; simp [encP]
      exact hh ps i
    rw [e] at h3
    unfold Own
    rw [List.length_set]
    exact h3
theorem BDid.refl (h : BkAt w F b S) : BDid F b S w w := ⟨Keep.refl _ _, h.mono (fun x hx => .inl hx) (fun x hx => hx.elim (h.lt x) (fun e => by omega))⟩
theorem BDid.trans {a c : World} (h : BDid F b S w a) (k : BDid (more F w a) b T a c) (hF : ∀ x, F x → x < w.heap.size) : BDid F b T w c := by
  have h1 := h.1.size
  have h2 := k.1.size
  refine ⟨h.1.trans k.1 (fun x hx => hx.imp_right (fun e => e.1)), k.2.mono (fun x hx => ?_) (fun x hx => ?_)⟩
  · exact more_trans hx h1 h2
  · rcases hx with hx | hx
    · have := hF x hx; omega
    · exact hx.2
theorem BDid.grow {a c : World} (h : BDid F b S w a) (hb : Below a.heap.size a c) : BDid F b S w c := by
  have h1 := h.1.size
  have h2 := hb.size
  refine ⟨h.1.trans (Keep.of_below (F := F) hb) (fun x hx => .inl hx), (h.2.grow hb).mono (fun x hx => hx.imp_right (fun e => ⟨e.1, by omega⟩)) (fun x hx => ?_)⟩
  rcases hx with hx | hx
  · have := h.2.lt x (.inl hx); omega
  · exact hx.2
theorem BDid.back {a c : World} (h : BDid F b T a c) (hb : Below w.heap.size w a) (hF : ∀ x, F x → x < w.heap.size) : BDid F b T w c := by
  have h1 := hb.size
  have h2 := h.1.size
  refine ⟨(Keep.of_below (F := F) hb).trans h.1 (fun x hx => .inl hx), h.2.mono (fun x hx => hx.elim .inl (fun e => .inr ⟨by omega, e.2⟩)) (fun x hx => ?_)⟩
  rcases hx with hx | hx
  · have := hF x hx; omega
  · exact hx.2
theorem BDV.refl (h : BkO w F b S V ps st) : BDV F b S V w w := ⟨Keep.refl _ _, _, _, h.mono (fun x hx => .inl hx) (fun x hx => hx.elim (h.lt x) (fun e => by omega))⟩
theorem BDV.trans {a c : World} (h : BDV F b S V w a) (k : BDV (more F w a) b T V a c) (hF : ∀ x, F x → x < w.heap.size) : BDV F b T V w c := by
  have h1 := h.1.size
  have h2 := k.1.size
  obtain ⟨ps, st, k2⟩ := k.2
  refine ⟨h.1.trans k.1 (fun x hx => hx.imp_right (fun e => e.1)), ps, st, k2.mono (fun x hx => ?_) (fun x hx => ?_)⟩
  · exact more_trans hx h1 h2
  · rcases hx with hx | hx
    · have := hF x hx; omega
    · exact hx.2
theorem BDV.grow {a c : World} (h : BDV F b S V w a) (hb : Below a.heap.size a c) : BDV F b S V w c := by
  have h1 := h.1.size
  have h2 := hb.size
  obtain ⟨ps, st, k⟩ := h.2
  refine ⟨h.1.trans (Keep.of_below (F := F) hb) (fun x hx => .inl hx), ps, st, (k.grow hb).mono (fun x hx => hx.imp_right (fun e => ⟨e.1, by omega⟩)) (fun x hx => ?_)⟩
  rcases hx with hx | hx
  · have := k.lt x (.inl hx); omega
  · exact hx.2
theorem BDV.back {a c : World} (h : BDV F b T V a c) (hb : Below w.heap.size w a) (hF : ∀ x, F x → x < w.heap.size) : BDV F b T V w c := by
  have h1 := hb.size
  have h2 := h.1.size
  obtain ⟨ps, st, k⟩ := h.2
  refine ⟨(Keep.of_below (F := F) hb).trans h.1 (fun x hx => .inl hx), ps, st, k.mono (fun x hx => hx.elim .inl (fun e => .inr ⟨by omega, e.2⟩)) (fun x hx => ?_)⟩
  rcases hx with hx | hx
  · have := hF x hx; omega
  · exact hx.2
end
end Go.Proofs.YtignkkejkknddaaGreat
