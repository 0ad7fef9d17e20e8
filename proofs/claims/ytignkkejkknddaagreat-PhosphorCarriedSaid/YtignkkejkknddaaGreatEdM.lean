/- A cursor as plain data, on a page.  -/
import Derived.Test.YtignkkejkknddaaGreatCursC
import Derived.Test.YtignkkejkknddaaGreatPgA
import Derived.Test.YtignkkejkknddaaGreatPgPen
import Derived.Test.YtignkkejkknddaaGreatPgJoin
import Derived.IntWalk
namespace Go.Proofs.YtignkkejkknddaaGreat
open Go.RowKit
set_option linter.unusedVariables false
set_option linter.unusedSimpArgs false

/-- a cursor: where it stands, its pen, its flags, its sets -/
structure Cu where
  row : Int
  col : Int
  rd : Int
  kp : Bool
  wp : Bool
  og : Bool
  a : Int
  b : Int
  c : Int
  d : Int
  l : Int
  r : Int
  s : Int
abbrev Cu.v (x : Cu) : Value := .agg #[.int .i64 x.row, .int .i64 x.col, .int .u8 x.rd, .bool x.kp, .bool x.wp, .bool x.og, .int .i64 x.a, .int .i64 x.b, .int .i64 x.c, .int .i64 x.d, .int .i64 x.l, .int .i64 x.r, .int .i64 x.s]
end Go.Proofs.YtignkkejkknddaaGreat
/- edit, as plain data: which cells are erased, and the sizes of lines.  -/
namespace Go.Proofs.YtignkkejkknddaaGreat
open Go.RowKit
set_option linter.unusedVariables false
set_option linter.unusedSimpArgs false

section
variable {S : PgS} {sel : Bool} {b : BxI} {i j : Nat}
end
section
variable {S : PgS} {sel ra : Bool} {k r c : Int} {i j : Nat}
end
end Go.Proofs.YtignkkejkknddaaGreat
/- What a beginning of layer 14 tells, as plain data; the acts of layers 14 and 15.  -/
namespace Go.Proofs.YtignkkejkknddaaGreat
open Go.RowKit
set_option linter.unusedVariables false
set_option linter.unusedSimpArgs false

structure BgD where
  rows : Int
  cols : Int
  sa : Option Addr
  sc : Nat
  ss : List Int
  ta : Option Addr
  tc : Nat
  ts : List Int
  cu : Cu
  m : BxI
def BgD.cells (b : BgD) : List Value := [.int .i64 b.rows, .int .i64 b.cols, .slice b.sa b.ss.length b.sc, .slice b.ta b.ts.length b.tc, .int .i64 b.cu.row, .int .i64 b.cu.col, .int .u8 b.cu.rd, .bool b.cu.kp, .bool b.cu.wp, .bool b.cu.og, .int .i64 b.cu.a, .int .i64 b.cu.b, .int .i64 b.cu.c, .int .i64 b.cu.d, .int .i64 b.cu.l, .int .i64 b.cu.r, .int .i64 b.cu.s, .int .i64 b.m.t, .int .i64 b.m.l, .int .i64 b.m.b, .int .i64 b.m.r]
def BgD.v (b : BgD) : Value := .agg b.cells.toArray
structure BgD.Ok (b : BgD) (w : World) : Prop where
  ss : Ints w b.sa b.ss
  sl : b.ss.length ≤ b.sc
  sm : b.sc ≤ maxLen
  sn : b.sa = none → b.sc = 0
  ts : Rd (encI .i32) 1 w b.ta b.ts
  tl : b.ts.length ≤ b.tc
  tm : b.tc ≤ maxLen
  tn : b.ta = none → b.tc = 0
  to' : ∀ n ∈ b.ts, -2147483648 ≤ n ∧ n ≤ 2147483647
  r : -9223372036854775808 ≤ b.cu.row ∧ b.cu.row ≤ 9223372036854775807
  c : -9223372036854775808 ≤ b.cu.col ∧ b.cu.col ≤ 9223372036854775807
theorem BgD.Ok.below {b : BgD} {w w' : World} (h : b.Ok w) (hb : Below w.heap.size w w') : b.Ok w' := { h with ss := h.ss.below hb, ts := h.ts.below hb }
structure A14 where
  kd : Int
  wr : Bool
  ins : Bool
  ta : Option Addr
  tc : Nat
  ts : List Int
def A14.cells (a : A14) : List Value := [.int .i64 a.kd, .bool a.wr, .bool a.ins, .slice a.ta a.ts.length a.tc]
def A14.v (a : A14) : Value := .agg a.cells.toArray
structure A14.Ok (b : A14) (w : World) : Prop where
  ts : Rd (encI .i32) 1 w b.ta b.ts
  tl : b.ts.length ≤ b.tc
  tm : b.tc ≤ maxLen
  tn : b.ta = none → b.tc = 0
  to' : ∀ n ∈ b.ts, -2147483648 ≤ n ∧ n ≤ 2147483647
theorem A14.Ok.below {b : A14} {w w' : World} (h : b.Ok w) (hb : Below w.heap.size w w') : b.Ok w' := { h with ts := h.ts.below hb }
structure A15 where
  kd : Int
  n : Int
  m : Int
  fl : Bool
def A15.cells (a : A15) : List Value := [.int .i64 a.kd, .int .i64 a.n, .int .i64 a.m, .bool a.fl]
def A15.v (a : A15) : Value := .agg a.cells.toArray
structure A15.Ok (b : A15) (w : World) : Prop where
  n : -9223372036854775808 ≤ b.n ∧ b.n ≤ 9223372036854775807
  m : -9223372036854775808 ≤ b.m ∧ b.m ≤ 9223372036854775807

/-- the page that a beginning tells -/
def begC (ts : List Int) (n : Nat) : Cl := if h : n < ts.length then ⟨ts[n], (n % 3 : Nat), n % 5 == 0⟩ else erC
def begZ (ss : List Int) (i : Nat) : Int := if h : i < ss.length then clampR ss[i] 0 3 else 0
def begRow (ts ss : List Int) (n i : Nat) : List Cl × Int := ((List.range n).map fun k => begC ts (i * n + k), begZ ss i)
def begM (b : BgD) : Nat := (clampR b.rows 1 8).toNat
def begN (b : BgD) : Nat := (clampR b.cols 1 9).toNat
/-- ahead of round j: the rows behind it are empty -/
def begJ (ts ss : List Int) (m n j : Nat) : PgS := ⟨(List.range m).map fun i => if i < j then begRow ts ss n i else (List.replicate n erC, 0), n⟩
def begS (b : BgD) : PgS := ⟨(List.range (begM b)).map (begRow b.ts b.ss (begN b)), begN b⟩
theorem begM_in (b : BgD) : 1 ≤ begM b ∧ begM b ≤ 8 ∧ clampR b.rows 1 8 = (begM b : Int) := by
  have := clampR_in b.rows (show (1 : Int) ≤ 8 by omega)
  unfold begM
  omega
theorem begN_in (b : BgD) : 1 ≤ begN b ∧ begN b ≤ 9 ∧ clampR b.cols 1 9 = (begN b : Int) := by
  have := clampR_in b.cols (show (1 : Int) ≤ 9 by omega)
  unfold begN
  omega
theorem begC_ok {ts : List Int} (h : ∀ n ∈ ts, -2147483648 ≤ n ∧ n ≤ 2147483647) (n : Nat) : (begC ts n).ok := by
  unfold begC
  split
  · rename_i q
    have := h _ (List.getElem_mem q)
    exact ⟨this, by simp only; omega, by simp only; omega⟩
  · exact erC_ok
theorem begRow_len (ts ss : List Int) (n i : Nat) : (begRow ts ss n i).1.length = n := by simp [begRow]
theorem begZ_in (ss : List Int) (i : Nat) : 0 ≤ begZ ss i ∧ begZ ss i ≤ 3 := by
  unfold begZ
  split
  · exact clampR_in _ (by omega)
  · omega
section
variable {ts ss : List Int} {m n j : Nat}
theorem begJ_len : (begJ ts ss m n j).rows.length = m := by simp [begJ]
theorem begJ_get {i : Nat} (hi : i < m) (h' : i < (begJ ts ss m n j).rows.length) : (begJ ts ss m n j).rows[i] = if i < j then begRow ts ss n i else (List.replicate n erC, 0) := by simp [begJ]
theorem begJ_ok (h : ∀ n ∈ ts, -2147483648 ≤ n ∧ n ≤ 2147483647) (hm : 1 ≤ m ∧ m ≤ 500) (hn : 1 ≤ n ∧ n ≤ 500) : (begJ ts ss m n j).Ok := by
  refine ⟨by rw [begJ_len]; exact hm.1, by rw [begJ_len]; exact hm.2, hn.1, hn.2, fun r hr => ?_, fun r hr y hy => ?_⟩
  · simp only [begJ, List.mem_map] at hr
    obtain ⟨i, _, rfl⟩ := hr
    split
    · exact begRow_len _ _ _ _
    · simp [begJ]
  · simp only [begJ, List.mem_map] at hr
    obtain ⟨i, _, rfl⟩ := hr
    split at hy
    · simp only [begRow, List.mem_map] at hy
      obtain ⟨k, _, rfl⟩ := hy
      exact begC_ok h _
    · rw [List.eq_of_mem_replicate hy]
      exact erC_ok
theorem begJ_zero (hm : m = dimN m) (hn : n = dimN n) : begJ ts ss m n 0 = resizeS ⟨[], 0⟩ m n := by
  unfold begJ resizeS
  rw [← hm, ← hn]
  congr 1
theorem begJ_step (hj : j < m) : begJ ts ss m n (j + 1) = setRowS (begJ ts ss m n j) j (begRow ts ss n j) := by
  refine PgS.ext_rows (by rw [setRowS_len, begJ_len, begJ_len]) rfl fun i hi => ?_
  rw [begJ_len] at hi
  rw [rowD_in (by rw [begJ_len]; exact hi), rowD_in (by rw [setRowS_len, begJ_len]; exact hi), begJ_get hi]
  by_cases e : j = i
  · subst e
    rw [if_pos (by omega), setRowS_get (by rw [begJ_len]; exact hi)]
  · have : (setRowS (begJ ts ss m n j) j (begRow ts ss n j)).rows[i]'(by rw [setRowS_len, begJ_len]; exact hi) = (begJ ts ss m n j).rows[i]'(by rw [begJ_len]; exact hi) := by
      simp [setRowS, List.getElem_set, e]
    rw [this, begJ_get hi]
    by_cases h : i < j
    · rw [if_pos (by omega), if_pos h]
    · rw [if_neg (by omega), if_neg h]
end
theorem begJ_all (b : BgD) : begJ b.ts b.ss (begM b) (begN b) (begM b) = begS b := by
  unfold begJ begS
  congr 1
  refine List.map_congr_left fun i hi => ?_
  rw [if_pos (by simpa using hi)]
theorem begS_ok {b : BgD} {w : World} (h : b.Ok w) : (begS b).Ok := by
  have h1 := begM_in b
  have h2 := begN_in b
  rw [← begJ_all]
  exact begJ_ok h.to' (by omega) (by omega)
end Go.Proofs.YtignkkejkknddaaGreat
/- edit: on, done, row, parts, way.  -/
namespace Go.Proofs.YtignkkejkknddaaGreat
open Go.RowKit
set_option linter.unusedVariables false
set_option linter.unusedSimpArgs false

section
variable {w : World} {F : Nat → Prop} {p : Nat} {S : PgS}
end
end Go.Proofs.YtignkkejkknddaaGreat
/- edit: way, parts.  -/
namespace Go.Proofs.YtignkkejkknddaaGreat
open Go.RowKit
set_option linter.unusedVariables false
set_option linter.unusedSimpArgs false

section
variable {w : World} {F : Nat → Prop} {p : Nat} {S : PgS}
end
end Go.Proofs.YtignkkejkknddaaGreat
/- A cursor in a variable; blocks of a world that has grown.  -/
namespace Go.Proofs.YtignkkejkknddaaGreat
open Go.RowKit
set_option linter.unusedVariables false
set_option linter.unusedSimpArgs false

theorem heap_at (w : World) (o : Obj) {b : Nat} (h : b = w.heap.size) : (w.alloc o).heap[b]? = some o := by subst h; exact heap_alloc_new w o
theorem heap_old (w : World) (o : Obj) {b : Nat} (h : b < w.heap.size) : (w.alloc o).heap[b]? = w.heap[b]? := ((Below.refl w.heap.size w).alloc (Nat.le_refl _) o).block b h
theorem heap_drew (w : World) (b : Nat) : w.drew.heap[b]? = w.heap[b]? := rfl
theorem store13e {W : World} {B : Nat} {u0 u1 u2 u3 u4 u5 u6 u7 u8 u9 u10 u11 u12 : Value} {t : TypeId} (h : W.heap[B]? = some (.cells #[u0, u1, u2, u3, u4, u5, u6, u7, u8, u9, u10, u11, u12] t (0, 0))) (v0 v1 v2 v3 v4 v5 v6 v7 v8 v9 v10 v11 v12 : Value) :
    ∃ W', (((((((((((((W.setCell ⟨B, 0, none⟩ v0).setCell ⟨B, 1, none⟩ v1).setCell ⟨B, 2, none⟩ v2).setCell ⟨B, 3, none⟩ v3).setCell ⟨B, 4, none⟩ v4).setCell ⟨B, 5, none⟩ v5).setCell ⟨B, 6, none⟩ v6).setCell ⟨B, 7, none⟩ v7).setCell ⟨B, 8, none⟩ v8).setCell ⟨B, 9, none⟩ v9).setCell ⟨B, 10, none⟩ v10).setCell ⟨B, 11, none⟩ v11).setCell ⟨B, 12, none⟩ v12) = W' ∧ Keep (· = B) W W' ∧ W'.heap[B]? = some (.cells #[v0, v1, v2, v3, v4, v5, v6, v7, v8, v9, v10, v11, v12] t (0, 0)) := by
  have hs : ∀ {X : World} {cur : Array Value} (i : Nat) (v : Value), X.heap[B]? = some (.cells cur t (0, 0)) → (X.setCell ⟨B, i, none⟩ v).heap[B]? = some (.cells (cur.setIfInBounds i v) t (0, 0)) := fun i v hx => by
    simp [World.setCell, Array.getElem?_modify, hx]
  have k0 : Keep (· = B) W W := Keep.refl _ _
  have k := ((((((((((((k0.set (p := ⟨B, 0, none⟩) (.inl rfl) v0).set (p := ⟨B, 1, none⟩) (.inl rfl) v1).set (p := ⟨B, 2, none⟩) (.inl rfl) v2).set (p := ⟨B, 3, none⟩) (.inl rfl) v3).set (p := ⟨B, 4, none⟩) (.inl rfl) v4).set (p := ⟨B, 5, none⟩) (.inl rfl) v5).set (p := ⟨B, 6, none⟩) (.inl rfl) v6).set (p := ⟨B, 7, none⟩) (.inl rfl) v7).set (p := ⟨B, 8, none⟩) (.inl rfl) v8).set (p := ⟨B, 9, none⟩) (.inl rfl) v9).set (p := ⟨B, 10, none⟩) (.inl rfl) v10).set (p := ⟨B, 11, none⟩) (.inl rfl) v11).set (p := ⟨B, 12, none⟩) (.inl rfl) v12
  refine ⟨_, rfl, k, ?_⟩
  have h12 := hs 12 v12 (hs 11 v11 (hs 10 v10 (hs 9 v9 (hs 8 v8 (hs 7 v7 (hs 6 v6 (hs 5 v5 (hs 4 v4 (hs 3 v3 (hs 2 v2 (hs 1 v1 (hs 0 v0 h))))))))))))
  simpa using h12
abbrev Cu.arr (x : Cu) : Array Value := #[.int .i64 x.row, .int .i64 x.col, .int .u8 x.rd, .bool x.kp, .bool x.wp, .bool x.og, .int .i64 x.a, .int .i64 x.b, .int .i64 x.c, .int .i64 x.d, .int .i64 x.l, .int .i64 x.r, .int .i64 x.s]
/-- a cursor in a variable of its own -/
def CVar (t : TypeId) (w : World) (H : Nat) (x : Cu) : Prop := w.heap[H]? = some (.cells x.arr t (0, 0))
section
variable {t : TypeId} {w w' : World} {H : Nat} {x y : Cu} {F : Nat → Prop} {p : Nat} {S T : PgS}
theorem CVar.cells (h : CVar t w H x) : w.cell? ⟨H, 0, none⟩ = some (.int .i64 x.row) ∧ w.cell? ⟨H, 1, none⟩ = some (.int .i64 x.col) ∧ w.cell? ⟨H, 2, none⟩ = some (.int .u8 x.rd) ∧ w.cell? ⟨H, 3, none⟩ = some (.bool x.kp) ∧ w.cell? ⟨H, 4, none⟩ = some (.bool x.wp) ∧ w.cell? ⟨H, 5, none⟩ = some (.bool x.og) ∧ w.cell? ⟨H, 6, none⟩ = some (.int .i64 x.a) ∧ w.cell? ⟨H, 7, none⟩ = some (.int .i64 x.b) ∧ w.cell? ⟨H, 8, none⟩ = some (.int .i64 x.c) ∧ w.cell? ⟨H, 9, none⟩ = some (.int .i64 x.d) ∧ w.cell? ⟨H, 10, none⟩ = some (.int .i64 x.l) ∧ w.cell? ⟨H, 11, none⟩ = some (.int .i64 x.r) ∧ w.cell? ⟨H, 12, none⟩ = some (.int .i64 x.s) ∧ H < w.heap.size := by
  refine ⟨?_, ?_, ?_, ?_, ?_, ?_, ?_, ?_, ?_, ?_, ?_, ?_, ?_, heap_in h⟩ <;> (rw [cell_in h]; rfl)
theorem CVar.fz (h : CVar t w H x) (q : Nat) : w.frozen? ⟨H, q, none⟩ = false := frozen_in h
theorem CVar.keep (h : CVar t w H x) (hk : Keep F w w') (hF : ¬ F H) : CVar t w' H x := (hk.block H (heap_in h) hF).trans h
theorem CVar.grow (h : CVar t w H x) (hb : Below w.heap.size w w') : CVar t w' H x := (hb.block H (heap_in h)).trans h
/-- a cursor is stored -/
theorem CVar.store (h : CVar t w H x) (y : Cu) : ∃ W', (((((((((((((w.setCell ⟨H, 0, none⟩ (.int .i64 y.row)).setCell ⟨H, 1, none⟩ (.int .i64 y.col)).setCell ⟨H, 2, none⟩ (.int .u8 y.rd)).setCell ⟨H, 3, none⟩ (.bool y.kp)).setCell ⟨H, 4, none⟩ (.bool y.wp)).setCell ⟨H, 5, none⟩ (.bool y.og)).setCell ⟨H, 6, none⟩ (.int .i64 y.a)).setCell ⟨H, 7, none⟩ (.int .i64 y.b)).setCell ⟨H, 8, none⟩ (.int .i64 y.c)).setCell ⟨H, 9, none⟩ (.int .i64 y.d)).setCell ⟨H, 10, none⟩ (.int .i64 y.l)).setCell ⟨H, 11, none⟩ (.int .i64 y.r)).setCell ⟨H, 12, none⟩ (.int .i64 y.s)) = W' ∧ Keep (· = H) w W' ∧ CVar t W' H y :=
  store13e h _ _ _ _ _ _ _ _ _ _ _ _ _
/-- a deed that began in W, behind which a variable was stored that is newer than w -/
theorem Did.var {W w1 wf : World} (hD : Did F p T W w1) (hb : Below w.heap.size w W) (hF : ∀ b, F b → b < w.heap.size) (hH : w.heap.size ≤ H) (hz : H < W.heap.size) (hk : Keep (· = H) w1 wf) : Did F p T w wf := by
  have hFH : ¬ F H := fun f => by have := hF H f; omega
  have k1 : Keep F w wf := ((Keep.of_below (F := F) hb).trans hD.1 (fun x hx => .inl hx)).trans hk (fun x hx => .inr (by omega))
  refine ⟨k1, (hD.2.keep hk (fun b hb2 e => ?_)).mono (fun b hb2 => ?_) (fun b hb2 => ?_)⟩
  · subst e
    rcases hb2 with f | f
    · exact hFH f
    · omega
  · have := hb.size
    have := hk.size
    rcases hb2 with f | f
    · exact .inl f
    · exact .inr ⟨by omega, by omega⟩
  · have h1 := k1.size
    rcases hb2 with f | f
    · have := hF b f; omega
    · exact f.2
end
end Go.Proofs.YtignkkejkknddaaGreat
/- edit: Row.  -/
namespace Go.Proofs.YtignkkejkknddaaGreat
open Go.RowKit
set_option linter.unusedVariables false
set_option linter.unusedSimpArgs false

section
variable {w : World} {F : Nat → Prop} {p : Nat} {S : PgS}
end
end Go.Proofs.YtignkkejkknddaaGreat
/- edit: Display.  -/
namespace Go.Proofs.YtignkkejkknddaaGreat
open Go.RowKit
set_option linter.unusedVariables false
set_option linter.unusedSimpArgs false

section
variable {w : World} {F : Nat → Prop} {p : Nat} {S : PgS}
theorem resR_self {xs : List Cl} {n : Nat} (h : xs.length = n) : resR xs n = xs := by
  subst h
  unfold resR layOn
  simp
end
end Go.Proofs.YtignkkejkknddaaGreat
/- edit: against, Scroll, Align.  -/
namespace Go.Proofs.YtignkkejkknddaaGreat
open Go.RowKit
set_option linter.unusedVariables false
set_option linter.unusedSimpArgs false

section
variable {w : World} {F : Nat → Prop} {p : Nat} {S : PgS}
end
end Go.Proofs.YtignkkejkknddaaGreat
/- edit: Align.  -/
namespace Go.Proofs.YtignkkejkknddaaGreat
open Go.RowKit
set_option linter.unusedVariables false
set_option linter.unusedSimpArgs false

section
variable {w : World} {F : Nat → Prop} {p : Nat} {S : PgS}
end
end Go.Proofs.YtignkkejkknddaaGreat
/- edit, plain laws: what is kept, parts, twice.  -/
namespace Go.Proofs.YtignkkejkknddaaGreat
open Go.RowKit
set_option linter.unusedVariables false
set_option linter.unusedSimpArgs false

section
variable {S : PgS} {sel ra : Bool} {k r c : Int} {i j : Nat}
end
section
variable {S : PgS} {b : BxI}
end
end Go.Proofs.YtignkkejkknddaaGreat
/- phosphorlaw15.awake: a page is aligned, and what stands from the cursor on is erased.  -/
namespace Go.Proofs.YtignkkejkknddaaGreat
open Go.RowKit
set_option linter.unusedVariables false
set_option linter.unusedSimpArgs false

end Go.Proofs.YtignkkejkknddaaGreat
