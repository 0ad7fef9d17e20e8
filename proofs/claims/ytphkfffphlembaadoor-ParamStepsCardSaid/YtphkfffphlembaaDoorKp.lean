/- A block of numbers that is known whole; append onto a slice without spare room. -/
import Derived.Test.YtphkfffphlembaaDoorAwake4
import Derived.Test.YtphkfffphlembaaDoorCopyK
import Derived.Laws.OwnMore
namespace Go.Proofs.YtphkfffphlembaaDoor
open Go.RowKit
set_option linter.unusedVariables false
set_option linter.unusedSimpArgs false

def Blk (w : World) (g : Nat) (zs : List Int) : Prop := w.heap[g]? = some (.cells (zs.map (Value.int .i64)).toArray 3 (0, 0))
section
variable {w w' : World} {g i : Nat} {zs : List Int} {v : Int}
theorem Blk.lt (h : Blk w g zs) : g < w.heap.size := heap_in h
theorem Blk.set (h : Blk w g zs) : Blk (w.setCell ⟨g, i, none⟩ (.int .i64 v)) g (zs.set i v) := by
  unfold Blk at h ⊢
  simp [World.setCell, Array.getElem?_modify, h, List.map_set]
theorem Blk.cell (h : Blk w g zs) (hi : i < zs.length) : w.cell? ⟨g, i, none⟩ = some (.int .i64 zs[i]) := by
  rw [cell_in h]
  simp [hi]
theorem Blk.fz (h : Blk w g zs) : w.frozen? ⟨g, i, none⟩ = false := frozen_in h
theorem Blk.rd (h : Blk w g zs) : Ints w (some ⟨g, 0, none⟩) zs := fun h0 => ⟨g, 0, rfl, h.lt, fun i hi j u hu => by
  match j, hu with
  | 0, hu =>
    simp [encI] at hu
    subst hu
    have := h.cell hi
    simpa using this⟩
theorem Blk.grow (h : Blk w g zs) (hb : Below w.heap.size w w') : Blk w' g zs := (hb.block g h.lt).trans h
theorem Blk.ext (h : Blk w g zs) (x : More) : Blk (ext w x) g zs := h.grow (below_of_ext w x)
end
theorem made_ints (n : Nat) : (madeCells #[.int .i64 0] (n * 1)).toList = (List.replicate n (0 : Int)).map (Value.int .i64) := by
  apply List.ext_getElem?
  intro k
  rcases Nat.lt_or_ge k n with hk | hk
  · simp [madeCells, Array.getElem?_toList, hk, Nat.mod_one]
  · rw [List.getElem?_eq_none (by simp [madeCells]; omega), List.getElem?_eq_none (by simp; omega)]
theorem make_b (w : World) (n : Nat) (hb : n ≤ 1000000) : ∃ x, (Instr.makeSlice 23 (.int .i64 (n : Int)) (.int .i64 (n : Int))).run Tryd.prog w = .ok (.slice (some ⟨w.heap.size, 0, none⟩) n n) (ext w x) ∧
    Blk (ext w x) w.heap.size (List.replicate n 0) := by
  obtain ⟨i, hi, hz, hsize, hby⟩ := info_parts int_info
  obtain ⟨w', hrun, hown, hgr⟩ := run_make_full (P := Tryd.prog) w w.heap.size 23 3 i _ 1 Tryd.underlying23 hi hz hsize .i64 .i64 n (by rw [hby]; omega) (by simp [maxLen]; omega) (Nat.le_refl _)
  have hB : Below w.heap.size w w' := (Below.refl _ w).grown hgr (Nat.le_refl _) (fun k hk => by cases hk)
  obtain ⟨x, rfl⟩ := ext_of hB
  refine ⟨x, hrun, ?_⟩
  rcases hown.2 with ⟨h1, _⟩ | ⟨g, cap, cur, h1, hg0, hg, h2, h3, h4, h5⟩
  · cases h1
  · injection h1 with e1 _ e3
    injection e1 with e1
    injection e1 with e1
    subst e1 e3
    have : cur = ((List.replicate n (0 : Int)).map (Value.int .i64)).toArray := by
      apply Array.toList_inj.1
      rw [List.take_of_length_le (by rw [Array.length_toList]; omega)] at h5
      rw [h5]
      exact made_ints n
    subst this
    exact hg
theorem copy_b {w : World} {g d c : Nat} {zs xs : List Int} {a : Option Addr} (hb : Blk w g zs) (rd : Ints w a xs) (hl : xs.length ≤ zs.length) (t : TypeId) :
    ∃ w', (Builtin.copy_ #[23, 23] t #[.slice (some ⟨g, 0, none⟩) zs.length d, .slice a xs.length c]).run Tryd.prog w = .ok (goInt xs.length) w' ∧ Blk w' g (xs ++ zs.drop xs.length) ∧ Keep (fun k => k = g) w w' := by
  rcases Nat.eq_zero_or_pos xs.length with h0 | h0
  · have hx : xs = [] := List.eq_nil_of_length_eq_zero h0
    subst hx
    exact ⟨w, run_copy_none_k w _ _ _ 3 1 _ _ _ _ _ _ Tryd.underlying23 (by kernel_rfl) (by simp), by simpa using hb, Keep.refl _ _⟩
  · obtain ⟨b, off, rfl, hlt, hc⟩ := rd h0
    have hrun := run_copy_k (P := Tryd.prog) w 23 23 t 3 1 g 0 zs.length d ⟨b, off, none⟩ xs.length c _ _ xs.length (xs.map (Value.int .i64)) Tryd.underlying23 (by kernel_rfl) hb
      (Nat.min_eq_left hl).symm (by simp) (fun j v hv => by
        rw [List.getElem?_map, Option.map_eq_some_iff] at hv
        obtain ⟨n, hn, rfl⟩ := hv
        obtain ⟨hj, he⟩ := List.getElem?_eq_some_iff.1 hn
        have := hc j hj 0 (.int .i64 n) (by rw [he]; rfl)
        rw [addr_add]
        simpa using this) (by simp; omega) (fun v hv => by
        obtain ⟨n, _, rfl⟩ := List.mem_map.1 hv
        rfl)
    refine ⟨_, hrun, ?_, ⟨rfl, rfl, rfl, by simp [World.setRow], fun k hk hF => setRow_other w g k _ hF⟩⟩
    have := setRow_heap w g _ (((zs.map (Value.int .i64)).toArray.toList.take 0 ++ xs.map (Value.int .i64) ++ (zs.map (Value.int .i64)).toArray.toList.drop (0 + (xs.map (Value.int .i64)).length)).toArray) _ _ hb
    unfold Blk
    rw [this]
    simp
theorem run_append_clip {w : World} {A : Option Addr} {xs : List Int} {B : Nat} (h : Clp B w A xs) (t : TypeId) (g m c : Nat) (ys : List Int) (hr : Ints w (some ⟨g, 0, none⟩) ys) (hm : m = ys.length) (h0 : 0 < m) (hx : xs.length ≤ 1000000) (hy : m ≤ 1000000) :
    ∃ c' w', (Builtin.append_ #[23, 23] t #[.slice A xs.length xs.length, .slice (some ⟨g, 0, none⟩) m c]).run Tryd.prog w = .ok (.slice (some ⟨w.heap.size, 0, none⟩) (xs.length + m) c') w' ∧ Below w.heap.size w w' := by
  obtain ⟨i, hi, hz, hsize, hby⟩ := info_parts int_info
  subst hm
  have hnews : ∀ j u, (ys.map (Value.int .i64))[j]? = some u → w.cell? ((⟨g, 0, none⟩ : Addr).add j) = some u := by
    intro j u hu
    rw [List.getElem?_map, Option.map_eq_some_iff] at hu
    obtain ⟨n, hn, rfl⟩ := hu
    obtain ⟨hj, he⟩ := List.getElem?_eq_some_iff.1 hn
    obtain ⟨b, off, e, hlt, hc⟩ := hr h0
    injection e with e
    injection e with e1 e2
    subst e1 e2
    have := hc j hj 0 (.int .i64 n) (by rw [he]; rfl)
    rw [addr_add]
    simpa using this
  rcases h with ⟨rfl, rfl⟩ | ⟨g1, cur, rfl, _, hg1, hle, hcs⟩
  · have := run_append_nil (P := Tryd.prog) w 23 t 3 i _ Tryd.underlying23 hi hz ⟨g, 0, none⟩ ys.length c (ys.map (Value.int .i64)) (by rw [hsize]; simp) hnews h0 (by omega) (by rw [hby]; omega)
    refine ⟨_, _, by simpa using this, ?_⟩
    exact (Below.refl _ _).drew.alloc (Nat.le_refl _) _
  · have := run_append_grow (P := Tryd.prog) w 23 t 3 i _ Tryd.underlying23 hi hz ⟨g1, 0, none⟩ xs.length xs.length (xs.map (Value.int .i64)) (by rw [hsize]; simp) (fun j u hu => by
      rw [List.getElem?_map, Option.map_eq_some_iff] at hu
      obtain ⟨n, hn, rfl⟩ := hu
      obtain ⟨hj, he⟩ := List.getElem?_eq_some_iff.1 hn
      rw [addr_add, cell_in hg1, Nat.zero_add, hcs j hj, he]) ⟨g, 0, none⟩ ys.length c (ys.map (Value.int .i64)) (by rw [hsize]; simp) hnews (by omega) (by omega) (growslice_fits (by omega) (by rw [hby]; omega))
    exact ⟨_, _, this, (Below.refl _ _).drew.alloc (Nat.le_refl _) _⟩

theorem append_run {P : Program} {w w' : World} {ops : Array Oper} {rest : List Oper} {o : Oper} {a : Act} {Q : Exit → Act → World → Prop} (s x : Operand) (t : TypeId) (hgd : o.guard = none) (ho : o.op = .call { callee := .builtin .append, args := #[s, x], argTypes := #[t, t] })
    (sv xv v : Value) (hs : a.eval s = sv) (hx : a.eval x = xv) (hrun : (Builtin.append_ #[t, t] o.type #[sv, xv]).run P w = .ok v w') (h : wpList P ops Q rest (a.put o.dst v) w') : wpList P ops Q (o :: rest) a w := by
  refine wpList_plain hgd fun K hK => ?_
  unfold Oper.wp execOp
  simp only [ho, resolve, invoke, builtin, Sem.run_bind, Sem.run_pure, Result.andThen_ok, List.map_toArray, List.map_cons, List.map_nil, hs, hx, hrun]
  exact hK _ _ h
/-- the law's own list, with k of the four cells behind it coloured -/
def mixK (xs : List Int) (k : Nat) : List Int := xs ++ (List.range 4).map fun i => if i < k then 70000 + ((xs.length + i : Nat) : Int) else 0
theorem mixK_len (xs : List Int) (k : Nat) : (mixK xs k).length = xs.length + 4 := by simp [mixK]
theorem mixK_zero (xs : List Int) : xs ++ (List.replicate (xs.length + 4) (0 : Int)).drop xs.length = mixK xs 0 := by
  unfold mixK
  congr 1
  rw [List.drop_replicate, Nat.add_sub_cancel_left]
  rfl
theorem mixK_step (xs : List Int) (k : Nat) (h : k < 4) : (mixK xs k).set (xs.length + k) (70000 + ((xs.length + k : Nat) : Int)) = mixK xs (k + 1) := by
  unfold mixK
  rw [List.set_append_right _ _ (by omega), Nat.add_sub_cancel_left]
  congr 1
  have hk : k = 0 ∨ k = 1 ∨ k = 2 ∨ k = 3 := by omega
  rcases hk with rfl | rfl | rfl | rfl <;> simp [List.range_succ]
theorem mixK_take (xs : List Int) (k : Nat) : (mixK xs k).take xs.length = xs := by
  unfold mixK
  rw [List.take_append_of_le_length (Nat.le_refl _), List.take_length]
theorem mixK_in (xs : List Int) (i : Nat) (h : i < xs.length) (h2 : i < (mixK xs 4).length) : (mixK xs 4)[i] = xs[i] := by
  unfold mixK
  exact List.getElem_append_left h
theorem mixK_out (xs : List Int) (i : Nat) (h : xs.length ≤ i) (h2 : i < (mixK xs 4).length) : (mixK xs 4)[i] = 70000 + (i : Int) := by
  have h3 := mixK_len xs 4
  have e : (mixK xs 4)[i] = ((List.range 4).map fun j => if j < 4 then 70000 + ((xs.length + j : Nat) : Int) else 0)[i - xs.length]'(by simp; omega) := by
    unfold mixK
    exact List.getElem_append_right h
  rw [e]
  simp
  omega
end Go.Proofs.YtphkfffphlembaaDoor
