/- Accumulators: cleared, copied; an accumulator beside a row of bytes. -/
import Derived.Test.YtphkfffphlembaaDoorAccD
import Derived.Test.YtphkfffphlembaaDoorRefP
import Derived.Test.YtphkfffphlembaaDoorOwn2
import Derived.Test.YtphkfffphlembaaDoorBytesStr
namespace Go.Proofs.YtphkfffphlembaaDoor
open Go.RowKit
set_option linter.unusedVariables false
set_option linter.unusedSimpArgs false

section
variable {w w' : World} {F G : Nat → Prop} {b d : Nat} {a e : AccS}
set_option maxRecDepth 100000 in
set_option maxHeartbeats 4000000 in
theorem clear_c (h : AccAt w F b a) : Calls Tryd.prog 20 #[.pointer (some ⟨b, 0, none⟩)] w fun e w' => e = .returned (.tuple #[]) ∧ AccDid w F b AccS.nil w' := by
  obtain ⟨sl, h1, h2, h3⟩ := h.ex
  have p0 : w.cell? ⟨b, 0, none⟩ = some sl := by rw [cell_in h1]; rfl
  have p1 : w.cell? ⟨b, 1, none⟩ = some (.int .i64 a.now) := by rw [cell_in h1]; rfl
  have p2 : w.cell? ⟨b, 2, none⟩ = some (.bool a.begun) := by rw [cell_in h1]; rfl
  have z : ∀ i, w.frozen? ⟨b, i, none⟩ = false := fun i => frozen_in h1
  have HD : Hid (AccDid w F b AccS.nil (((w.setCell ⟨b, 0, none⟩ (.slice none 0 0)).setCell ⟨b, 1, none⟩ (.int .i64 0)).setCell ⟨b, 2, none⟩ (.bool false))) := Lib.hid
    ⟨F, ⟨⟨.slice none 0 0, set_acc2 (set_acc1 (set_acc0 h1)), Own.nil _ _ _ _ _, fun k hk => by cases hk⟩, h.fb⟩,
      (((Keep.refl F w).set (p := ⟨b, 0, none⟩) (.inl h.fb) _).set (p := ⟨b, 1, none⟩) (.inl h.fb) _).set (p := ⟨b, 2, none⟩) (.inl h.fb) _, fun x hx => .inl hx⟩
  clear h h1 h2 h3
  go_enter Tryd.func20, Tryd.ntmps20
  go_wp2
  go_end0
  exact ⟨rfl, HD.out⟩
/-- a copy -/
def NewA (w : World) (a : AccS) (e : Ending) (w' : World) : Prop := ∃ x, e = .returned (.pointer (some ⟨w.heap.size, 0, none⟩)) ∧ w' = ext w x ∧ AccAt (ext w x) (fun y => w.heap.size ≤ y) w.heap.size a
set_option maxRecDepth 100000 in
set_option maxHeartbeats 4000000 in
theorem cloneA_c (h : AccAt w F b a) (ha : a.Ok) : Calls Tryd.prog 23 #[.pointer (some ⟨b, 0, none⟩)] w (NewA w a) := by
  obtain ⟨A, c, p0, p1, p2, _, rd, hA, hc⟩ := h.cells ha
  have hb := h.lt
  have hl := ha.len
  have CL := Lib.hid (fun (w' : World) (hB : Below w.heap.size w w') => clone_i A c a.done w' (by obtain ⟨x, rfl⟩ := ext_of hB; exact rd.ext x) hA (by omega) (by simp [maxLen]; omega))
  clear h rd hA
  go_enter Tryd.func23, Tryd.ntmps23
  go_wp2_with (first
    | (go_at_call 29; (with_reducible refine (CL.out _ (by (repeat' (first | (with_reducible exact Below.refl _ _) | (with_reducible refine Below.alloc ?_ ?_ _) | (with_reducible refine below_ext ?_ ?_ _) | (with_reducible refine Below.drew ?_) | (with_reducible refine below_drewN ?_ _) | (with_reducible refine Below.setCell ?_ ?_ _) | go_size | (simp only [go_sem]; omega) | (simp [go_sem]; done) | (simp [go_sem]; omega))))).mono ?_); (rintro _ _ ⟨A1, c1, x1, rfl, rfl, hO⟩); replace hO := Lib.hid hO))
  go_returns
  have hO2 : Own (encI .i64) 1 3 (w.heap.size + 1) (ext (w.alloc (.cells #[.slice A1 a.done.length c1, .int .i64 a.now, .bool a.begun] 42)) x1) (.slice A1 a.done.length c1) a.done :=
    own_swap (w := w) (o := .cells #[.slice A a.done.length c, .int .i64 a.now, .bool a.begun] 42) (by simpa using hO.out)
  obtain ⟨y, e⟩ := ext_of (show Below w.heap.size w (ext (w.alloc (.cells #[.slice A1 a.done.length c1, .int .i64 a.now, .bool a.begun] 42)) x1) by (repeat' (first | (with_reducible exact Below.refl _ _) | (with_reducible refine Below.alloc ?_ ?_ _) | (with_reducible refine below_ext ?_ ?_ _) | (with_reducible refine Below.drew ?_) | (with_reducible refine below_drewN ?_ _) | (with_reducible refine Below.setCell ?_ ?_ _) | go_size | (simp only [go_sem]; omega) | (simp [go_sem]; done) | (simp [go_sem]; omega))))
  refine ⟨y, rfl, e, ?_⟩
  rw [← e]
  exact ⟨⟨_, (block_ext _ _ (by simp)).trans Array.getElem?_push_size, hO2.mono (by omega), fun k hk => by have := (hO2.lt k hk).1; omega⟩, Nat.le_refl _⟩
end
def bytesI (cs : List UInt8) : List Int := cs.map fun c => (c.toNat : Int)
theorem strOf_go : ∀ (cs : List UInt8) (r : ByteArray), ((bytesI cs).foldl (fun r n => r.push (UInt8.ofNat n.toNat)) r).data.toList = r.data.toList ++ cs
  | [], r => by simp [bytesI]
  | c :: cs, r => by
    have := strOf_go cs (r.push c)
    simp only [bytesI, List.map_cons, List.foldl_cons] at this ⊢
    rw [show UInt8.ofNat ((c.toNat : Int)).toNat = c by simp, this]
    show (r.data.push c).toList ++ cs = _
    simp
theorem strOf_bytes (cs : List UInt8) : strOf (bytesI cs) = ⟨cs.toArray⟩ := by
  have := strOf_go cs ByteArray.empty
  apply ByteArray.ext
  apply Array.toList_inj.1
  unfold strOf
  rw [this]
  rfl
/-- an accumulator at p, a row of bytes apart from it; both younger than W -/
structure St (W wr : World) (p : Nat) (a : AccS) (tv : Value) (cs : List UInt8) : Prop where
  ex : ∃ F, AccAt wr F p a ∧ (∀ x, F x → x < wr.heap.size ∧ W.heap.size ≤ x) ∧ (∀ k, tv.ownBlock = some k → ¬ F k)
  own : Own (encI .u8) 1 5 0 wr tv (bytesI cs)
  tb : ∀ k, tv.ownBlock = some k → W.heap.size ≤ k
  bel : Below W.heap.size W wr
section
variable {W wr w' wA w2 : World} {p : Nat} {a a' : AccS} {tv v' : Value} {cs cs' : List UInt8}
theorem St.grow (h : St W wr p a tv cs) (hb : Below wr.heap.size wr w') : St W w' p a tv cs := by
  obtain ⟨F, h1, h2, h3⟩ := h.ex
  exact ⟨⟨F, h1.grow hb, fun x hx => ⟨Nat.lt_of_lt_of_le (h2 x hx).1 hb.size, (h2 x hx).2⟩, h3⟩, h.own.keep fun k hk => hb.block k (h.own.lt k hk).2, h.tb, h.bel.trans (hb.mono h.bel.size)⟩
theorem St.did {F : Nat → Prop} (h : St W wr p a tv cs) (hF : ∀ x, F x → x < wr.heap.size ∧ W.heap.size ≤ x) (hv : ∀ k, tv.ownBlock = some k → ¬ F k) (hd : AccDid wr F p a' w') : St W w' p a' tv cs := by
  obtain ⟨F', h1, k1, f1⟩ := hd
  obtain ⟨G, g1, g2⟩ := h1.tight
  have hWs := h.bel.size
  refine ⟨⟨G, g1, fun x hx => ⟨(g2 x hx).2, ?_⟩, fun k hk hG => ?_⟩, h.own.keep fun k hk => k1.block k (h.own.lt k hk).2 (hv k hk), h.tb, h.bel.trans (k1.below (fun x hx => (hF x hx).2) hWs)⟩
  · rcases f1 x (g2 x hx).1 with h | h
    · exact (hF x h).2
    · omega
  · rcases f1 k (g2 k hG).1 with h' | h'
    · exact hv k hk h'
    · have := (h.own.lt k hk).2; omega
theorem St.none (h : St W wr p a tv cs) : St W wr p a (.slice none 0 0) [] := by
  obtain ⟨F, h1, h2, h3⟩ := h.ex
  exact ⟨⟨F, h1, h2, fun k hk => by cases hk⟩, Own.nil _ _ _ _ _, fun k hk => (by cases hk), h.bel⟩
theorem St.push (h : St W wr p a tv cs) (hg : Below wr.heap.size wr wA) (hk : Keep (fun k => tv.ownBlock = some k) wA w2) (ho : Own (encI .u8) 1 5 0 w2 v' (bytesI cs')) (hf : ∀ k, v'.ownBlock = some k → tv.ownBlock = some k ∨ wA.heap.size ≤ k) : St W w2 p a v' cs' := by
  obtain ⟨F, h1, h2, h3⟩ := h.ex
  have hs := hg.size
  have hWs := h.bel.size
  refine ⟨⟨F, (h1.grow hg).keep hk (fun x hx e => h3 x e hx), fun x hx => ⟨?_, (h2 x hx).2⟩, fun k hk' hF => ?_⟩, ho, fun k hk' => ?_, (h.bel.trans (hg.mono hWs)).trans (hk.below (fun x hx => h.tb x hx) (by omega))⟩
  · have := (h2 x hx).1; have := hk.size; omega
  · rcases hf k hk' with h' | h'
    · exact h3 k h' hF
    · have := (h2 k hF).1; omega
  · rcases hf k hk' with h' | h'
    · exact h.tb k h'
    · omega
theorem St.form (h : St W wr p a tv cs) : ∃ A c, tv = .slice A cs.length c ∧ cs.length ≤ c ∧ Rd (encI .u8) 1 wr A (bytesI cs) := by
  obtain ⟨A, c, e, h1, h2⟩ := h.own.form
  have hl : (bytesI cs).length = cs.length := by simp [bytesI]
  rw [hl] at e h1
  refine ⟨A, c, e, h1, ?_⟩
  have := h.own
  rw [e, ← hl] at this
  exact this.rd (encI_len _)
theorem conv_st {A : Option Addr} {c : Nat} (rd : Rd (encI .u8) 1 wr A (bytesI cs)) : (convert 43 9 (.slice A cs.length c)).run Tryd.prog wr = .ok (.string ⟨cs.toArray⟩) wr := by
  have := conv_rd (c := c) rd
  rw [strOf_bytes, show (bytesI cs).length = cs.length by simp [bytesI]] at this
  exact this
end
end Go.Proofs.YtphkfffphlembaaDoor
