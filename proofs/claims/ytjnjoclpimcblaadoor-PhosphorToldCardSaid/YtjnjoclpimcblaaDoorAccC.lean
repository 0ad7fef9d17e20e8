/- What an accumulator tells, and its copies. -/
import Derived.Test.YtjnjoclpimcblaaDoorAccB
namespace Go.Proofs.YtjnjoclpimcblaaDoor
open Go.RowKit
set_option linter.unusedVariables false
set_option linter.unusedSimpArgs false

/-- a slice of the call's own without spare room -/
def Clp (B : Nat) (w : World) (A : Option Addr) (xs : List Int) : Prop :=
  (A = none ∧ xs = []) ∨ ∃ g cur, A = some ⟨g, 0, none⟩ ∧ B ≤ g ∧ w.heap[g]? = some (.cells cur 3 (0, 0)) ∧ xs.length ≤ cur.size ∧ ∀ i (h : i < xs.length), cur[i]? = some (.int .i64 xs[i])
def NewV (w : World) (xs : List Int) (e : Ending) (w' : World) : Prop := ∃ A x, e = .returned (.slice A xs.length xs.length) ∧ w' = ext w x ∧ Clp w.heap.size (ext w x) A xs
def NewJ (w : World) (xs : List Int) (e : Ending) (w' : World) : Prop := ∃ A c x, e = .returned (.slice A xs.length c) ∧ w' = ext w x ∧ Own (encI .i64) 1 3 w.heap.size (ext w x) (.slice A xs.length c) xs
section
variable {w w' : World} {A : Option Addr} {B B' : Nat} {xs : List Int} {n c : Nat}
theorem Clp.grow (h : Clp B w A xs) (hb : Below w.heap.size w w') : Clp B w' A xs := by
  rcases h with h | ⟨g, cur, h1, h2, h3, h4, h5⟩
  · exact .inl h
  · exact .inr ⟨g, cur, h1, h2, (hb.block g (heap_in h3)).trans h3, h4, h5⟩
theorem Clp.mono (h : Clp B w A xs) (hB : B' ≤ B) : Clp B' w A xs := by
  rcases h with h | ⟨g, cur, h1, h2, h3, h4, h5⟩
  · exact .inl h
  · exact .inr ⟨g, cur, h1, by omega, h3, h4, h5⟩
theorem Clp.rd (h : Clp B w A xs) : Ints w A xs := fun h0 => by
  rcases h with ⟨_, rfl⟩ | ⟨g, cur, h1, h2, h3, h4, h5⟩
  · simp at h0
  · refine ⟨g, 0, h1, heap_in h3, fun i hi j v hv => ?_⟩
    match j, hv with
    | 0, hv =>
      simp [encI] at hv
      subst hv
      rw [cell_in h3]
      simpa using h5 i hi
theorem Own.caps {α : Type} {enc : α → List Value} {size : Nat} {e : TypeId} {ys : List α} (h : Own enc size e B w (.slice A ys.length c) ys) : ys.length ≤ c ∧ c ≤ maxLen := by
  obtain ⟨A', c', e1, h1, h2⟩ := h.form
  injection e1 with _ _ e1
  subst e1
  exact ⟨h1, h2⟩
theorem Own.clp (h : Own (encI .i64) 1 3 B w (.slice A n c) xs) : Clp B w A xs := by
  rcases h.2 with ⟨h1, hn⟩ | ⟨g, cap, cur, h1, hB, hg, h2, h3, h4, h5⟩
  · injection h1 with h1 _ _
    exact .inl ⟨h1, List.eq_nil_of_length_eq_zero hn⟩
  · injection h1 with h1 _ _
    refine .inr ⟨g, cur, h1, hB, hg, by omega, fun i hi => ?_⟩
    have hf := flat_get (enc := encI .i64) (size := 1) (encI_len _) xs i hi 0 (by omega)
    rw [← h5] at hf
    simp only [Nat.mul_one, Nat.add_zero, List.getElem?_take] at hf
    rw [if_pos hi] at hf
    simpa [encI] using hf
end
@[go_sem] theorem ints_nil (a : Option Addr) (n c : Nat) (w : World) : (binOp .eql 29 (.slice a n c) (.slice none 0 0)).run Tryd.prog w = .ok (.bool a.isNone) w := by
  have h := run_equal_slice_nil (P := Tryd.prog) (w := w) 29 3 a n c Tryd.underlying29
  simp [binOp, h]
set_option maxRecDepth 100000 in
theorem clip_i (a : Option Addr) (n c : Nat) (w : World) (hc : n ≤ c) (hm : c ≤ 9223372036854775807) :
    Calls Tryd.prog 22 #[.slice a n c] w (Same w (.slice a n n)) := by
  cases a
  · go_enter Tryd.func22, Tryd.ntmps22
    go_wp2
    go_returns
    exact ⟨rfl, rfl⟩
  · go_enter Tryd.func22, Tryd.ntmps22
    go_wp2
    go_returns
    exact ⟨rfl, rfl⟩
set_option maxRecDepth 100000 in
theorem clone_i (A : Option Addr) (C : Nat) (xs : List Int) (w : World) (rd : Ints w A xs) (hC : A = none → C = 0) (hm : xs.length * 8 ≤ 140737488355328) (h63 : xs.length ≤ maxLen) :
    Calls Tryd.prog 21 #[.slice A xs.length C] w (NewJ w xs) := by
  cases A with
  | none =>
    have hx : xs = [] := by
      rcases Nat.eq_zero_or_pos xs.length with h | h
      · exact List.eq_nil_of_length_eq_zero h
      · obtain ⟨b, o, e, _⟩ := rd h
        cases e
    subst hx
    obtain rfl := hC rfl
    go_enter Tryd.func21, Tryd.ntmps21
    go_wp2
    go_returns
    exact ⟨none, 0, ⟨#[], w.drawn⟩, rfl, by simp [ext], Own.nil _ _ _ _ _⟩
  | some ad =>
    have X := Lib.hid rd
    clear rd hC
    go_enter Tryd.func21, Tryd.ntmps21
    go_wp2_with (first
      | (at_builtin
         refine append_rd (U := w) (.tmp 5) (.tmp 6) _ 3 _ 8 rfl rfl Tryd.underlying29 int_info rfl (by omega) (encI_len _) (encI_one _) [] xs _ (some ad) C rfl rfl ?_ (Own.new (encI_len _) (by simp) rfl #[] rfl (Nat.le_refl _) (by simp [maxLen])) (by repeat (first | exact X.out | exact X | refine Rd.ext ?_ _ | refine Rd.alloc ?_ _ | refine Rd.drew ?_)) (by first | (simp; done) | (simp; omega)) (by first | (simp; done) | (simp; omega)) ?_
         · (repeat' (first | (with_reducible exact Below.refl _ _) | (with_reducible refine Below.alloc ?_ ?_ _) | (with_reducible refine below_ext ?_ ?_ _) | (with_reducible refine Below.drew ?_) | (with_reducible refine below_drewN ?_ _) | (with_reducible refine Below.setCell ?_ ?_ _) | go_size | (simp only [go_sem]; omega) | (simp [go_sem]; done) | (simp [go_sem]; omega)))
         intro A' c' x3 zs hz hO))
    rw [List.nil_append] at hz
    subst hz
    go_wp2_with fail
    all_goals go_returns
    all_goals exact ⟨A', c', x3, rfl, rfl, hO⟩
section
variable {w : World} {F : Nat → Prop} {b : Nat} {a : AccS}
set_option maxRecDepth 100000 in
set_option maxHeartbeats 4000000 in
theorem list_c (h : AccAt w F b a) (ha : a.Ok) : Calls Tryd.prog 13 #[.pointer (some ⟨b, 0, none⟩)] w (NewV w a.list) := by
  obtain ⟨sl, h1, h2, h3⟩ := h.ex
  obtain ⟨A, cp, rfl, hc1, hc2⟩ := h2.form
  have k0 : w.cell? ⟨b, 0, none⟩ = some (.slice A a.done.length cp) := by rw [cell_in h1]; rfl
  have k1 : w.cell? ⟨b, 1, none⟩ = some (.int .i64 a.now) := by rw [cell_in h1]; rfl
  have k2 : w.cell? ⟨b, 2, none⟩ = some (.bool a.begun) := by rw [cell_in h1]; rfl
  have hbs := heap_in h1
  have hl := ha.len
  have CL := Lib.hid (clone_i A cp a.done w (Own.rd (encI_len _) h2) (fun e => by
    subst e
    rcases h2.2 with ⟨h1, hn⟩ | ⟨g, cap, cur, h1, _⟩
    · injection h1
    · cases h1) (by omega) (by simp [maxLen]; omega))
  clear h h1 h2 h3 hc1 hc2
  have hT : a.list = if a.begun = true ∧ a.done.length < 30 then a.done ++ [a.now] else a.done := rfl
  generalize a.list = T at hT ⊢
  generalize hD : a.done = D at *
  generalize hN : a.now = N at *
  generalize hG : a.begun = G at *
  clear hD hN hG ha
  cases G
  · obtain rfl : T = D := by simpa using hT
    clear hT
    go_enter Tryd.func13, Tryd.ntmps13
    go_wp2_with (first
      | (go_at_call 21; (with_reducible refine CL.out.mono ?_); (rintro _ _ ⟨A1, c1, x1, rfl, rfl, hO⟩); obtain ⟨hc1, hc2⟩ := hO.caps; replace hO := Lib.hid hO.clp)
      | (go_at_call 22; ((with_reducible refine (clip_i _ _ _ _ (by omega) (by simp only [maxLen] at hc2; omega)).mono ?_); rintro _ _ ⟨rfl, rfl⟩)))
    go_wp2
    go_returns
    exact ⟨A1, x1, rfl, rfl, hO.out⟩
  · by_cases e2 : D.length < 30
    · obtain rfl : T = D ++ [N] := by simpa [e2] using hT
      clear hT
      go_enter Tryd.func13, Tryd.ntmps13
      go_wp2_with (first
        | (go_at_call 21; (with_reducible refine CL.out.mono ?_); (rintro _ _ ⟨A1, c1, x1, rfl, rfl, hO⟩); replace hO := Lib.hid hO)
        | (at_builtin
           refine append_rd (U := w) (.tmp 18) (.tmp 23) 29 3 _ 8 rfl rfl Tryd.underlying29 int_info rfl (by omega) (encI_len _) (encI_one _) D [N] _ _ 1 rfl rfl ?_ (hO.out.alloc _) (int_newA _ N (by simp [go_sem])) (by simp [maxLen]; omega) (by simp; omega) ?_
           · (repeat' (first | (with_reducible exact Below.refl _ _) | (with_reducible refine Below.alloc ?_ ?_ _) | (with_reducible refine below_ext ?_ ?_ _) | (with_reducible refine Below.drew ?_) | (with_reducible refine below_drewN ?_ _) | (with_reducible refine Below.setCell ?_ ?_ _) | go_size | (simp only [go_sem]; omega) | (simp [go_sem]; done) | (simp [go_sem]; omega)))
           intro A2 c2 x2 zs hz hO2
           obtain ⟨hc1, hc2⟩ := hO2.caps
           replace hO2 := Lib.hid hO2.clp
           have HZ := Lib.hid hz
           clear hz)
        | (go_at_call 22; ((with_reducible refine (clip_i _ _ _ _ (by omega) (by simp only [maxLen] at hc2; omega)).mono ?_); rintro _ _ ⟨rfl, rfl⟩)))
      go_wp2
      go_returns
      rw [← HZ.out]
      exact ⟨A2, x2, rfl, rfl, hO2.out⟩
    · obtain rfl : T = D := by simpa [e2] using hT
      clear hT
      go_enter Tryd.func13, Tryd.ntmps13
      go_wp2_with (first
        | (go_at_call 21; (with_reducible refine CL.out.mono ?_); (rintro _ _ ⟨A1, c1, x1, rfl, rfl, hO⟩); obtain ⟨hc1, hc2⟩ := hO.caps; replace hO := Lib.hid hO.clp)
        | (go_at_call 22; ((with_reducible refine (clip_i _ _ _ _ (by omega) (by simp only [maxLen] at hc2; omega)).mono ?_); rintro _ _ ⟨rfl, rfl⟩)))
      go_wp2
      go_returns
      exact ⟨A1, x1, rfl, rfl, hO.out⟩
end
end Go.Proofs.YtjnjoclpimcblaaDoor
