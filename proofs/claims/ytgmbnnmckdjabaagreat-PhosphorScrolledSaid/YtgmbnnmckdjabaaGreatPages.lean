/- Several pages that share no memory.  -/
import Derived.Test.YtgmbnnmckdjabaaGreatPgB
import Derived.Test.YtgmbnnmckdjabaaGreatPgNew
namespace Go.Proofs.YtgmbnnmckdjabaaGreat
open Go.RowKit
set_option linter.unusedVariables false
set_option linter.unusedSimpArgs false

/-- pages that lie apart from each other and from all that is older than B -/
structure Pages (B : Nat) (w0 w : World) (ps : List (Nat × PgS)) : Prop where
  below : Below B w0 w
  bw : B ≤ w0.heap.size
  ex : ∃ F : Nat → Nat → Prop, (∀ i (h : i < ps.length), PageAt w (F i) ps[i].1 ps[i].2) ∧ (∀ i j b, i < ps.length → j < ps.length → F i b → F j b → i = j) ∧ ∀ i b, i < ps.length → F i b → B ≤ b
section
variable {B : Nat} {w0 w w1 w2 : World} {F G : Nat → Prop} {p q : Nat} {S T : PgS} {ps : List (Nat × PgS)} {x : More}
theorem Pages.one (hb : Below B w0 w) (hB : B ≤ w0.heap.size) (hp : PageAt w F p S) (hF : ∀ b, F b → B ≤ b) : Pages B w0 w [(p, S)] := by
  refine ⟨hb, hB, fun _ => F, fun i h => ?_, fun i j b hi hj _ _ => ?_, fun i b _ h => hF b h⟩
  · obtain rfl : i = 0 := by simpa using h
    exact hp
  · simp at hi hj
    omega
theorem Pages.new (h : Pages B w0 w ps) (hf : ∀ b, G b → w.heap.size ≤ b) (hP : PageAt (ext w x) G q T) : Pages B w0 (ext w x) (ps ++ [(q, T)]) := by
  obtain ⟨hb, hB, F, h1, h2, h3⟩ := h
  have hBw := Nat.le_trans hB hb.size
  refine ⟨below_ext hb (Nat.le_trans hB hb.size) x, hB, fun i b => if i = ps.length then G b else F i b, fun i hi => ?_, fun i j b hi hj fi fj => ?_, fun i b hi fi => ?_⟩
  · by_cases e : i = ps.length
    · subst e
      simpa using hP
    · have hi' : i < ps.length := by simp at hi; omega
      rw [List.getElem_append_left hi']
      simp only [e, if_false]
      exact (h1 i hi').grow (below_of_ext w x)
  · simp at hi hj
    by_cases e1 : i = ps.length <;> by_cases e2 : j = ps.length
    · omega
    · simp only [e1, e2, if_true, if_false] at fi fj
      have := (h1 j (by omega)).lt b fj
      have := hf b fi
      omega
    · simp only [e1, e2, if_true, if_false] at fi fj
      have := (h1 i (by omega)).lt b fi
      have := hf b fj
      omega
    · simp only [e1, e2, if_false] at fi fj
      exact h2 i j b (by omega) (by omega) fi fj
  · simp at hi
    by_cases e : i = ps.length
    · simp only [e, if_true] at fi
      have := hf b fi
      omega
    · simp only [e, if_false] at fi
      exact h3 i b (by omega) fi
theorem Pages.grow (h : Pages B w0 w ps) (hb : Below w.heap.size w w1) : Pages B w0 w1 ps :=
  ⟨h.below.trans (hb.mono (Nat.le_trans h.bw h.below.size)), h.bw, h.ex.elim fun F hF => ⟨F, fun i hi => (hF.1 i hi).grow hb, hF.2⟩⟩
theorem Pages.get (h : Pages B w0 w ps) (i : Nat) (hi : i < ps.length) : ∃ F, PageAt w F ps[i].1 ps[i].2 ∧ ∀ w1 w2 T, Below w.heap.size w w1 → Did F ps[i].1 T w1 w2 → Pages B w0 w2 (ps.set i (ps[i].1, T)) := by
  obtain ⟨hb, hB, F, h1, h2, h3⟩ := h
  refine ⟨F i, h1 i hi, fun w1 w2 T hb1 hd => ?_⟩
  have hd := hd.back hb1 (h1 i hi).lt
  refine ⟨hb.trans (hd.1.below (fun b f => h3 i b hi f) (Nat.le_trans hB hb.size)), hB, fun j b => if j = i then more (F i) w w2 b else F j b, fun j hj => ?_, fun j k b hj hk fj fk => ?_, fun j b hj fj => ?_⟩
  · rw [List.length_set] at hj
    by_cases e : j = i
    · subst e
      simpa using hd.2
    · rw [List.getElem_set_ne (fun e' => e e'.symm)]
      simp only [e, if_false]
      exact (h1 j hj).keep hd.1 (fun b fj fi => e (h2 j i b hj hi fj fi))
  · rw [List.length_set] at hj hk
    by_cases e1 : j = i <;> by_cases e2 : k = i
    · omega
    · simp only [e1, e2, if_true, if_false] at fj fk
      rcases fj with f | f
      · rw [e1]; exact h2 i k b hi hk f fk
      · have := (h1 k hk).lt b fk
        omega
    · simp only [e1, e2, if_true, if_false] at fj fk
      rcases fk with f | f
      · rw [e2]; exact h2 j i b hj hi fj f
      · have := (h1 j hj).lt b fj
        omega
    · simp only [e1, e2, if_false] at fj fk
      exact h2 j k b hj hk fj fk
  · rw [List.length_set] at hj
    by_cases e : j = i
    · simp only [e, if_true] at fj
      rcases fj with f | f
      · exact h3 i b hi f
      · exact Nat.le_trans (Nat.le_trans hB hb.size) f.1
    · simp only [e, if_false] at fj
      exact h3 j b hj fj
end
end Go.Proofs.YtgmbnnmckdjabaaGreat
