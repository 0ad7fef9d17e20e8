/- What a cell weighs tells its rendition and its keeping. No program in sight. -/
import Derived.Test.YtmpbgjnkkapijaaCells
namespace Go.Proofs.Ytmpbgjnkkapijaa
open Go.RowKit

def nb (x : Bool) : Int := if x then 1 else 0
theorem bi_nb (x : Bool) (n : Int) : bi x n = n * nb x := by cases x <;> simp [bi, nb]
theorem nb_bd (x : Bool) : 0 ≤ nb x ∧ nb x ≤ 1 := by cases x <;> simp [nb]
theorem nb_inj {x y : Bool} (h : nb x = nb y) : x = y := by cases x <;> cases y <;> simp [nb] at h ⊢
theorem weigh_tells (g : Int) (f f' : Fl) (k k' : Bool) (h : g + f.weight + bi k 4 = g + f'.weight + bi k' 4) : f = f' ∧ k = k' := by
  obtain ⟨b, u, l, r, d⟩ := f
  obtain ⟨b', u', l', r', d'⟩ := f'
  simp only [Fl.weight, wsum, bi_nb] at h
  have h1 := nb_bd b
  have h2 := nb_bd u
  have h3 := nb_bd l
  have h4 := nb_bd r
  have h5 := nb_bd d
  have h6 := nb_bd k
  have g1 := nb_bd b'
  have g2 := nb_bd u'
  have g3 := nb_bd l'
  have g4 := nb_bd r'
  have g5 := nb_bd d'
  have g6 := nb_bd k'
  have e6 : nb k = nb k' := by omega
  have e5 : nb d = nb d' := by omega
  have e2 : nb u = nb u' := by omega
  have e4 : nb r = nb r' := by omega
  have e3 : nb l = nb l' := by omega
  have e1 : nb b = nb b' := by omega
  rw [nb_inj e1, nb_inj e2, nb_inj e3, nb_inj e4, nb_inj e5, nb_inj e6]
  exact ⟨rfl, rfl⟩
end Go.Proofs.Ytmpbgjnkkapijaa
