/- strconv.Itoa, laid by the kit's shelf (the record of numbers is printed by mklay.py for one seat). -/
import Derived.Test.YtphkfffphlembaaDoorPa
import Derived.Shelf.Strconv.Itoa3
import Derived.Lib.LaidTab
import Derived.Lib.ItoaMem
namespace Go.Proofs.YtphkfffphlembaaDoor
open Go.RowKit
set_option linter.unusedVariables false
set_option linter.unusedSimpArgs false

def itoa_lays_ren : Go.Shelf.Ren := { f := fun x => match x with | 171 => 26 | 243 => 32 | 246 => 36 | 283 => 39 | 284 => 40 | 285 => 41 | 286 => 42 | 129 => 46 | 317 => 45 | 318 => 47 | 319 => 48 | 320 => 49 | 337 => 50 | 338 => 51 | n => n, t := fun x => match x with | 3 => 3 | 9 => 9 | 2 => 2 | 4 => 4 | 171 => 66 | 0 => 0 | 53 => 67 | 37 => 43 | 5 => 5 | 173 => 70 | 212 => 77 | 51 => 78 | 20 => 20 | 213 => 79 | 46 => 81 | 232 => 84 | 233 => 85 | n => n, g := fun x => match x with | 17 => 0 | 18 => 2 | 19 => 3 | n => n }
theorem itoa_lays : Go.Proofs.LaysM.n171 Tryd.prog itoa_lays_ren := {
  mixed := by kernel_rfl
  f129 := Tryd.func46.trans (congrArg some (by kernel_rfl))
  f171 := Tryd.func26.trans (congrArg some (by kernel_rfl))
  f243 := Tryd.func32.trans (congrArg some (by kernel_rfl))
  f246 := Tryd.func36.trans (congrArg some (by kernel_rfl))
  f283 := Tryd.func39.trans (congrArg some (by kernel_rfl))
  f284 := Tryd.func40.trans (congrArg some (by kernel_rfl))
  f285 := Tryd.func41.trans (congrArg some (by kernel_rfl))
  f286 := Tryd.func42.trans (congrArg some (by kernel_rfl))
  f317 := Tryd.func45.trans (congrArg some (by kernel_rfl))
  f318 := Tryd.func47.trans (congrArg some (by kernel_rfl))
  f319 := Tryd.func48.trans (congrArg some (by kernel_rfl))
  f320 := Tryd.func49.trans (congrArg some (by kernel_rfl))
  f337 := Tryd.func50.trans (congrArg some (by kernel_rfl))
  f338 := Tryd.func51.trans (congrArg some (by kernel_rfl))
  t0 := Tryd.underlying0
  a0 := Tryd.isAgg0
  z0 := Tryd.sizeOf0
  v0 := Tryd.zeroValue0
  t2 := Tryd.underlying2
  a2 := Tryd.isAgg2
  z2 := Tryd.sizeOf2
  v2 := Tryd.zeroValue2
  t3 := Tryd.underlying3
  a3 := Tryd.isAgg3
  z3 := Tryd.sizeOf3
  v3 := Tryd.zeroValue3
  t4 := Tryd.underlying4
  a4 := Tryd.isAgg4
  z4 := Tryd.sizeOf4
  v4 := Tryd.zeroValue4
  t5 := Tryd.underlying5
  a5 := Tryd.isAgg5
  z5 := Tryd.sizeOf5
  v5 := Tryd.zeroValue5
  t9 := Tryd.underlying9
  a9 := Tryd.isAgg9
  z9 := Tryd.sizeOf9
  v9 := Tryd.zeroValue9
  t20 := Tryd.underlying20
  a20 := Tryd.isAgg20
  z20 := Tryd.sizeOf20
  v20 := Tryd.zeroValue20
  t37 := Tryd.underlying43
  a37 := Tryd.isAgg43
  z37 := Tryd.sizeOf43
  v37 := Tryd.zeroValue43
  t46 := Tryd.underlying81
  a46 := Tryd.isAgg81
  z46 := Tryd.sizeOf81
  v46 := Tryd.zeroValue81
  t51 := Tryd.underlying78
  a51 := Tryd.isAgg78
  z51 := Tryd.sizeOf78
  v51 := Tryd.zeroValue78
  t53 := Tryd.underlying67
  a53 := Tryd.isAgg67
  z53 := Tryd.sizeOf67
  v53 := Tryd.zeroValue67
  t171 := Tryd.underlying66
  a171 := Tryd.isAgg66
  z171 := Tryd.sizeOf66
  v171 := Tryd.zeroValue66
  t173 := Tryd.underlying70
  a173 := Tryd.isAgg70
  z173 := Tryd.sizeOf70
  v173 := Tryd.zeroValue70
  t212 := Tryd.underlying77
  a212 := Tryd.isAgg77
  z212 := Tryd.sizeOf77
  v212 := Tryd.zeroValue77
  t213 := Tryd.underlying79
  a213 := Tryd.isAgg79
  z213 := Tryd.sizeOf79
  t232 := Tryd.underlying84
  a232 := Tryd.isAgg84
  z232 := Tryd.sizeOf84
  v232 := Tryd.zeroValue84
  t233 := Tryd.underlying85
  a233 := Tryd.isAgg85
  z233 := Tryd.sizeOf85
  v233 := Tryd.zeroValue85
  g17 := by kernel_rfl
  g18 := by kernel_rfl
  g19 := by kernel_rfl
  i0 := by kernel_rfl
  i2 := by kernel_rfl
  i3 := by kernel_rfl
  i4 := by kernel_rfl
  i5 := by kernel_rfl
  i9 := by kernel_rfl
  i20 := by kernel_rfl
  i37 := by kernel_rfl
  i46 := by kernel_rfl
  i51 := by kernel_rfl
  i53 := by kernel_rfl
  i171 := by kernel_rfl
  i173 := by kernel_rfl
  i212 := by kernel_rfl
  i232 := by kernel_rfl
  i233 := by kernel_rfl
  m17 := by kernel_rfl
  m18 := by kernel_rfl
  m19 := by kernel_rfl }
/-- the table that strconv reads -/
structure Tab (w : World) : Prop where
  is : Lib.TabIs Tryd.prog w "internal/strconv.uint64pow10" .u64 Lib.pow10Tab
  lt : 0 < w.heap.size
theorem gTab : Tryd.prog.globalNamed "internal/strconv.uint64pow10" = some 0 := by kernel_rfl
theorem Tab.of {w : World} (h : Lib.TabIs Tryd.prog w "internal/strconv.uint64pow10" .u64 Lib.pow10Tab) : Tab w := by
  refine ⟨h, ?_⟩
  rcases Nat.lt_or_ge 0 w.heap.size with h1 | h1
  · exact h1
  · unfold Lib.TabIs World.var? at h
    simp only [gTab, Option.bind_some] at h
    rw [Array.getElem?_eq_none h1] at h
    cases h
theorem Tab.grow {w w' : World} (h : Tab w) (hb : Below w.heap.size w w') : Tab w' := by
  refine ⟨?_, Nat.lt_of_lt_of_le h.lt hb.size⟩
  have h1 := h.is
  unfold Lib.TabIs World.var? at h1 ⊢
  simp only [gTab, Option.bind_some] at h1 ⊢
  rw [hb.block _ h.lt]
  exact h1
theorem Tab.ext {w : World} (h : Tab w) (x : More) : Tab (ext w x) := h.grow (below_of_ext w x)
theorem Tab.alloc {w : World} (h : Tab w) (o : Obj) : Tab (w.alloc o) := h.grow ((Below.refl _ _).alloc (Nat.le_refl _) o)
theorem itoa_c (n : Int) (h0 : 0 ≤ n) (h1 : n ≤ 65535) (w : World) (ht : Tab w) : Calls Tryd.prog 26 #[.int .i64 n] w (Gives w (.string ⟨(Lib.decDigits n.toNat).toArray⟩)) := by
  refine (Any.strconv_Itoa itoa_lays n (by omega) (by omega) w ht.is).mono ?_
  rintro e w' ⟨rfl, k, os, rfl⟩
  refine ⟨?_, ?_⟩
  · congr 4
    unfold Lib.itoa
    rw [if_neg (by omega)]
  · exact ⟨rfl, rfl, rfl, by simp [Sort.grow, World.drewN], fun i hi => by simp [Sort.grow, World.drewN, Array.getElem?_append_left hi]⟩
end Go.Proofs.YtphkfffphlembaaDoor
