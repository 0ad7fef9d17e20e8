/- Pages: filled, erased, cleaned, changed, turned over, kept, shifted.  -/
import Derived.Test.YtignkkejkknddaaGreatPgEach
import Derived.Test.YtignkkejkknddaaGreatLineE
import Derived.Test.YtignkkejkknddaaGreatLineC
namespace Go.Proofs.YtignkkejkknddaaGreat
open Go.RowKit
set_option linter.unusedVariables false
set_option linter.unusedSimpArgs false

theorem Rd.keep' {α : Type} {enc : α → List Value} {size : Nat} {a : Option Addr} {xs : List α} {F : Nat → Prop} {w w' : World} (h : Rd enc size w a xs) (hk : Keep F w w') (hA : 0 < xs.length → ∀ q o, a = some ⟨q, o, none⟩ → ¬ F q) : Rd enc size w' a xs := fun h0 => by
  obtain ⟨b, off, e, hlt, hc⟩ := h h0
  exact ⟨b, off, e, Nat.lt_of_lt_of_le hlt hk.size, fun i hi j v hv => (cell_of_heap (hk.block b hlt (hA h0 b off e))).trans (hc i hi j v hv)⟩
abbrev penV (y : Cl) (P : Value) : Value := .agg #[.int .i32 y.g, .int .u8 y.r, .bool y.k, P]
set_option maxRecDepth 100000 in
set_option maxHeartbeats 4000000 in
theorem pen_change (c : Cl) (A2 : Option Addr) (C2 : Nat) (ns : List Int) (A : Option Addr) (C : Nat) (sz : Int) (xs : List Cl) (f t : Int) (w : World) (rd : Rd encC 3 w A xs) (hC : A = none → C = 0) (hm : xs.length ≤ 1000000) (hf : f ≤ 9223372036854775807) (hok : ∀ y ∈ xs, y.ok) (rp : Ints w A2 ns) (hp : ns.length ≤ 9223372036854775807) :
    Calls Tryz.prog 107 #[penV c (.slice A2 ns.length C2), lineV A xs.length C sz, .int .i64 f, .int .i64 t] w (NewL w (eachR xs f t (applyC ns)) sz) := by
  have E := Lib.hid (fun w' (h : Rd encC 3 w' A xs) (h2 : Ints w' A2 ns) => change_l A C sz xs f t A2 C2 ns w' h hC hm hf hok h2 hp)
  have X := Lib.hid rd
  have Y := Lib.hid rp
  clear rd hC rp
  have hl : (eachR xs f t (applyC ns)).length = xs.length := eachR_len _ _ _ _
  generalize (eachR xs f t (applyC ns)) = R at E hl ⊢
  replace hl := Lib.hid hl
  obtain ⟨cg, cr, ck⟩ := c
  go_enter Tryz.func107, Tryz.ntmps107
  go_wp2_with (first
    | (go_at_call 126
       (with_reducible refine (E.out _ (by repeat (first | exact X.out | exact X | refine Rd.ext ?_ _ | refine Rd.alloc ?_ _ | refine Rd.drew ?_)) (by repeat (first | exact Y.out | exact Y | refine Rd.ext ?_ _ | refine Rd.alloc ?_ _ | refine Rd.drew ?_))).mono ?_)
       rintro _ _ ⟨A1, c1, x1, rfl, rfl, hO1⟩
       have hO := Lib.hid hO1
       clear hO1))
  go_returns
  refine NewL.swap ?_ hO.out
  (repeat' (first | (with_reducible exact Below.refl _ _) | (with_reducible refine Below.alloc ?_ ?_ _) | (with_reducible refine below_ext ?_ ?_ _) | (with_reducible refine Below.drew ?_) | (with_reducible refine below_drewN ?_ _) | (with_reducible refine Below.setCell ?_ ?_ _) | go_size | (simp only [go_sem]; omega) | (simp [go_sem]; done) | (simp [go_sem]; omega)))
set_option maxRecDepth 100000 in
set_option maxHeartbeats 4000000 in
theorem pen_flip (c : Cl) (A2 : Option Addr) (C2 : Nat) (ns : List Int) (A : Option Addr) (C : Nat) (sz : Int) (xs : List Cl) (f t : Int) (w : World) (rd : Rd encC 3 w A xs) (hC : A = none → C = 0) (hm : xs.length ≤ 1000000) (hf : f ≤ 9223372036854775807) (hok : ∀ y ∈ xs, y.ok) (rp : Ints w A2 ns) (hp : ns.length ≤ 9223372036854775807) :
    Calls Tryz.prog 108 #[penV c (.slice A2 ns.length C2), lineV A xs.length C sz, .int .i64 f, .int .i64 t] w (NewL w (eachR xs f t (flipC ns)) sz) := by
  have E := Lib.hid (fun w' (h : Rd encC 3 w' A xs) (h2 : Ints w' A2 ns) => flip_l A C sz xs f t A2 C2 ns w' h hC hm hf hok h2 hp)
  have X := Lib.hid rd
  have Y := Lib.hid rp
  clear rd hC rp
  have hl : (eachR xs f t (flipC ns)).length = xs.length := eachR_len _ _ _ _
  generalize (eachR xs f t (flipC ns)) = R at E hl ⊢
  replace hl := Lib.hid hl
  obtain ⟨cg, cr, ck⟩ := c
  go_enter Tryz.func108, Tryz.ntmps108
  go_wp2_with (first
    | (go_at_call 127
       (with_reducible refine (E.out _ (by repeat (first | exact X.out | exact X | refine Rd.ext ?_ _ | refine Rd.alloc ?_ _ | refine Rd.drew ?_)) (by repeat (first | exact Y.out | exact Y | refine Rd.ext ?_ _ | refine Rd.alloc ?_ _ | refine Rd.drew ?_))).mono ?_)
       rintro _ _ ⟨A1, c1, x1, rfl, rfl, hO1⟩
       have hO := Lib.hid hO1
       clear hO1))
  go_returns
  refine NewL.swap ?_ hO.out
  (repeat' (first | (with_reducible exact Below.refl _ _) | (with_reducible refine Below.alloc ?_ ?_ _) | (with_reducible refine below_ext ?_ ?_ _) | (with_reducible refine Below.drew ?_) | (with_reducible refine below_drewN ?_ _) | (with_reducible refine Below.setCell ?_ ?_ _) | go_size | (simp only [go_sem]; omega) | (simp [go_sem]; done) | (simp [go_sem]; omega)))
section
variable {F : Nat → Prop} {p : Nat} {S : PgS} {w : World}
set_option maxRecDepth 100000 in
set_option maxHeartbeats 4000000 in
theorem erase_p (h : PageAt w F p S) (hS : S.Ok) (b : BxI)  :
    Calls Tryz.prog 72 #[.pointer (some ⟨p, 0, none⟩), boxV b.t b.l b.b b.r] w (fun e w' => e = .returned (.tuple #[]) ∧ Did F p (eachS S (onB S.rows.length S.cols b) (fun xs l r => eachR xs l r fun _ => erC)) w w') := by
  have E := Lib.hid (fun w' (hb : Below w.heap.size w w') => each_p (h.grow hb) hS b 105 #[] #[] ((fun xs l r => eachR xs l r fun _ => erC)) (enters_of Tryz.func105 (by kernel_rfl) rfl) (fun xs l r => eachR_len xs l r _) (fun A C sz xs l r w'' hk h hC hm h1 h2 ho hl hr => by
    rw [show (#[] ++ #[lineV A xs.length C sz, .int .i64 l, .int .i64 r] ++ #[] : Array Value) = #[lineV A xs.length C sz, .int .i64 l, .int .i64 r] from rfl]
    exact erase_l A C sz xs l r w'' h hC hm (by omega)))
  have BK := Lib.hid (fun w' (hb : Below w.heap.size w w') wz T (hD : Did F p T w' wz) => Did.back hD hb h.lt)
  have hmf := mk_func
  clear h
  obtain ⟨t, l, b', r⟩ := b
  simp only at E ⊢
  generalize eachS S _ _ = T at E ⊢
  go_enter Tryz.func72, Tryz.ntmps72
  go_wp2_with (first
    | (go_at_call 104
       (with_reducible refine (E.out _ (by (repeat' (first | (with_reducible exact Below.refl _ _) | (with_reducible refine Below.alloc ?_ ?_ _) | (with_reducible refine below_ext ?_ ?_ _) | (with_reducible refine Below.drew ?_) | (with_reducible refine below_drewN ?_ _) | (with_reducible refine Below.setCell ?_ ?_ _) | go_size | (simp only [go_sem]; omega) | (simp [go_sem]; done) | (simp [go_sem]; omega))))).mono ?_)
       rintro _ _ ⟨rfl, hD⟩
       replace hD := Lib.hid hD))
  go_returns
  refine ⟨rfl, BK.out _ ?_ _ _ hD.out⟩
  (repeat' (first | (with_reducible exact Below.refl _ _) | (with_reducible refine Below.alloc ?_ ?_ _) | (with_reducible refine below_ext ?_ ?_ _) | (with_reducible refine Below.drew ?_) | (with_reducible refine below_drewN ?_ _) | (with_reducible refine Below.setCell ?_ ?_ _) | go_size | (simp only [go_sem]; omega) | (simp [go_sem]; done) | (simp [go_sem]; omega)))
set_option maxRecDepth 100000 in
set_option maxHeartbeats 4000000 in
theorem clean_p (h : PageAt w F p S) (hS : S.Ok) (b : BxI)  :
    Calls Tryz.prog 73 #[.pointer (some ⟨p, 0, none⟩), boxV b.t b.l b.b b.r] w (fun e w' => e = .returned (.tuple #[]) ∧ Did F p (eachS S (onB S.rows.length S.cols b) (fun xs l r => eachR xs l r cleanC)) w w') := by
  have E := Lib.hid (fun w' (hb : Below w.heap.size w w') => each_p (h.grow hb) hS b 106 #[] #[] ((fun xs l r => eachR xs l r cleanC)) (enters_of Tryz.func106 (by kernel_rfl) rfl) (fun xs l r => eachR_len xs l r _) (fun A C sz xs l r w'' hk h hC hm h1 h2 ho hl hr => by
    rw [show (#[] ++ #[lineV A xs.length C sz, .int .i64 l, .int .i64 r] ++ #[] : Array Value) = #[lineV A xs.length C sz, .int .i64 l, .int .i64 r] from rfl]
    exact clean_l A C sz xs l r w'' h hC hm (by omega)))
  have BK := Lib.hid (fun w' (hb : Below w.heap.size w w') wz T (hD : Did F p T w' wz) => Did.back hD hb h.lt)
  have hmf := mk_func
  clear h
  obtain ⟨t, l, b', r⟩ := b
  simp only at E ⊢
  generalize eachS S _ _ = T at E ⊢
  go_enter Tryz.func73, Tryz.ntmps73
  go_wp2_with (first
    | (go_at_call 104
       (with_reducible refine (E.out _ (by (repeat' (first | (with_reducible exact Below.refl _ _) | (with_reducible refine Below.alloc ?_ ?_ _) | (with_reducible refine below_ext ?_ ?_ _) | (with_reducible refine Below.drew ?_) | (with_reducible refine below_drewN ?_ _) | (with_reducible refine Below.setCell ?_ ?_ _) | go_size | (simp only [go_sem]; omega) | (simp [go_sem]; done) | (simp [go_sem]; omega))))).mono ?_)
       rintro _ _ ⟨rfl, hD⟩
       replace hD := Lib.hid hD))
  go_returns
  refine ⟨rfl, BK.out _ ?_ _ _ hD.out⟩
  (repeat' (first | (with_reducible exact Below.refl _ _) | (with_reducible refine Below.alloc ?_ ?_ _) | (with_reducible refine below_ext ?_ ?_ _) | (with_reducible refine Below.drew ?_) | (with_reducible refine below_drewN ?_ _) | (with_reducible refine Below.setCell ?_ ?_ _) | go_size | (simp only [go_sem]; omega) | (simp [go_sem]; done) | (simp [go_sem]; omega)))
set_option maxRecDepth 100000 in
set_option maxHeartbeats 4000000 in
theorem change_p (h : PageAt w F p S) (hS : S.Ok) (b : BxI) (A2 : Option Addr) (C2 : Nat) (ns : List Int) (rp : Ints w A2 ns) (hA : 0 < ns.length → ∀ q o, A2 = some ⟨q, o, none⟩ → ¬ F q) (hp : ns.length ≤ 9223372036854775807) :
    Calls Tryz.prog 76 #[.pointer (some ⟨p, 0, none⟩), boxV b.t b.l b.b b.r, .slice A2 ns.length C2] w (fun e w' => e = .returned (.tuple #[]) ∧ Did F p (eachS S (onB S.rows.length S.cols b) (fun xs l r => eachR xs l r (applyC ns))) w w') := by
  have RP := fun w' (hb : Below w.heap.size w w') w'' (hk : Keep F w' w'') => (Rd.keep' (rp.below hb) hk hA : Ints w'' A2 ns)
  have E := Lib.hid (fun w' (hb : Below w.heap.size w w') => each_p (h.grow hb) hS b 107 #[penV ⟨0, 0, false⟩ (.slice A2 ns.length C2)] #[] ((fun xs l r => eachR xs l r (applyC ns))) (enters_of Tryz.func107 (by kernel_rfl) rfl) (fun xs l r => eachR_len xs l r _) (fun A C sz xs l r w'' hk h hC hm h1 h2 ho hl hr => by
    rw [show (#[penV ⟨0, 0, false⟩ (.slice A2 ns.length C2)] ++ #[lineV A xs.length C sz, .int .i64 l, .int .i64 r] ++ #[] : Array Value) = #[penV ⟨0, 0, false⟩ (.slice A2 ns.length C2), lineV A xs.length C sz, .int .i64 l, .int .i64 r] from rfl]
    exact pen_change ⟨0, 0, false⟩ A2 C2 ns A C sz xs l r w'' h hC hm (by omega) ho (RP w' hb w'' hk) hp))
  have BK := Lib.hid (fun w' (hb : Below w.heap.size w w') wz T (hD : Did F p T w' wz) => Did.back hD hb h.lt)
  have hmf := mk_func
  clear h
  obtain ⟨t, l, b', r⟩ := b
  simp only at E ⊢
  generalize eachS S _ _ = T at E ⊢
  go_enter Tryz.func76, Tryz.ntmps76
  go_wp2_with (first
    | (go_at_call 104
       (with_reducible refine (E.out _ (by (repeat' (first | (with_reducible exact Below.refl _ _) | (with_reducible refine Below.alloc ?_ ?_ _) | (with_reducible refine below_ext ?_ ?_ _) | (with_reducible refine Below.drew ?_) | (with_reducible refine below_drewN ?_ _) | (with_reducible refine Below.setCell ?_ ?_ _) | go_size | (simp only [go_sem]; omega) | (simp [go_sem]; done) | (simp [go_sem]; omega))))).mono ?_)
       rintro _ _ ⟨rfl, hD⟩
       replace hD := Lib.hid hD))
  go_returns
  refine ⟨rfl, BK.out _ ?_ _ _ hD.out⟩
  (repeat' (first | (with_reducible exact Below.refl _ _) | (with_reducible refine Below.alloc ?_ ?_ _) | (with_reducible refine below_ext ?_ ?_ _) | (with_reducible refine Below.drew ?_) | (with_reducible refine below_drewN ?_ _) | (with_reducible refine Below.setCell ?_ ?_ _) | go_size | (simp only [go_sem]; omega) | (simp [go_sem]; done) | (simp [go_sem]; omega)))
set_option maxRecDepth 100000 in
set_option maxHeartbeats 4000000 in
theorem flip_p (h : PageAt w F p S) (hS : S.Ok) (b : BxI) (A2 : Option Addr) (C2 : Nat) (ns : List Int) (rp : Ints w A2 ns) (hA : 0 < ns.length → ∀ q o, A2 = some ⟨q, o, none⟩ → ¬ F q) (hp : ns.length ≤ 9223372036854775807) :
    Calls Tryz.prog 77 #[.pointer (some ⟨p, 0, none⟩), boxV b.t b.l b.b b.r, .slice A2 ns.length C2] w (fun e w' => e = .returned (.tuple #[]) ∧ Did F p (eachS S (onB S.rows.length S.cols b) (fun xs l r => eachR xs l r (flipC ns))) w w') := by
  have RP := fun w' (hb : Below w.heap.size w w') w'' (hk : Keep F w' w'') => (Rd.keep' (rp.below hb) hk hA : Ints w'' A2 ns)
  have E := Lib.hid (fun w' (hb : Below w.heap.size w w') => each_p (h.grow hb) hS b 108 #[penV ⟨0, 0, false⟩ (.slice A2 ns.length C2)] #[] ((fun xs l r => eachR xs l r (flipC ns))) (enters_of Tryz.func108 (by kernel_rfl) rfl) (fun xs l r => eachR_len xs l r _) (fun A C sz xs l r w'' hk h hC hm h1 h2 ho hl hr => by
    rw [show (#[penV ⟨0, 0, false⟩ (.slice A2 ns.length C2)] ++ #[lineV A xs.length C sz, .int .i64 l, .int .i64 r] ++ #[] : Array Value) = #[penV ⟨0, 0, false⟩ (.slice A2 ns.length C2), lineV A xs.length C sz, .int .i64 l, .int .i64 r] from rfl]
    exact pen_flip ⟨0, 0, false⟩ A2 C2 ns A C sz xs l r w'' h hC hm (by omega) ho (RP w' hb w'' hk) hp))
  have BK := Lib.hid (fun w' (hb : Below w.heap.size w w') wz T (hD : Did F p T w' wz) => Did.back hD hb h.lt)
  have hmf := mk_func
  clear h
  obtain ⟨t, l, b', r⟩ := b
  simp only at E ⊢
  generalize eachS S _ _ = T at E ⊢
  go_enter Tryz.func77, Tryz.ntmps77
  go_wp2_with (first
    | (go_at_call 104
       (with_reducible refine (E.out _ (by (repeat' (first | (with_reducible exact Below.refl _ _) | (with_reducible refine Below.alloc ?_ ?_ _) | (with_reducible refine below_ext ?_ ?_ _) | (with_reducible refine Below.drew ?_) | (with_reducible refine below_drewN ?_ _) | (with_reducible refine Below.setCell ?_ ?_ _) | go_size | (simp only [go_sem]; omega) | (simp [go_sem]; done) | (simp [go_sem]; omega))))).mono ?_)
       rintro _ _ ⟨rfl, hD⟩
       replace hD := Lib.hid hD))
  go_returns
  refine ⟨rfl, BK.out _ ?_ _ _ hD.out⟩
  (repeat' (first | (with_reducible exact Below.refl _ _) | (with_reducible refine Below.alloc ?_ ?_ _) | (with_reducible refine below_ext ?_ ?_ _) | (with_reducible refine Below.drew ?_) | (with_reducible refine below_drewN ?_ _) | (with_reducible refine Below.setCell ?_ ?_ _) | go_size | (simp only [go_sem]; omega) | (simp [go_sem]; done) | (simp [go_sem]; omega)))
end
end Go.Proofs.YtignkkejkknddaaGreat
