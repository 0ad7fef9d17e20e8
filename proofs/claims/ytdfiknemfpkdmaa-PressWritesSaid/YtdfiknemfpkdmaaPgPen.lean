/- Pages: filled, erased, cleaned, changed, turned over, kept, shifted.  -/
import Derived.Test.YtdfiknemfpkdmaaPgEach
import Derived.Test.YtdfiknemfpkdmaaLineE
import Derived.Test.YtdfiknemfpkdmaaLineC
namespace Go.Proofs.Ytdfiknemfpkdmaa
open Go.RowKit
set_option linter.unusedVariables false
set_option linter.unusedSimpArgs false

theorem Rd.keep' {α : Type} {enc : α → List Value} {size : Nat} {a : Option Addr} {xs : List α} {F : Nat → Prop} {w w' : World} (h : Rd enc size w a xs) (hk : Keep F w w') (hA : 0 < xs.length → ∀ q o, a = some ⟨q, o, none⟩ → ¬ F q) : Rd enc size w' a xs := fun h0 => by
  obtain ⟨b, off, e, hlt, hc⟩ := h h0
  exact ⟨b, off, e, Nat.lt_of_lt_of_le hlt hk.size, fun i hi j v hv => (cell_of_heap (hk.block b hlt (hA h0 b off e))).trans (hc i hi j v hv)⟩
abbrev penV (y : Cl) (P : Value) : Value := .agg #[.int .i32 y.g, .int .u8 y.r, .bool y.k, P]
set_option maxRecDepth 100000 in
set_option maxHeartbeats 4000000 in
theorem pen_fill (c : Cl) (P : Value) (A : Option Addr) (C : Nat) (sz : Int) (xs : List Cl) (f t : Int) (w : World) (rd : Rd encC 3 w A xs) (hC : A = none → C = 0) (hm : xs.length ≤ 1000000) (hf : f ≤ 9223372036854775807)  :
    Calls Try.prog 95 #[penV c P, lineV A xs.length C sz, .int .i64 f, .int .i64 t] w (NewL w (eachR xs f t fun _ => c) sz) := by
  have E := Lib.hid (fun w' (h : Rd encC 3 w' A xs) => fill_l A C sz xs f t c w' h hC hm hf)
  have X := Lib.hid rd
  clear rd hC
  have hl : (eachR xs f t fun _ => c).length = xs.length := eachR_len _ _ _ _
  generalize (eachR xs f t fun _ => c) = R at E hl ⊢
  replace hl := Lib.hid hl
  obtain ⟨cg, cr, ck⟩ := c
  go_enter Try.func95, Try.ntmps95
  go_wp2_with (first
    | (go_at_call 111
       (with_reducible refine (E.out _ (by repeat (first | exact X.out | exact X | refine Rd.ext ?_ _ | refine Rd.alloc ?_ _ | refine Rd.drew ?_))).mono ?_)
       rintro _ _ ⟨A1, c1, x1, rfl, rfl, hO1⟩
       have hO := Lib.hid hO1
       clear hO1))
  go_returns
  refine NewL.swap ?_ hO.out
  (repeat' (first | (with_reducible exact Below.refl _ _) | (with_reducible refine Below.alloc ?_ ?_ _) | (with_reducible refine below_ext ?_ ?_ _) | (with_reducible refine Below.drew ?_) | (with_reducible refine below_drewN ?_ _) | (with_reducible refine Below.setCell ?_ ?_ _) | go_size | (simp only [go_sem]; omega) | (simp [go_sem]; done) | (simp [go_sem]; omega)))
set_option maxRecDepth 100000 in
set_option maxHeartbeats 4000000 in
theorem shift_left (n : Int) (A : Option Addr) (C : Nat) (sz : Int) (xs : List Cl) (f t : Int) (w : World) (rd : Rd encC 3 w A xs) (hC : A = none → C = 0) (hm : xs.length ≤ 1000000) (hf : f ≤ 9223372036854775807)  :
    Calls Try.prog 93 #[.int .i64 n, lineV A xs.length C sz, .int .i64 f, .int .i64 t] w (NewL w (movR xs f t (-clampR n 0 (cntN xs.length f t 0))) sz) := by
  have E := Lib.hid (fun w' (h : Rd encC 3 w' A xs) => (by rw [← del_mov]; exact delete_l A C sz xs f t n w' h hC hm hf : Calls Try.prog 109 #[lineV A xs.length C sz, .int .i64 f, .int .i64 t, .int .i64 n] w' (NewL w' (movR xs f t (-clampR n 0 (cntN xs.length f t 0))) sz)))
  have X := Lib.hid rd
  clear rd hC
  have hl : (movR xs f t (-clampR n 0 (cntN xs.length f t 0))).length = xs.length := updR_len _ _ _ _
  generalize (movR xs f t (-clampR n 0 (cntN xs.length f t 0))) = R at E hl ⊢
  replace hl := Lib.hid hl
  go_enter Try.func93, Try.ntmps93
  go_wp2_with (first
    | (go_at_call 109
       (with_reducible refine (E.out _ (by repeat (first | exact X.out | exact X | refine Rd.ext ?_ _ | refine Rd.alloc ?_ _ | refine Rd.drew ?_))).mono ?_)
       rintro _ _ ⟨A1, c1, x1, rfl, rfl, hO1⟩
       have hO := Lib.hid hO1
       clear hO1))
  go_returns
  refine NewL.swap ?_ hO.out
  (repeat' (first | (with_reducible exact Below.refl _ _) | (with_reducible refine Below.alloc ?_ ?_ _) | (with_reducible refine below_ext ?_ ?_ _) | (with_reducible refine Below.drew ?_) | (with_reducible refine below_drewN ?_ _) | (with_reducible refine Below.setCell ?_ ?_ _) | go_size | (simp only [go_sem]; omega) | (simp [go_sem]; done) | (simp [go_sem]; omega)))
set_option maxRecDepth 100000 in
set_option maxHeartbeats 4000000 in
theorem shift_right (n : Int) (A : Option Addr) (C : Nat) (sz : Int) (xs : List Cl) (f t : Int) (w : World) (rd : Rd encC 3 w A xs) (hC : A = none → C = 0) (hm : xs.length ≤ 1000000) (hf : f ≤ 9223372036854775807)  :
    Calls Try.prog 94 #[.int .i64 n, lineV A xs.length C sz, .int .i64 f, .int .i64 t] w (NewL w (movR xs f t (clampR n 0 (cntN xs.length f t 0))) sz) := by
  have E := Lib.hid (fun w' (h : Rd encC 3 w' A xs) => (by rw [← ins_mov]; exact insert_l A C sz xs f t n w' h hC hm hf : Calls Try.prog 110 #[lineV A xs.length C sz, .int .i64 f, .int .i64 t, .int .i64 n] w' (NewL w' (movR xs f t (clampR n 0 (cntN xs.length f t 0))) sz)))
  have X := Lib.hid rd
  clear rd hC
  have hl : (movR xs f t (clampR n 0 (cntN xs.length f t 0))).length = xs.length := updR_len _ _ _ _
  generalize (movR xs f t (clampR n 0 (cntN xs.length f t 0))) = R at E hl ⊢
  replace hl := Lib.hid hl
  go_enter Try.func94, Try.ntmps94
  go_wp2_with (first
    | (go_at_call 110
       (with_reducible refine (E.out _ (by repeat (first | exact X.out | exact X | refine Rd.ext ?_ _ | refine Rd.alloc ?_ _ | refine Rd.drew ?_))).mono ?_)
       rintro _ _ ⟨A1, c1, x1, rfl, rfl, hO1⟩
       have hO := Lib.hid hO1
       clear hO1))
  go_returns
  refine NewL.swap ?_ hO.out
  (repeat' (first | (with_reducible exact Below.refl _ _) | (with_reducible refine Below.alloc ?_ ?_ _) | (with_reducible refine below_ext ?_ ?_ _) | (with_reducible refine Below.drew ?_) | (with_reducible refine below_drewN ?_ _) | (with_reducible refine Below.setCell ?_ ?_ _) | go_size | (simp only [go_sem]; omega) | (simp [go_sem]; done) | (simp [go_sem]; omega)))
section
variable {F : Nat → Prop} {p : Nat} {S : PgS} {w : World}
set_option maxRecDepth 100000 in
set_option maxHeartbeats 4000000 in
theorem fill_p (h : PageAt w F p S) (hS : S.Ok) (b : BxI) (c : Cl) :
    Calls Try.prog 65 #[.pointer (some ⟨p, 0, none⟩), boxV b.t b.l b.b b.r, cellV c] w (fun e w' => e = .returned (.tuple #[]) ∧ Did F p (eachS S (onB S.rows.length S.cols b) (fun xs l r => eachR xs l r fun _ => c)) w w') := by
  have E := Lib.hid (fun w' (hb : Below w.heap.size w w') => each_p (h.grow hb) hS b 95 #[penV c (.slice none 0 0)] #[] ((fun xs l r => eachR xs l r fun _ => c)) (enters_of Try.func95 (by kernel_rfl) rfl) (fun xs l r => eachR_len xs l r _) (fun A C sz xs l r w'' hk h hC hm h1 h2 ho hl hr => by
    rw [show (#[penV c (.slice none 0 0)] ++ #[lineV A xs.length C sz, .int .i64 l, .int .i64 r] ++ #[] : Array Value) = #[penV c (.slice none 0 0), lineV A xs.length C sz, .int .i64 l, .int .i64 r] from rfl]
    exact pen_fill c _ A C sz xs l r w'' h hC hm (by omega)))
  have BK := Lib.hid (fun w' (hb : Below w.heap.size w w') wz T (hD : Did F p T w' wz) => Did.back hD hb h.lt)
  have hmf := mk_func
  clear h
  obtain ⟨t, l, b', r⟩ := b
  obtain ⟨cg, cr, ck⟩ := c
  simp only at E ⊢
  generalize eachS S _ _ = T at E ⊢
  go_enter Try.func65, Try.ntmps65
  go_wp2_with (first
    | (go_at_call 92
       (with_reducible refine (E.out _ (by (repeat' (first | (with_reducible exact Below.refl _ _) | (with_reducible refine Below.alloc ?_ ?_ _) | (with_reducible refine below_ext ?_ ?_ _) | (with_reducible refine Below.drew ?_) | (with_reducible refine below_drewN ?_ _) | (with_reducible refine Below.setCell ?_ ?_ _) | go_size | (simp only [go_sem]; omega) | (simp [go_sem]; done) | (simp [go_sem]; omega))))).mono ?_)
       rintro _ _ ⟨rfl, hD⟩
       replace hD := Lib.hid hD))
  go_returns
  refine ⟨rfl, BK.out _ ?_ _ _ hD.out⟩
  (repeat' (first | (with_reducible exact Below.refl _ _) | (with_reducible refine Below.alloc ?_ ?_ _) | (with_reducible refine below_ext ?_ ?_ _) | (with_reducible refine Below.drew ?_) | (with_reducible refine below_drewN ?_ _) | (with_reducible refine Below.setCell ?_ ?_ _) | go_size | (simp only [go_sem]; omega) | (simp [go_sem]; done) | (simp [go_sem]; omega)))
set_option maxRecDepth 100000 in
set_option maxHeartbeats 4000000 in
theorem erase_p (h : PageAt w F p S) (hS : S.Ok) (b : BxI)  :
    Calls Try.prog 73 #[.pointer (some ⟨p, 0, none⟩), boxV b.t b.l b.b b.r] w (fun e w' => e = .returned (.tuple #[]) ∧ Did F p (eachS S (onB S.rows.length S.cols b) (fun xs l r => eachR xs l r fun _ => erC)) w w') := by
  have E := Lib.hid (fun w' (hb : Below w.heap.size w w') => each_p (h.grow hb) hS b 99 #[] #[] ((fun xs l r => eachR xs l r fun _ => erC)) (enters_of Try.func99 (by kernel_rfl) rfl) (fun xs l r => eachR_len xs l r _) (fun A C sz xs l r w'' hk h hC hm h1 h2 ho hl hr => by
    rw [show (#[] ++ #[lineV A xs.length C sz, .int .i64 l, .int .i64 r] ++ #[] : Array Value) = #[lineV A xs.length C sz, .int .i64 l, .int .i64 r] from rfl]
    exact erase_l A C sz xs l r w'' h hC hm (by omega)))
  have BK := Lib.hid (fun w' (hb : Below w.heap.size w w') wz T (hD : Did F p T w' wz) => Did.back hD hb h.lt)
  have hmf := mk_func
  clear h
  obtain ⟨t, l, b', r⟩ := b
  simp only at E ⊢
  generalize eachS S _ _ = T at E ⊢
  go_enter Try.func73, Try.ntmps73
  go_wp2_with (first
    | (go_at_call 92
       (with_reducible refine (E.out _ (by (repeat' (first | (with_reducible exact Below.refl _ _) | (with_reducible refine Below.alloc ?_ ?_ _) | (with_reducible refine below_ext ?_ ?_ _) | (with_reducible refine Below.drew ?_) | (with_reducible refine below_drewN ?_ _) | (with_reducible refine Below.setCell ?_ ?_ _) | go_size | (simp only [go_sem]; omega) | (simp [go_sem]; done) | (simp [go_sem]; omega))))).mono ?_)
       rintro _ _ ⟨rfl, hD⟩
       replace hD := Lib.hid hD))
  go_returns
  refine ⟨rfl, BK.out _ ?_ _ _ hD.out⟩
  (repeat' (first | (with_reducible exact Below.refl _ _) | (with_reducible refine Below.alloc ?_ ?_ _) | (with_reducible refine below_ext ?_ ?_ _) | (with_reducible refine Below.drew ?_) | (with_reducible refine below_drewN ?_ _) | (with_reducible refine Below.setCell ?_ ?_ _) | go_size | (simp only [go_sem]; omega) | (simp [go_sem]; done) | (simp [go_sem]; omega)))
set_option maxRecDepth 100000 in
set_option maxHeartbeats 4000000 in
theorem clean_p (h : PageAt w F p S) (hS : S.Ok) (b : BxI)  :
    Calls Try.prog 72 #[.pointer (some ⟨p, 0, none⟩), boxV b.t b.l b.b b.r] w (fun e w' => e = .returned (.tuple #[]) ∧ Did F p (eachS S (onB S.rows.length S.cols b) (fun xs l r => eachR xs l r cleanC)) w w') := by
  have E := Lib.hid (fun w' (hb : Below w.heap.size w w') => each_p (h.grow hb) hS b 98 #[] #[] ((fun xs l r => eachR xs l r cleanC)) (enters_of Try.func98 (by kernel_rfl) rfl) (fun xs l r => eachR_len xs l r _) (fun A C sz xs l r w'' hk h hC hm h1 h2 ho hl hr => by
    rw [show (#[] ++ #[lineV A xs.length C sz, .int .i64 l, .int .i64 r] ++ #[] : Array Value) = #[lineV A xs.length C sz, .int .i64 l, .int .i64 r] from rfl]
    exact clean_l A C sz xs l r w'' h hC hm (by omega)))
  have BK := Lib.hid (fun w' (hb : Below w.heap.size w w') wz T (hD : Did F p T w' wz) => Did.back hD hb h.lt)
  have hmf := mk_func
  clear h
  obtain ⟨t, l, b', r⟩ := b
  simp only at E ⊢
  generalize eachS S _ _ = T at E ⊢
  go_enter Try.func72, Try.ntmps72
  go_wp2_with (first
    | (go_at_call 92
       (with_reducible refine (E.out _ (by (repeat' (first | (with_reducible exact Below.refl _ _) | (with_reducible refine Below.alloc ?_ ?_ _) | (with_reducible refine below_ext ?_ ?_ _) | (with_reducible refine Below.drew ?_) | (with_reducible refine below_drewN ?_ _) | (with_reducible refine Below.setCell ?_ ?_ _) | go_size | (simp only [go_sem]; omega) | (simp [go_sem]; done) | (simp [go_sem]; omega))))).mono ?_)
       rintro _ _ ⟨rfl, hD⟩
       replace hD := Lib.hid hD))
  go_returns
  refine ⟨rfl, BK.out _ ?_ _ _ hD.out⟩
  (repeat' (first | (with_reducible exact Below.refl _ _) | (with_reducible refine Below.alloc ?_ ?_ _) | (with_reducible refine below_ext ?_ ?_ _) | (with_reducible refine Below.drew ?_) | (with_reducible refine below_drewN ?_ _) | (with_reducible refine Below.setCell ?_ ?_ _) | go_size | (simp only [go_sem]; omega) | (simp [go_sem]; done) | (simp [go_sem]; omega)))
set_option maxRecDepth 100000 in
set_option maxHeartbeats 4000000 in
theorem left_p (h : PageAt w F p S) (hS : S.Ok) (b : BxI) (n : Int) :
    Calls Try.prog 62 #[.pointer (some ⟨p, 0, none⟩), boxV b.t b.l b.b b.r, .int .i64 n] w (fun e w' => e = .returned (.tuple #[]) ∧ Did F p (eachS S (onB S.rows.length S.cols b) (fun xs l r => movR xs l r (-clampR n 0 (cntN xs.length l r 0)))) w w') := by
  have E := Lib.hid (fun w' (hb : Below w.heap.size w w') => each_p (h.grow hb) hS b 93 #[.int .i64 n] #[] ((fun xs l r => movR xs l r (-clampR n 0 (cntN xs.length l r 0)))) (enters_of Try.func93 (by kernel_rfl) rfl) (fun xs l r => updR_len _ _ _ _) (fun A C sz xs l r w'' hk h hC hm h1 h2 ho hl hr => by
    rw [show (#[.int .i64 n] ++ #[lineV A xs.length C sz, .int .i64 l, .int .i64 r] ++ #[] : Array Value) = #[.int .i64 n, lineV A xs.length C sz, .int .i64 l, .int .i64 r] from rfl]
    exact shift_left n A C sz xs l r w'' h hC hm (by omega)))
  have BK := Lib.hid (fun w' (hb : Below w.heap.size w w') wz T (hD : Did F p T w' wz) => Did.back hD hb h.lt)
  have hmf := mk_func
  clear h
  obtain ⟨t, l, b', r⟩ := b
  simp only at E ⊢
  generalize eachS S _ _ = T at E ⊢
  go_enter Try.func62, Try.ntmps62
  go_wp2_with (first
    | (go_at_call 92
       (with_reducible refine (E.out _ (by (repeat' (first | (with_reducible exact Below.refl _ _) | (with_reducible refine Below.alloc ?_ ?_ _) | (with_reducible refine below_ext ?_ ?_ _) | (with_reducible refine Below.drew ?_) | (with_reducible refine below_drewN ?_ _) | (with_reducible refine Below.setCell ?_ ?_ _) | go_size | (simp only [go_sem]; omega) | (simp [go_sem]; done) | (simp [go_sem]; omega))))).mono ?_)
       rintro _ _ ⟨rfl, hD⟩
       replace hD := Lib.hid hD))
  go_returns
  refine ⟨rfl, BK.out _ ?_ _ _ hD.out⟩
  (repeat' (first | (with_reducible exact Below.refl _ _) | (with_reducible refine Below.alloc ?_ ?_ _) | (with_reducible refine below_ext ?_ ?_ _) | (with_reducible refine Below.drew ?_) | (with_reducible refine below_drewN ?_ _) | (with_reducible refine Below.setCell ?_ ?_ _) | go_size | (simp only [go_sem]; omega) | (simp [go_sem]; done) | (simp [go_sem]; omega)))
set_option maxRecDepth 100000 in
set_option maxHeartbeats 4000000 in
theorem right_p (h : PageAt w F p S) (hS : S.Ok) (b : BxI) (n : Int) :
    Calls Try.prog 63 #[.pointer (some ⟨p, 0, none⟩), boxV b.t b.l b.b b.r, .int .i64 n] w (fun e w' => e = .returned (.tuple #[]) ∧ Did F p (eachS S (onB S.rows.length S.cols b) (fun xs l r => movR xs l r (clampR n 0 (cntN xs.length l r 0)))) w w') := by
  have E := Lib.hid (fun w' (hb : Below w.heap.size w w') => each_p (h.grow hb) hS b 94 #[.int .i64 n] #[] ((fun xs l r => movR xs l r (clampR n 0 (cntN xs.length l r 0)))) (enters_of Try.func94 (by kernel_rfl) rfl) (fun xs l r => updR_len _ _ _ _) (fun A C sz xs l r w'' hk h hC hm h1 h2 ho hl hr => by
    rw [show (#[.int .i64 n] ++ #[lineV A xs.length C sz, .int .i64 l, .int .i64 r] ++ #[] : Array Value) = #[.int .i64 n, lineV A xs.length C sz, .int .i64 l, .int .i64 r] from rfl]
    exact shift_right n A C sz xs l r w'' h hC hm (by omega)))
  have BK := Lib.hid (fun w' (hb : Below w.heap.size w w') wz T (hD : Did F p T w' wz) => Did.back hD hb h.lt)
  have hmf := mk_func
  clear h
  obtain ⟨t, l, b', r⟩ := b
  simp only at E ⊢
  generalize eachS S _ _ = T at E ⊢
  go_enter Try.func63, Try.ntmps63
  go_wp2_with (first
    | (go_at_call 92
       (with_reducible refine (E.out _ (by (repeat' (first | (with_reducible exact Below.refl _ _) | (with_reducible refine Below.alloc ?_ ?_ _) | (with_reducible refine below_ext ?_ ?_ _) | (with_reducible refine Below.drew ?_) | (with_reducible refine below_drewN ?_ _) | (with_reducible refine Below.setCell ?_ ?_ _) | go_size | (simp only [go_sem]; omega) | (simp [go_sem]; done) | (simp [go_sem]; omega))))).mono ?_)
       rintro _ _ ⟨rfl, hD⟩
       replace hD := Lib.hid hD))
  go_returns
  refine ⟨rfl, BK.out _ ?_ _ _ hD.out⟩
  (repeat' (first | (with_reducible exact Below.refl _ _) | (with_reducible refine Below.alloc ?_ ?_ _) | (with_reducible refine below_ext ?_ ?_ _) | (with_reducible refine Below.drew ?_) | (with_reducible refine below_drewN ?_ _) | (with_reducible refine Below.setCell ?_ ?_ _) | go_size | (simp only [go_sem]; omega) | (simp [go_sem]; done) | (simp [go_sem]; omega)))
end
end Go.Proofs.Ytdfiknemfpkdmaa
