/- Lines: filled, erased, cleaned, changed, turned over, kept. -/
import Derived.Test.YtdlngbmgcedbpaaLine14
namespace Go.Proofs.Ytdlngbmgcedbpaa
open Go.RowKit
set_option linter.unusedVariables false
set_option linter.unusedSimpArgs false

theorem mk_func (fn : Fn) (first cap : Array Value) (w : World) : (Instr.makeFunc fn first cap).run Try.prog w = .ok (.func fn first cap) w := rfl
theorem NewL.swap {w w1 : World} {A : Option Addr} {c : Nat} {xs : List Cl} {sz : Int} {o o' : Obj} {x : More} (hb : Below w.heap.size w w1) (h : Own encC 3 87 (w1.alloc o).heap.size (ext (w1.alloc o) x) (.slice A xs.length c) xs) :
    NewL w xs sz (.returned (lineV A xs.length c sz)) (ext (w1.alloc o') x) := by
  refine NewL.of (B := w1.heap.size + 1) (below_ext (hb.alloc hb.size _) (by have := hb.size; simp; omega) x) (by have := hb.size; omega) (own_swap (o := o) (by simpa using h))
set_option maxRecDepth 100000 in
set_option maxHeartbeats 4000000 in
theorem fill_l (A : Option Addr) (C : Nat) (sz : Int) (xs : List Cl) (f t : Int) (c : Cl) (w : World) (rd : Rd encC 3 w A xs) (hC : A = none → C = 0) (hm : xs.length ≤ 1000000) (hf : f ≤ 9223372036854775807) :
    Calls Try.prog 68 #[lineV A xs.length C sz, .int .i64 f, .int .i64 t, cellV c] w (NewL w (eachR xs f t fun _ => c) sz) := by
  have E := Lib.hid (fun w' (h : Rd encC 3 w' A xs) => each_l A C sz xs f t 107 #[cellV c] #[] (fun _ => c) w' h hC hm hf (enters_of Try.func107 (by kernel_rfl) rfl) (fun y _ w'' _ => by
    rw [show (#[cellV c] ++ #[cellV y] ++ #[] : Array Value) = #[cellV c, cellV y] from rfl]; exact put_d c y w''))
  have X := Lib.hid rd
  have hmf := mk_func
  have hl := eachR_len xs f t fun _ => c
  generalize eachR xs f t (fun _ => c) = R at E hl ⊢
  replace hl := Lib.hid hl
  clear rd hC
  obtain ⟨cg, cr, ck⟩ := c
  go_enter Try.func68, Try.ntmps68
  go_wp2_with (first
    | (go_at_call 106
       (with_reducible refine (E.out _ (by repeat (first | exact X.out | exact X | refine Rd.ext ?_ _ | refine Rd.alloc ?_ _ | refine Rd.drew ?_))).mono ?_)
       rintro _ _ ⟨A1, c1, x1, rfl, rfl, hO1⟩
       have hO := Lib.hid hO1
       clear hO1))
  go_returns
  refine NewL.swap ?_ hO.out
  (repeat' (first | (with_reducible exact Below.refl _ _) | (with_reducible refine Below.alloc ?_ ?_ _) | (with_reducible refine below_ext ?_ ?_ _) | (with_reducible refine Below.drew ?_) | (with_reducible refine below_drewN ?_ _) | (with_reducible refine Below.setCell ?_ ?_ _) | go_size | (simp only [go_sem]; omega) | (simp [go_sem]; done) | (simp [go_sem]; omega)))
set_option maxRecDepth 100000 in
set_option maxHeartbeats 4000000 in
theorem erase_l (A : Option Addr) (C : Nat) (sz : Int) (xs : List Cl) (f t : Int) (w : World) (rd : Rd encC 3 w A xs) (hC : A = none → C = 0) (hm : xs.length ≤ 1000000) (hf : f ≤ 9223372036854775807) :
    Calls Try.prog 69 #[lineV A xs.length C sz, .int .i64 f, .int .i64 t] w (NewL w (eachR xs f t fun _ => erC) sz) := by
  have E := Lib.hid (fun w' (h : Rd encC 3 w' A xs) => show Calls Try.prog 68 #[lineV A xs.length C sz, .int .i64 f, .int .i64 t, .agg #[.int .i32 32, .int .u8 0, .bool false]] w' (NewL w' (eachR xs f t fun _ => erC) sz) from fill_l A C sz xs f t erC w' h hC hm hf)
  have X := Lib.hid rd
  clear rd hC
  have hl := eachR_len xs f t fun _ => erC
  generalize eachR xs f t (fun _ => erC) = R at E hl ⊢
  replace hl := Lib.hid hl
  go_enter Try.func69, Try.ntmps69
  go_wp2
  go_region_held3 (fun w' => w'.cell? ⟨w.heap.size, 0, none⟩ = some (.slice A xs.length C) ∧ w'.cell? ⟨w.heap.size, 1, none⟩ = some (.int .i64 sz)) ((refine ⟨?_, ?_⟩ <;> simp [go_sem])) ((first
    | (go_at_call 108; ((with_reducible refine (erased_c _).mono ?_); rintro _ _ hgets; obtain ⟨rfl, x3, rfl⟩ := hgets.get; clear hgets))
    | (go_at_call 68
       (with_reducible refine (E.out _ (by repeat (first | exact X.out | exact X | refine Rd.ext ?_ _ | refine Rd.alloc ?_ _ | refine Rd.drew ?_))).mono ?_)
       rintro _ _ ⟨A1, c1, x1, rfl, rfl, hO1⟩
       have hO := Lib.hid hO1
       clear hO1)))
  all_goals go_wp2
  all_goals go_returns
  all_goals
    have h5 := hO.out
    rw [ext_ext] at h5 ⊢
    refine NewL.swap ?_ (h5.mono (by simp [go_sem]))
    (repeat' (first | (with_reducible exact Below.refl _ _) | (with_reducible refine Below.alloc ?_ ?_ _) | (with_reducible refine below_ext ?_ ?_ _) | (with_reducible refine Below.drew ?_) | (with_reducible refine below_drewN ?_ _) | (with_reducible refine Below.setCell ?_ ?_ _) | go_size | (simp only [go_sem]; omega) | (simp [go_sem]; done) | (simp [go_sem]; omega)))
set_option maxRecDepth 100000 in
set_option maxHeartbeats 4000000 in
theorem clean_l (A : Option Addr) (C : Nat) (sz : Int) (xs : List Cl) (f t : Int) (w : World) (rd : Rd encC 3 w A xs) (hC : A = none → C = 0) (hm : xs.length ≤ 1000000) (hf : f ≤ 9223372036854775807) :
    Calls Try.prog 70 #[lineV A xs.length C sz, .int .i64 f, .int .i64 t] w (NewL w (eachR xs f t cleanC) sz) := by
  have E := Lib.hid (fun w' (h : Rd encC 3 w' A xs) => each_l A C sz xs f t 109 #[] #[] cleanC w' h hC hm hf (enters_of Try.func109 (by kernel_rfl) rfl) (fun y _ w'' _ => by
    rw [show (#[] ++ #[cellV y] ++ #[] : Array Value) = #[cellV y] from rfl]; exact clean_d y w''))
  have X := Lib.hid rd
  have hl := eachR_len xs f t cleanC
  generalize eachR xs f t cleanC = R at E hl ⊢
  replace hl := Lib.hid hl
  clear rd hC
  go_enter Try.func70, Try.ntmps70
  go_wp2_with (first
    | (go_at_call 106
       (with_reducible refine (E.out _ (by repeat (first | exact X.out | exact X | refine Rd.ext ?_ _ | refine Rd.alloc ?_ _ | refine Rd.drew ?_))).mono ?_)
       rintro _ _ ⟨A1, c1, x1, rfl, rfl, hO1⟩
       have hO := Lib.hid hO1
       clear hO1))
  go_returns
  refine NewL.swap ?_ hO.out
  (repeat' (first | (with_reducible exact Below.refl _ _) | (with_reducible refine Below.alloc ?_ ?_ _) | (with_reducible refine below_ext ?_ ?_ _) | (with_reducible refine Below.drew ?_) | (with_reducible refine below_drewN ?_ _) | (with_reducible refine Below.setCell ?_ ?_ _) | go_size | (simp only [go_sem]; omega) | (simp [go_sem]; done) | (simp [go_sem]; omega)))
set_option maxRecDepth 100000 in
set_option maxHeartbeats 4000000 in
theorem change_l (A : Option Addr) (C : Nat) (sz : Int) (xs : List Cl) (f t : Int) (A2 : Option Addr) (C2 : Nat) (p : List Int) (w : World) (rd : Rd encC 3 w A xs) (hC : A = none → C = 0) (hm : xs.length ≤ 1000000) (hf : f ≤ 9223372036854775807)
    (hok : ∀ y ∈ xs, y.ok) (rp : Ints w A2 p) (hp : p.length ≤ 9223372036854775807) :
    Calls Try.prog 71 #[lineV A xs.length C sz, .int .i64 f, .int .i64 t, .slice A2 p.length C2] w (NewL w (eachR xs f t (applyC p)) sz) := by
  have E := Lib.hid (fun w' (h : Rd encC 3 w' A xs) (h2 : Ints w' A2 p) => each_l A C sz xs f t 110 #[.slice A2 p.length C2] #[] (applyC p) w' h hC hm hf (enters_of Try.func110 (by kernel_rfl) rfl) (fun y hy w'' hb => by
    rw [show (#[.slice A2 p.length C2] ++ #[cellV y] ++ #[] : Array Value) = #[.slice A2 p.length C2, cellV y] from rfl]; exact apply_d A2 C2 p y w'' (hok y hy) (h2.below hb) hp))
  have X := Lib.hid rd
  have Y := Lib.hid rp
  have hmf := mk_func
  have hl := eachR_len xs f t (applyC p)
  generalize eachR xs f t (applyC p) = R at E hl ⊢
  replace hl := Lib.hid hl
  clear rd hC rp hok
  go_enter Try.func71, Try.ntmps71
  go_wp2_with (first
    | (go_at_call 106
       (with_reducible refine (E.out _ (by repeat (first | exact X.out | exact X | refine Rd.ext ?_ _ | refine Rd.alloc ?_ _ | refine Rd.drew ?_)) (by repeat (first | exact Y.out | exact Y | refine Rd.ext ?_ _ | refine Rd.alloc ?_ _ | refine Rd.drew ?_))).mono ?_)
       rintro _ _ ⟨A1, c1, x1, rfl, rfl, hO1⟩
       have hO := Lib.hid hO1
       clear hO1))
  go_returns
  refine NewL.swap ?_ hO.out
  (repeat' (first | (with_reducible exact Below.refl _ _) | (with_reducible refine Below.alloc ?_ ?_ _) | (with_reducible refine below_ext ?_ ?_ _) | (with_reducible refine Below.drew ?_) | (with_reducible refine below_drewN ?_ _) | (with_reducible refine Below.setCell ?_ ?_ _) | go_size | (simp only [go_sem]; omega) | (simp [go_sem]; done) | (simp [go_sem]; omega)))
set_option maxRecDepth 100000 in
set_option maxHeartbeats 4000000 in
theorem flip_l (A : Option Addr) (C : Nat) (sz : Int) (xs : List Cl) (f t : Int) (A2 : Option Addr) (C2 : Nat) (p : List Int) (w : World) (rd : Rd encC 3 w A xs) (hC : A = none → C = 0) (hm : xs.length ≤ 1000000) (hf : f ≤ 9223372036854775807)
    (hok : ∀ y ∈ xs, y.ok) (rp : Ints w A2 p) (hp : p.length ≤ 9223372036854775807) :
    Calls Try.prog 72 #[lineV A xs.length C sz, .int .i64 f, .int .i64 t, .slice A2 p.length C2] w (NewL w (eachR xs f t (flipC p)) sz) := by
  have E := Lib.hid (fun w' (h : Rd encC 3 w' A xs) (h2 : Ints w' A2 p) => each_l A C sz xs f t 111 #[.slice A2 p.length C2] #[] (flipC p) w' h hC hm hf (enters_of Try.func111 (by kernel_rfl) rfl) (fun y hy w'' hb => by
    rw [show (#[.slice A2 p.length C2] ++ #[cellV y] ++ #[] : Array Value) = #[.slice A2 p.length C2, cellV y] from rfl]; exact flip_d A2 C2 p y w'' (hok y hy) (h2.below hb) hp))
  have X := Lib.hid rd
  have Y := Lib.hid rp
  have hmf := mk_func
  have hl := eachR_len xs f t (flipC p)
  generalize eachR xs f t (flipC p) = R at E hl ⊢
  replace hl := Lib.hid hl
  clear rd hC rp hok
  go_enter Try.func72, Try.ntmps72
  go_wp2_with (first
    | (go_at_call 106
       (with_reducible refine (E.out _ (by repeat (first | exact X.out | exact X | refine Rd.ext ?_ _ | refine Rd.alloc ?_ _ | refine Rd.drew ?_)) (by repeat (first | exact Y.out | exact Y | refine Rd.ext ?_ _ | refine Rd.alloc ?_ _ | refine Rd.drew ?_))).mono ?_)
       rintro _ _ ⟨A1, c1, x1, rfl, rfl, hO1⟩
       have hO := Lib.hid hO1
       clear hO1))
  go_returns
  refine NewL.swap ?_ hO.out
  (repeat' (first | (with_reducible exact Below.refl _ _) | (with_reducible refine Below.alloc ?_ ?_ _) | (with_reducible refine below_ext ?_ ?_ _) | (with_reducible refine Below.drew ?_) | (with_reducible refine below_drewN ?_ _) | (with_reducible refine Below.setCell ?_ ?_ _) | go_size | (simp only [go_sem]; omega) | (simp [go_sem]; done) | (simp [go_sem]; omega)))
set_option maxRecDepth 100000 in
set_option maxHeartbeats 4000000 in
theorem keep_l (A : Option Addr) (C : Nat) (sz : Int) (xs : List Cl) (f t : Int) (b : Bool) (w : World) (rd : Rd encC 3 w A xs) (hC : A = none → C = 0) (hm : xs.length ≤ 1000000) (hf : f ≤ 9223372036854775807) :
    Calls Try.prog 73 #[lineV A xs.length C sz, .int .i64 f, .int .i64 t, .bool b] w (NewL w (eachR xs f t (keepC b)) sz) := by
  have E := Lib.hid (fun (q : Nat) w' (h : Rd encC 3 w' A xs) (h2 : w'.cell? ⟨q, 0, none⟩ = some (.bool b)) (hq : q < w'.heap.size) => each_l A C sz xs f t 112 #[] #[.pointer (some ⟨q, 0, none⟩)] (keepC b) w' h hC hm hf (enters_of Try.func112 (by kernel_rfl) rfl) (fun y hy w'' hb => by
    rw [show (#[] ++ #[cellV y] ++ #[.pointer (some ⟨q, 0, none⟩)] : Array Value) = #[cellV y, .pointer (some ⟨q, 0, none⟩)] from rfl]; exact keep_d b y q w'' ((hb.cell (p := ⟨q, 0, none⟩) hq).trans h2) (Nat.lt_of_lt_of_le hq hb.size)))
  have X := Lib.hid rd
  have hmf := mk_func
  have hl := eachR_len xs f t (keepC b)
  generalize eachR xs f t (keepC b) = R at E hl ⊢
  replace hl := Lib.hid hl
  clear rd hC
  go_enter Try.func73, Try.ntmps73
  go_wp2_with (first
    | (go_at_call 106
       (with_reducible refine (E.out _ _ (by repeat (first | exact X.out | exact X | refine Rd.ext ?_ _ | refine Rd.alloc ?_ _ | refine Rd.drew ?_)) ?_ ?_).mono ?_)
       · simp [go_sem]
       · simp [go_sem]
       rintro _ _ ⟨A1, c1, x1, rfl, rfl, hO1⟩
       have hO := Lib.hid hO1
       clear hO1))
  go_returns
  refine NewL.swap ?_ hO.out
  (repeat' (first | (with_reducible exact Below.refl _ _) | (with_reducible refine Below.alloc ?_ ?_ _) | (with_reducible refine below_ext ?_ ?_ _) | (with_reducible refine Below.drew ?_) | (with_reducible refine below_drewN ?_ _) | (with_reducible refine Below.setCell ?_ ?_ _) | go_size | (simp only [go_sem]; omega) | (simp [go_sem]; done) | (simp [go_sem]; omega)))
end Go.Proofs.Ytdlngbmgcedbpaa
