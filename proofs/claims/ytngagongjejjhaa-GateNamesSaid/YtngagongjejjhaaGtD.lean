/- Which function a token is: of two tokens.  -/
import Derived.Test.YtngagongjejjhaaGtC
import Derived.Test.YtngagongjejjhaaRegionF
import Derived.Test.YtngagongjejjhaaBytesStr
import Derived.Deep.CutRange
namespace Go.Proofs.Ytngagongjejjhaa
open Go.RowKit
set_option linter.unusedVariables false
set_option linter.unusedSimpArgs false

theorem cellG {w : World} {H q : Nat} {cur : Array Value} {t : TypeId} {fr : Nat × Nat} (h : w.heap[H]? = some (.cells cur t fr)) : w.cell? ⟨H, q, none⟩ = cur[q]? := by
  simp [World.cell?, h]
abbrev tokV (c m : Int) (i : ByteArray) : Value := .agg #[.int .i64 4, .int .u8 c, .int .u8 m, .slice none 0 0, .string i, .slice none 0 0]
set_option maxRecDepth 100000 in
set_option maxHeartbeats 8000000 in
theorem set_c (c m : Int) (i : ByteArray) (w : World) : Calls Try.prog 13 #[tokV c m i] w (Gives w (.tuple #[.int .i64 0, .bool false, .string ⟨#[]⟩, .bool false])) := by
  go_enter Try.func13, Try.ntmps13
  go_wp2
  go_returns
  exact ⟨rfl, by (repeat' (first | (with_reducible exact Below.refl _ _) | (with_reducible refine Below.alloc ?_ ?_ _) | (with_reducible refine below_ext ?_ ?_ _) | (with_reducible refine Below.drew ?_) | (with_reducible refine below_drewN ?_ _) | (with_reducible refine Below.setCell ?_ ?_ _) | go_size | (simp only [go_sem]; omega) | (simp [go_sem]; done) | (simp [go_sem]; omega)))⟩
set_option maxRecDepth 100000 in
set_option maxHeartbeats 8000000 in
theorem desig_c (c m : Int) (i : ByteArray) (w : World) : Calls Try.prog 10 #[tokV c m i] w (Gives w (.int .i64 0)) := by
  have S := Lib.hid (fun w' => set_c c m i w')
  go_enter Try.func10, Try.ntmps10
  go_wp2_with (go_at_call 13; ((with_reducible refine (S.out _).mono ?_); rintro _ _ hgets; obtain ⟨rfl, x1, rfl⟩ := hgets.get; clear hgets))
  go_returns
  exact ⟨rfl, by (repeat' (first | (with_reducible exact Below.refl _ _) | (with_reducible refine Below.alloc ?_ ?_ _) | (with_reducible refine below_ext ?_ ?_ _) | (with_reducible refine Below.drew ?_) | (with_reducible refine below_drewN ?_ _) | (with_reducible refine Below.setCell ?_ ?_ _) | go_size | (simp only [go_sem]; omega) | (simp [go_sem]; done) | (simp [go_sem]; omega)))⟩
theorem byte_infoG : (Try.prog.info? 5).map (fun i => (i.zero, i.size, i.bytes)) = some (some (.int .u8 0), 1, 1) := by kernel_rfl
theorem own_bytes {w : World} {g cap B : Nat} {x : Int} {cs : Array Value} (hg : g = w.heap.size) (hB : B ≤ w.heap.size) (h0 : cs.toList.take 1 = [.int .u8 x]) (hs : cs.size = cap) (h1 : 1 ≤ cap) (hm : cap ≤ maxLen) : Own (encI .u8) 1 5 B (w.alloc (.cells cs 5)) (.slice (some ⟨g, 0, none⟩) 1 cap) [x] := by
  subst hg
  exact ⟨by simp [encI], .inr ⟨_, cap, cs, rfl, hB, heap_alloc_new _ _, h1, hm, by omega, by simpa [encI] using h0⟩⟩
theorem step_doG {P : Program} {o : Oper} {ops : Array Oper} {a : Act} {w : World} {K : Act → World → Prop} {Q : Exit → Act → World → Prop} {E : Prop} (hgd : o.guard = none) (h : Oper.wp P o a w K Q) : if Region.wanted o (yielded ops a.tmps) = true then Oper.wp P o a w K Q else E := by
  rw [if_pos (by simp [Region.wanted, hgd])]
  exact h
theorem bytes_join {U w : World} {o : Oper} {a : Act} {K : Act → World → Prop} {Q : Exit → Act → World → Prop} {A A2 : Option Addr} {n c c2 : Nat} {xs ys : List Int} (s xo : Operand)
    (ho : o.op = .call { callee := .builtin .append, args := #[s, xo], argTypes := #[30, 30] }) (hs : a.eval s = .slice A n c) (hx : a.eval xo = .slice A2 ys.length c2)
    (hU : Below U.heap.size U w) (hown : Own (encI .u8) 1 5 U.heap.size w (.slice A n c) xs) (hy : Rd (encI .u8) 1 w A2 ys) (zs : List Int) (hz : xs ++ ys = zs) (m : Nat) (hm : zs.length = m) (hm2 : m ≤ 1000)
    (h : ∀ A' c' x', Own (encI .u8) 1 5 U.heap.size (ext U x') (.slice A' m c') zs → K (a.put o.dst (.slice A' m c')) (ext U x')) : Oper.wp Try.prog o a w K Q := by
  subst hz hm
  have hl : xs.length + ys.length ≤ 1000 := by rw [List.length_append] at hm2; exact hm2
  obtain ⟨A', c', x', hrun, hO⟩ := run_append_rd (P := Try.prog) U w 30 o.type 5 _ 1 Try.underlying30 byte_infoG rfl (by omega) (encI_len _) (encI_one _) xs ys _ A2 c2 hU hown hy (by simp [maxLen]; omega) (by omega)
  unfold Oper.wp execOp
  simp only [ho, resolve, invoke, builtin, Sem.run_bind, Sem.run_pure, Result.andThen_ok, List.map_toArray, List.map_cons, List.map_nil, hs, hx, hrun]
  exact h A' c' x' hO
theorem rd_byte (w : World) (g : Nat) (hg : g = w.heap.size) (x : Int) : Rd (encI .u8) 1 (w.alloc (.cells #[.int .u8 x] 5)) (some ⟨g, 0, none⟩) [x] :=
  (Own.new (B := 0) (xs := [x]) (encI_len .u8) hg (rfl : (1 : Nat) = _) _ rfl (Nat.zero_le _) (by simp [maxLen])).rd (encI_len _)
set_option maxRecDepth 100000 in
set_option maxHeartbeats 8000000 in
theorem tid1_c (w : World) : Calls Try.prog 14 #[tokV 104 63 ⟨#[]⟩] w (Gives w (.string ⟨#[63, 104]⟩)) := by
  have eS : strOf [63, 104] = ⟨#[63, 104]⟩ := by decide +kernel
  rw [← eS]
  go_enter Try.func14, Try.ntmps14
  go_upto_if 14 with fail
  obtain ⟨W1, eW1⟩ : ∃ W1, W1 = w.alloc (.cells #[.int .i64 4, .int .u8 104, .int .u8 63, .slice none 0 0, .string ⟨#[]⟩, .slice none 0 0] 32) := ⟨_, rfl⟩
  have hB1 : Below w.heap.size w W1 := by rw [eW1]; (repeat' (first | (with_reducible exact Below.refl _ _) | (with_reducible refine Below.alloc ?_ ?_ _) | (with_reducible refine below_ext ?_ ?_ _) | (with_reducible refine Below.drew ?_) | (with_reducible refine below_drewN ?_ _) | (with_reducible refine Below.setCell ?_ ?_ _) | go_size | (simp only [go_sem]; omega) | (simp [go_sem]; done) | (simp [go_sem]; omega)))
  have b1 : W1.heap[w.heap.size]? = some (.cells #[.int .i64 4, .int .u8 104, .int .u8 63, .slice none 0 0, .string ⟨#[]⟩, .slice none 0 0] 32 (0, 0)) := by rw [eW1]; exact heap_alloc_new _ _
  rw [← eW1]
  clear eW1
  have KT := Lib.hid (fun w' (h : Below W1.heap.size W1 w') => (by
    have hb := (h.block _ (Array.getElem?_eq_some_iff.1 b1).1).trans b1
    exact ⟨by rw [cellG hb]; rfl, by rw [cellG hb]; rfl, by rw [cellG hb]; rfl⟩ : w'.cell? ⟨w.heap.size, 1, none⟩ = some (.int .u8 104) ∧ w'.cell? ⟨w.heap.size, 2, none⟩ = some (.int .u8 63) ∧ w'.cell? ⟨w.heap.size, 4, none⟩ = some (.string ⟨#[]⟩)))
  go_cut [3] from 15 to 19 (fun v wx => ∃ g c, v = .slice (some ⟨g, 0, none⟩) 1 c ∧ Below W1.heap.size W1 wx ∧ 1 ≤ c ∧ Own (encI .u8) 1 5 W1.heap.size wx (.slice (some ⟨g, 0, none⟩) 1 c) [63])
  case first =>
    obtain ⟨k1, k2, k4⟩ := KT.out W1 (Below.refl _ _)
    have kl := (Array.getElem?_eq_some_iff.1 b1).1
    go_wp2
    obtain ⟨h1, h2⟩ := cap_cut 1 0 5 (W1.tape W1.drawn (Question.appendCap 1 0 5)) (by omega)
    generalize (Question.appendCap 1 0 5).cut (W1.tape W1.drawn (Question.appendCap 1 0 5)) = cap at h1 h2 ⊢
    go_meet
    exact ⟨_, _, rfl, by (repeat' (first | (with_reducible exact Below.refl _ _) | (with_reducible refine Below.alloc ?_ ?_ _) | (with_reducible refine below_ext ?_ ?_ _) | (with_reducible refine Below.drew ?_) | (with_reducible refine below_drewN ?_ _) | (with_reducible refine Below.setCell ?_ ?_ _) | go_size | (simp only [go_sem]; omega) | (simp [go_sem]; done) | (simp [go_sem]; omega))), h1, (own_bytes (by simp [go_sem]) (by simp [go_sem]) (by simp) (by rw [Array.size_append, zero_cells_size]; simp; omega) h1 h2).drew⟩
  obtain ⟨g, c, rfl, hB2, hc1, hO2⟩ := hcut
  obtain ⟨W2, eW2⟩ : ∃ W2, W2 = wc := ⟨_, rfl⟩
  rw [← eW2] at hB2 hO2 ⊢
  have KU := Lib.hid (fun w' (h : Below W2.heap.size W2 w') => KT.out w' (hB2.trans (h.mono hB2.size)))
  have BU := Lib.hid (fun w' (h : Below W2.heap.size W2 w') => hB2.trans (h.mono hB2.size))
  replace hO2 := Lib.hid hO2
  clear eW2 wc b1 hB2
  go_upto_region 6 with fail
  (refine wp_region_F (S := (fun w' => w'.cell? ⟨w.heap.size, 1, none⟩ = some (.int .u8 104) ∧ w'.cell? ⟨w.heap.size, 2, none⟩ = some (.int .u8 63) ∧ w'.cell? ⟨w.heap.size, 4, none⟩ = some (.string ⟨#[]⟩))) 9 [false, false, false, false, false, false, false, false, false, false] rfl rfl (by kernel_rfl) ?_ (fun hHeld => ?_); (focus ((try dsimp only); (exact KU.out _ (by (repeat' (first | (with_reducible exact Below.refl _ _) | (with_reducible refine Below.alloc ?_ ?_ _) | (with_reducible refine below_ext ?_ ?_ _) | (with_reducible refine Below.drew ?_) | (with_reducible refine below_drewN ?_ _) | (with_reducible refine Below.setCell ?_ ?_ _) | go_size | (simp only [go_sem]; omega) | (simp [go_sem]; done) | (simp [go_sem]; omega))))); done)))
  ((refine AtF.take (oi := ?_) (v := ?_) 0 ?_ ?_ ?_ ?_ (Or.inl ⟨?_, ?_⟩) (by assumption) ?_; rotate_left 2; rfl; kernel_rfl; kernel_rfl; exact (fun _ _ _ h => h); rfl; (focus (intro w hSw; (try dsimp only at hSw); go_simp; (try with_reducible rfl); done)); (try simp only [Act.put, List.setIfInBounds_toArray, List.set_cons_zero, List.set_cons_succ])); (refine AtF.take (oi := ?_) (v := ?_) 1 ?_ ?_ ?_ ?_ (Or.inl ⟨?_, ?_⟩) (by assumption) ?_; rotate_left 2; rfl; kernel_rfl; kernel_rfl; exact (fun _ _ _ h => h); rfl; (focus (intro w hSw; (try dsimp only at hSw); go_simp; (try with_reducible rfl); done)); (try simp only [Act.put, List.setIfInBounds_toArray, List.set_cons_zero, List.set_cons_succ])); (refine AtF.take (oi := ?_) (v := ?_) 2 ?_ ?_ ?_ ?_ (Or.inl ⟨?_, ?_⟩) (by assumption) ?_; rotate_left 2; rfl; kernel_rfl; kernel_rfl; exact (fun _ _ _ h => h); rfl; (focus (intro w hSw; (try dsimp only at hSw); go_simp; (try with_reducible rfl); done)); (try simp only [Act.put, List.setIfInBounds_toArray, List.set_cons_zero, List.set_cons_succ])); (refine AtF.take (oi := ?_) (v := ?_) 4 ?_ ?_ ?_ ?_ (Or.inl ⟨?_, ?_⟩) (by assumption) ?_; rotate_left 2; rfl; kernel_rfl; kernel_rfl; exact (fun _ _ _ h => h); rfl; (focus (intro w hSw; (try dsimp only at hSw); go_simp; (try with_reducible rfl); done)); (try simp only [Act.put, List.setIfInBounds_toArray, List.set_cons_zero, List.set_cons_succ])); (refine AtF.take (oi := ?_) (v := ?_) 5 ?_ ?_ ?_ ?_ (Or.inl ⟨?_, ?_⟩) (by assumption) ?_; rotate_left 2; rfl; kernel_rfl; kernel_rfl; exact (fun _ _ _ h => h); rfl; (focus (intro w hSw; (try dsimp only at hSw); go_simp; (try with_reducible rfl); done)); (try simp only [Act.put, List.setIfInBounds_toArray, List.set_cons_zero, List.set_cons_succ])))
  (refine AtF.either (oi := ?_) (oj := ?_) 3 6 ?_ ?_ ?_ (fun K hK => ?_) (fun K hK => ?_); rotate_left 2; rfl; rfl; kernel_rfl)
  · ((try go_simp); skip; (refine hK.out _ _ ?_ (fun hHeld => ?_)); (focus ((try dsimp only); (exact KU.out _ (by (repeat' (first | (with_reducible exact Below.refl _ _) | (with_reducible refine Below.alloc ?_ ?_ _) | (with_reducible refine below_ext ?_ ?_ _) | (with_reducible refine Below.drew ?_) | (with_reducible refine below_drewN ?_ _) | (with_reducible refine Below.setCell ?_ ?_ _) | go_size | (simp only [go_sem]; omega) | (simp [go_sem]; done) | (simp [go_sem]; omega))))); done)); clear hK K; (try simp only [Act.put, List.setIfInBounds_toArray, List.set_cons_zero, List.set_cons_succ]))
    (refine AtF.only (oi := ?_) 6 ?_ ?_ (fun K hK => ?_); rotate_left 1; rfl; kernel_rfl; (try go_simp); skip; (refine hK.out _ _ ?_ (fun hHeld => ?_)); (focus ((try dsimp only); (exact KU.out _ (by (repeat' (first | (with_reducible exact Below.refl _ _) | (with_reducible refine Below.alloc ?_ ?_ _) | (with_reducible refine below_ext ?_ ?_ _) | (with_reducible refine Below.drew ?_) | (with_reducible refine below_drewN ?_ _) | (with_reducible refine Below.setCell ?_ ?_ _) | go_size | (simp only [go_sem]; omega) | (simp [go_sem]; done) | (simp [go_sem]; omega))))); done)); clear hK K; (try simp only [Act.put, List.setIfInBounds_toArray, List.set_cons_zero, List.set_cons_succ]))
    (refine AtF.only (oi := ?_) 7 ?_ ?_ (fun K hK => ?_); rotate_left 1; rfl; kernel_rfl; refine step_doG rfl (bytes_join (U := W1) (xs := [63]) (ys := [104]) (.tmp 23) (.tmp 26) rfl rfl rfl (BU.out _ (by (repeat' (first | (with_reducible exact Below.refl _ _) | (with_reducible refine Below.alloc ?_ ?_ _) | (with_reducible refine below_ext ?_ ?_ _) | (with_reducible refine Below.drew ?_) | (with_reducible refine below_drewN ?_ _) | (with_reducible refine Below.setCell ?_ ?_ _) | go_size | (simp only [go_sem]; omega) | (simp [go_sem]; done) | (simp [go_sem]; omega))))) (hO2.out.below (by (repeat' (first | (with_reducible exact Below.refl _ _) | (with_reducible refine Below.alloc ?_ ?_ _) | (with_reducible refine below_ext ?_ ?_ _) | (with_reducible refine Below.drew ?_) | (with_reducible refine below_drewN ?_ _) | (with_reducible refine Below.setCell ?_ ?_ _) | go_size | (simp only [go_sem]; omega) | (simp [go_sem]; done) | (simp [go_sem]; omega))))) (rd_byte _ _ (by simp [go_sem]) 104) [63, 104] rfl 2 rfl (by omega) ?_); intro A3 c3 x3 hO3; have hcv : (convert 30 9 (.slice A3 2 c3)).run Try.prog (ext W1 x3) = .ok (.string (strOf [63, 104])) (ext W1 x3) := conv_rd (c := c3) (hO3.rd (encI_len _)); replace hO3 := Lib.hid hO3; (refine hK.out _ _ ?_ (fun hHeld => ?_)); (focus ((try dsimp only); (exact KT.out _ (below_of_ext W1 x3)); done)); clear hK K; (try simp only [Act.put, List.setIfInBounds_toArray, List.set_cons_zero, List.set_cons_succ]))
    (refine AtF.only (oi := ?_) 8 ?_ ?_ (fun K hK => ?_); rotate_left 1; rfl; kernel_rfl; (try go_simp); skip; (refine hK.out _ _ ?_ (fun hHeld => ?_)); (focus ((try dsimp only); (exact KT.out _ (below_of_ext W1 x3)); done)); clear hK K; (try simp only [Act.put, List.setIfInBounds_toArray, List.set_cons_zero, List.set_cons_succ]))
    (refine AtF.last (oi := ?_) ?_ ?_ (fun K hK => ?_); rotate_left 1; rfl; kernel_rfl; go_simp; skip; refine hK.out _ _ ?_; clear hK K; (try simp only [Act.put, List.setIfInBounds_toArray, List.set_cons_zero, List.set_cons_succ]))
    clear hHeld hcv
    have fin := Lib.hid (hB1.trans ((below_of_ext W1 x3).mono hB1.size))
    go_wp2
    go_returns
    exact ⟨rfl, fin.out⟩
  · ((try go_simp); skip; (refine hK.out _ _ ?_ (fun hHeld => ?_)); (focus ((try dsimp only); (exact KU.out _ (by (repeat' (first | (with_reducible exact Below.refl _ _) | (with_reducible refine Below.alloc ?_ ?_ _) | (with_reducible refine below_ext ?_ ?_ _) | (with_reducible refine Below.drew ?_) | (with_reducible refine below_drewN ?_ _) | (with_reducible refine Below.setCell ?_ ?_ _) | go_size | (simp only [go_sem]; omega) | (simp [go_sem]; done) | (simp [go_sem]; omega))))); done)); clear hK K; (try simp only [Act.put, List.setIfInBounds_toArray, List.set_cons_zero, List.set_cons_succ]))
    (refine AtF.only (oi := ?_) 3 ?_ ?_ (fun K hK => ?_); rotate_left 1; rfl; kernel_rfl; (try go_simp); skip; (refine hK.out _ _ ?_ (fun hHeld => ?_)); (focus ((try dsimp only); (exact KU.out _ (by (repeat' (first | (with_reducible exact Below.refl _ _) | (with_reducible refine Below.alloc ?_ ?_ _) | (with_reducible refine below_ext ?_ ?_ _) | (with_reducible refine Below.drew ?_) | (with_reducible refine below_drewN ?_ _) | (with_reducible refine Below.setCell ?_ ?_ _) | go_size | (simp only [go_sem]; omega) | (simp [go_sem]; done) | (simp [go_sem]; omega))))); done)); clear hK K; (try simp only [Act.put, List.setIfInBounds_toArray, List.set_cons_zero, List.set_cons_succ]))
    (refine AtF.only (oi := ?_) 7 ?_ ?_ (fun K hK => ?_); rotate_left 1; rfl; kernel_rfl; refine step_doG rfl (bytes_join (U := W1) (xs := [63]) (ys := [104]) (.tmp 23) (.tmp 26) rfl rfl rfl (BU.out _ (by (repeat' (first | (with_reducible exact Below.refl _ _) | (with_reducible refine Below.alloc ?_ ?_ _) | (with_reducible refine below_ext ?_ ?_ _) | (with_reducible refine Below.drew ?_) | (with_reducible refine below_drewN ?_ _) | (with_reducible refine Below.setCell ?_ ?_ _) | go_size | (simp only [go_sem]; omega) | (simp [go_sem]; done) | (simp [go_sem]; omega))))) (hO2.out.below (by (repeat' (first | (with_reducible exact Below.refl _ _) | (with_reducible refine Below.alloc ?_ ?_ _) | (with_reducible refine below_ext ?_ ?_ _) | (with_reducible refine Below.drew ?_) | (with_reducible refine below_drewN ?_ _) | (with_reducible refine Below.setCell ?_ ?_ _) | go_size | (simp only [go_sem]; omega) | (simp [go_sem]; done) | (simp [go_sem]; omega))))) (rd_byte _ _ (by simp [go_sem]) 104) [63, 104] rfl 2 rfl (by omega) ?_); intro A3 c3 x3 hO3; have hcv : (convert 30 9 (.slice A3 2 c3)).run Try.prog (ext W1 x3) = .ok (.string (strOf [63, 104])) (ext W1 x3) := conv_rd (c := c3) (hO3.rd (encI_len _)); replace hO3 := Lib.hid hO3; (refine hK.out _ _ ?_ (fun hHeld => ?_)); (focus ((try dsimp only); (exact KT.out _ (below_of_ext W1 x3)); done)); clear hK K; (try simp only [Act.put, List.setIfInBounds_toArray, List.set_cons_zero, List.set_cons_succ]))
    (refine AtF.only (oi := ?_) 8 ?_ ?_ (fun K hK => ?_); rotate_left 1; rfl; kernel_rfl; (try go_simp); skip; (refine hK.out _ _ ?_ (fun hHeld => ?_)); (focus ((try dsimp only); (exact KT.out _ (below_of_ext W1 x3)); done)); clear hK K; (try simp only [Act.put, List.setIfInBounds_toArray, List.set_cons_zero, List.set_cons_succ]))
    (refine AtF.last (oi := ?_) ?_ ?_ (fun K hK => ?_); rotate_left 1; rfl; kernel_rfl; go_simp; skip; refine hK.out _ _ ?_; clear hK K; (try simp only [Act.put, List.setIfInBounds_toArray, List.set_cons_zero, List.set_cons_succ]))
    clear hHeld hcv
    have fin := Lib.hid (hB1.trans ((below_of_ext W1 x3).mono hB1.size))
    go_wp2
    go_returns
    exact ⟨rfl, fin.out⟩
theorem run_star (w : World) (ty : TypeId) : ∃ A c x, (Builtin.append_ #[30, 9] ty #[.slice none 0 0, .string ⟨#[42]⟩]).run Try.prog w = .ok (.slice A 1 c) (ext w x) ∧ Own (encI .u8) 1 5 w.heap.size (ext w x) (.slice A 1 c) [42] := by
  obtain ⟨h1, h2⟩ := cap_cut 1 0 5 (w.tape w.drawn (Question.appendCap 1 0 5)) (by omega)
  have e : (Builtin.append_ #[30, 9] ty #[.slice none 0 0, .string ⟨#[42]⟩]).run Try.prog w = .ok (.slice (some ⟨w.heap.size, 0, none⟩) 1 ((Question.appendCap 1 0 5).cut (w.tape w.drawn (Question.appendCap 1 0 5)))) ((w.alloc (.cells (#[.int .u8 42] ++ Builtin.zeroCells #[.int .u8 0] ((Question.appendCap 1 0 5).cut (w.tape w.drawn (Question.appendCap 1 0 5)) - 1)) 5)).drew) := by
    simp [Builtin.append_, go_sem]
    intro h
    exact absurd h (by decide +kernel)
  generalize (Question.appendCap 1 0 5).cut (w.tape w.drawn (Question.appendCap 1 0 5)) = cap at h1 h2 e
  have hO := (own_bytes (B := w.heap.size) (x := 42) (cs := #[.int .u8 42] ++ Builtin.zeroCells #[.int .u8 0] (cap - 1)) (rfl : w.heap.size = w.heap.size) (Nat.le_refl _) (by simp) (by rw [Array.size_append, zero_cells_size]; simp; omega) h1 h2).drew
  have hB : Below w.heap.size w ((w.alloc (.cells (#[.int .u8 42] ++ Builtin.zeroCells #[.int .u8 0] (cap - 1)) 5)).drew) := by (repeat' (first | (with_reducible exact Below.refl _ _) | (with_reducible refine Below.alloc ?_ ?_ _) | (with_reducible refine below_ext ?_ ?_ _) | (with_reducible refine Below.drew ?_) | (with_reducible refine below_drewN ?_ _) | (with_reducible refine Below.setCell ?_ ?_ _) | go_size | (simp only [go_sem]; omega) | (simp [go_sem]; done) | (simp [go_sem]; omega)))
  obtain ⟨x, ex⟩ := ext_of hB
  rw [ex] at e hO
  exact ⟨_, _, x, e, hO⟩
theorem star_join {w : World} {o : Oper} {a : Act} {K : Act → World → Prop} {Q : Exit → Act → World → Prop} (s xo : Operand)
    (ho : o.op = .call { callee := .builtin .append, args := #[s, xo], argTypes := #[30, 9] }) (hs : a.eval s = .slice none 0 0) (hx : a.eval xo = .string ⟨#[42]⟩)
    (h : ∀ A' c' x', Own (encI .u8) 1 5 w.heap.size (ext w x') (.slice A' 1 c') [42] → K (a.put o.dst (.slice A' 1 c')) (ext w x')) : Oper.wp Try.prog o a w K Q := by
  obtain ⟨A', c', x', hrun, hO⟩ := run_star w o.type
  unfold Oper.wp execOp
  simp only [ho, resolve, invoke, builtin, Sem.run_bind, Sem.run_pure, Result.andThen_ok, List.map_toArray, List.map_cons, List.map_nil, hs, hx, hrun]
  exact h A' c' x' hO
set_option maxRecDepth 100000 in
set_option maxHeartbeats 8000000 in
theorem tid2_c (w : World) : Calls Try.prog 14 #[tokV 122 0 ⟨#[42]⟩] w (Gives w (.string ⟨#[42, 122]⟩)) := by
  have eS : strOf [42, 122] = ⟨#[42, 122]⟩ := by decide +kernel
  rw [← eS]
  go_enter Try.func14, Try.ntmps14
  go_upto_region 6 with fail
  obtain ⟨W1, eW1⟩ : ∃ W1, W1 = w.alloc (.cells #[.int .i64 4, .int .u8 122, .int .u8 0, .slice none 0 0, .string ⟨#[42]⟩, .slice none 0 0] 32) := ⟨_, rfl⟩
  have hB1 : Below w.heap.size w W1 := by rw [eW1]; (repeat' (first | (with_reducible exact Below.refl _ _) | (with_reducible refine Below.alloc ?_ ?_ _) | (with_reducible refine below_ext ?_ ?_ _) | (with_reducible refine Below.drew ?_) | (with_reducible refine below_drewN ?_ _) | (with_reducible refine Below.setCell ?_ ?_ _) | go_size | (simp only [go_sem]; omega) | (simp [go_sem]; done) | (simp [go_sem]; omega)))
  have b1 : W1.heap[w.heap.size]? = some (.cells #[.int .i64 4, .int .u8 122, .int .u8 0, .slice none 0 0, .string ⟨#[42]⟩, .slice none 0 0] 32 (0, 0)) := by rw [eW1]; exact heap_alloc_new _ _
  rw [← eW1]
  clear eW1
  have KT := Lib.hid (fun w' (h : Below W1.heap.size W1 w') => (by
    have hb := (h.block _ (Array.getElem?_eq_some_iff.1 b1).1).trans b1
    exact ⟨by rw [cellG hb]; rfl, by rw [cellG hb]; rfl⟩ : w'.cell? ⟨w.heap.size, 1, none⟩ = some (.int .u8 122) ∧ w'.cell? ⟨w.heap.size, 4, none⟩ = some (.string ⟨#[42]⟩)))
  clear b1
  (refine wp_region_F (S := (fun w' => w'.cell? ⟨w.heap.size, 1, none⟩ = some (.int .u8 122) ∧ w'.cell? ⟨w.heap.size, 4, none⟩ = some (.string ⟨#[42]⟩))) 9 [false, false, false, false, false, false, false, false, false, false] rfl rfl (by kernel_rfl) ?_ (fun hHeld => ?_); (focus ((try dsimp only); (exact KT.out _ (by (repeat' (first | (with_reducible exact Below.refl _ _) | (with_reducible refine Below.alloc ?_ ?_ _) | (with_reducible refine below_ext ?_ ?_ _) | (with_reducible refine Below.drew ?_) | (with_reducible refine below_drewN ?_ _) | (with_reducible refine Below.setCell ?_ ?_ _) | go_size | (simp only [go_sem]; omega) | (simp [go_sem]; done) | (simp [go_sem]; omega))))); done)))
  ((refine AtF.take (oi := ?_) (v := ?_) 0 ?_ ?_ ?_ ?_ (Or.inl ⟨?_, ?_⟩) (by assumption) ?_; rotate_left 2; rfl; kernel_rfl; kernel_rfl; exact (fun _ _ _ h => h); rfl; (focus (intro w hSw; (try dsimp only at hSw); go_simp; (try with_reducible rfl); done)); (try simp only [Act.put, List.setIfInBounds_toArray, List.set_cons_zero, List.set_cons_succ])); (refine AtF.take (oi := ?_) (v := ?_) 1 ?_ ?_ ?_ ?_ (Or.inl ⟨?_, ?_⟩) (by assumption) ?_; rotate_left 2; rfl; kernel_rfl; kernel_rfl; exact (fun _ _ _ h => h); rfl; (focus (intro w hSw; (try dsimp only at hSw); go_simp; (try with_reducible rfl); done)); (try simp only [Act.put, List.setIfInBounds_toArray, List.set_cons_zero, List.set_cons_succ])); (refine AtF.take (oi := ?_) (v := ?_) 2 ?_ ?_ ?_ ?_ (Or.inl ⟨?_, ?_⟩) (by assumption) ?_; rotate_left 2; rfl; kernel_rfl; kernel_rfl; exact (fun _ _ _ h => h); rfl; (focus (intro w hSw; (try dsimp only at hSw); go_simp; (try with_reducible rfl); done)); (try simp only [Act.put, List.setIfInBounds_toArray, List.set_cons_zero, List.set_cons_succ])); (refine AtF.take (oi := ?_) (v := ?_) 4 ?_ ?_ ?_ ?_ (Or.inl ⟨?_, ?_⟩) (by assumption) ?_; rotate_left 2; rfl; kernel_rfl; kernel_rfl; exact (fun _ _ _ h => h); rfl; (focus (intro w hSw; (try dsimp only at hSw); go_simp; (try with_reducible rfl); done)); (try simp only [Act.put, List.setIfInBounds_toArray, List.set_cons_zero, List.set_cons_succ])); (refine AtF.take (oi := ?_) (v := ?_) 5 ?_ ?_ ?_ ?_ (Or.inl ⟨?_, ?_⟩) (by assumption) ?_; rotate_left 2; rfl; kernel_rfl; kernel_rfl; exact (fun _ _ _ h => h); rfl; (focus (intro w hSw; (try dsimp only at hSw); go_simp; (try with_reducible rfl); done)); (try simp only [Act.put, List.setIfInBounds_toArray, List.set_cons_zero, List.set_cons_succ])))
  (refine AtF.either (oi := ?_) (oj := ?_) 3 6 ?_ ?_ ?_ (fun K hK => ?_) (fun K hK => ?_); rotate_left 2; rfl; rfl; kernel_rfl)
  · (refine step_doG rfl (star_join (.tmp 20) (.tmp 22) rfl rfl rfl ?_); intro A2 c2 x2 hO2; (try simp only [ext_drew] at hO2); replace hO2 := Lib.hid hO2; (refine hK.out _ _ ?_ (fun hHeld => ?_)); (focus ((try dsimp only); (exact KT.out _ (by (repeat' (first | (with_reducible exact Below.refl _ _) | (with_reducible refine Below.alloc ?_ ?_ _) | (with_reducible refine below_ext ?_ ?_ _) | (with_reducible refine Below.drew ?_) | (with_reducible refine below_drewN ?_ _) | (with_reducible refine Below.setCell ?_ ?_ _) | go_size | (simp only [go_sem]; omega) | (simp [go_sem]; done) | (simp [go_sem]; omega))))); done)); clear hK K; (try simp only [Act.put, List.setIfInBounds_toArray, List.set_cons_zero, List.set_cons_succ]))
    (refine AtF.only (oi := ?_) 6 ?_ ?_ (fun K hK => ?_); rotate_left 1; rfl; kernel_rfl; (try go_simp); skip; (refine hK.out _ _ ?_ (fun hHeld => ?_)); (focus ((try dsimp only); (exact KT.out _ (by (repeat' (first | (with_reducible exact Below.refl _ _) | (with_reducible refine Below.alloc ?_ ?_ _) | (with_reducible refine below_ext ?_ ?_ _) | (with_reducible refine Below.drew ?_) | (with_reducible refine below_drewN ?_ _) | (with_reducible refine Below.setCell ?_ ?_ _) | go_size | (simp only [go_sem]; omega) | (simp [go_sem]; done) | (simp [go_sem]; omega))))); done)); clear hK K; (try simp only [Act.put, List.setIfInBounds_toArray, List.set_cons_zero, List.set_cons_succ]))
    (refine AtF.only (oi := ?_) 7 ?_ ?_ (fun K hK => ?_); rotate_left 1; rfl; kernel_rfl; refine step_doG rfl (bytes_join (U := W1) (xs := [42]) (ys := [122]) (.tmp 23) (.tmp 26) rfl rfl rfl (by (repeat' (first | (with_reducible exact Below.refl _ _) | (with_reducible refine Below.alloc ?_ ?_ _) | (with_reducible refine below_ext ?_ ?_ _) | (with_reducible refine Below.drew ?_) | (with_reducible refine below_drewN ?_ _) | (with_reducible refine Below.setCell ?_ ?_ _) | go_size | (simp only [go_sem]; omega) | (simp [go_sem]; done) | (simp [go_sem]; omega)))) ((hO2.out.mono (by simp [go_sem])).below (by (repeat' (first | (with_reducible exact Below.refl _ _) | (with_reducible refine Below.alloc ?_ ?_ _) | (with_reducible refine below_ext ?_ ?_ _) | (with_reducible refine Below.drew ?_) | (with_reducible refine below_drewN ?_ _) | (with_reducible refine Below.setCell ?_ ?_ _) | go_size | (simp only [go_sem]; omega) | (simp [go_sem]; done) | (simp [go_sem]; omega))))) (rd_byte _ _ (by simp [go_sem]) 122) [42, 122] rfl 2 rfl (by omega) ?_); intro A3 c3 x3 hO3; have hcv : (convert 30 9 (.slice A3 2 c3)).run Try.prog (ext W1 x3) = .ok (.string (strOf [42, 122])) (ext W1 x3) := conv_rd (c := c3) (hO3.rd (encI_len _)); replace hO3 := Lib.hid hO3; (refine hK.out _ _ ?_ (fun hHeld => ?_)); (focus ((try dsimp only); (exact KT.out _ (below_of_ext W1 x3)); done)); clear hK K; (try simp only [Act.put, List.setIfInBounds_toArray, List.set_cons_zero, List.set_cons_succ]))
    (refine AtF.only (oi := ?_) 8 ?_ ?_ (fun K hK => ?_); rotate_left 1; rfl; kernel_rfl; (try go_simp); skip; (refine hK.out _ _ ?_ (fun hHeld => ?_)); (focus ((try dsimp only); (exact KT.out _ (below_of_ext W1 x3)); done)); clear hK K; (try simp only [Act.put, List.setIfInBounds_toArray, List.set_cons_zero, List.set_cons_succ]))
    (refine AtF.last (oi := ?_) ?_ ?_ (fun K hK => ?_); rotate_left 1; rfl; kernel_rfl; go_simp; skip; refine hK.out _ _ ?_; clear hK K; (try simp only [Act.put, List.setIfInBounds_toArray, List.set_cons_zero, List.set_cons_succ]))
    clear hHeld hcv
    have fin := Lib.hid (hB1.trans ((below_of_ext W1 x3).mono hB1.size))
    go_wp2
    go_returns
    exact ⟨rfl, fin.out⟩
  · ((try go_simp); skip; (refine hK.out _ _ ?_ (fun hHeld => ?_)); (focus ((try dsimp only); (exact KT.out _ (by (repeat' (first | (with_reducible exact Below.refl _ _) | (with_reducible refine Below.alloc ?_ ?_ _) | (with_reducible refine below_ext ?_ ?_ _) | (with_reducible refine Below.drew ?_) | (with_reducible refine below_drewN ?_ _) | (with_reducible refine Below.setCell ?_ ?_ _) | go_size | (simp only [go_sem]; omega) | (simp [go_sem]; done) | (simp [go_sem]; omega))))); done)); clear hK K; (try simp only [Act.put, List.setIfInBounds_toArray, List.set_cons_zero, List.set_cons_succ]))
    (refine AtF.only (oi := ?_) 3 ?_ ?_ (fun K hK => ?_); rotate_left 1; rfl; kernel_rfl; refine step_doG rfl (star_join (.tmp 20) (.tmp 22) rfl rfl rfl ?_); intro A2 c2 x2 hO2; (try simp only [ext_drew] at hO2); have hrd := Lib.hid (Rd.below (rd_byte W1.drew W1.heap.size rfl 122) (below_of_ext _ x2)); replace hO2 := Lib.hid hO2; (refine hK.out _ _ ?_ (fun hHeld => ?_)); (focus ((try dsimp only); (exact KT.out _ (by (repeat' (first | (with_reducible exact Below.refl _ _) | (with_reducible refine Below.alloc ?_ ?_ _) | (with_reducible refine below_ext ?_ ?_ _) | (with_reducible refine Below.drew ?_) | (with_reducible refine below_drewN ?_ _) | (with_reducible refine Below.setCell ?_ ?_ _) | go_size | (simp only [go_sem]; omega) | (simp [go_sem]; done) | (simp [go_sem]; omega))))); done)); clear hK K; (try simp only [Act.put, List.setIfInBounds_toArray, List.set_cons_zero, List.set_cons_succ]))
    (refine AtF.only (oi := ?_) 7 ?_ ?_ (fun K hK => ?_); rotate_left 1; rfl; kernel_rfl; refine step_doG rfl (bytes_join (U := W1) (xs := [42]) (ys := [122]) (.tmp 23) (.tmp 26) rfl rfl rfl (by (repeat' (first | (with_reducible exact Below.refl _ _) | (with_reducible refine Below.alloc ?_ ?_ _) | (with_reducible refine below_ext ?_ ?_ _) | (with_reducible refine Below.drew ?_) | (with_reducible refine below_drewN ?_ _) | (with_reducible refine Below.setCell ?_ ?_ _) | go_size | (simp only [go_sem]; omega) | (simp [go_sem]; done) | (simp [go_sem]; omega)))) (hO2.out.mono (by simp [go_sem])) hrd.out [42, 122] rfl 2 rfl (by omega) ?_); intro A3 c3 x3 hO3; have hcv : (convert 30 9 (.slice A3 2 c3)).run Try.prog (ext W1 x3) = .ok (.string (strOf [42, 122])) (ext W1 x3) := conv_rd (c := c3) (hO3.rd (encI_len _)); replace hO3 := Lib.hid hO3; (refine hK.out _ _ ?_ (fun hHeld => ?_)); (focus ((try dsimp only); (exact KT.out _ (below_of_ext W1 x3)); done)); clear hK K; (try simp only [Act.put, List.setIfInBounds_toArray, List.set_cons_zero, List.set_cons_succ]))
    (refine AtF.only (oi := ?_) 8 ?_ ?_ (fun K hK => ?_); rotate_left 1; rfl; kernel_rfl; (try go_simp); skip; (refine hK.out _ _ ?_ (fun hHeld => ?_)); (focus ((try dsimp only); (exact KT.out _ (below_of_ext W1 x3)); done)); clear hK K; (try simp only [Act.put, List.setIfInBounds_toArray, List.set_cons_zero, List.set_cons_succ]))
    (refine AtF.last (oi := ?_) ?_ ?_ (fun K hK => ?_); rotate_left 1; rfl; kernel_rfl; go_simp; skip; refine hK.out _ _ ?_; clear hK K; (try simp only [Act.put, List.setIfInBounds_toArray, List.set_cons_zero, List.set_cons_succ]))
    clear hHeld hcv
    have fin := Lib.hid (hB1.trans ((below_of_ext W1 x3).mono hB1.size))
    go_wp2
    go_returns
    exact ⟨rfl, fin.out⟩
set_option maxHeartbeats 4000000 in
theorem gid1_c (w : World) : Calls Try.prog 11 #[tokV 104 63 ⟨#[]⟩] w (Gives w (.string ⟨#[63, 104]⟩)) := by
  have T := Lib.hid (fun w' => tid1_c w')
  go_enter Try.func11, Try.ntmps11
  go_wp2_with (go_at_call 14; ((with_reducible refine (T.out _).mono ?_); rintro _ _ hgets; obtain ⟨rfl, x1, rfl⟩ := hgets.get; clear hgets))
  go_returns
  exact ⟨rfl, by (repeat' (first | (with_reducible exact Below.refl _ _) | (with_reducible refine Below.alloc ?_ ?_ _) | (with_reducible refine below_ext ?_ ?_ _) | (with_reducible refine Below.drew ?_) | (with_reducible refine below_drewN ?_ _) | (with_reducible refine Below.setCell ?_ ?_ _) | go_size | (simp only [go_sem]; omega) | (simp [go_sem]; done) | (simp [go_sem]; omega)))⟩
set_option maxHeartbeats 4000000 in
theorem gid2_c (w : World) : Calls Try.prog 11 #[tokV 122 0 ⟨#[42]⟩] w (Gives w (.string ⟨#[42, 122]⟩)) := by
  have T := Lib.hid (fun w' => tid2_c w')
  go_enter Try.func11, Try.ntmps11
  go_wp2_with (go_at_call 14; ((with_reducible refine (T.out _).mono ?_); rintro _ _ hgets; obtain ⟨rfl, x1, rfl⟩ := hgets.get; clear hgets))
  go_returns
  exact ⟨rfl, by (repeat' (first | (with_reducible exact Below.refl _ _) | (with_reducible refine Below.alloc ?_ ?_ _) | (with_reducible refine below_ext ?_ ?_ _) | (with_reducible refine Below.drew ?_) | (with_reducible refine below_drewN ?_ _) | (with_reducible refine Below.setCell ?_ ?_ _) | go_size | (simp only [go_sem]; omega) | (simp [go_sem]; done) | (simp [go_sem]; omega)))⟩
end Go.Proofs.Ytngagongjejjhaa
