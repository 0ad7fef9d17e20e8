/- ParamSteps: its walk. -/
import Derived.Test.YtphkfffphlembaaDoorAwake4
import Derived.Test.YtphkfffphlembaaDoorAccE
import Derived.Test.YtphkfffphlembaaDoorKp
import Derived.Test.YtphkfffphlembaaDoorFrameCard
import Derived.Deep.DeepCutAuto
namespace Go.Proofs.YtphkfffphlembaaDoor
open Go.ChangeShapes Go.WideShapes Go.ChangeAt Go.RowKit
set_option linter.unusedVariables false
set_option linter.unusedSimpArgs false

theorem okB_int (c : UInt8) : okB c = (((c.toNat : Int) == 59) || (decide ((48 : Int) ≤ c.toNat) && decide ((c.toNat : Int) ≤ 57))) := by
  have h : decide (c = 59) = ((c.toNat : Int) == 59) := by
    rw [Bool.eq_iff_iff, decide_eq_true_iff, beq_iff_eq]
    constructor
    · rintro rfl; rfl
    · intro e
      exact UInt8.toNat_inj.1 (by simpa using Int.ofNat_inj.1 e)
  unfold okB
  rw [h]
  congr 2
  · rw [Bool.eq_iff_iff]; simp; omega
  · rw [Bool.eq_iff_iff]; simp; omega
theorem parse_feed (cs : List UInt8) (h : cs.all okB = true) : parseV cs = (AccS.nil.feed cs).list ∧ parseE cs = 0 := by
  refine ⟨?_, by unfold parseE; rw [if_pos h]⟩
  unfold parseV
  rw [if_pos h, feed_parse]
theorem Rd.grow {α : Type} {enc : α → List Value} {size : Nat} {w w' : World} {A : Option Addr} {xs : List α} (h : Rd enc size w A xs) (hb : Below w.heap.size w w') : Rd enc size w' A xs := by
  obtain ⟨x, rfl⟩ := ext_of hb
  exact h.ext x
theorem byte_new8 {w : World} {g : Nat} (e : TypeId) (c : UInt8) (hg : g = w.heap.size) : Rd (encI .u8) 1 (w.alloc (.cells #[.int .u8 c.toNat] e)) (some ⟨g, 0, none⟩) (bytesI [c]) := byte_new e _ hg
theorem byte_cell {w : World} {A : Option Addr} {cs : List UInt8} (h : Rd (encI .u8) 1 w A (bytesI cs)) {k : Nat} (hk : k < cs.length) : ∃ b o, A = some ⟨b, o, none⟩ ∧ b < w.heap.size ∧ w.cell? ⟨b, o + k, none⟩ = some (.int .u8 cs[k].toNat) := by
  have hl : k < (bytesI cs).length := by simp [bytesI]; exact hk
  obtain ⟨b, o, e, hlt, hc⟩ := h (by omega)
  refine ⟨b, o, e, hlt, ?_⟩
  have := hc k hl 0 (.int .u8 cs[k].toNat) (by simp [bytesI, encI])
  simpa using this
theorem u8_info : (Tryd.prog.info? 5).map (fun i => (i.zero, i.size, i.bytes)) = some (some (.int .u8 0), 1, 1) := by kernel_rfl
theorem Clp.setOwn {B g k : Nat} {w : World} {zs : List Int} (h : Clp B w (some ⟨g, 0, none⟩) zs) (hk : k < zs.length) (v : Int) : Clp B (w.setCell ⟨g, k, none⟩ (.int .i64 v)) (some ⟨g, 0, none⟩) (zs.set k v) := by
  rcases h with ⟨h1, _⟩ | ⟨g', cur, h1, h2, h3, h4, h5⟩
  · cases h1
  · injection h1 with h1
    injection h1 with h1
    subst h1
    refine .inr ⟨g, cur.setIfInBounds k (.int .i64 v), rfl, h2, by simp [World.setCell, Array.getElem?_modify, h3], by simp; exact h4, fun i hi => ?_⟩
    have hi2 : i < zs.length := by simpa using hi
    rw [Array.getElem?_setIfInBounds]
    by_cases e : k = i
    · subst e
      rw [if_pos rfl, if_pos (by omega)]
      simp
    · rw [if_neg e, h5 i hi2, List.getElem_set_ne e]
theorem Clp.at {B g : Nat} {w : World} {zs : List Int} (h : Clp B w (some ⟨g, 0, none⟩) zs) : B ≤ g ∧ g < w.heap.size ∧ (∀ i, w.frozen? ⟨g, i, none⟩ = false) ∧ ∀ i (hi : i < zs.length), w.cell? ⟨g, i, none⟩ = some (.int .i64 zs[i]) := by
  rcases h with ⟨h1, _⟩ | ⟨g', cur, h1, h2, h3, h4, h5⟩
  · cases h1
  · injection h1 with h1
    injection h1 with h1
    subst h1
    exact ⟨h2, heap_in h3, fun i => frozen_in h3, fun i hi => by rw [cell_in h3, h5 i hi]⟩

set_option maxRecDepth 100000 in
set_option maxHeartbeats 8000000 in
theorem ParamSteps_walk (W : World) (ht : Tab W) (s : ByteArray) (ws : s.size ≤ maxLen) (cl : Int) (wcl : (Lit.int .i64 cl).wf = true) :
    Calls Tryd.prog 9 #[.string s, .int .i64 cl] W (Gives W (.bool true)) := by
  have AW := Lib.hid (awake_4 W ht)
  simp only [maxLen] at ws
  clear ht wcl
  go_enter Tryd.func9, Tryd.ntmps9
  go_upto_if 25 with (go_at_call 10; ((with_reducible refine (AW.out).mono ?_); rintro _ _ hgets; obtain ⟨rfl, x1, rfl⟩ := hgets.get; clear hgets))
  go_cut [0] (fun sv wx => ∃ (t : ByteArray) (x : More), sv = .string t ∧ t.size ≤ 500 ∧ wx = ext W x)
  case first =>
    by_cases h : 500 < s.size
    · go_wp2
      go_meet
      exact ⟨_, _, rfl, by rw [ByteArray.size_extract]; omega, rfl⟩
    · go_wp2
      go_meet
      exact ⟨_, _, rfl, by omega, rfl⟩
  obtain ⟨t, x, rfl, hts, rfl⟩ := hcut
  clear AW ws
  have hB0 : Below W.heap.size W (ext W x) := below_of_ext W x
  generalize ext W x = w0 at hB0 ⊢
  have S0 : St W (w0.alloc (.cells #[.slice none 0 0, .int .i64 0, .bool false] 42)) w0.heap.size AccS.nil (.slice none 0 0) [] := by
    have hs := hB0.size
    refine ⟨⟨fun x => x = w0.heap.size, AccAt.new w0, fun x hx => ?_, fun k hk => (by cases hk)⟩, Own.nil _ _ _ _ _, fun k hk => (by cases hk), ?_⟩
    · have h1 := (AccAt.new w0).lt
      rw [show x = w0.heap.size from hx]
      exact ⟨h1, hs⟩
    exact hB0.alloc hs _
  replace S0 := Lib.hid S0
  go_wp2
  generalize w0.alloc (.cells #[.slice none 0 0, .int .i64 0, .bool false] 42) = wi at S0 ⊢
  generalize w0.heap.size = p at S0 ⊢
  clear hB0
  go_loopw [6, 7] (fun tv i wr => ∃ (k : Nat) (cs : List UInt8), k ≤ t.size ∧ cs.length ≤ k ∧ i = .int .i64 k ∧ Hid (cs.all okB = true) ∧ Hid (St W wr p (AccS.nil.feed cs) tv cs)) (fun _ i _ => t.size - (intOf i).toNat)
  case atStart => exact ⟨0, [], by omega, by simp, rfl, rfl, S0⟩
  case round =>
    obtain ⟨k, cs, hk, hcl, rfl, hall, hS⟩ := hrel
    by_cases hlt : k < t.size
    · go_upto_if 36 with fail
      go_cut [6] (fun tv2 wx => ∃ (cs2 : List UInt8), cs2.length ≤ k ∧ Hid (cs2.all okB = true) ∧ Hid (St W wx p (AccS.nil.feed cs2) tv2 cs2))
      case first =>
        by_cases hkc : (k : Int) = cl
        · have hc1 : ((k : Int) == cl) = true := by simpa using hkc
          clear hkc
          obtain ⟨F, hA, hF, hv⟩ := hS.out.ex
          have CC := Lib.hid (clear_c hA)
          have HF := Lib.hid (⟨hF, hv⟩ : _ ∧ _)
          clear hA hF hv
          go_wp2_with (go_at_call 20; (with_reducible refine CC.out.mono ?_); (rintro _ w2 ⟨rfl, hd⟩); replace hd := Lib.hid hd)
          go_wp2
          go_meet
          exact ⟨[], by simp, rfl, (hS.out.did HF.out.1 HF.out.2 hd.out).none⟩
        · have hc1 : ((k : Int) == cl) = false := by simpa using hkc
          clear hkc
          go_wp2
          go_meet
          exact ⟨cs, hcl, hall, hS⟩
      obtain ⟨cs2, hcl2, hall2, hS2⟩ := hcut
      clear hall hS hcl
      obtain ⟨F, hA, hF, hv⟩ := hS2.out.ex
      have hok2 : (AccS.nil.feed cs2).Ok := AccS.Ok.nil.feed hall2.out
      have BY := Lib.hid (byte_c hA hok2 t[k])
      have HF := Lib.hid (⟨hF, hv⟩ : _ ∧ _)
      have OI := Lib.hid (okB_int t[k])
      clear hA hF hv hok2
      go_upto_region 14 with (go_at_call 21; (with_reducible refine BY.out.mono ?_); (rintro _ w2 ⟨rfl, hd⟩); replace hd := Lib.hid hd)
      have S3 := Lib.hid (hS2.out.did HF.out.1 HF.out.2 hd.out)
      clear BY HF hd hS2
      have HOK := Lib.hid (fun (h : okB t[k] = true) => (show (cs2 ++ [t[k]]).all okB = true by rw [List.all_append, hall2.out]; simp [h]))
      generalize okB t[k] = ok at S3 OI HOK ⊢
      go_cut [59] (fun v wx => v = .bool false ∧ wx = w2)
      case first =>
        by_cases h59 : (t[k].toNat : Int) = 59
        · have e1 : (((t[k].toNat : Nat) : Int) == 59) = true := by simpa using h59
          have ho := Lib.hid (show ok = true by rw [OI.out, e1]; rfl)
          clear h59
          go_wp2
          go_meet
          exact ⟨by rw [ho.out] <;> rfl, rfl⟩
        · have e1 : (((t[k].toNat : Nat) : Int) == 59) = false := by simpa using h59
          by_cases hlo : (48 : Int) ≤ t[k].toNat
          · by_cases hhi : (t[k].toNat : Int) ≤ 57
            · have ho := Lib.hid (show ok = true by rw [OI.out, e1, decide_eq_true hlo, decide_eq_true hhi]; rfl)
              clear h59
              go_wp2
              go_meet
              exact ⟨by rw [ho.out] <;> rfl, rfl⟩
            · have ho := Lib.hid (show ok = false by rw [OI.out, e1, decide_eq_false hhi, Bool.and_false]; rfl)
              clear h59
              go_wp2
              go_meet
              exact ⟨by rw [ho.out] <;> rfl, rfl⟩
          · have ho := Lib.hid (show ok = false by rw [OI.out, e1, decide_eq_false hlo]; rfl)
            clear h59
            go_wp2
            go_meet
            exact ⟨by rw [ho.out] <;> rfl, rfl⟩
      obtain ⟨rfl, rfl⟩ := hcut
      clear OI
      go_upto_if 60 with fail
      go_cut [6] (fun tv3 wx => ∃ (cs3 : List UInt8), cs3.length ≤ k + 1 ∧ Hid (cs3.all okB = true) ∧ Hid (St W wx p (AccS.nil.feed cs3) tv3 cs3))
      case first =>
        cases ok
        case true =>
          simp only [if_true] at S3
          rw [← AccS.feed_snoc] at S3
          have h3 : Hid ((cs2 ++ [t[k]]).all okB = true) := Lib.hid (HOK.out rfl)
          obtain ⟨A', c', w4, hrun, hO, hK, hf⟩ := run_append_keep (P := Tryd.prog) (enc := encI .u8) (size := 1) (wc.alloc (.cells #[.int .u8 t[k].toNat] 5)) 43 43 5 _ 1 Tryd.underlying43 u8_info rfl (by omega) (encI_len _) (encI_one _) (bytesI cs2) (bytesI [t[k]]) u6 (some ⟨wc.heap.size, 0, none⟩) 1 (S3.out.own.below ((Below.refl _ _).alloc (Nat.le_refl _) _)) (byte_new8 _ _ rfl) (by simp [bytesI, maxLen]; omega) (by simp [bytesI]; omega)
          have hrunH := Lib.hid hrun
          have hS4 := Lib.hid (S3.out.push (cs' := cs2 ++ [t[k]]) ((Below.refl _ _).alloc (Nat.le_refl _) _) hK (by rw [show bytesI (cs2 ++ [t[k]]) = bytesI cs2 ++ bytesI [t[k]] by simp [bytesI]]; exact hO) hf)
          clear hrun hO hK hf S3
          go_wp2_with (at_builtin; refine append_run (.tmp 61) (.tmp 65) 43 rfl rfl _ _ _ rfl rfl hrunH.out ?_)
          go_wp2
          go_meet
          exact ⟨cs2 ++ [t[k]], by simp; omega, h3, Lib.hid (by have := hS4.out; rwa [List.length_append] at this)⟩
        case false =>
          simp only [Bool.false_eq_true, if_false] at S3
          go_wp2
          go_meet
          exact ⟨cs2, by omega, hall2, S3⟩
      obtain ⟨cs3, hcl3, hall3, hS3⟩ := hcut
      clear S3 hall2 hcl2
      obtain ⟨tA, tc, rfl, htc, hrd⟩ := hS3.out.form
      have hcv := conv_st (c := tc) hrd
      have hpf := parse_feed cs3 hall3.out
      have hok3 : (AccS.nil.feed cs3).Ok := AccS.Ok.nil.feed hall3.out
      obtain ⟨F, hA, _, _⟩ := hS3.out.ex
      have PR := Lib.hid (fun w' => parse_r ⟨cs3.toArray⟩ (by show cs3.toArray.size ≤ _; simp; omega) w')
      rw [show bytesOf ⟨cs3.toArray⟩ = cs3 from rfl, hpf.1, hpf.2] at PR
      have LI := Lib.hid (fun x => list_c (hA.grow (below_of_ext wc x)) hok3)
      have hL := hok3.list.1
      generalize (AccS.nil.feed cs3).list = L at PR LI hL
      have SI : Hid (∀ (w' : World) (A B : Option Addr) (c d : Nat), Ints w' A L → Ints w' B L → Calls Tryd.prog 13 #[.slice A L.length c, .slice B L.length d] w' (Gives w' (.bool true))) := Lib.hid (fun w' A B c d h1 h2 => by
        have := same_ints A B c d L L w' h1 h2 (by omega) (by omega)
        simpa using this)
      clear hA hok3 hpf hrd
      go_wp2_with (first
        | (go_at_call 12; (with_reducible refine (PR.out _).mono ?_); (rintro _ _ ⟨A3, c3, x3, rfl, rfl, hD⟩); replace hD := Lib.hid hD)
        | (go_at_call 22; (with_reducible refine (LI.out _).mono ?_); (rintro _ _ ⟨A4, x4, rfl, rfl, hC⟩); replace hC := Lib.hid hC)
        | (go_at_call 13; ((with_reducible refine (SI.out _ _ _ _ _ hC.out.rd ((hD.out.rd (encI_len _)).ext _)).mono ?_); rintro _ _ hgets; obtain ⟨rfl, x5, rfl⟩ := hgets.get; clear hgets)))
      have hCg := Lib.hid (hC.out.grow (below_of_ext (ext (ext wc x3) x4) x5))
      have hBw : Below wc.heap.size wc (ext (ext (ext wc x3) x4) x5) := by (repeat' (first | (with_reducible exact Below.refl _ _) | (with_reducible refine Below.alloc ?_ ?_ _) | (with_reducible refine below_ext ?_ ?_ _) | (with_reducible refine Below.drew ?_) | (with_reducible refine below_drewN ?_ _) | (with_reducible refine Below.setCell ?_ ?_ _) | go_size | (simp only [go_sem]; omega) | (simp [go_sem]; done) | (simp [go_sem]; omega)))
      have hwM : wc.heap.size ≤ (ext wc x3).heap.size := by simp
      replace hBw := Lib.hid hBw
      replace hCg := Lib.hid (hCg.out.mono hwM)
      clear hC hD hcv PR LI SI hwM
      generalize ext (ext (ext wc x3) x4) x5 = w5 at hCg hBw ⊢
      go_loopw [80] (fun i w6 => ∃ (j : Nat) (zs : List Int), j ≤ L.length ∧ i = .int .i64 j ∧ Hid (zs.length = L.length) ∧ Hid (Below wc.heap.size wc w6) ∧ Hid (Clp wc.heap.size w6 A4 zs)) (fun i _ => L.length - (intOf i).toNat)
      case atStart => exact ⟨0, L, by omega, rfl, rfl, hBw, hCg⟩
      case round =>
        obtain ⟨j, zs, hj, rfl, hzl, hB6, hC6⟩ := hrel
        by_cases hlt6 : j < L.length
        · obtain ⟨g1, rfl⟩ : ∃ g1, A4 = some ⟨g1, 0, none⟩ := by
            rcases hC6.out with ⟨_, e⟩ | ⟨g1, _, e, _⟩
            · have := hzl.out; subst e; simp at this; omega
            · exact ⟨g1, e⟩
          obtain ⟨hWg, hgs, hfz, hcl6⟩ := hC6.out.at
          have hcell := hcl6 j (by have := hzl.out; omega)
          have hfzk := hfz j
          have n1 := Lib.hid (hC6.out.setOwn (k := j) (by have := hzl.out; omega) (-7))
          have nB := Lib.hid (hB6.out.setCell (p := ⟨g1, j, none⟩) hWg (.int .i64 (-7)))
          have nl := Lib.hid (show (zs.set j (-7)).length = L.length by rw [List.length_set]; exact hzl.out)
          clear hcl6 hfz
          generalize zs[j]'(by have := hzl.out; omega) = old at hcell
          go_wp2
          go_roundw
          case rel => exact ⟨j + 1, _, by omega, by go_num, nl, nB, n1⟩
          case measure => simp [intOf]; omega
        · obtain rfl : j = L.length := by omega
          have hSn := Lib.hid (hS3.out.grow hB6.out)
          clear hCg hBw hB6 hC6
          go_wp2
          go_roundw
          case rel => exact ⟨k + 1, cs3, by omega, hcl3, by go_num, hall3, hSn⟩
          case measure => simp [intOf]; omega
    · obtain rfl : k = t.size := by omega
      obtain ⟨tA, tc, rfl, htc, hrd⟩ := hS.out.form
      have hcv := conv_st (c := tc) hrd
      have hpf := parse_feed cs hall.out
      have hok : (AccS.nil.feed cs).Ok := AccS.Ok.nil.feed hall.out
      have PR := Lib.hid (fun w' => parse_r ⟨cs.toArray⟩ (by show cs.toArray.size ≤ _; simp; omega) w')
      rw [show bytesOf ⟨cs.toArray⟩ = cs from rfl, hpf.1, hpf.2] at PR
      clear hrd hpf S0
      go_upto_region 28 with (go_at_call 12; (with_reducible refine (PR.out _).mono ?_); (rintro _ _ ⟨A3, c3, x3, rfl, rfl, hD⟩); replace hD := Lib.hid hD)
      have hSM := Lib.hid (hS.out.grow (below_of_ext wr x3))
      have hDM := Lib.hid (hD.out.rd (encI_len _))
      clear hS hD PR hcv
      generalize ext wr x3 = wM at hSM hDM ⊢
      obtain ⟨F, hA, hF, _⟩ := hSM.out.ex
      have CLN := Lib.hid (cloneA_c hA hok)
      clear hA hF
      go_upto_region 29 with (go_at_call 23; (with_reducible refine CLN.out.mono ?_); (rintro _ _ ⟨x4, rfl, rfl, hQ⟩); replace hQ := Lib.hid hQ)
      have hMC : Below wM.heap.size wM (ext wM x4) := below_of_ext wM x4
      replace hMC := Lib.hid hMC
      clear CLN
      generalize ext wM x4 = wC at hQ hMC ⊢
      have hC0 : Hid (AccAt (wC.alloc (.cells #[.slice none 0 0, .int .i64 0, .bool false] 42)) (fun y => y = wC.heap.size) wC.heap.size AccS.nil) := Lib.hid (AccAt.new wC)
      have hCD : Hid (Below wC.heap.size wC (wC.alloc (.cells #[.slice none 0 0, .int .i64 0, .bool false] 42))) := Lib.hid ((Below.refl _ _).alloc (Nat.le_refl _) _)
      have hDs : wC.heap.size < (wC.alloc (.cells #[.slice none 0 0, .int .i64 0, .bool false] 42)).heap.size := AccAt.lt hC0.out
      go_wp2
      generalize wC.alloc (.cells #[.slice none 0 0, .int .i64 0, .bool false] 42) = wD at hC0 hCD hDs ⊢
      go_loopw [96] (fun i w8 => ∃ (k : Nat), k ≤ cs.length ∧ i = .int .i64 k ∧ Hid (AccDid wD (fun y => y = wC.heap.size) wC.heap.size (AccS.nil.feed (cs.take k)) w8)) (fun i _ => cs.length - (intOf i).toNat)
      case atStart => exact ⟨0, by omega, rfl, Lib.hid (AccDid.refl hC0.out)⟩
      case round =>
        obtain ⟨k, hk8, rfl, hd8⟩ := hrel
        have hBC : Below wC.heap.size wC wr := by
          obtain ⟨_, _, kk, _⟩ := hd8.out
          exact hCD.out.trans (kk.below (fun b hb => by omega) (by omega))
        have hBM : Below wM.heap.size wM wr := hMC.out.trans (hBC.mono hMC.out.size)
        by_cases hlt8 : k < cs.length
        · obtain ⟨F8, hA8, hK8, hF8⟩ := hd8.out
          obtain ⟨tA', tc', e', _, hrd8⟩ := (hSM.out.grow hBM).form
          injection e' with e1 _ e3
          subst e1 e3
          obtain ⟨b1, o1, rfl, hb1, hc1⟩ := byte_cell hrd8 hlt8
          have hok8 : (AccS.nil.feed (cs.take k)).Ok := AccS.Ok.nil.feed (by
            rw [List.all_eq_true]
            exact fun c hc => List.all_eq_true.1 hall.out c (List.mem_of_mem_take hc))
          have hck : okB cs[k] = true := List.all_eq_true.1 hall.out _ (List.getElem_mem hlt8)
          have BY := Lib.hid (byte_c hA8 hok8 cs[k])
          have hst : (AccS.nil.feed (cs.take k)).byte cs[k] = AccS.nil.feed (cs.take (k + 1)) := by
            rw [List.take_add_one, List.getElem?_eq_getElem hlt8]
            exact (AccS.feed_snoc _ _ _).symm
          simp only [hck, if_true, hst] at BY
          have HK := Lib.hid (⟨hK8, hF8⟩ : _ ∧ _)
          clear hA8 hK8 hF8 hok8 hck hst hrd8 hd8 hBC hBM
          go_wp2_with (go_at_call 21; (with_reducible refine BY.out.mono ?_); (rintro _ w9 ⟨rfl, hd9⟩); replace hd9 := Lib.hid hd9)
          go_roundw
          case rel => exact ⟨k + 1, by omega, by go_num, Lib.hid (AccDid.cons HK.out.1 HK.out.2 hd9.out)⟩
          case measure => simp [intOf]; omega
        · obtain rfl : k = cs.length := by omega
          rw [List.take_length] at hd8
          obtain ⟨H, hAc, hKc, _⟩ := hd8.out
          obtain ⟨G, hAb, hG⟩ := hQ.out.tight
          have hAb9 : AccAt wr G wM.heap.size (AccS.nil.feed cs) := (hAb.grow hCD.out).keep hKc (fun x hx e => by have := (hG x hx).2; omega)
          have hS9 := hSM.out.grow hBM
          obtain ⟨F9, hAa, hF9, _⟩ := hS9.ex
          have LA := Lib.hid (fun w' (hB : Below wr.heap.size wr w') => list_c (hAa.grow hB) hok)
          have LB := Lib.hid (fun w' (hB : Below wr.heap.size wr w') => list_c (hAb9.grow hB) hok)
          have hse : sameB (AccS.nil.feed cs) (AccS.nil.feed cs) = true := (sameB_iff _ _).2 rfl
          have SAB := Lib.hid (fun w' (hB : Below wr.heap.size wr w') => same_c (hAa.grow hB) hok (hAb9.grow hB) hok)
          have SAC := Lib.hid (fun w' (hB : Below wr.heap.size wr w') => same_c (hAa.grow hB) hok (hAc.grow hB) hok)
          have SCA := Lib.hid (fun w' (hB : Below wr.heap.size wr w') => same_c (hAc.grow hB) hok (hAa.grow hB) hok)
          rw [hse] at SAB SAC SCA
          have hD9 := Lib.hid (hDM.out.grow hBM)
          have hG9 : ∀ x, G x → wM.heap.size ≤ x := fun x hx => (hG x hx).1
          replace hAb9 := Lib.hid hAb9
          replace hG9 := Lib.hid hG9
          have hL := hok.list.1
          have SI : Hid (∀ (w' : World) (A B : Option Addr) (c d : Nat), Ints w' A (AccS.nil.feed cs).list → Ints w' B (AccS.nil.feed cs).list → Calls Tryd.prog 13 #[.slice A (AccS.nil.feed cs).list.length c, .slice B (AccS.nil.feed cs).list.length d] w' (Gives w' (.bool true))) := Lib.hid (fun w' A B c d h1 h2 => by
            have := same_ints A B c d _ _ w' h1 h2 (by omega) (by omega)
            simpa using this)
          replace hBM := Lib.hid hBM
          clear hAa hAc hKc hAb hG hd8 hS9 hF9 hBC hC0 hCD hQ hse
          go_upto_region 37 with (first
            | (go_at_call 22; (with_reducible refine (LA.out _ (by (repeat' (first | (with_reducible exact Below.refl _ _) | (with_reducible refine Below.alloc ?_ ?_ _) | (with_reducible refine below_ext ?_ ?_ _) | (with_reducible refine Below.drew ?_) | (with_reducible refine below_drewN ?_ _) | (with_reducible refine Below.setCell ?_ ?_ _) | go_size | (simp only [go_sem]; omega) | (simp [go_sem]; done) | (simp [go_sem]; omega))))).mono ?_); (rintro _ _ ⟨A5, x5, rfl, rfl, hC5⟩); replace hC5 := Lib.hid hC5)
            | (go_at_call 13; ((with_reducible refine (SI.out _ _ _ _ _ hC5.out.rd (hD9.out.grow (by (repeat' (first | (with_reducible exact Below.refl _ _) | (with_reducible refine Below.alloc ?_ ?_ _) | (with_reducible refine below_ext ?_ ?_ _) | (with_reducible refine Below.drew ?_) | (with_reducible refine below_drewN ?_ _) | (with_reducible refine Below.setCell ?_ ?_ _) | go_size | (simp only [go_sem]; omega) | (simp [go_sem]; done) | (simp [go_sem]; omega)))))).mono ?_); rintro _ _ hgets; obtain ⟨rfl, x6, rfl⟩ := hgets.get; clear hgets))
            | (go_at_call 22; (with_reducible refine (LB.out _ (by (repeat' (first | (with_reducible exact Below.refl _ _) | (with_reducible refine Below.alloc ?_ ?_ _) | (with_reducible refine below_ext ?_ ?_ _) | (with_reducible refine Below.drew ?_) | (with_reducible refine below_drewN ?_ _) | (with_reducible refine Below.setCell ?_ ?_ _) | go_size | (simp only [go_sem]; omega) | (simp [go_sem]; done) | (simp [go_sem]; omega))))).mono ?_); (rintro _ _ ⟨A7, x7, rfl, rfl, hC7⟩); replace hC7 := Lib.hid hC7)
            | (go_at_call 13; ((with_reducible refine (SI.out _ _ _ _ _ hC7.out.rd (hD9.out.grow (by (repeat' (first | (with_reducible exact Below.refl _ _) | (with_reducible refine Below.alloc ?_ ?_ _) | (with_reducible refine below_ext ?_ ?_ _) | (with_reducible refine Below.drew ?_) | (with_reducible refine below_drewN ?_ _) | (with_reducible refine Below.setCell ?_ ?_ _) | go_size | (simp only [go_sem]; omega) | (simp [go_sem]; done) | (simp [go_sem]; omega)))))).mono ?_); rintro _ _ hgets; obtain ⟨rfl, x8, rfl⟩ := hgets.get; clear hgets))
            | (go_at_call 24; ((with_reducible refine (SAB.out _ (by (repeat' (first | (with_reducible exact Below.refl _ _) | (with_reducible refine Below.alloc ?_ ?_ _) | (with_reducible refine below_ext ?_ ?_ _) | (with_reducible refine Below.drew ?_) | (with_reducible refine below_drewN ?_ _) | (with_reducible refine Below.setCell ?_ ?_ _) | go_size | (simp only [go_sem]; omega) | (simp [go_sem]; done) | (simp [go_sem]; omega))))).mono ?_); rintro _ _ hgets; obtain ⟨rfl, x9, rfl⟩ := hgets.get; clear hgets))
            | (go_at_call 24; ((with_reducible refine (SAC.out _ (by (repeat' (first | (with_reducible exact Below.refl _ _) | (with_reducible refine Below.alloc ?_ ?_ _) | (with_reducible refine below_ext ?_ ?_ _) | (with_reducible refine Below.drew ?_) | (with_reducible refine below_drewN ?_ _) | (with_reducible refine Below.setCell ?_ ?_ _) | go_size | (simp only [go_sem]; omega) | (simp [go_sem]; done) | (simp [go_sem]; omega))))).mono ?_); rintro _ _ hgets; obtain ⟨rfl, y1, rfl⟩ := hgets.get; clear hgets))
            | (go_at_call 24; ((with_reducible refine (SCA.out _ (by (repeat' (first | (with_reducible exact Below.refl _ _) | (with_reducible refine Below.alloc ?_ ?_ _) | (with_reducible refine below_ext ?_ ?_ _) | (with_reducible refine Below.drew ?_) | (with_reducible refine below_drewN ?_ _) | (with_reducible refine Below.setCell ?_ ?_ _) | go_size | (simp only [go_sem]; omega) | (simp [go_sem]; done) | (simp [go_sem]; omega))))).mono ?_); rintro _ _ hgets; obtain ⟨rfl, y2, rfl⟩ := hgets.get; clear hgets)))
          have hBE : Below wr.heap.size wr (ext (ext (ext (ext (ext (ext (ext wr x5) x6) x7) x8) x9) y1) y2) := by (repeat' (first | (with_reducible exact Below.refl _ _) | (with_reducible refine Below.alloc ?_ ?_ _) | (with_reducible refine below_ext ?_ ?_ _) | (with_reducible refine Below.drew ?_) | (with_reducible refine below_drewN ?_ _) | (with_reducible refine Below.setCell ?_ ?_ _) | go_size | (simp only [go_sem]; omega) | (simp [go_sem]; done) | (simp [go_sem]; omega)))
          replace hBE := Lib.hid hBE
          clear hC5 hC7 LA LB SAB SAC SCA
          generalize ext (ext (ext (ext (ext (ext (ext wr x5) x6) x7) x8) x9) y1) y2 = wE at hBE ⊢
          have hMs : wM.heap.size ≤ wr.heap.size := hBM.out.size
          have hEs : wr.heap.size ≤ wE.heap.size := hBE.out.size
          have BY7 : Hid (Calls Tryd.prog 21 #[.pointer (some ⟨wM.heap.size, 0, none⟩), .int .u8 55] wE fun e w' => e = .returned (.bool true) ∧ AccDid wE G wM.heap.size ((AccS.nil.feed cs).byte 55) w') := Lib.hid (by
            have := byte_c (hAb9.out.grow hBE.out) hok 55
            simpa [show okB 55 = true by decide] using this)
          go_upto_region 38 with (go_at_call 21; (with_reducible refine BY7.out.mono ?_); (rintro _ wF ⟨rfl, hd⟩); replace hd := Lib.hid hd)
          obtain ⟨G7, hA7, hK7, hG7⟩ := hd.out
          have hBF : Below wM.heap.size wM wF := (hBM.out.trans (hBE.out.mono hMs)).trans (hK7.below (fun x hx => hG9.out x hx) (by omega))
          have hSF := hSM.out.grow hBF
          obtain ⟨tA', tc', e', _, hrdF⟩ := hSF.form
          injection e' with e1 _ e3
          subst e1 e3
          have hcv := conv_st (c := tc) hrdF
          have hcl2 : cs.length ≤ 500 := by omega
          have hz : (9223372036854775807 < cs.length + 1) = False := eq_false (by omega)
          have h7 : (cs ++ [55]).all okB = true := by rw [List.all_append, hall.out]; decide
          have hpf := parse_feed (cs ++ [55]) h7
          have hok7 : (AccS.nil.feed (cs ++ [55])).Ok := AccS.Ok.nil.feed h7
          have hT : ((⟨cs.toArray⟩ : ByteArray) ++ ⟨#[55]⟩).size ≤ 9223372036854775806 := by
            have h1 : (⟨cs.toArray⟩ : ByteArray).size = cs.length := List.size_toArray
            have h2 : (⟨#[55]⟩ : ByteArray).size = 1 := rfl
            rw [ByteArray.size_append, h1, h2]
            omega
          have PR2 := Lib.hid (fun w' => parse_r (⟨cs.toArray⟩ ++ ⟨#[55]⟩) hT w')
          rw [show bytesOf (⟨cs.toArray⟩ ++ ⟨#[55]⟩) = cs ++ [55] by simp [bytesOf], hpf.1, hpf.2] at PR2
          rw [AccS.feed_snoc] at PR2 hok7
          obtain ⟨FF, hAaF, _, _⟩ := hSF.ex
          have LA := Lib.hid (fun w' (hB : Below wF.heap.size wF w') => list_c (hAaF.grow hB) hok)
          have LB := Lib.hid (fun w' (hB : Below wF.heap.size wF w') => list_c (hA7.grow hB) hok7)
          have SAB := Lib.hid (fun w' (hB : Below wF.heap.size wF w') => same_c (hAaF.grow hB) hok (hA7.grow hB) hok7)
          have hDF := Lib.hid (hDM.out.grow hBF)
          have hL2 := hok7.list.1
          have HSB := Lib.hid (show sameB (AccS.nil.feed cs) ((AccS.nil.feed cs).byte 55) = true → (AccS.nil.feed cs).list = ((AccS.nil.feed cs).byte 55).list from fun h => congrArg AccS.list ((sameB_iff _ _).1 h))
          have hBF' := Lib.hid (hSF.bel)
          clear hA7 hK7 hG7 hSF hrdF hAaF hd BY7 hpf hok7 hok h7 hAb9 hG9 hSM hDM hD9 hBM hBE
          generalize ((AccS.nil.feed cs).byte 55).list = L2 at PR2 LB HSB hL2
          generalize (AccS.nil.feed cs).list = L at LA HSB SI hL hDF ⊢
          generalize sameB (AccS.nil.feed cs) ((AccS.nil.feed cs).byte 55) = sb at SAB HSB
          have SI2 : Hid (∀ (w' : World) (A B : Option Addr) (c d : Nat), Ints w' A L2 → Ints w' B L2 → Calls Tryd.prog 13 #[.slice A L2.length c, .slice B L2.length d] w' (Gives w' (.bool true))) := Lib.hid (fun w' A B c d h1 h2 => by
            have := same_ints A B c d _ _ w' h1 h2 (by omega) (by omega)
            simpa using this)
          have SI3 : Hid (∀ (w' : World) (A B : Option Addr) (c d : Nat), Ints w' A L → Ints w' B L2 → Calls Tryd.prog 13 #[.slice A L.length c, .slice B L2.length d] w' (Gives w' (.bool (decide (L = L2))))) := Lib.hid (fun w' A B c d h1 h2 => same_ints A B c d _ _ w' h1 h2 (by omega) (by omega))
          by_cases hLL : L = L2
          · have hdc : decide (L = L2) = true := decide_eq_true hLL
            rw [hdc] at SI3
            clear hLL hdc HSB
            go_wp2_with (first
              | (go_at_call 12; (with_reducible refine (PR2.out _).mono ?_); (rintro _ _ ⟨A5, c5, x5, rfl, rfl, hE⟩); replace hE := Lib.hid hE)
              | (go_at_call 22; (with_reducible refine (LA.out _ (by (repeat' (first | (with_reducible exact Below.refl _ _) | (with_reducible refine Below.alloc ?_ ?_ _) | (with_reducible refine below_ext ?_ ?_ _) | (with_reducible refine Below.drew ?_) | (with_reducible refine below_drewN ?_ _) | (with_reducible refine Below.setCell ?_ ?_ _) | go_size | (simp only [go_sem]; omega) | (simp [go_sem]; done) | (simp [go_sem]; omega))))).mono ?_); (rintro _ _ ⟨A6, x6, rfl, rfl, hC6⟩); replace hC6 := Lib.hid hC6)
              | (go_at_call 13; ((with_reducible refine (SI.out _ _ _ _ _ hC6.out.rd (hDF.out.grow (by (repeat' (first | (with_reducible exact Below.refl _ _) | (with_reducible refine Below.alloc ?_ ?_ _) | (with_reducible refine below_ext ?_ ?_ _) | (with_reducible refine Below.drew ?_) | (with_reducible refine below_drewN ?_ _) | (with_reducible refine Below.setCell ?_ ?_ _) | go_size | (simp only [go_sem]; omega) | (simp [go_sem]; done) | (simp [go_sem]; omega)))))).mono ?_); rintro _ _ hgets; obtain ⟨rfl, x7, rfl⟩ := hgets.get; clear hgets))
              | (go_at_call 22; (with_reducible refine (LB.out _ (by (repeat' (first | (with_reducible exact Below.refl _ _) | (with_reducible refine Below.alloc ?_ ?_ _) | (with_reducible refine below_ext ?_ ?_ _) | (with_reducible refine Below.drew ?_) | (with_reducible refine below_drewN ?_ _) | (with_reducible refine Below.setCell ?_ ?_ _) | go_size | (simp only [go_sem]; omega) | (simp [go_sem]; done) | (simp [go_sem]; omega))))).mono ?_); (rintro _ _ ⟨A8, x8, rfl, rfl, hC8⟩); replace hC8 := Lib.hid hC8)
              | (go_at_call 13; ((with_reducible refine (SI2.out _ _ _ _ _ hC8.out.rd ((hE.out.rd (encI_len _)).grow (by (repeat' (first | (with_reducible exact Below.refl _ _) | (with_reducible refine Below.alloc ?_ ?_ _) | (with_reducible refine below_ext ?_ ?_ _) | (with_reducible refine Below.drew ?_) | (with_reducible refine below_drewN ?_ _) | (with_reducible refine Below.setCell ?_ ?_ _) | go_size | (simp only [go_sem]; omega) | (simp [go_sem]; done) | (simp [go_sem]; omega)))))).mono ?_); rintro _ _ hgets; obtain ⟨rfl, x9, rfl⟩ := hgets.get; clear hgets))
              | (go_at_call 13; ((with_reducible refine (SI3.out _ _ _ _ _ (hDF.out.grow (by (repeat' (first | (with_reducible exact Below.refl _ _) | (with_reducible refine Below.alloc ?_ ?_ _) | (with_reducible refine below_ext ?_ ?_ _) | (with_reducible refine Below.drew ?_) | (with_reducible refine below_drewN ?_ _) | (with_reducible refine Below.setCell ?_ ?_ _) | go_size | (simp only [go_sem]; omega) | (simp [go_sem]; done) | (simp [go_sem]; omega))))) ((hE.out.rd (encI_len _)).grow (by (repeat' (first | (with_reducible exact Below.refl _ _) | (with_reducible refine Below.alloc ?_ ?_ _) | (with_reducible refine below_ext ?_ ?_ _) | (with_reducible refine Below.drew ?_) | (with_reducible refine below_drewN ?_ _) | (with_reducible refine Below.setCell ?_ ?_ _) | go_size | (simp only [go_sem]; omega) | (simp [go_sem]; done) | (simp [go_sem]; omega)))))).mono ?_); rintro _ _ hgets; obtain ⟨rfl, y3, rfl⟩ := hgets.get; clear hgets)))
            go_returns
            exact ⟨rfl, hBF'.out.trans (Below.mono (B := wF.heap.size) (by (repeat' (first | (with_reducible exact Below.refl _ _) | (with_reducible refine Below.alloc ?_ ?_ _) | (with_reducible refine below_ext ?_ ?_ _) | (with_reducible refine Below.drew ?_) | (with_reducible refine below_drewN ?_ _) | (with_reducible refine Below.setCell ?_ ?_ _) | go_size | (simp only [go_sem]; omega) | (simp [go_sem]; done) | (simp [go_sem]; omega)))) hBF'.out.size)⟩
          · have hdc : decide (L = L2) = false := decide_eq_false hLL
            obtain rfl : sb = false := by
              cases sb
              · rfl
              · exact absurd (HSB.out rfl) hLL
            rw [hdc] at SI3
            clear hLL hdc HSB
            go_wp2_with (first
              | (go_at_call 12; (with_reducible refine (PR2.out _).mono ?_); (rintro _ _ ⟨A5, c5, x5, rfl, rfl, hE⟩); replace hE := Lib.hid hE)
              | (go_at_call 22; (with_reducible refine (LA.out _ (by (repeat' (first | (with_reducible exact Below.refl _ _) | (with_reducible refine Below.alloc ?_ ?_ _) | (with_reducible refine below_ext ?_ ?_ _) | (with_reducible refine Below.drew ?_) | (with_reducible refine below_drewN ?_ _) | (with_reducible refine Below.setCell ?_ ?_ _) | go_size | (simp only [go_sem]; omega) | (simp [go_sem]; done) | (simp [go_sem]; omega))))).mono ?_); (rintro _ _ ⟨A6, x6, rfl, rfl, hC6⟩); replace hC6 := Lib.hid hC6)
              | (go_at_call 13; ((with_reducible refine (SI.out _ _ _ _ _ hC6.out.rd (hDF.out.grow (by (repeat' (first | (with_reducible exact Below.refl _ _) | (with_reducible refine Below.alloc ?_ ?_ _) | (with_reducible refine below_ext ?_ ?_ _) | (with_reducible refine Below.drew ?_) | (with_reducible refine below_drewN ?_ _) | (with_reducible refine Below.setCell ?_ ?_ _) | go_size | (simp only [go_sem]; omega) | (simp [go_sem]; done) | (simp [go_sem]; omega)))))).mono ?_); rintro _ _ hgets; obtain ⟨rfl, x7, rfl⟩ := hgets.get; clear hgets))
              | (go_at_call 22; (with_reducible refine (LB.out _ (by (repeat' (first | (with_reducible exact Below.refl _ _) | (with_reducible refine Below.alloc ?_ ?_ _) | (with_reducible refine below_ext ?_ ?_ _) | (with_reducible refine Below.drew ?_) | (with_reducible refine below_drewN ?_ _) | (with_reducible refine Below.setCell ?_ ?_ _) | go_size | (simp only [go_sem]; omega) | (simp [go_sem]; done) | (simp [go_sem]; omega))))).mono ?_); (rintro _ _ ⟨A8, x8, rfl, rfl, hC8⟩); replace hC8 := Lib.hid hC8)
              | (go_at_call 13; ((with_reducible refine (SI2.out _ _ _ _ _ hC8.out.rd ((hE.out.rd (encI_len _)).grow (by (repeat' (first | (with_reducible exact Below.refl _ _) | (with_reducible refine Below.alloc ?_ ?_ _) | (with_reducible refine below_ext ?_ ?_ _) | (with_reducible refine Below.drew ?_) | (with_reducible refine below_drewN ?_ _) | (with_reducible refine Below.setCell ?_ ?_ _) | go_size | (simp only [go_sem]; omega) | (simp [go_sem]; done) | (simp [go_sem]; omega)))))).mono ?_); rintro _ _ hgets; obtain ⟨rfl, x9, rfl⟩ := hgets.get; clear hgets))
              | (go_at_call 13; ((with_reducible refine (SI3.out _ _ _ _ _ (hDF.out.grow (by (repeat' (first | (with_reducible exact Below.refl _ _) | (with_reducible refine Below.alloc ?_ ?_ _) | (with_reducible refine below_ext ?_ ?_ _) | (with_reducible refine Below.drew ?_) | (with_reducible refine below_drewN ?_ _) | (with_reducible refine Below.setCell ?_ ?_ _) | go_size | (simp only [go_sem]; omega) | (simp [go_sem]; done) | (simp [go_sem]; omega))))) ((hE.out.rd (encI_len _)).grow (by (repeat' (first | (with_reducible exact Below.refl _ _) | (with_reducible refine Below.alloc ?_ ?_ _) | (with_reducible refine below_ext ?_ ?_ _) | (with_reducible refine Below.drew ?_) | (with_reducible refine below_drewN ?_ _) | (with_reducible refine Below.setCell ?_ ?_ _) | go_size | (simp only [go_sem]; omega) | (simp [go_sem]; done) | (simp [go_sem]; omega)))))).mono ?_); rintro _ _ hgets; obtain ⟨rfl, y3, rfl⟩ := hgets.get; clear hgets))
              | (go_at_call 24; ((with_reducible refine (SAB.out _ (by (repeat' (first | (with_reducible exact Below.refl _ _) | (with_reducible refine Below.alloc ?_ ?_ _) | (with_reducible refine below_ext ?_ ?_ _) | (with_reducible refine Below.drew ?_) | (with_reducible refine below_drewN ?_ _) | (with_reducible refine Below.setCell ?_ ?_ _) | go_size | (simp only [go_sem]; omega) | (simp [go_sem]; done) | (simp [go_sem]; omega))))).mono ?_); rintro _ _ hgets; obtain ⟨rfl, y4, rfl⟩ := hgets.get; clear hgets)))
            go_returns
            exact ⟨rfl, hBF'.out.trans (Below.mono (B := wF.heap.size) (by (repeat' (first | (with_reducible exact Below.refl _ _) | (with_reducible refine Below.alloc ?_ ?_ _) | (with_reducible refine below_ext ?_ ?_ _) | (with_reducible refine Below.drew ?_) | (with_reducible refine below_drewN ?_ _) | (with_reducible refine Below.setCell ?_ ?_ _) | go_size | (simp only [go_sem]; omega) | (simp [go_sem]; done) | (simp [go_sem]; omega)))) hBF'.out.size)⟩
end Go.Proofs.YtphkfffphlembaaDoor
