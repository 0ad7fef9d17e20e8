/- Numbers of a text: the document's reading, piece by piece. -/
import Derived.Test.YtphkfffphlembaaDoorParse
namespace Go.Proofs.YtphkfffphlembaaDoor
open Go.RowKit
set_option linter.unusedVariables false
set_option linter.unusedSimpArgs false

theorem dig_top : ∀ (cs : List UInt8), (∀ c ∈ cs, 48 ≤ c.toNat ∧ c.toNat ≤ 57) → cs.foldl digI 65535 = 65535
  | [], _ => rfl
  | c :: cs, h => by
    have h1 := h c (by simp)
    have e : digI 65535 c = 65535 := by unfold digI; omega
    rw [List.foldl_cons, e, dig_top cs (fun x hx => h x (by simp [hx]))]
abbrev numS (s : ByteArray) : Int := (bytesOf s).foldl digI 0
set_option maxRecDepth 100000 in
set_option maxHeartbeats 4000000 in
theorem number_r (s : ByteArray) (hs : s.size ≤ 9223372036854775807) (hd : ∀ c ∈ bytesOf s, 48 ≤ c.toNat ∧ c.toNat ≤ 57) (w : World) :
    Calls Tryd.prog 25 #[.string s] w (Same w (.int .i64 (numS s))) := by
  have HD := Lib.hid hd
  clear hd
  go_enter Tryd.func25, Tryd.ntmps25
  go_wp2
  go_loopw [3, 4] (fun nv i wr => ∃ (k : Nat) (n : Int), k ≤ s.size ∧ nv = .int .i64 n ∧ i = .int .i64 k ∧ 0 ≤ n ∧ n ≤ 65535 ∧ wr = w ∧ Hid (numS s = ((bytesOf s).drop k).foldl digI n)) (fun _ i _ => s.size - (intOf i).toNat)
  case atStart => exact ⟨0, 0, by omega, rfl, rfl, by omega, by omega, rfl, rfl⟩
  case round =>
    obtain ⟨k, n, hk, rfl, rfl, hn0, hn1, rfl, hf⟩ := hrel
    by_cases hlt : k < s.size
    · have hd := drop_at s k hlt
      have hmem : ∀ c ∈ (bytesOf s).drop k, 48 ≤ c.toNat ∧ c.toNat ≤ 57 := fun c hc => HD.out c (List.mem_of_mem_drop hc)
      rw [hd] at hf hmem
      obtain ⟨h48, h57⟩ := hmem s[k] (by simp)
      have hdig : digI n s[k] = min (n * 10 + ((s[k].toNat : Int) - 48)) 65535 := rfl
      have HM := Lib.hid (dig_top ((bytesOf s).drop (k + 1)) (fun c hc => hmem c (List.mem_cons_of_mem _ hc)))
      replace hf := Lib.hid (show numS s = ((bytesOf s).drop (k + 1)).foldl digI (digI n s[k]) from hf.out)
      clear hmem hd
      generalize digI n s[k] = D at hf hdig
      by_cases h : 65535 < 10 * n + ((s[k].toNat : Int) - 48)
      · obtain rfl : D = 65535 := by omega
        have hr := Lib.hid (hf.out.trans HM.out)
        clear hf HM hdig
        go_wp2
        go_returns
        refine ⟨?_, rfl⟩
        rw [hr.out]
        rfl
      · obtain rfl : D = 10 * n + ((s[k].toNat : Int) - 48) := by omega
        clear HM hdig
        go_wp2
        go_roundw
        case rel => exact ⟨k + 1, _, by omega, rfl, by go_num, by omega, by omega, by first | trivial | rfl, hf⟩
        case measure => first | (simp [intOf]; done) | (simp [intOf]; omega)
    · obtain rfl : k = s.size := by omega
      rw [drop_end] at hf
      go_wp2
      go_returns
      refine ⟨?_, rfl⟩
      rw [hf.out]
      rfl

structure QInv (s : ByteArray) (k bg : Nat) (dn : List Int) : Prop where
  hk : k ≤ s.size + 1
  hb : bg ≤ k
  len : dn.length ≤ 30
  mid : k ≤ s.size → parseL (bytesOf s) = ((AccS.mk dn (numS (s.extract bg k)) true).feed ((bytesOf s).drop k)).list ∧ ∀ c ∈ bytesOf (s.extract bg k), 48 ≤ c.toNat ∧ c.toNat ≤ 57
  fin : k = s.size + 1 → parseL (bytesOf s) = dn
section
variable {s : ByteArray} {k bg : Nat} {dn : List Int}
theorem bytes_ext (s : ByteArray) (a b : Nat) : bytesOf (s.extract a b) = ((bytesOf s).drop a).take (b - a) := by
  show (s.extract a b).data.toList = _
  rw [ByteArray.data_extract, Array.toList_extract]
  try rfl
theorem bytes_snoc (h : k < s.size) (hb : bg ≤ k) : bytesOf (s.extract bg (k + 1)) = bytesOf (s.extract bg k) ++ [s[k]] := by
  rw [bytes_ext, bytes_ext, show k + 1 - bg = (k - bg) + 1 by omega, List.take_add_one]
  congr 1
  rw [List.getElem?_drop, show bg + (k - bg) = k by omega]
  have hl : k < (bytesOf s).length := by rw [Array.length_toList]; exact h
  rw [List.getElem?_eq_getElem hl]
  rfl
theorem bytes_none (s : ByteArray) (k : Nat) : bytesOf (s.extract k k) = [] := by rw [bytes_ext]; simp
theorem QInv.start (h : 0 < s.size) : QInv s 0 0 [] := by
  refine ⟨by omega, by omega, by simp, fun _ => ?_, fun h => by omega⟩
  have e : numS (s.extract 0 0) = 0 := by show (bytesOf (s.extract 0 0)).foldl digI 0 = 0; rw [bytes_none]; rfl
  rw [e]
  refine ⟨?_, by rw [bytes_none]; simp⟩
  have hp : parseL (bytesOf s) = (pcs 0 (bytesOf s)).take 30 := if_neg (fun e => by
    have := congrArg List.length e
    rw [Array.length_toList, List.length_nil] at this
    exact absurd (show s.size = 0 from this) (by omega))
  rw [hp]
  exact (feed_list (bytesOf s) [] 0).symm
theorem QInv.digit (q : QInv s k bg dn) (h : k < s.size) (h1 : okB s[k] = true) (h2 : s[k] ≠ 59) : QInv s (k + 1) bg dn := by
  obtain ⟨m1, m2⟩ := q.mid (by omega)
  have hb := q.hb
  refine ⟨by omega, by omega, q.len, fun _ => ⟨?_, fun c hc => ?_⟩, fun e => by omega⟩
  · rw [m1, drop_at s k h, AccS.feed_cons]
    congr 2
    unfold AccS.byte
    rw [if_neg h2]
    show AccS.mk dn (digI (numS (s.extract bg k)) s[k]) true = AccS.mk dn (numS (s.extract bg (k + 1))) true
    congr 1
    show _ = (bytesOf (s.extract bg (k + 1))).foldl digI 0
    rw [bytes_snoc h hb, List.foldl_append]
    rfl
  · rw [bytes_snoc h hb] at hc
    rcases List.mem_append.1 hc with hc | hc
    · exact m2 c hc
    · obtain rfl := List.mem_singleton.1 hc
      exact okB_digit h1 h2
theorem QInv.cut (q : QInv s k bg dn) (h : k ≤ s.size) (h1 : k < s.size → (bytesOf s).drop k = 59 :: (bytesOf s).drop (k + 1)) : QInv s (k + 1) (k + 1) (if dn.length < 30 then dn ++ [numS (s.extract bg k)] else dn) := by
  obtain ⟨m1, m2⟩ := q.mid h
  have hb := q.hb
  have hl := q.len
  refine ⟨by omega, by omega, ?_, fun hk => ?_, fun e => ?_⟩
  · split
    · simp; omega
    · exact hl
  · have e : numS (s.extract (k + 1) (k + 1)) = 0 := by show (bytesOf (s.extract (k + 1) (k + 1))).foldl digI 0 = 0; rw [bytes_none]; rfl
    rw [e]
    refine ⟨?_, by rw [bytes_none]; simp⟩
    rw [m1, h1 (by omega), AccS.feed_cons]
    unfold AccS.byte
    rw [if_pos rfl]
  · obtain rfl : k = s.size := by omega
    rw [m1, drop_end]
    show (if true = true ∧ dn.length < 30 then dn ++ [numS (s.extract bg s.size)] else dn) = _
    by_cases h3 : dn.length < 30
    · rw [if_pos ⟨rfl, h3⟩, if_pos h3]
    · rw [if_neg (fun e => h3 e.2), if_neg h3]
end
set_option maxRecDepth 100000 in
set_option maxHeartbeats 4000000 in
theorem parse_r (s : ByteArray) (hs : s.size ≤ 9223372036854775806) (w : World) :
    Calls Tryd.prog 12 #[.string s] w (NewQ w (parseV (bytesOf s)) (parseE (bytesOf s))) := by
  have hso : 0 ≤ s.size := Nat.zero_le _
  go_enter Tryd.func12, Tryd.ntmps12
  go_wp2
  go_loopw [4] (fun i wr => ∃ (k : Nat), k ≤ s.size ∧ i = .int .i64 k ∧ wr = w ∧ Hid ((bytesOf s).all okB = ((bytesOf s).drop k).all okB)) (fun i _ => s.size - (intOf i).toNat)
  case atStart => exact ⟨0, by omega, rfl, rfl, rfl⟩
  case round =>
    obtain ⟨k, hk, rfl, rfl, hl⟩ := hrel
    by_cases hlt : k < s.size
    · have hd := drop_at s k hlt
      rw [hd] at hl
      clear hd
      by_cases h59 : s[k] = 59
      · replace hl := Lib.hid (show (bytesOf s).all okB = ((bytesOf s).drop (k + 1)).all okB by rw [hl.out, List.all_cons, h59]; rfl)
        have e1 : (((s[k].toNat : Nat) : Int) == 59) = true := by rw [h59]; rfl
        have e2 : (((s[k].toNat : Nat) : Int) != 59) = false := by rw [h59]; rfl
        clear h59
        go_wp2
        go_roundw
        case rel => exact ⟨k + 1, by omega, by go_num, by first | trivial | rfl, hl⟩
        case measure => first | (simp [intOf]; done) | (simp [intOf]; omega)
      · have hne : ¬ (s[k].toNat : Int) = 59 := fun e => h59 (UInt8.toNat_inj.1 (by simpa using Int.ofNat_inj.1 e))
        have e1 : (((s[k].toNat : Nat) : Int) == 59) = false := by simpa using hne
        have e2 : (((s[k].toNat : Nat) : Int) != 59) = true := by simpa using hne
        by_cases hc : okB s[k] = true
        · obtain ⟨h48, h57⟩ := okB_digit hc h59
          replace hl := Lib.hid (show (bytesOf s).all okB = ((bytesOf s).drop (k + 1)).all okB by rw [hl.out, List.all_cons, hc]; rfl)
          clear hc h59 hne
          go_wp2
          go_roundw
          case rel => exact ⟨k + 1, by omega, by go_num, by first | trivial | rfl, hl⟩
          case measure => first | (simp [intOf]; done) | (simp [intOf]; omega)
        · have hn2 : ¬ (48 ≤ s[k].toNat ∧ s[k].toNat ≤ 57) := fun hh => hc (ok_digit hh)
          have hne2 : (bytesOf s).all okB = false := by rw [hl.out, List.all_cons]; simp [hc]
          have HV := Lib.hid (⟨by simp [parseV, hne2], by simp [parseE, hne2]⟩ : parseV (bytesOf s) = [] ∧ parseE (bytesOf s) = 3)
          clear hl hc hne2 h59 hne
          go_wp2
          all_goals first | (exfalso; omega) | skip
          all_goals go_returns
          all_goals rw [HV.out.1, HV.out.2]
          all_goals exact ⟨none, 0, ⟨#[], wr.drawn⟩, rfl, by simp [ext], Own.nil _ _ _ _ _⟩
    · obtain rfl : k = s.size := by omega
      rw [drop_end] at hl
      have hall : (bytesOf s).all okB = true := by rw [hl.out]; rfl
      clear hl
      have HV := Lib.hid (⟨by simp [parseV, hall], by simp [parseE, hall]⟩ : parseV (bytesOf s) = parseL (bytesOf s) ∧ parseE (bytesOf s) = 0)
      rcases Nat.eq_zero_or_pos s.size with h0 | h0
      · obtain rfl : s = ByteArray.empty := ByteArray.ext (Array.eq_empty_of_size_eq_zero h0)
        clear hall
        go_wp2
        go_returns
        rw [HV.out.1, HV.out.2]
        exact ⟨none, 0, ⟨#[], wr.drawn⟩, rfl, by simp [ext], Own.nil _ _ _ _ _⟩
      · have HA := Lib.hid (show ∀ (k : Nat) (h : k < s.size), okB s[k] = true from fun k h => List.all_eq_true.1 hall _ (by
          have := drop_at s k h
          exact List.mem_of_mem_drop (this ▸ List.mem_cons_self)))
        have Q0 := Lib.hid (QInv.start h0)
        clear hall
        have hemp : s.toList.isEmpty = false := by
          rw [← decide_eq_emptyBytes]
          exact decide_eq_false (fun e => by subst e; exact absurd h0 (by decide))
        go_wp2
        go_loopw [5, 6, 7] (fun out bv i w2 => ∃ (k bg : Nat) (dn : List Int) (A : Option Addr) (c : Nat) (x : More), out = .slice A dn.length c ∧ bv = .int .i64 bg ∧ i = .int .i64 k ∧ w2 = ext wr x ∧ k ≤ s.size + 1 ∧ dn.length ≤ 30 ∧ bg ≤ k ∧ Hid (Own (encI .i64) 1 3 wr.heap.size (ext wr x) (.slice A dn.length c) dn) ∧ Hid (QInv s k bg dn)) (fun _ _ i _ => s.size + 1 - (intOf i).toNat)
        case atStart => exact ⟨0, 0, [], none, 0, ⟨#[], wr.drawn⟩, rfl, rfl, rfl, by simp [ext], by omega, by simp, by omega, Own.nil _ _ _ _ _, Q0⟩
        case round =>
          obtain ⟨k, bg, dn, A, c, x, rfl, rfl, rfl, rfl, hk1, hdn, hbg, hO, hq⟩ := hrel
          by_cases hk2 : k ≤ s.size
          · rcases Nat.lt_or_ge k s.size with hlt | hge
            · by_cases h59 : s[k] = 59
              · have e2 : (((s[k].toNat : Nat) : Int) != 59) = false := by rw [h59]; rfl
                have hd := drop_at s k hlt
                rw [h59] at hd
                have NU := Lib.hid (fun w' => number_r (s.extract bg k) (by rw [ByteArray.size_extract]; omega) (hq.out.mid (by omega)).2 w')
                have HQ := Lib.hid (hq.out.cut (by omega) (fun _ => hd))
                generalize numS (s.extract bg k) = NN at NU HQ
                by_cases h30 : dn.length < 30
                · rw [if_pos h30] at HQ
                  clear hq
                  go_wp2_with (first
                    | (go_at_call 25; ((with_reducible refine (NU.out _).mono ?_); rintro _ _ ⟨rfl, rfl⟩))
                    | (at_builtin
                       refine append_rd (U := wr) (.tmp 52) (.tmp 58) 23 3 _ 8 rfl rfl Tryd.underlying23 int_info rfl (by omega) (encI_len _) (encI_one _) dn [NN] _ _ 1 rfl rfl ?_ (hO.out.alloc _) (int_new _ NN (by simp [go_sem])) (by simp [maxLen]; omega) (by simp; omega) ?_
                       · (repeat' (first | (with_reducible exact Below.refl _ _) | (with_reducible refine Below.alloc ?_ ?_ _) | (with_reducible refine below_ext ?_ ?_ _) | (with_reducible refine Below.drew ?_) | (with_reducible refine below_drewN ?_ _) | (with_reducible refine Below.setCell ?_ ?_ _) | go_size | (simp only [go_sem]; omega) | (simp [go_sem]; done) | (simp [go_sem]; omega)))
                       intro A2 c2 x2 zs hz hO2
                       replace hO2 := Lib.hid hO2
                       have HZ := Lib.hid hz
                       clear hz))
                  go_wp2
                  go_roundw
                  case rel =>
                    rw [← HZ.out] at HQ
                    exact ⟨k + 1, k + 1, zs, A2, c2, x2, rfl, by go_num, by go_num, rfl, by omega, HQ.out.len, by omega, hO2, HQ⟩
                  case measure => first | (simp [intOf]; done) | (simp [intOf]; omega)
                · rw [if_neg h30] at HQ
                  clear hq
                  go_wp2
                  go_roundw
                  case rel => exact ⟨k + 1, k + 1, dn, A, c, x, rfl, by go_num, by go_num, rfl, by omega, HQ.out.len, by omega, hO, HQ⟩
                  case measure => first | (simp [intOf]; done) | (simp [intOf]; omega)
              · have hne : ¬ (s[k].toNat : Int) = 59 := fun e => h59 (UInt8.toNat_inj.1 (by simpa using Int.ofNat_inj.1 e))
                have e2 : (((s[k].toNat : Nat) : Int) != 59) = true := by simpa using hne
                replace hq := Lib.hid (hq.out.digit hlt (HA.out k hlt) h59)
                clear h59 hne
                go_wp2
                go_roundw
                case rel => exact ⟨k + 1, bg, dn, A, c, x, rfl, rfl, by go_num, rfl, by omega, hdn, by omega, hO, hq⟩
                case measure => first | (simp [intOf]; done) | (simp [intOf]; omega)
            · obtain rfl : k = s.size := by omega
              have NU := Lib.hid (fun w' => number_r (s.extract bg s.size) (by rw [ByteArray.size_extract]; omega) (hq.out.mid (by omega)).2 w')
              have HQ := Lib.hid (hq.out.cut (by omega) (fun h => absurd h (Nat.lt_irrefl _)))
              generalize numS (s.extract bg s.size) = NN at NU HQ
              by_cases h30 : dn.length < 30
              · rw [if_pos h30] at HQ
                clear hq
                go_wp2_with (first
                  | (go_at_call 25; ((with_reducible refine (NU.out _).mono ?_); rintro _ _ ⟨rfl, rfl⟩))
                  | (at_builtin
                     refine append_rd (U := wr) (.tmp 52) (.tmp 58) 23 3 _ 8 rfl rfl Tryd.underlying23 int_info rfl (by omega) (encI_len _) (encI_one _) dn [NN] _ _ 1 rfl rfl ?_ (hO.out.alloc _) (int_new _ NN (by simp [go_sem])) (by simp [maxLen]; omega) (by simp; omega) ?_
                     · (repeat' (first | (with_reducible exact Below.refl _ _) | (with_reducible refine Below.alloc ?_ ?_ _) | (with_reducible refine below_ext ?_ ?_ _) | (with_reducible refine Below.drew ?_) | (with_reducible refine below_drewN ?_ _) | (with_reducible refine Below.setCell ?_ ?_ _) | go_size | (simp only [go_sem]; omega) | (simp [go_sem]; done) | (simp [go_sem]; omega)))
                     intro A2 c2 x2 zs hz hO2
                     replace hO2 := Lib.hid hO2
                     have HZ := Lib.hid hz
                     clear hz))
                go_wp2
                go_roundw
                case rel =>
                  rw [← HZ.out] at HQ
                  exact ⟨s.size + 1, s.size + 1, zs, A2, c2, x2, rfl, by go_num, by go_num, rfl, by omega, HQ.out.len, by omega, hO2, HQ⟩
                case measure => first | (simp [intOf]; done) | (simp [intOf]; omega)
              · rw [if_neg h30] at HQ
                clear hq
                go_wp2
                go_roundw
                case rel => exact ⟨s.size + 1, s.size + 1, dn, A, c, x, rfl, by go_num, by go_num, rfl, by omega, HQ.out.len, by omega, hO, HQ⟩
                case measure => first | (simp [intOf]; done) | (simp [intOf]; omega)
          · obtain rfl : k = s.size + 1 := by omega
            have HF := Lib.hid (hq.out.fin rfl)
            go_wp2
            go_returns
            rw [HV.out.1, HV.out.2, HF.out]
            exact ⟨A, c, x, rfl, rfl, hO.out⟩
end Go.Proofs.YtphkfffphlembaaDoor
