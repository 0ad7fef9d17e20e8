/- Numbers of a text: what the program and the reference return. -/
import Derived.Test.YtjnjoclpimcblaaDoorAccC
namespace Go.Proofs.YtjnjoclpimcblaaDoor
open Go.RowKit
set_option linter.unusedVariables false
set_option linter.unusedSimpArgs false

def NewP (w : World) (xs : List Int) (er : Int) (e : Ending) (w' : World) : Prop := ∃ A x, e = .returned (.tuple #[.slice A xs.length xs.length, .int .i64 er]) ∧ w' = ext w x ∧ Clp w.heap.size (ext w x) A xs
def NewQ (w : World) (xs : List Int) (er : Int) (e : Ending) (w' : World) : Prop := ∃ A c x, e = .returned (.tuple #[.slice A xs.length c, .int .i64 er]) ∧ w' = ext w x ∧ Own (encI .i64) 1 3 w.heap.size (ext w x) (.slice A xs.length c) xs
abbrev bytesOf (s : ByteArray) : List UInt8 := s.data.toList
theorem drop_at (s : ByteArray) (k : Nat) (h : k < s.size) : (bytesOf s).drop k = s[k] :: (bytesOf s).drop (k + 1) := List.drop_eq_getElem_cons (by simpa using h)
theorem drop_end (s : ByteArray) : (bytesOf s).drop s.size = [] := List.drop_eq_nil_of_le (Nat.le_of_eq Array.length_toList)

set_option maxRecDepth 100000 in
set_option maxHeartbeats 4000000 in
theorem parse_c (s : ByteArray) (hs : s.size ≤ 9223372036854775807) (w : World) :
    Calls Tryd.prog 5 #[.string s] w (NewP w (parseV (bytesOf s)) (parseE (bytesOf s))) := by
  go_enter Tryd.func5, Tryd.ntmps5
  go_wp2
  have hA0 : AccAt (w.alloc (.cells #[.slice none 0 0, .int .i64 0, .bool false] 45)) (fun x => x = w.heap.size) w.heap.size AccS.nil := AccAt.new w
  have hB0 : Below w.heap.size w (w.alloc (.cells #[.slice none 0 0, .int .i64 0, .bool false] 45)) := by (repeat' (first | (with_reducible exact Below.refl _ _) | (with_reducible refine Below.alloc ?_ ?_ _) | (with_reducible refine below_ext ?_ ?_ _) | (with_reducible refine Below.drew ?_) | (with_reducible refine below_drewN ?_ _) | (with_reducible refine Below.setCell ?_ ?_ _) | go_size | (simp only [go_sem]; omega) | (simp [go_sem]; done) | (simp [go_sem]; omega)))
  have hs0 : (w.alloc (.cells #[.slice none 0 0, .int .i64 0, .bool false] 45)).heap.size = w.heap.size + 1 := by simp [go_sem]
  generalize hW : w.alloc (.cells #[.slice none 0 0, .int .i64 0, .bool false] 45) = W1 at hA0 hB0 hs0 ⊢
  clear hW
  go_loopw [8] (fun i wr => ∃ (k : Nat) (a : AccS), k ≤ s.size ∧ i = .int .i64 k ∧ Hid a.Ok ∧ Hid (AccDid W1 (fun x => x = w.heap.size) w.heap.size a wr) ∧ Hid (AccS.nil.feed (bytesOf s) = a.feed ((bytesOf s).drop k)) ∧ Hid ((bytesOf s).all okB = ((bytesOf s).drop k).all okB)) (fun i _ => s.size - (intOf i).toNat)
  case atStart => exact ⟨0, AccS.nil, by omega, rfl, AccS.Ok.nil, AccDid.refl hA0, rfl, rfl⟩
  case round =>
    obtain ⟨k, a, hk, rfl, hok, hD, hf, hl⟩ := hrel
    obtain ⟨F1, hA, hK, hF⟩ := hD.out
    have hB : Below w.heap.size w wr := hB0.trans (hK.below (B := w.heap.size) (fun b hb => by omega) (by omega))
    by_cases hlt : k < s.size
    · have hd := drop_at s k hlt
      have BY := Lib.hid (byte_c hA hok.out s[k])
      by_cases hc : okB s[k] = true
      · have HH := Lib.hid (hok.out.byte hc)
        rw [hd] at hf hl
        replace hl := Lib.hid (show (bytesOf s).all okB = ((bytesOf s).drop (k + 1)).all okB by rw [hl.out, List.all_cons, hc]; rfl)
        replace hf := Lib.hid (show AccS.nil.feed (bytesOf s) = (a.byte s[k]).feed ((bytesOf s).drop (k + 1)) from hf.out)
        simp only [hc, if_true] at BY
        have HK := Lib.hid (⟨hK, hF⟩ : _ ∧ _)
        clear hd hc hA hK hF hok hB hA0 hD
        go_wp2_with (go_at_call 12; (with_reducible refine BY.out.mono ?_); (rintro _ w2 ⟨rfl, hD2⟩); replace hD2 := Lib.hid hD2)
        go_roundw
        case rel => exact ⟨k + 1, a.byte s[k], by omega, by go_num, HH, Lib.hid (AccDid.cons HK.out.1 HK.out.2 hD2.out), hf, hl⟩
        case measure => simp [intOf]; omega
      · have hne : (bytesOf s).all okB = false := by rw [hl.out, hd, List.all_cons]; simp [hc]
        have hv : parseV (bytesOf s) = [] := by simp [parseV, hne]
        have he : parseE (bytesOf s) = 3 := by simp [parseE, hne]
        rw [hv, he]
        simp only [Bool.not_eq_true] at hc
        simp only [hc, Bool.false_eq_true, if_false] at BY
        have HK := Lib.hid (⟨hK, hF⟩ : _ ∧ _)
        have HB := Lib.hid hB0
        clear hd hc hA hK hF hok hB hA0 hD hv he hne hf hl hB0
        go_wp2_with (go_at_call 12; (with_reducible refine BY.out.mono ?_); (rintro _ w2 ⟨rfl, hD2⟩); replace hD2 := Lib.hid hD2)
        go_returns
        obtain ⟨F2, _, hk2, _⟩ := AccDid.cons HK.out.1 HK.out.2 hD2.out
        obtain ⟨x, rfl⟩ := ext_of (HB.out.trans (hk2.below (B := w.heap.size) (fun b hb => by omega) (by omega)))
        exact ⟨none, x, rfl, rfl, .inl ⟨rfl, rfl⟩⟩
    · obtain rfl : k = s.size := by omega
      rw [drop_end] at hf hl
      have hv : parseV (bytesOf s) = a.list := by
        unfold parseV
        rw [if_pos (by rw [hl.out]; rfl), ← feed_parse, hf.out]
        rfl
      have he : parseE (bytesOf s) = 0 := by unfold parseE; rw [if_pos (by rw [hl.out]; rfl)]
      have HV := Lib.hid (⟨hv, he⟩ : _ ∧ _)
      have LI := Lib.hid (list_c hA hok.out)
      have HB := Lib.hid hB
      clear hf hl hok hD hA hK hF hB hB0 hA0 hv he
      go_wp2_with (go_at_call 13; (with_reducible refine LI.out.mono ?_); (rintro _ _ ⟨A, x, rfl, rfl, hC⟩); replace hC := Lib.hid hC)
      go_returns
      obtain ⟨y, e⟩ := ext_of (HB.out.trans ((below_of_ext wr x).mono HB.out.size))
      rw [HV.out.1, HV.out.2]
      refine ⟨A, y, rfl, e, ?_⟩
      rw [← e]
      exact hC.out.mono HB.out.size
end Go.Proofs.YtjnjoclpimcblaaDoor
