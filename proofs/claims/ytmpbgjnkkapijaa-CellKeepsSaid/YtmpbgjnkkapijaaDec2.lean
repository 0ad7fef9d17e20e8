/- Bytes as rows: the walk of the program's function. -/
import Derived.Test.YtmpbgjnkkapijaaDec
import Derived.Test.YtmpbgjnkkapijaaEnc
import Derived.Test.YtmpbgjnkkapijaaOwn2
import Derived.Deep.RegionHeld3
namespace Go.Proofs.Ytmpbgjnkkapijaa
open Go.RowKit
set_option linter.unusedVariables false
set_option linter.unusedSimpArgs false

def NewC (U : World) (l : List Cl) (s : Value) (wx : World) : Prop := ∃ A c, s = .slice A l.length c ∧ Below U.heap.size U wx ∧ Own encC 3 24 U.heap.size wx (.slice A l.length c) l
/-- a structure, so that no 'assumption' unfolds it: 255 * (t.length + 7) is opened unary -/
structure LenOk (o r : Nat) : Prop where
  out : o + 255 * r ≤ 7140000
def lenOf : Value → Nat
  | .slice _ n _ => n
  | _ => 0
def DecRes (w : World) (o : Option (List Cl)) (e : Ending) (w' : World) : Prop :=
  match o with
  | none => e = .returned (.tuple #[.slice none 0 0, .int .i64 3]) ∧ Below w.heap.size w w'
  | some ys => ∃ s, e = .returned (.tuple #[s, .int .i64 0]) ∧ NewC w ys s w'
theorem seven {l : List Int} (h : 7 ≤ l.length) : ∃ n a b c d r k t, l = n :: a :: b :: c :: d :: r :: k :: t := by
  rcases l with _ | ⟨x1, _ | ⟨x2, _ | ⟨x3, _ | ⟨x4, _ | ⟨x5, _ | ⟨x6, _ | ⟨x7, t⟩⟩⟩⟩⟩⟩⟩
  all_goals first | (simp only [List.length_cons, List.length_nil] at h; omega) | exact ⟨_, _, _, _, _, _, _, _, rfl⟩
theorem cell1_new {w : World} {g : Nat} (e : TypeId) (gl r : Int) (k : Bool) (hg : g = w.heap.size) : Rd encC 3 (w.alloc (.cells #[.int .i32 gl, .int .u8 r, .bool k] e)) (some ⟨g, 0, none⟩) [⟨gl, r, k⟩] := cell_new e ⟨gl, r, k⟩ hg

theorem wrap_glyph {G : Int} (h0 : 0 ≤ G) (h1 : G ≤ 4294967295) : IntKind.i32.wrap G = if G ≥ 2147483648 then G - 4294967296 else G := by
  have H : IntKind.i32.wrap G = if G % 4294967296 ≥ 2147483648 then G % 4294967296 - 4294967296 else G % 4294967296 := by
    simp [IntKind.wrap, IntKind.bits, IntKind.signed]
  rw [H]
  split <;> split <;> omega
theorem wrap_byte {m : Nat} (h : m ≤ 255) : IntKind.i64.wrap (m : Int) = m := by
  have H : IntKind.i64.wrap (m : Int) = if (m : Int) % 18446744073709551616 ≥ 9223372036854775808 then (m : Int) % 18446744073709551616 - 18446744073709551616 else (m : Int) % 18446744073709551616 := by
    simp [IntKind.wrap, IntKind.bits, IntKind.signed]
  rw [H]
  split <;> omega
theorem cell_alloc_old {w : World} {o : Obj} {b i : Nat} (h : b < w.heap.size) : (w.alloc o).cell? ⟨b, i, none⟩ = w.cell? ⟨b, i, none⟩ :=
  ((Below.refl w.heap.size w).alloc (Nat.le_refl _) o).cell (p := ⟨b, i, none⟩) h
attribute [local go_sem ↓] cell_eql
set_option maxRecDepth 100000 in
set_option maxHeartbeats 8000000 in
theorem decode_c (a : Option Addr) (c : Nat) (bs : List Int) (w : World) (hx : Rd (encI .u8) 1 w a bs) (hm : bs.length ≤ 28000) (hc : bs.length ≤ c) (hcm : c ≤ maxLen) (hby : ∀ b ∈ bs, isByte b) :
    Calls Try.prog 26 #[.slice a bs.length c] w (DecRes w (dec zeroR bs)) := by
  simp only [maxLen] at hcm
  go_enter Try.func26, Try.ntmps26
  go_wp2
  go_loopw [0, 4] (fun bv ov wr => ∃ (A : Option Addr) (cc : Nat) (rest : List Int) (lg lr : Int) (lk : Bool) (ln : Nat) (out : List Cl) (B : Option Addr) (bc : Nat), bv = .slice A rest.length cc ∧ ov = .slice B out.length bc ∧
      Below (w.heap.size + 1) (w.alloc (.cells #[.int .i32 lg, .int .u8 lr, .bool lk, .int .i64 ln] 74)) wr ∧ Hid (Rd (encI .u8) 1 w A rest) ∧ rest.length ≤ cc ∧ cc ≤ 9223372036854775807 ∧
      Hid (Own encC 3 24 (w.heap.size + 1) wr (.slice B out.length bc) out) ∧ Hid (∀ b ∈ rest, isByte b) ∧ LenOk out.length rest.length ∧ ln ≤ 255 ∧ Hid (dec zeroR bs = (dec ⟨⟨lg, lr, lk⟩, ln⟩ rest).map (out ++ ·)))
    (fun bv _ _ => lenOf bv)
  case atStart =>
    refine ⟨a, c, bs, 0, 0, false, 0, [], none, 0, rfl, rfl, Below.refl _ _, hx, hc, by omega, Own.nil _ _ _ _ _, hby, ⟨by simp only [List.length_nil]; omega⟩, by omega, ?_⟩
    show dec zeroR bs = (dec zeroR bs).map _
    cases dec zeroR bs <;> rfl
  case round =>
    obtain ⟨A, cc, rest, lg, lr, lk, ln, out, B, bc, rfl, rfl, hB, hR, hrc, hcc, hO, hb, hlen, hln, hd⟩ := hrel
    obtain ⟨x, rfl⟩ := ext_of (w := w.alloc (.cells #[.int .i32 lg, .int .u8 lr, .bool lk, .int .i64 ln] 74)) (by simpa using hB)
    clear hB
    rcases Nat.eq_zero_or_pos rest.length with h0 | h0
    · have H := Lib.hid (show dec zeroR bs = some out by rw [hd.out, List.eq_nil_of_length_eq_zero h0]; simp [dec])
      go_wp2
      go_returns
      rw [H.out]
      exact ⟨_, rfl, _, _, rfl, by (repeat' (first | (with_reducible exact Below.refl _ _) | (with_reducible refine Below.alloc ?_ ?_ _) | (with_reducible refine below_ext ?_ ?_ _) | (with_reducible refine Below.drew ?_) | (with_reducible refine below_drewN ?_ _) | (with_reducible refine Below.setCell ?_ ?_ _) | go_size | (simp only [go_sem]; omega) | (simp [go_sem]; done) | (simp [go_sem]; omega))), hO.out.mono (by omega)⟩
    · by_cases h7 : rest.length < 7
      · have H := Lib.hid (show dec zeroR bs = none by rw [hd.out, dec_short _ _ h0 h7]; rfl)
        go_wp2
        go_returns
        rw [H.out]
        exact ⟨rfl, by (repeat' (first | (with_reducible exact Below.refl _ _) | (with_reducible refine Below.alloc ?_ ?_ _) | (with_reducible refine below_ext ?_ ?_ _) | (with_reducible refine Below.drew ?_) | (with_reducible refine below_drewN ?_ _) | (with_reducible refine Below.setCell ?_ ?_ _) | go_size | (simp only [go_sem]; omega) | (simp [go_sem]; done) | (simp [go_sem]; omega)))⟩
      · obtain ⟨n, e1, e2, e3, e4, e5, e6, t, hre⟩ := seven (l := rest) (by omega)
        have hl7 : rest.length = t.length + 7 := by rw [hre]; rfl
        have hR7 := hR.out
        rw [hre] at hR7
        obtain ⟨g, o, rfl, hg, d0, d1, d2, d3, d4, d5, d6, ht⟩ := hR7.cell7
        have by7 := hb.out
        rw [hre] at by7
        have v0 := by7 n (by simp)
        have v1 := by7 e1 (by simp)
        have v2 := by7 e2 (by simp)
        have v3 := by7 e3 (by simp)
        have v4 := by7 e4 (by simp)
        have v5 := by7 e5 (by simp)
        have v6 := by7 e6 (by simp)
        have bt := Lib.hid (fun b (h : b ∈ t) => by7 b (by simp [h]))
        unfold isByte at v0 v1 v2 v3 v4 v5 v6
        replace ht := Lib.hid ht
        have hd7 := hd.out
        rw [hre, dec] at hd7
        clear hR7 by7 hre hR hb hd h0 h7
        have hl8 : rest.length = t.length + 7 := hl7
        replace hl7 := Lib.hid hl7
        rw [hl8] at hlen hrc ⊢
        clear hl8
        obtain ⟨v00, v01⟩ := v0
        obtain ⟨v60, v61⟩ := v6
        clear hx hby hm hc hcm
        have q7 : decide ((t.length : Int) + 7 < 7) = false := by simp; omega
        by_cases z0 : n = 0
        · subst z0
          have H := Lib.hid (show dec zeroR bs = none by rw [hd7, if_pos (Or.inl rfl)]; rfl)
          clear hd7
          go_wp2
          go_returns
          rw [H.out]
          exact ⟨rfl, by (repeat' (first | (with_reducible exact Below.refl _ _) | (with_reducible refine Below.alloc ?_ ?_ _) | (with_reducible refine below_ext ?_ ?_ _) | (with_reducible refine Below.drew ?_) | (with_reducible refine below_drewN ?_ _) | (with_reducible refine Below.setCell ?_ ?_ _) | go_size | (simp only [go_sem]; omega) | (simp [go_sem]; done) | (simp [go_sem]; omega)))⟩
        · by_cases z6 : e6 > 1
          · have H := Lib.hid (show dec zeroR bs = none by rw [hd7, if_pos (Or.inr z6)]; rfl)
            have z1 : (n == 0) = false := by simpa using z0
            clear hd7 z0
            go_wp2
            go_returns
            rw [H.out]
            exact ⟨rfl, by (repeat' (first | (with_reducible exact Below.refl _ _) | (with_reducible refine Below.alloc ?_ ?_ _) | (with_reducible refine below_ext ?_ ?_ _) | (with_reducible refine Below.drew ?_) | (with_reducible refine below_drewN ?_ _) | (with_reducible refine Below.setCell ?_ ?_ _) | go_size | (simp only [go_sem]; omega) | (simp [go_sem]; done) | (simp [go_sem]; omega)))⟩
          · rw [if_neg (by omega)] at hd7
            have z1 : (n == 0) = false := by simpa using z0
            have z2 : decide (1 < e6) = false := by simpa using z6
            have O4 := or4 e1 e2 e3 e4 v1 v2 v3 v4
            clear z0
            go_wp2
            (refine wp_region_free (by kernel_rfl) (by kernel_rfl) ?_)
            repeat (go_big_quiet_step (fail))
            refine wpQuiet_nil ?_; rintro _ ⟨q1, rfl⟩
            go_wp2
            clear O4
            generalize hG : e1 * 16777216 + e2 * 65536 + e3 * 256 + e4 = G
            have G0 : 0 ≤ G ∧ G ≤ 4294967295 := by omega
            generalize hW : ext (ext (w.alloc (.cells #[.int .i32 lg, .int .u8 lr, .bool lk, .int .i64 ln] 74)) x) q1 = W
            have hBW : Below w.heap.size w W := by subst hW; (repeat' (first | (with_reducible exact Below.refl _ _) | (with_reducible refine Below.alloc ?_ ?_ _) | (with_reducible refine below_ext ?_ ?_ _) | (with_reducible refine Below.drew ?_) | (with_reducible refine below_drewN ?_ _) | (with_reducible refine Below.setCell ?_ ?_ _) | go_size | (simp only [go_sem]; omega) | (simp [go_sem]; done) | (simp [go_sem]; omega)))
            have hgW : g < W.heap.size := Nat.lt_of_lt_of_le hg hBW.size
            have k0 : W.cell? ⟨g, o, none⟩ = some (.int .u8 n) := (hBW.cell (p := ⟨g, o, none⟩) hg).trans d0
            have k5 : W.cell? ⟨g, o + 5, none⟩ = some (.int .u8 e5) := (hBW.cell (p := ⟨g, o + 5, none⟩) hg).trans d5
            have k6 : W.cell? ⟨g, o + 6, none⟩ = some (.int .u8 e6) := (hBW.cell (p := ⟨g, o + 6, none⟩) hg).trans d6
            have i0 : (0 : Int) < (t.length : Int) + 7 := by omega
            have i5 : (5 : Int) < (t.length : Int) + 7 := by omega
            have i6 : (6 : Int) < (t.length : Int) + 7 := by omega
            have KS : ∀ w', Below W.heap.size W w' → w'.cell? ⟨g, o, none⟩ = some (.int .u8 n) ∧ w'.cell? ⟨g, o + 5, none⟩ = some (.int .u8 e5) ∧ w'.cell? ⟨g, o + 6, none⟩ = some (.int .u8 e6) := fun w' h => ⟨(h.cell (p := ⟨g, o, none⟩) hgW).trans k0, (h.cell (p := ⟨g, o + 5, none⟩) hgW).trans k5, (h.cell (p := ⟨g, o + 6, none⟩) hgW).trans k6⟩
            go_region_held3 (fun w' => w'.cell? ⟨g, o, none⟩ = some (.int .u8 n) ∧ w'.cell? ⟨g, o + 5, none⟩ = some (.int .u8 e5) ∧ w'.cell? ⟨g, o + 6, none⟩ = some (.int .u8 e6)) (exact KS _ (by (repeat' (first | (with_reducible exact Below.refl _ _) | (with_reducible refine Below.alloc ?_ ?_ _) | (with_reducible refine below_ext ?_ ?_ _) | (with_reducible refine Below.drew ?_) | (with_reducible refine below_drewN ?_ _) | (with_reducible refine Below.setCell ?_ ?_ _) | go_size | (simp only [go_sem]; omega) | (simp [go_sem]; done) | (simp [go_sem]; omega))))) (fail)
            clear KS k0 k5 k6 i0 i5 i6 hBW hgW
            rename_i hkeep
            clear hkeep
            subst hW
            rw [show (ext (ext (w.alloc (.cells #[.int .i32 lg, .int .u8 lr, .bool lk, .int .i64 ln] 74)) x) q1).heap.size = w.heap.size + 1 + x.sz + q1.sz by simp [go_sem]]
            have hgl : IntKind.i32.wrap G = glyphOf e1 e2 e3 e4 := by
              rw [wrap_glyph G0.1 G0.2, ← hG]; rfl
            rw [hgl]
            clear hgl hG G0
            obtain ⟨m, rfl⟩ := Int.eq_ofNat_of_zero_le v00
            rw [show IntKind.i64.wrap (m : Int) = m from wrap_byte (by omega)]
            rw [show clOf e1 e2 e3 e4 e5 e6 = ⟨glyphOf e1 e2 e3 e4, e5, e6 == 1⟩ from rfl, Int.toNat_natCast] at hd7
            generalize glyphOf e1 e2 e3 e4 = gl at hd7 ⊢
            generalize (e6 == 1) = kk at hd7 ⊢
            have hm0 : 0 < m := by
              rcases Nat.eq_zero_or_pos m with h | h
              · subst h; simp at z1
              · exact h
            have hm1 : m ≤ 255 := by omega
            clear z1 z2 v00 v01 v60 v61 v1 v2 v3 v4 d0 d1 d2 d3 d4 d5 d6
            by_cases hgo : goesOn ⟨⟨lg, lr, lk⟩, ln⟩ ⟨⟨gl, e5, kk⟩, m⟩
            · rw [if_pos hgo] at hd7
              have H := Lib.hid (show dec zeroR bs = none by rw [hd7]; rfl)
              obtain ⟨h1, h2, h3⟩ := hgo
              have he2 := eqC_t h3
              simp only at h1 h2
              have q2 : decide (0 < ln) = true := by simp; omega
              have q3 : decide ((ln : Int) < 255) = true := by simp; omega
              clear hd7 h3
              go_wp2
              go_returns
              rw [H.out]
              exact ⟨rfl, by (repeat' (first | (with_reducible exact Below.refl _ _) | (with_reducible refine Below.alloc ?_ ?_ _) | (with_reducible refine below_ext ?_ ?_ _) | (with_reducible refine Below.drew ?_) | (with_reducible refine below_drewN ?_ _) | (with_reducible refine Below.setCell ?_ ?_ _) | go_size | (simp only [go_sem]; omega) | (simp [go_sem]; done) | (simp [go_sem]; omega)))⟩
            · rw [if_neg hgo] at hd7
              replace hd7 := Lib.hid hd7
              have hcase : (decide (0 < ln) = false) ∨ (decide (0 < ln) = true ∧ decide ((ln : Int) < 255) = false) ∨ (decide (0 < ln) = true ∧ decide ((ln : Int) < 255) = true ∧ eqC ⟨lg, lr, lk⟩ ⟨gl, e5, kk⟩ = false) := by
                by_cases h1 : 0 < ln
                · by_cases h2 : ln < 255
                  · exact .inr (.inr ⟨by simp; omega, by simp; omega, eqC_f (fun h => hgo ⟨h1, h2, h⟩)⟩)
                  · exact .inr (.inl ⟨by simp; omega, by simp; omega⟩)
                · exact .inl (by simp; omega)
              have hB0 : B = none ∨ True := .inr trivial
              have hne : (Value.slice B out.length bc).ownBlock ≠ some (w.heap.size + 1 + x.sz + q1.sz) := fun h => by
                have := (hO.out.lt _ h).2
                simp [go_sem] at this
                omega
              replace hne := Lib.hid hne
              have hlenN := Lib.hid (show out.length + 255 + 255 * t.length ≤ 7140000 by have := hlen.out; omega)
              clear hgo hB0 hlen
              rcases hcase with q2 | ⟨q2, q3⟩ | ⟨q2, q3, q4⟩
              all_goals
                go_wp2
                go_loopw [4, 86] (fun ov kv wr => ∃ (k : Nat) (A2 : Option Addr) (c2 : Nat), kv = .int .i64 k ∧ k ≤ m ∧ ov = .slice A2 (out ++ List.replicate k (⟨gl, e5, kk⟩ : Cl)).length c2 ∧
                    Below (w.heap.size + 1) (w.alloc (.cells #[.int .i32 lg, .int .u8 lr, .bool lk, .int .i64 ln] 74)) wr ∧ Hid (Own encC 3 24 (w.heap.size + 1) wr ov (out ++ List.replicate k ⟨gl, e5, kk⟩)) ∧
                    Hid (ov.ownBlock ≠ some (w.heap.size + 1 + x.sz + q1.sz)) ∧ w.heap.size + 1 + x.sz + q1.sz < wr.heap.size ∧ wr.cell? ⟨w.heap.size + 1 + x.sz + q1.sz, 0, none⟩ = some (.int .i32 gl) ∧
                    wr.cell? ⟨w.heap.size + 1 + x.sz + q1.sz, 1, none⟩ = some (.int .u8 e5) ∧ wr.cell? ⟨w.heap.size + 1 + x.sz + q1.sz, 2, none⟩ = some (.bool kk) ∧ wr.cell? ⟨w.heap.size + 1 + x.sz + q1.sz, 3, none⟩ = some (.int .i64 m))
                  (fun _ kv _ => m - (intOf kv).toNat)
                case atStart =>
                  refine ⟨0, B, bc, rfl, by omega, by simp, by (repeat' (first | (with_reducible exact Below.refl _ _) | (with_reducible refine Below.alloc ?_ ?_ _) | (with_reducible refine below_ext ?_ ?_ _) | (with_reducible refine Below.drew ?_) | (with_reducible refine below_drewN ?_ _) | (with_reducible refine Below.setCell ?_ ?_ _) | go_size | (simp only [go_sem]; omega) | (simp [go_sem]; done) | (simp [go_sem]; omega))), ?_, hne, by simp [go_sem], by simp [go_sem], by simp [go_sem], by simp [go_sem], by simp [go_sem]⟩
                  have := ((hO.out.ext q1).alloc (.cells #[.int .i32 gl, .int .u8 e5, .bool kk, .int .i64 m] 74)).drew
                  have e : out ++ List.replicate 0 (⟨gl, e5, kk⟩ : Cl) = out := by simp
                  rw [e]
                  exact Lib.hid this
                case round =>
                  obtain ⟨k, A2, c2, rfl, hk, rfl, hB2, hO2, hne2, hsz, r0, r1, r2, r3⟩ := hrel
                  obtain ⟨y, rfl⟩ := ext_of (w := w.alloc (.cells #[.int .i32 lg, .int .u8 lr, .bool lk, .int .i64 ln] 74)) (by simpa using hB2)
                  clear hB2
                  have eU : (w.alloc (.cells #[.int .i32 lg, .int .u8 lr, .bool lk, .int .i64 ln] 74)).heap.size = w.heap.size + 1 := by simp [go_sem]
                  by_cases hkm : k < m
                  · have hl0 : (out ++ List.replicate k (⟨gl, e5, kk⟩ : Cl)).length ≤ 7140000 := by simp only [List.length_append, List.length_replicate]; have := hlenN.out; omega
                    replace hl0 := Lib.hid hl0
                    generalize hl1 : out ++ List.replicate k (⟨gl, e5, kk⟩ : Cl) = pre at hO2 hne2 hl0 ⊢
                    replace hl1 := Lib.hid hl1
                    have hF0 := Lib.hid hsz
                    go_wp2_with (first
                      | (at_builtin
                         refine append_far (U := w.alloc (.cells #[.int .i32 lg, .int .u8 lr, .bool lk, .int .i64 ln] 74)) (.tmp 88) (.tmp 91) 28 24 _ 8 rfl rfl Try.underlying28 cell_info rfl (by omega) encC_len encC_one pre [⟨gl, e5, kk⟩] _ _ _ rfl rfl ?_ (by rw [eU]; exact hO2.out.alloc _) (cell1_new _ gl e5 kk (by simp [go_sem])) (by have := hl0.out; simp [maxLen]; omega) (by have := hl0.out; simp; omega) ?_
                         · rw [eU]
                           (repeat' (first | (with_reducible exact Below.refl _ _) | (with_reducible refine Below.alloc ?_ ?_ _) | (with_reducible refine below_ext ?_ ?_ _) | (with_reducible refine Below.drew ?_) | (with_reducible refine below_drewN ?_ _) | (with_reducible refine Below.setCell ?_ ?_ _) | go_size | (simp only [go_sem]; omega) | (simp [go_sem]; done) | (simp [go_sem]; omega)))
                         intro A' c' x3 zs hz1 hO1 hF1
                         have hO3 := Lib.hid hO1
                         have hz := Lib.hid hz1
                         have hF := Lib.hid hF1
                         clear hO1 hz1 hF1))
                    go_roundw
                    case rel =>
                      have hz2 : zs = out ++ List.replicate (k + 1) ⟨gl, e5, kk⟩ := by rw [hz.out, ← hl1.out, List.replicate_succ', List.append_assoc]
                      subst hz2
                      have hs1 : w.heap.size + 1 + x.sz + q1.sz < ((ext (w.alloc (.cells #[.int .i32 lg, .int .u8 lr, .bool lk, .int .i64 ln] 74)) y).alloc (.cells #[.int .i32 gl, .int .u8 e5, .bool kk] 24)).heap.size := by have := hF0.out; simp [go_sem] at this ⊢; omega
                      have hcl := fun i => hF.out.cell _ hs1 hne2.out i
                      have hal := fun i => cell_alloc_old (w := ext (w.alloc (.cells #[.int .i32 lg, .int .u8 lr, .bool lk, .int .i64 ln] 74)) y) (o := .cells #[.int .i32 gl, .int .u8 e5, .bool kk] 24) (i := i) hF0.out
                      refine ⟨k + 1, A', c', by go_num, by omega, rfl, by (repeat' (first | (with_reducible exact Below.refl _ _) | (with_reducible refine Below.alloc ?_ ?_ _) | (with_reducible refine below_ext ?_ ?_ _) | (with_reducible refine Below.drew ?_) | (with_reducible refine below_drewN ?_ _) | (with_reducible refine Below.setCell ?_ ?_ _) | go_size | (simp only [go_sem]; omega) | (simp [go_sem]; done) | (simp [go_sem]; omega))), ?_, Lib.hid (hF.out.block _ hs1 hne2.out), Nat.lt_of_lt_of_le hs1 hF.out.size, (hcl 0).trans ((hal 0).trans r0), (hcl 1).trans ((hal 1).trans r1), (hcl 2).trans ((hal 2).trans r2), (hcl 3).trans ((hal 3).trans r3)⟩
                      have := hO3.out
                      rw [eU] at this
                      exact Lib.hid this
                    case measure => simp [intOf]; omega
                  · obtain rfl : k = m := by omega
                    have OS := Lib.hid (own_swap (o' := .cells #[.int .i32 gl, .int .u8 e5, .bool kk, .int .i64 k] 74) hO2.out)
                    have e7 : (min 7 ((t.length : Int) + 7)).toNat = 7 := by omega
                    have HR : Rd (encI .u8) 1 w (some ⟨g, o + 7, none⟩) t := fun h0 => ht.out (by rintro rfl; simp at h0) h0
                    have HD : dec zeroR bs = Option.map (out ++ List.replicate k ⟨gl, e5, kk⟩ ++ ·) (dec ⟨⟨gl, e5, kk⟩, k⟩ t) := by
                      rw [hd7.out, Option.map_map]
                      congr 1
                      funext z
                      simp
                    have HL : LenOk (out ++ List.replicate k (⟨gl, e5, kk⟩ : Cl)).length t.length := ⟨by simp only [List.length_append, List.length_replicate]; have := hlenN.out; omega⟩
                    replace HR := Lib.hid HR
                    replace HD := Lib.hid HD
                    replace HL := Lib.hid HL
                    have HK := Lib.hid hm1
                    have E7 := Lib.hid e7
                    clear hm0 hkm hk e7 hm1
                    by_cases hc7 : cc = 7
                    · subst hc7
                      obtain rfl : t = [] := List.eq_nil_of_length_eq_zero (by omega)
                      go_wp2
                      exact ⟨⟨some ⟨g, o, none⟩, 0, [], gl, e5, kk, k, out ++ List.replicate k ⟨gl, e5, kk⟩, A2, c2, rfl, rfl, by (repeat' (first | (with_reducible exact Below.refl _ _) | (with_reducible refine Below.alloc ?_ ?_ _) | (with_reducible refine below_ext ?_ ?_ _) | (with_reducible refine Below.drew ?_) | (with_reducible refine below_drewN ?_ _) | (with_reducible refine Below.setCell ?_ ?_ _) | go_size | (simp only [go_sem]; omega) | (simp [go_sem]; done) | (simp [go_sem]; omega))), Lib.hid (fun h => absurd h (by simp)), by simp, by omega, OS, bt, HL.out, HK.out, HD⟩, by simp [lenOf]⟩
                    · go_wp2
                      have e7 := E7.out
                      simp only [e7]
                      exact ⟨⟨some ⟨g, o + 7, none⟩, cc - 7, t, gl, e5, kk, k, out ++ List.replicate k ⟨gl, e5, kk⟩, A2, c2, rfl, rfl, by (repeat' (first | (with_reducible exact Below.refl _ _) | (with_reducible refine Below.alloc ?_ ?_ _) | (with_reducible refine below_ext ?_ ?_ _) | (with_reducible refine Below.drew ?_) | (with_reducible refine below_drewN ?_ _) | (with_reducible refine Below.setCell ?_ ?_ _) | go_size | (simp only [go_sem]; omega) | (simp [go_sem]; done) | (simp [go_sem]; omega))), HR, by omega, by omega, OS, bt, HL.out, HK.out, HD⟩, by simp [lenOf]⟩
end Go.Proofs.Ytmpbgjnkkapijaa
