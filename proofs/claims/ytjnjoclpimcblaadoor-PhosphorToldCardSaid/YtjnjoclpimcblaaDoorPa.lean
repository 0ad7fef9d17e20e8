/- Numbers of control sequences, as plain data: bytes that are taken one by one, and what stands between semicolons. -/
import Derived.Test.YtjnjoclpimcblaaDoorLib
import Derived.Lib.ItoaNum
namespace Go.Proofs.YtjnjoclpimcblaaDoor
open Go.RowKit
set_option linter.unusedVariables false
set_option linter.unusedSimpArgs false

/-- what an accumulator has taken -/
structure AccS where
  done : List Int
  now : Int
  begun : Bool
def okB (c : UInt8) : Bool := decide (c = 59) || (decide (48 ≤ c.toNat) && decide (c.toNat ≤ 57))
def digI (n : Int) (c : UInt8) : Int := min (n * 10 + ((c.toNat : Int) - 48)) 65535
def AccS.byte (a : AccS) (c : UInt8) : AccS :=
  if c = 59 then ⟨if a.done.length < 30 then a.done ++ [a.now] else a.done, 0, true⟩ else ⟨a.done, digI a.now c, true⟩
def AccS.nil : AccS := ⟨[], 0, false⟩
def AccS.feed (a : AccS) (cs : List UInt8) : AccS := cs.foldl AccS.byte a
def AccS.list (a : AccS) : List Int := if a.begun = true ∧ a.done.length < 30 then a.done ++ [a.now] else a.done
structure AccS.Ok (a : AccS) : Prop where
  len : a.done.length ≤ 30
  all : ∀ x ∈ a.done, 0 ≤ x ∧ x ≤ 65535
  lo : 0 ≤ a.now
  hi : a.now ≤ 65535
/-- the numbers between the semicolons, the first of them begun with n -/
def pcs (n : Int) : List UInt8 → List Int
  | [] => [n]
  | c :: cs => if c = 59 then n :: pcs 0 cs else pcs (digI n c) cs
def parseL (cs : List UInt8) : List Int := if cs = [] then [] else (pcs 0 cs).take 30
/-- what Parse hands back -/
def parseV (cs : List UInt8) : List Int := if cs.all okB = true then parseL cs else []
def parseE (cs : List UInt8) : Int := if cs.all okB = true then 0 else 3

theorem AccS.Ok.nil : AccS.nil.Ok := ⟨by simp [AccS.nil], by simp [AccS.nil], by simp [AccS.nil], by simp [AccS.nil]⟩
theorem okB_digit {c : UInt8} (h : okB c = true) (hc : c ≠ 59) : 48 ≤ c.toNat ∧ c.toNat ≤ 57 := by
  simpa [okB, hc] using h
theorem digI_lo {n : Int} {c : UInt8} (h0 : 0 ≤ n) (hc : 48 ≤ c.toNat) : 0 ≤ digI n c := by unfold digI; omega
theorem digI_hi (n : Int) (c : UInt8) : digI n c ≤ 65535 := by unfold digI; omega
theorem AccS.Ok.byte {a : AccS} (h : a.Ok) {c : UInt8} (hc : okB c = true) : (a.byte c).Ok := by
  unfold AccS.byte
  split
  · refine ⟨?_, ?_, by simp, by simp⟩
    · show (if a.done.length < 30 then a.done ++ [a.now] else a.done).length ≤ 30
      split
      · simp; omega
      · exact h.len
    · intro x hx
      replace hx : x ∈ (if a.done.length < 30 then a.done ++ [a.now] else a.done) := hx
      split at hx
      · rcases List.mem_append.1 hx with hx | hx
        · exact h.all x hx
        · obtain rfl : x = a.now := by simpa using hx
          exact ⟨h.lo, h.hi⟩
      · exact h.all x hx
  · rename_i hne
    exact ⟨h.len, h.all, digI_lo h.lo (okB_digit hc hne).1, digI_hi _ _⟩
theorem AccS.Ok.feed {a : AccS} (h : a.Ok) : ∀ {cs : List UInt8}, cs.all okB = true → (a.feed cs).Ok
  | [], _ => h
  | c :: cs, hc => by
    simp only [List.all_cons, Bool.and_eq_true] at hc
    exact AccS.Ok.feed (h.byte hc.1) hc.2
theorem AccS.feed_cons (a : AccS) (c : UInt8) (cs : List UInt8) : a.feed (c :: cs) = (a.byte c).feed cs := rfl
theorem AccS.feed_snoc (a : AccS) (cs : List UInt8) (c : UInt8) : a.feed (cs ++ [c]) = (a.feed cs).byte c := by simp [AccS.feed]
theorem AccS.Ok.list {a : AccS} (h : a.Ok) : a.list.length ≤ 30 ∧ ∀ x ∈ a.list, 0 ≤ x ∧ x ≤ 65535 := by
  unfold AccS.list
  split
  · rename_i hb
    refine ⟨by simp; omega, fun x hx => ?_⟩
    rcases List.mem_append.1 hx with hx | hx
    · exact h.all x hx
    · obtain rfl : x = a.now := by simpa using hx
      exact ⟨h.lo, h.hi⟩
  · exact ⟨h.len, h.all⟩
theorem cap30 (D : List Int) (n : Int) : (if (D.take 30).length < 30 then D.take 30 ++ [n] else D.take 30) = (D ++ [n]).take 30 := by
  rw [List.length_take]
  by_cases h : D.length < 30
  · rw [if_pos (by omega), List.take_of_length_le (l := D) (by omega), List.take_of_length_le (by simp; omega)]
  · rw [if_neg (by omega), List.take_append_of_le_length (by omega)]
theorem feed_list : ∀ (b : List UInt8) (D : List Int) (n : Int), ((AccS.mk (D.take 30) n true).feed b).list = (D ++ pcs n b).take 30
  | [], D, n => by
    show (if true = true ∧ (D.take 30).length < 30 then D.take 30 ++ [n] else D.take 30) = _
    simp only [true_and]
    exact cap30 D n
  | c :: b, D, n => by
    rw [AccS.feed_cons]
    unfold AccS.byte pcs
    split
    · show ((AccS.mk (if (D.take 30).length < 30 then D.take 30 ++ [n] else D.take 30) 0 true).feed b).list = _
      rw [cap30, feed_list b (D ++ [n]) 0]
      simp
    · exact feed_list b D (digI n c)
theorem feed_parse : ∀ cs : List UInt8, (AccS.nil.feed cs).list = parseL cs
  | [] => by simp [AccS.feed, AccS.nil, AccS.list, parseL]
  | c :: cs => by
    have hp : parseL (c :: cs) = (pcs 0 (c :: cs)).take 30 := if_neg (List.cons_ne_nil _ _)
    rw [AccS.feed_cons, hp]
    unfold AccS.byte pcs
    by_cases h : c = 59
    · rw [if_pos h, if_pos h]
      exact feed_list cs [0] 0
    · rw [if_neg h, if_neg h]
      exact feed_list cs [] (digI 0 c)
theorem pcs_append : ∀ (a b : List UInt8) (n : Int), pcs n (a ++ 59 :: b) = pcs n a ++ pcs 0 b
  | [], b, n => by simp [pcs]
  | c :: a, b, n => by
    simp only [List.cons_append, pcs]
    split
    · rw [pcs_append a b 0]; simp
    · rw [pcs_append a b]
theorem pcs_digits : ∀ (ds : List UInt8) (n : Int), (∀ c ∈ ds, c ≠ 59) → pcs n ds = [ds.foldl digI n]
  | [], n, _ => rfl
  | c :: ds, n, h => by
    rw [pcs, if_neg (h c (by simp)), pcs_digits ds _ (fun x hx => h x (by simp [hx]))]
    rfl
theorem pcs_pos (n : Int) : ∀ cs : List UInt8, 0 < (pcs n cs).length
  | [] => by simp [pcs]
  | c :: cs => by
    rw [pcs]
    split
    · simp
    · exact pcs_pos _ cs
theorem parseL_len (cs : List UInt8) : (parseL cs).length ≤ 30 := by
  unfold parseL
  split
  · simp
  · rw [List.length_take]; omega
theorem parseV_ok (cs : List UInt8) : (parseV cs).length ≤ 30 ∧ ∀ x ∈ parseV cs, 0 ≤ x ∧ x ≤ 65535 := by
  unfold parseV
  split
  · rename_i h
    rw [← feed_parse]
    exact (AccS.Ok.nil.feed h).list
  · simp
/-- two texts with a semicolon between -/
theorem parse_fields (a b : List UInt8) :
    parseL (a ++ 59 :: b) = (let x := if (parseL a).length = 0 then [0] else parseL a
      let y := if (parseL b).length = 0 then [0] else parseL b
      if x.length = 30 then x else (x ++ y).take (min (x ++ y).length 30)) := by
  have hx : ∀ c : List UInt8, (if (parseL c).length = 0 then [0] else parseL c) = (pcs 0 c).take 30 := by
    intro c
    unfold parseL
    by_cases h : c = []
    · subst h; simp [pcs]
    · have := pcs_pos 0 c
      rw [if_neg h, if_neg (by rw [List.length_take]; omega)]
  show parseL (a ++ 59 :: b) = if ((if (parseL a).length = 0 then [0] else parseL a) : List Int).length = 30 then _ else _
  simp only [hx]
  have h1 : parseL (a ++ 59 :: b) = (pcs 0 a ++ pcs 0 b).take 30 := by
    unfold parseL
    rw [if_neg (by simp), pcs_append]
  rw [h1]
  by_cases h : 30 ≤ (pcs 0 a).length
  · rw [if_pos (by rw [List.length_take]; omega), List.take_append_of_le_length h]
  · rw [if_neg (by rw [List.length_take]; omega)]
    have e : (pcs 0 a).take 30 = pcs 0 a := List.take_of_length_le (by omega)
    rw [e]
    have e2 : (pcs 0 a ++ (pcs 0 b).take 30).take (min (pcs 0 a ++ (pcs 0 b).take 30).length 30) = (pcs 0 a ++ (pcs 0 b).take 30).take 30 := by
      rw [Nat.min_comm, ← List.take_take, List.take_length]
    rw [e2, List.take_append, List.take_append, List.take_take]
    congr 2
    omega

/- numbers as texts -/
def clipP (n : Int) : Int := max 0 (min n 65535)
def joinS : List (List UInt8) → List UInt8
  | [] => []
  | [x] => x
  | x :: y :: r => x ++ 59 :: joinS (y :: r)
def fmtL (l : List Int) : List UInt8 := joinS ((l.take 30).map fun n => Lib.decDigits (clipP n).toNat)
theorem clipP_lo (n : Int) : 0 ≤ clipP n := by unfold clipP; omega
theorem clipP_hi (n : Int) : clipP n ≤ 65535 := by unfold clipP; omega
theorem u8_of (k : Nat) (h : k < 10) : (UInt8.ofNat (48 + k)).toNat = 48 + k := by
  rw [UInt8.toNat_ofNat']
  omega
theorem dec_ok : ∀ (u : Nat), (∀ c ∈ Lib.decDigits u, 48 ≤ c.toNat ∧ c.toNat ≤ 57) ∧ (u ≤ 65535 → (Lib.decDigits u).foldl digI 0 = (u : Int)) := by
  intro u
  induction u using Nat.strongRecOn with
  | _ u ih =>
    rw [Lib.decDigits]
    split
    · rename_i h
      refine ⟨fun c hc => ?_, fun _ => ?_⟩
      · obtain rfl := List.mem_singleton.1 hc
        rw [u8_of u h]; omega
      · simp only [List.foldl_cons, List.foldl_nil, digI]
        rw [u8_of u h]; omega
    · rename_i h
      obtain ⟨h1, h2⟩ := ih (u / 10) (by omega)
      refine ⟨fun c hc => ?_, fun hu => ?_⟩
      · rcases List.mem_append.1 hc with hc | hc
        · exact h1 c hc
        · obtain rfl := List.mem_singleton.1 hc
          rw [u8_of (u % 10) (by omega)]; omega
      · rw [List.foldl_append, h2 (by omega)]
        simp only [List.foldl_cons, List.foldl_nil, digI]
        rw [u8_of (u % 10) (by omega)]
        omega
theorem not_semi {c : UInt8} (h : 48 ≤ c.toNat ∧ c.toNat ≤ 57) : c ≠ 59 := by
  rintro rfl
  simp at h
theorem ok_digit {c : UInt8} (h : 48 ≤ c.toNat ∧ c.toNat ≤ 57) : okB c = true := by simp [okB, h.1, h.2]
theorem joinS_ok : ∀ (l : List (List UInt8)), (∀ x ∈ l, ∀ c ∈ x, okB c = true) → (joinS l).all okB = true
  | [], _ => rfl
  | [x], h => by
    rw [joinS, List.all_eq_true]
    exact h x (by simp)
  | x :: y :: r, h => by
    rw [joinS, List.all_append, List.all_cons, joinS_ok (y :: r) (fun z hz => h z (List.mem_cons_of_mem _ hz))]
    have : x.all okB = true := by rw [List.all_eq_true]; exact h x (by simp)
    rw [this]; decide
theorem pcs_join : ∀ (l : List Int), l ≠ [] → pcs 0 (joinS (l.map fun n => Lib.decDigits (clipP n).toNat)) = l.map clipP
  | [], h => absurd rfl h
  | [n], _ => by
    have hd := dec_ok (clipP n).toNat
    simp only [List.map_cons, List.map_nil, joinS]
    rw [pcs_digits _ _ (fun c hc => not_semi (hd.1 c hc)), hd.2 (by have := clipP_hi n; omega), Int.toNat_of_nonneg (clipP_lo n)]
  | n :: m :: r, _ => by
    have hd := dec_ok (clipP n).toNat
    have ih := pcs_join (m :: r) (by simp)
    simp only [List.map_cons, joinS] at ih ⊢
    rw [pcs_append, ih, pcs_digits _ _ (fun c hc => not_semi (hd.1 c hc)), hd.2 (by have := clipP_hi n; omega), Int.toNat_of_nonneg (clipP_lo n)]
    rfl
theorem fmt_ok (l : List Int) : (fmtL l).all okB = true := by
  refine joinS_ok _ fun x hx c hc => ?_
  obtain ⟨n, _, rfl⟩ := List.mem_map.1 hx
  exact ok_digit ((dec_ok _).1 c hc)
theorem dec_ne (u : Nat) : Lib.decDigits u ≠ [] := by
  rw [Lib.decDigits]
  split <;> simp
theorem joinS_nil : ∀ {l : List (List UInt8)}, (∀ x ∈ l, x ≠ []) → joinS l = [] → l = []
  | [], _, _ => rfl
  | [x], h, e => absurd e (h x (by simp))
  | x :: y :: r, _, e => by simp [joinS] at e
/-- what is written is read back -/
theorem parse_fmt (l : List Int) : parseV (fmtL l) = (l.take 30).map clipP := by
  unfold parseV
  rw [if_pos (fmt_ok l)]
  unfold parseL
  by_cases h : l.take 30 = []
  · simp [fmtL, h, joinS]
  · have hne : fmtL l ≠ [] := fun e => h (by
      have := joinS_nil (fun x hx => by
        obtain ⟨n, _, rfl⟩ := List.mem_map.1 hx
        exact dec_ne _) e
      simpa using this)
    rw [if_neg hne]
    unfold fmtL
    rw [pcs_join _ h, List.take_of_length_le (by rw [List.length_map, List.length_take]; omega)]
theorem parse_fmtE (l : List Int) : parseE (fmtL l) = 0 := by unfold parseE; rw [if_pos (fmt_ok l)]
end Go.Proofs.YtjnjoclpimcblaaDoor
