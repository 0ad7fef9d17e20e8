/- What a law's loop over acts keeps. -/
import Derived.Test.YtdlngbmgcedbpaaLib
import Derived.Test.YtdlngbmgcedbpaaBut
import Derived.Deep.MidRow

namespace Go.Proofs.Ytdlngbmgcedbpaa
open Go.ChangeShapes Go.WideShapes Go.ChangeAt Go.RowKit
set_option linter.unusedVariables false
set_option linter.unusedSimpArgs false

theorem range_ext {w : World} {b : Nat} {cs : List Value} (h : w.rangeAt b 0 cs) (hb : b < w.heap.size) (x : More) : (ext w x).rangeAt b 0 cs := fun j v hv => (cell_ext w x b _ hb).trans (h j v hv)
theorem there_ext {w : World} {b n : Nat} (h : w.there b 0 n) (hb : b < w.heap.size) (x : More) : (ext w x).there b 0 n := fun j hj => ⟨by rw [cell_ext w x b _ hb]; exact (h j hj).1, by rw [frozen_ext w x b _ hb]; exact (h j hj).2⟩
theorem setCells_size (w : World) (b : Nat) : ∀ (vs : List Value) (o : Nat) (w : World), (w.setCells b o vs).heap.size = w.heap.size
  | [], _, _ => rfl
  | v :: r, o, w => by rw [World.setCells, setCells_size w b r, set_size]
theorem below_setCells {B : Nat} {a : World} (b : Nat) (hb : B ≤ b) : ∀ (vs : List Value) (o : Nat) (w : World), Below B a w → Below B a (w.setCells b o vs)
  | [], _, _, h => h
  | v :: r, o, w, h => below_setCells b hb r (o + 1) _ (Below.setCell h hb _)
/-- the two cursors' variables and the frame's, in a world that has grown (first the document's, then the program's) -/
structure CurSt (w wr : World) (bp : Nat) (row col rd : Int) (kp wp og : Bool) (row2 col2 : Int) (wp2 : Bool) (a b c d l r s pt pl pb pr mt ml mb mr : Int) : Prop where
  bel : Below w.heap.size w wr
  hp : w.heap.size + 1 < bp
  hp2 : bp < wr.heap.size
  C : wr.rangeAt w.heap.size 0 [.int .i64 row, .int .i64 col, .int .u8 rd, .bool kp, .bool wp, .bool og, .int .i64 a, .int .i64 b, .int .i64 c, .int .i64 d, .int .i64 l, .int .i64 r, .int .i64 s]
  P : wr.rangeAt bp 0 [.int .i64 row2, .int .i64 col2, .int .u8 rd, .bool kp, .bool wp2, .bool og, .int .i64 a, .int .i64 b, .int .i64 c, .int .i64 d, .int .i64 l, .int .i64 r, .int .i64 s]
  F : wr.rangeAt (w.heap.size + 1) 0 [.int .i64 pt, .int .i64 pl, .int .i64 pb, .int .i64 pr, .int .i64 mt, .int .i64 ml, .int .i64 mb, .int .i64 mr]
  TC : wr.there w.heap.size 0 13
  TP : wr.there bp 0 13
theorem CurSt.ext {w wr : World} {bp : Nat} {row col rd : Int} {kp wp og : Bool} {row2 col2 : Int} {wp2 : Bool} {a b c d l r s pt pl pb pr mt ml mb mr : Int} (h : CurSt w wr bp row col rd kp wp og row2 col2 wp2 a b c d l r s pt pl pb pr mt ml mb mr) (x : More) : CurSt w (ext wr x) bp row col rd kp wp og row2 col2 wp2 a b c d l r s pt pl pb pr mt ml mb mr := by
  have h1 : w.heap.size < wr.heap.size := by have := h.hp; have := h.hp2; omega
  have h2 : w.heap.size + 1 < wr.heap.size := by have := h.hp; have := h.hp2; omega
  have h3 := h.hp2
  have h4 := h.hp
  exact ⟨below_ext h.bel (by omega) x, h.hp, by rw [size_ext]; omega, range_ext h.C h1 x, range_ext h.P h3 x, range_ext h.F h2 x, there_ext h.TC h1 x, there_ext h.TP h3 x⟩
theorem CurSt.stepP {w wr : World} {bp : Nat} {row col rd : Int} {kp wp og : Bool} {row2 col2 : Int} {wp2 : Bool} {a b c d l r s pt pl pb pr mt ml mb mr : Int} (h : CurSt w wr bp row col rd kp wp og row2 col2 wp2 a b c d l r s pt pl pb pr mt ml mb mr) (R2 Q2 : Int) (V2 : Bool) : CurSt w (wr.setCells bp 0 [.int .i64 R2, .int .i64 Q2, .int .u8 rd, .bool kp, .bool V2, .bool og, .int .i64 a, .int .i64 b, .int .i64 c, .int .i64 d, .int .i64 l, .int .i64 r, .int .i64 s]) bp row col rd kp wp og R2 Q2 V2 a b c d l r s pt pl pb pr mt ml mb mr := by
  have h1 : w.heap.size < wr.heap.size := by have := h.hp; have := h.hp2; omega
  have h2 : w.heap.size + 1 < wr.heap.size := by have := h.hp; have := h.hp2; omega
  have h3 := h.hp2
  have h4 := h.hp
  exact ⟨below_setCells bp (by omega) _ _ _ h.bel, h.hp, by rw [setCells_size wr]; exact h3, World.rangeAt_setCells_apart h.C _ _ _ (.inl (by omega)), World.rangeAt_setCells_same _ _ _ _ h.TP, World.rangeAt_setCells_apart h.F _ _ _ (.inl (by omega)), World.there_setCells h.TC _ _ _, World.there_setCells h.TP _ _ _⟩
theorem CurSt.stepC {w wr : World} {bp : Nat} {row col rd : Int} {kp wp og : Bool} {row2 col2 : Int} {wp2 : Bool} {a b c d l r s pt pl pb pr mt ml mb mr : Int} (h : CurSt w wr bp row col rd kp wp og row2 col2 wp2 a b c d l r s pt pl pb pr mt ml mb mr) (R Q : Int) (V : Bool) : CurSt w (wr.setCells w.heap.size 0 [.int .i64 R, .int .i64 Q, .int .u8 rd, .bool kp, .bool V, .bool og, .int .i64 a, .int .i64 b, .int .i64 c, .int .i64 d, .int .i64 l, .int .i64 r, .int .i64 s]) bp R Q rd kp V og row2 col2 wp2 a b c d l r s pt pl pb pr mt ml mb mr := by
  have h1 : w.heap.size < wr.heap.size := by have := h.hp; have := h.hp2; omega
  have h2 : w.heap.size + 1 < wr.heap.size := by have := h.hp; have := h.hp2; omega
  have h3 := h.hp2
  have h4 := h.hp
  exact ⟨below_setCells w.heap.size (by omega) _ _ _ h.bel, h.hp, by rw [setCells_size wr]; exact h3, World.rangeAt_setCells_same _ _ _ _ h.TC, World.rangeAt_setCells_apart h.P _ _ _ (.inl (by omega)), World.rangeAt_setCells_apart h.F _ _ _ (.inl (by omega)), World.there_setCells h.TC _ _ _, World.there_setCells h.TP _ _ _⟩
end Go.Proofs.Ytdlngbmgcedbpaa
