/- What the second law's loop over acts keeps. -/
import Derived.Test.YtdlngbmgcedbpaaCurSt

namespace Go.Proofs.Ytdlngbmgcedbpaa
open Go.ChangeShapes Go.WideShapes Go.ChangeAt Go.RowKit
set_option linter.unusedVariables false
set_option linter.unusedSimpArgs false

/-- .. and a second frame's -/
structure CurSx (w wr : World) (bp bx : Nat) (row col rd : Int) (kp wp og : Bool) (row2 col2 : Int) (wp2 : Bool) (a b c d l r s pt pl pb pr mt ml mb mr : Int) : Prop where
  st : CurSt w wr bp row col rd kp wp og row2 col2 wp2 a b c d l r s pt pl pb pr mt ml mb mr
  X : wr.rangeAt bx 0 [.int .i64 pt, .int .i64 pl, .int .i64 pb, .int .i64 pr, .int .i64 mt, .int .i64 ml, .int .i64 mb, .int .i64 mr]
  lt : bx < wr.heap.size
  ne : ¬ bx = bp
theorem CurSx.ext {w wr : World} {bp bx : Nat} {row col rd : Int} {kp wp og : Bool} {row2 col2 : Int} {wp2 : Bool} {a b c d l r s pt pl pb pr mt ml mb mr : Int} (h : CurSx w wr bp bx row col rd kp wp og row2 col2 wp2 a b c d l r s pt pl pb pr mt ml mb mr) (x : More) : CurSx w (ext wr x) bp bx row col rd kp wp og row2 col2 wp2 a b c d l r s pt pl pb pr mt ml mb mr := ⟨h.st.ext x, range_ext h.X h.lt x, by rw [size_ext]; have := h.lt; omega, h.ne⟩
theorem CurSx.stepP {w wr : World} {bp bx : Nat} {row col rd : Int} {kp wp og : Bool} {row2 col2 : Int} {wp2 : Bool} {a b c d l r s pt pl pb pr mt ml mb mr : Int} (h : CurSx w wr bp bx row col rd kp wp og row2 col2 wp2 a b c d l r s pt pl pb pr mt ml mb mr) (R2 Q2 : Int) (V2 : Bool) : CurSx w (wr.setCells bp 0 [.int .i64 R2, .int .i64 Q2, .int .u8 rd, .bool kp, .bool V2, .bool og, .int .i64 a, .int .i64 b, .int .i64 c, .int .i64 d, .int .i64 l, .int .i64 r, .int .i64 s]) bp bx row col rd kp wp og R2 Q2 V2 a b c d l r s pt pl pb pr mt ml mb mr := ⟨h.st.stepP R2 Q2 V2, World.rangeAt_setCells_apart h.X _ _ _ (.inl h.ne), by rw [setCells_size wr]; exact h.lt, h.ne⟩
theorem CurSx.alloc {w wr : World} {bp bx : Nat} {row col rd : Int} {kp wp og : Bool} {row2 col2 : Int} {wp2 : Bool} {a b c d l r s pt pl pb pr mt ml mb mr : Int} (h : CurSx w wr bp bx row col rd kp wp og row2 col2 wp2 a b c d l r s pt pl pb pr mt ml mb mr) (o : Obj) : CurSx w (wr.alloc o) bp bx row col rd kp wp og row2 col2 wp2 a b c d l r s pt pl pb pr mt ml mb mr := by
  obtain ⟨x, hx⟩ := ext_of ((Below.refl wr.heap.size wr).alloc (Nat.le_refl _) o)
  rw [hx]
  exact h.ext x
end Go.Proofs.Ytdlngbmgcedbpaa
