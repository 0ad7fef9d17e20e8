/-
  No cell of these rows narrows 'for every input' (looked for: loops, veiled, ifaces, maps, wideKeys, modest, calm, conditions, laid).
  DERIVED. THE GIVEN ROWS OF THIS SEAT. 12 by the template 'for every input the law returns true; each argument reads behind the call as it read before'; 0 by the template 'total and deterministic' (their statements: YtdlngbmgcedbpaaTotals.lean).
  GIVEN WITH THE SEED: the statements are not yours to turn. If you find one false, say at which input.
  Laid BY PROGRAM, IN A SANDBOX (cutbox-rows.mjs): the forced cells as the released guide's own fill.sh prints them over the translation 8e502a4c86731c33… (all of the seat's roots in one cut). By AI agents, Wed Nov 11 2026. No macro, syntax, notation, axiom, sorry.
-/
import Derived.Test.YtdlngbmgcedbpaaChecked
import GoSem.Claim
import GoSem.ClaimJoined
import GoSem.ClaimMapViews
import Derived.JoinedTies
import Derived.KernelRfl
namespace Go.Proofs.Ytdlngbmgcedbpaa
/- THE CELL 'sum', in the pinned program and in every row, IS THE sha256 OF THE DUMP (.gsa) THAT YtdlngbmgcedbpaaProg.lean LOADS. Nothing in Lean hashes anything: it is a label: what it is worth is what the hold of that sum in a sandbox is worth. -/
noncomputable def Try.pinned : Pinned := { name := "ytdlngbmgcedbpaa", sum := "8e502a4c86731c3357871352d6728d815083d00c149627b955a31848669d36f0", checked := Try.checked }
namespace Rows
def none {H : Type} : Left H := { results := [], args := [] }

/-- 'phosphorlaw13.CursFits': WHATEVER THE INPUT: true; the input reads as it did. -/
def cursFitsSpec : ChangeSpec := { name := "cursFits", fn := fun _ => fun
  | [d1, d2] => { results := [.lit (.bool true)], args := [d1, d2] }
  | _ => none }
def cursFitsRow : OpenClaim := { program := "ytdlngbmgcedbpaa", sum := "8e502a4c86731c3357871352d6728d815083d00c149627b955a31848669d36f0", func := "phosphor/phosphorlaw13.CursFits", spec := "cursFits", apart := false }
def CursFitsSaid : Prop := cursFitsRow.holds Try.pinned (OpenSpec.ofChange cursFitsSpec)

/-- ITS FALSE NEIGHBOUR: 'it returns false'. Refute it at one input. -/
def cursFitsWrong : ChangeSpec := { name := "cursFits", fn := fun _ => fun
  | [d1, d2] => { results := [.lit (.bool false)], args := [d1, d2] }
  | _ => none }
def CursFitsWrongFalsely : Prop := cursFitsRow.holds Try.pinned (OpenSpec.ofChange cursFitsWrong)

/-- 'phosphorlaw13.CursGoes': WHATEVER THE INPUT: true; the input reads as it did. -/
def cursGoesSpec : ChangeSpec := { name := "cursGoes", fn := fun _ => fun
  | [d1, d2, d3] => { results := [.lit (.bool true)], args := [d1, d2, d3] }
  | _ => none }
def cursGoesRow : OpenClaim := { program := "ytdlngbmgcedbpaa", sum := "8e502a4c86731c3357871352d6728d815083d00c149627b955a31848669d36f0", func := "phosphor/phosphorlaw13.CursGoes", spec := "cursGoes", apart := false }
def CursGoesSaid : Prop := cursGoesRow.holds Try.pinned (OpenSpec.ofChange cursGoesSpec)

/-- ITS FALSE NEIGHBOUR: 'it returns false'. Refute it at one input. -/
def cursGoesWrong : ChangeSpec := { name := "cursGoes", fn := fun _ => fun
  | [d1, d2, d3] => { results := [.lit (.bool false)], args := [d1, d2, d3] }
  | _ => none }
def CursGoesWrongFalsely : Prop := cursGoesRow.holds Try.pinned (OpenSpec.ofChange cursGoesWrong)

/-- 'phosphorlaw13.CursJoins': WHATEVER THE INPUT: true; the input reads as it did. -/
def cursJoinsSpec : ChangeSpec := { name := "cursJoins", fn := fun _ => fun
  | [d1, d2, d3] => { results := [.lit (.bool true)], args := [d1, d2, d3] }
  | _ => none }
def cursJoinsRow : OpenClaim := { program := "ytdlngbmgcedbpaa", sum := "8e502a4c86731c3357871352d6728d815083d00c149627b955a31848669d36f0", func := "phosphor/phosphorlaw13.CursJoins", spec := "cursJoins", apart := false }
def CursJoinsSaid : Prop := cursJoinsRow.holds Try.pinned (OpenSpec.ofChange cursJoinsSpec)

/-- ITS FALSE NEIGHBOUR: 'it returns false'. Refute it at one input. -/
def cursJoinsWrong : ChangeSpec := { name := "cursJoins", fn := fun _ => fun
  | [d1, d2, d3] => { results := [.lit (.bool false)], args := [d1, d2, d3] }
  | _ => none }
def CursJoinsWrongFalsely : Prop := cursJoinsRow.holds Try.pinned (OpenSpec.ofChange cursJoinsWrong)

/-- 'phosphorlaw13.CursMoves': WHATEVER THE INPUT: true; the input reads as it did. -/
def cursMovesSpec : ChangeSpec := { name := "cursMoves", fn := fun _ => fun
  | [d1, d2, d3] => { results := [.lit (.bool true)], args := [d1, d2, d3] }
  | _ => none }
def cursMovesRow : OpenClaim := { program := "ytdlngbmgcedbpaa", sum := "8e502a4c86731c3357871352d6728d815083d00c149627b955a31848669d36f0", func := "phosphor/phosphorlaw13.CursMoves", spec := "cursMoves", apart := false }
def CursMovesSaid : Prop := cursMovesRow.holds Try.pinned (OpenSpec.ofChange cursMovesSpec)

/-- ITS FALSE NEIGHBOUR: 'it returns false'. Refute it at one input. -/
def cursMovesWrong : ChangeSpec := { name := "cursMoves", fn := fun _ => fun
  | [d1, d2, d3] => { results := [.lit (.bool false)], args := [d1, d2, d3] }
  | _ => none }
def CursMovesWrongFalsely : Prop := cursMovesRow.holds Try.pinned (OpenSpec.ofChange cursMovesWrong)

/-- 'phosphorlaw13.CursStays': WHATEVER THE INPUT: true; the input reads as it did. -/
def cursStaysSpec : ChangeSpec := { name := "cursStays", fn := fun _ => fun
  | [d1, d2, d3] => { results := [.lit (.bool true)], args := [d1, d2, d3] }
  | _ => none }
def cursStaysRow : OpenClaim := { program := "ytdlngbmgcedbpaa", sum := "8e502a4c86731c3357871352d6728d815083d00c149627b955a31848669d36f0", func := "phosphor/phosphorlaw13.CursStays", spec := "cursStays", apart := false }
def CursStaysSaid : Prop := cursStaysRow.holds Try.pinned (OpenSpec.ofChange cursStaysSpec)

/-- ITS FALSE NEIGHBOUR: 'it returns false'. Refute it at one input. -/
def cursStaysWrong : ChangeSpec := { name := "cursStays", fn := fun _ => fun
  | [d1, d2, d3] => { results := [.lit (.bool false)], args := [d1, d2, d3] }
  | _ => none }
def CursStaysWrongFalsely : Prop := cursStaysRow.holds Try.pinned (OpenSpec.ofChange cursStaysWrong)

/-- 'phosphorlaw03.LineLays': WHATEVER THE INPUT: true; the input reads as it did. -/
def lineLaysSpec : ChangeSpec := { name := "lineLays", fn := fun _ => fun
  | [d1, d2, d3] => { results := [.lit (.bool true)], args := [d1, d2, d3] }
  | _ => none }
def lineLaysRow : OpenClaim := { program := "ytdlngbmgcedbpaa", sum := "8e502a4c86731c3357871352d6728d815083d00c149627b955a31848669d36f0", func := "phosphor/phosphorlaw03.LineLays", spec := "lineLays", unfollowed := true, recurses := true, apart := false }
def LineLaysSaid : Prop := lineLaysRow.holds Try.pinned (OpenSpec.ofChange lineLaysSpec)

/-- ITS FALSE NEIGHBOUR: 'it returns false'. Refute it at one input. -/
def lineLaysWrong : ChangeSpec := { name := "lineLays", fn := fun _ => fun
  | [d1, d2, d3] => { results := [.lit (.bool false)], args := [d1, d2, d3] }
  | _ => none }
def LineLaysWrongFalsely : Prop := lineLaysRow.holds Try.pinned (OpenSpec.ofChange lineLaysWrong)

/-- 'phosphorlaw03.LineMoves': WHATEVER THE INPUT: true; the input reads as it did. -/
def lineMovesSpec : ChangeSpec := { name := "lineMoves", fn := fun _ => fun
  | [d1, d2] => { results := [.lit (.bool true)], args := [d1, d2] }
  | _ => none }
def lineMovesRow : OpenClaim := { program := "ytdlngbmgcedbpaa", sum := "8e502a4c86731c3357871352d6728d815083d00c149627b955a31848669d36f0", func := "phosphor/phosphorlaw03.LineMoves", spec := "lineMoves", unfollowed := true, recurses := true, apart := false }
def LineMovesSaid : Prop := lineMovesRow.holds Try.pinned (OpenSpec.ofChange lineMovesSpec)

/-- ITS FALSE NEIGHBOUR: 'it returns false'. Refute it at one input. -/
def lineMovesWrong : ChangeSpec := { name := "lineMoves", fn := fun _ => fun
  | [d1, d2] => { results := [.lit (.bool false)], args := [d1, d2] }
  | _ => none }
def LineMovesWrongFalsely : Prop := lineMovesRow.holds Try.pinned (OpenSpec.ofChange lineMovesWrong)

/-- 'phosphorlaw03.LineBack': WHATEVER THE INPUT: true; the input reads as it did. -/
def lineBackSpec : ChangeSpec := { name := "lineBack", fn := fun _ => fun
  | [d1, d2] => { results := [.lit (.bool true)], args := [d1, d2] }
  | _ => none }
def lineBackRow : OpenClaim := { program := "ytdlngbmgcedbpaa", sum := "8e502a4c86731c3357871352d6728d815083d00c149627b955a31848669d36f0", func := "phosphor/phosphorlaw03.LineBack", spec := "lineBack", unfollowed := true, recurses := true, apart := false }
def LineBackSaid : Prop := lineBackRow.holds Try.pinned (OpenSpec.ofChange lineBackSpec)

/-- ITS FALSE NEIGHBOUR: 'it returns false'. Refute it at one input. -/
def lineBackWrong : ChangeSpec := { name := "lineBack", fn := fun _ => fun
  | [d1, d2] => { results := [.lit (.bool false)], args := [d1, d2] }
  | _ => none }
def LineBackWrongFalsely : Prop := lineBackRow.holds Try.pinned (OpenSpec.ofChange lineBackWrong)

/-- 'phosphorlaw03.LineShapes': WHATEVER THE INPUT: true; the input reads as it did. -/
def lineShapesSpec : ChangeSpec := { name := "lineShapes", fn := fun _ => fun
  | [d1, d2, d3] => { results := [.lit (.bool true)], args := [d1, d2, d3] }
  | _ => none }
def lineShapesRow : OpenClaim := { program := "ytdlngbmgcedbpaa", sum := "8e502a4c86731c3357871352d6728d815083d00c149627b955a31848669d36f0", func := "phosphor/phosphorlaw03.LineShapes", spec := "lineShapes", unfollowed := true, recurses := true, apart := false }
def LineShapesSaid : Prop := lineShapesRow.holds Try.pinned (OpenSpec.ofChange lineShapesSpec)

/-- ITS FALSE NEIGHBOUR: 'it returns false'. Refute it at one input. -/
def lineShapesWrong : ChangeSpec := { name := "lineShapes", fn := fun _ => fun
  | [d1, d2, d3] => { results := [.lit (.bool false)], args := [d1, d2, d3] }
  | _ => none }
def LineShapesWrongFalsely : Prop := lineShapesRow.holds Try.pinned (OpenSpec.ofChange lineShapesWrong)

/-- 'phosphorlaw03.LineJoins': WHATEVER THE INPUT: true; the input reads as it did. -/
def lineJoinsSpec : ChangeSpec := { name := "lineJoins", fn := fun _ => fun
  | [d1, d2, d3] => { results := [.lit (.bool true)], args := [d1, d2, d3] }
  | _ => none }
def lineJoinsRow : OpenClaim := { program := "ytdlngbmgcedbpaa", sum := "8e502a4c86731c3357871352d6728d815083d00c149627b955a31848669d36f0", func := "phosphor/phosphorlaw03.LineJoins", spec := "lineJoins", unfollowed := true, recurses := true, apart := false }
def LineJoinsSaid : Prop := lineJoinsRow.holds Try.pinned (OpenSpec.ofChange lineJoinsSpec)

/-- ITS FALSE NEIGHBOUR: 'it returns false'. Refute it at one input. -/
def lineJoinsWrong : ChangeSpec := { name := "lineJoins", fn := fun _ => fun
  | [d1, d2, d3] => { results := [.lit (.bool false)], args := [d1, d2, d3] }
  | _ => none }
def LineJoinsWrongFalsely : Prop := lineJoinsRow.holds Try.pinned (OpenSpec.ofChange lineJoinsWrong)

/-- 'phosphorlaw03.LineEach': WHATEVER THE INPUT: true; the input reads as it did. -/
def lineEachSpec : ChangeSpec := { name := "lineEach", fn := fun _ => fun
  | [d1, d2, d3] => { results := [.lit (.bool true)], args := [d1, d2, d3] }
  | _ => none }
def lineEachRow : OpenClaim := { program := "ytdlngbmgcedbpaa", sum := "8e502a4c86731c3357871352d6728d815083d00c149627b955a31848669d36f0", func := "phosphor/phosphorlaw03.LineEach", spec := "lineEach", unfollowed := true, recurses := true, apart := false }
def LineEachSaid : Prop := lineEachRow.holds Try.pinned (OpenSpec.ofChange lineEachSpec)

/-- ITS FALSE NEIGHBOUR: 'it returns false'. Refute it at one input. -/
def lineEachWrong : ChangeSpec := { name := "lineEach", fn := fun _ => fun
  | [d1, d2, d3] => { results := [.lit (.bool false)], args := [d1, d2, d3] }
  | _ => none }
def LineEachWrongFalsely : Prop := lineEachRow.holds Try.pinned (OpenSpec.ofChange lineEachWrong)

/-- 'phosphorlaw03.LineKeeps': WHATEVER THE INPUT: true; the input reads as it did. -/
def lineKeepsSpec : ChangeSpec := { name := "lineKeeps", fn := fun _ => fun
  | [d1, d2] => { results := [.lit (.bool true)], args := [d1, d2] }
  | _ => none }
def lineKeepsRow : OpenClaim := { program := "ytdlngbmgcedbpaa", sum := "8e502a4c86731c3357871352d6728d815083d00c149627b955a31848669d36f0", func := "phosphor/phosphorlaw03.LineKeeps", spec := "lineKeeps", unfollowed := true, recurses := true, apart := false }
def LineKeepsSaid : Prop := lineKeepsRow.holds Try.pinned (OpenSpec.ofChange lineKeepsSpec)

/-- ITS FALSE NEIGHBOUR: 'it returns false'. Refute it at one input. -/
def lineKeepsWrong : ChangeSpec := { name := "lineKeeps", fn := fun _ => fun
  | [d1, d2] => { results := [.lit (.bool false)], args := [d1, d2] }
  | _ => none }
def LineKeepsWrongFalsely : Prop := lineKeepsRow.holds Try.pinned (OpenSpec.ofChange lineKeepsWrong)

/- THE SECOND FORM. 'bulk': how many values and letters a reading holds, each counted each time it is reached (what is shared counts as often as it is met; a slice's spare places count too). A statement '..UptoSaid' is the law's where the arguments, and the package variables that the reading takes, are together of bulk at most 1048576: NARROWER than '..Said'. Prove '..Said' where nothing that the law and all that it calls make is longer than what came in: it says more and counts as full. Else prove '..UptoSaid'. A law counts once. -/
mutual
def uptoBulk {H : Type} : DataW H → Nat
  | .lit (.string bytes) => bytes.length + 1
  | .lit _ => 1
  | .nil => 1
  | .ptr d => uptoBulk d + 1
  | .slice elems spare => uptoBulkAll elems + uptoBulkAll spare + 1
  | .agg parts => uptoBulkAll parts + 1
  | .iface _ d => uptoBulk d + 1
  | .map entries => uptoBulkEntries entries + 1
  | .held _ => 1
def uptoBulkAll {H : Type} : List (DataW H) → Nat
  | [] => 0
  | d :: r => uptoBulk d + uptoBulkAll r
def uptoBulkEntries {H : Type} : List (Lit × DataW H) → Nat
  | [] => 0
  | x :: r => uptoBulkEntry x + uptoBulkEntries r
def uptoBulkEntry {H : Type} : Lit × DataW H → Nat
  | (.string bytes, d) => bytes.length + uptoBulk d + 1
  | (_, d) => uptoBulk d + 1
 end
def uptoSmall : (H : Type) → List (DataW H) → Bool := fun _ ds => decide (uptoBulkAll ds ≤ 1048576)
def OpenSpec.upto (s : _root_.Go.ChangeSpec) : _root_.Go.OpenSpec := { _root_.Go.OpenSpec.ofChange s with cond := some uptoSmall }

/-- 'phosphorlaw13.CursFits', WHERE WHAT IT READS IS OF BULK AT MOST 1048576: true; the input reads as it did. -/
def cursFitsUptoRow : OpenClaim := { program := "ytdlngbmgcedbpaa", sum := "8e502a4c86731c3357871352d6728d815083d00c149627b955a31848669d36f0", func := "phosphor/phosphorlaw13.CursFits", spec := "cursFits", apart := false, narrowed := true }
def CursFitsUptoSaid : Prop := cursFitsUptoRow.holds Try.pinned (OpenSpec.upto cursFitsSpec)

/-- 'phosphorlaw13.CursGoes', WHERE WHAT IT READS IS OF BULK AT MOST 1048576: true; the input reads as it did. -/
def cursGoesUptoRow : OpenClaim := { program := "ytdlngbmgcedbpaa", sum := "8e502a4c86731c3357871352d6728d815083d00c149627b955a31848669d36f0", func := "phosphor/phosphorlaw13.CursGoes", spec := "cursGoes", apart := false, narrowed := true }
def CursGoesUptoSaid : Prop := cursGoesUptoRow.holds Try.pinned (OpenSpec.upto cursGoesSpec)

/-- 'phosphorlaw13.CursJoins', WHERE WHAT IT READS IS OF BULK AT MOST 1048576: true; the input reads as it did. -/
def cursJoinsUptoRow : OpenClaim := { program := "ytdlngbmgcedbpaa", sum := "8e502a4c86731c3357871352d6728d815083d00c149627b955a31848669d36f0", func := "phosphor/phosphorlaw13.CursJoins", spec := "cursJoins", apart := false, narrowed := true }
def CursJoinsUptoSaid : Prop := cursJoinsUptoRow.holds Try.pinned (OpenSpec.upto cursJoinsSpec)

/-- 'phosphorlaw13.CursMoves', WHERE WHAT IT READS IS OF BULK AT MOST 1048576: true; the input reads as it did. -/
def cursMovesUptoRow : OpenClaim := { program := "ytdlngbmgcedbpaa", sum := "8e502a4c86731c3357871352d6728d815083d00c149627b955a31848669d36f0", func := "phosphor/phosphorlaw13.CursMoves", spec := "cursMoves", apart := false, narrowed := true }
def CursMovesUptoSaid : Prop := cursMovesUptoRow.holds Try.pinned (OpenSpec.upto cursMovesSpec)

/-- 'phosphorlaw13.CursStays', WHERE WHAT IT READS IS OF BULK AT MOST 1048576: true; the input reads as it did. -/
def cursStaysUptoRow : OpenClaim := { program := "ytdlngbmgcedbpaa", sum := "8e502a4c86731c3357871352d6728d815083d00c149627b955a31848669d36f0", func := "phosphor/phosphorlaw13.CursStays", spec := "cursStays", apart := false, narrowed := true }
def CursStaysUptoSaid : Prop := cursStaysUptoRow.holds Try.pinned (OpenSpec.upto cursStaysSpec)

/-- 'phosphorlaw03.LineLays', WHERE WHAT IT READS IS OF BULK AT MOST 1048576: true; the input reads as it did. -/
def lineLaysUptoRow : OpenClaim := { program := "ytdlngbmgcedbpaa", sum := "8e502a4c86731c3357871352d6728d815083d00c149627b955a31848669d36f0", func := "phosphor/phosphorlaw03.LineLays", spec := "lineLays", unfollowed := true, recurses := true, apart := false, narrowed := true }
def LineLaysUptoSaid : Prop := lineLaysUptoRow.holds Try.pinned (OpenSpec.upto lineLaysSpec)

/-- 'phosphorlaw03.LineMoves', WHERE WHAT IT READS IS OF BULK AT MOST 1048576: true; the input reads as it did. -/
def lineMovesUptoRow : OpenClaim := { program := "ytdlngbmgcedbpaa", sum := "8e502a4c86731c3357871352d6728d815083d00c149627b955a31848669d36f0", func := "phosphor/phosphorlaw03.LineMoves", spec := "lineMoves", unfollowed := true, recurses := true, apart := false, narrowed := true }
def LineMovesUptoSaid : Prop := lineMovesUptoRow.holds Try.pinned (OpenSpec.upto lineMovesSpec)

/-- 'phosphorlaw03.LineBack', WHERE WHAT IT READS IS OF BULK AT MOST 1048576: true; the input reads as it did. -/
def lineBackUptoRow : OpenClaim := { program := "ytdlngbmgcedbpaa", sum := "8e502a4c86731c3357871352d6728d815083d00c149627b955a31848669d36f0", func := "phosphor/phosphorlaw03.LineBack", spec := "lineBack", unfollowed := true, recurses := true, apart := false, narrowed := true }
def LineBackUptoSaid : Prop := lineBackUptoRow.holds Try.pinned (OpenSpec.upto lineBackSpec)

/-- 'phosphorlaw03.LineShapes', WHERE WHAT IT READS IS OF BULK AT MOST 1048576: true; the input reads as it did. -/
def lineShapesUptoRow : OpenClaim := { program := "ytdlngbmgcedbpaa", sum := "8e502a4c86731c3357871352d6728d815083d00c149627b955a31848669d36f0", func := "phosphor/phosphorlaw03.LineShapes", spec := "lineShapes", unfollowed := true, recurses := true, apart := false, narrowed := true }
def LineShapesUptoSaid : Prop := lineShapesUptoRow.holds Try.pinned (OpenSpec.upto lineShapesSpec)

/-- 'phosphorlaw03.LineJoins', WHERE WHAT IT READS IS OF BULK AT MOST 1048576: true; the input reads as it did. -/
def lineJoinsUptoRow : OpenClaim := { program := "ytdlngbmgcedbpaa", sum := "8e502a4c86731c3357871352d6728d815083d00c149627b955a31848669d36f0", func := "phosphor/phosphorlaw03.LineJoins", spec := "lineJoins", unfollowed := true, recurses := true, apart := false, narrowed := true }
def LineJoinsUptoSaid : Prop := lineJoinsUptoRow.holds Try.pinned (OpenSpec.upto lineJoinsSpec)

/-- 'phosphorlaw03.LineEach', WHERE WHAT IT READS IS OF BULK AT MOST 1048576: true; the input reads as it did. -/
def lineEachUptoRow : OpenClaim := { program := "ytdlngbmgcedbpaa", sum := "8e502a4c86731c3357871352d6728d815083d00c149627b955a31848669d36f0", func := "phosphor/phosphorlaw03.LineEach", spec := "lineEach", unfollowed := true, recurses := true, apart := false, narrowed := true }
def LineEachUptoSaid : Prop := lineEachUptoRow.holds Try.pinned (OpenSpec.upto lineEachSpec)

/-- 'phosphorlaw03.LineKeeps', WHERE WHAT IT READS IS OF BULK AT MOST 1048576: true; the input reads as it did. -/
def lineKeepsUptoRow : OpenClaim := { program := "ytdlngbmgcedbpaa", sum := "8e502a4c86731c3357871352d6728d815083d00c149627b955a31848669d36f0", func := "phosphor/phosphorlaw03.LineKeeps", spec := "lineKeeps", unfollowed := true, recurses := true, apart := false, narrowed := true }
def LineKeepsUptoSaid : Prop := lineKeepsUptoRow.holds Try.pinned (OpenSpec.upto lineKeepsSpec)

end Rows
end Go.Proofs.Ytdlngbmgcedbpaa
