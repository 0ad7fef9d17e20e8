/-
  No cell of these rows narrows 'for every input' (looked for: loops, veiled, ifaces, maps, wideKeys, modest, calm, conditions, laid).
  DERIVED. THE GIVEN ROWS OF THIS SEAT. 11 by the template 'for every input the law returns true; each argument reads behind the call as it read before'; 0 by the template 'total and deterministic' (their statements: YtdmfcijcecogdaaTotals.lean).
  GIVEN WITH THE SEED: the statements are not yours to turn. If you find one false, say at which input.
  Laid BY PROGRAM, IN A SANDBOX (cutbox-rows.mjs): the forced cells as the released guide's own fill.sh prints them over the translation 78d982baf7444298… (all of the seat's roots in one cut). By AI agents, Wed Nov 11 2026. No macro, syntax, notation, axiom, sorry.
-/
import Derived.Test.YtdmfcijcecogdaaChecked
import GoSem.Claim
import GoSem.ClaimJoined
import GoSem.ClaimMapViews
import Derived.JoinedTies
import Derived.KernelRfl
namespace Go.Proofs.Ytdmfcijcecogdaa
/- THE CELL 'sum', in the pinned program and in every row, IS THE sha256 OF THE DUMP (.gsa) THAT YtdmfcijcecogdaaProg.lean LOADS. Nothing in Lean hashes anything: it is a label: what it is worth is what the hold of that sum in a sandbox is worth. -/
noncomputable def Try.pinned : Pinned := { name := "ytdmfcijcecogdaa", sum := "78d982baf7444298af0563450deedecaaf133464be5d605defad52b62c28780c", checked := Try.checked }
namespace Rows
def none {H : Type} : Left H := { results := [], args := [] }

/-- 'phosphorlaw17.ModeSets': WHATEVER THE INPUT: true; the input reads as it did. -/
def modeSetsSpec : ChangeSpec := { name := "modeSets", fn := fun _ => fun
  | [d1, d2, d3] => { results := [.lit (.bool true)], args := [d1, d2, d3] }
  | _ => none }
def modeSetsRow : OpenClaim := { program := "ytdmfcijcecogdaa", sum := "78d982baf7444298af0563450deedecaaf133464be5d605defad52b62c28780c", func := "phosphor/phosphorlaw17.ModeSets", spec := "modeSets", apart := false }
def ModeSetsSaid : Prop := modeSetsRow.holds Try.pinned (OpenSpec.ofChange modeSetsSpec)

/-- ITS FALSE NEIGHBOUR: 'it returns false'. Refute it at one input. -/
def modeSetsWrong : ChangeSpec := { name := "modeSets", fn := fun _ => fun
  | [d1, d2, d3] => { results := [.lit (.bool false)], args := [d1, d2, d3] }
  | _ => none }
def ModeSetsWrongFalsely : Prop := modeSetsRow.holds Try.pinned (OpenSpec.ofChange modeSetsWrong)

/-- 'phosphorlaw17.ModeWords': WHATEVER THE INPUT: true; the input reads as it did. -/
def modeWordsSpec : ChangeSpec := { name := "modeWords", fn := fun _ => fun
  | [d1, d2] => { results := [.lit (.bool true)], args := [d1, d2] }
  | _ => none }
def modeWordsRow : OpenClaim := { program := "ytdmfcijcecogdaa", sum := "78d982baf7444298af0563450deedecaaf133464be5d605defad52b62c28780c", func := "phosphor/phosphorlaw17.ModeWords", spec := "modeWords", apart := false }
def ModeWordsSaid : Prop := modeWordsRow.holds Try.pinned (OpenSpec.ofChange modeWordsSpec)

/-- ITS FALSE NEIGHBOUR: 'it returns false'. Refute it at one input. -/
def modeWordsWrong : ChangeSpec := { name := "modeWords", fn := fun _ => fun
  | [d1, d2] => { results := [.lit (.bool false)], args := [d1, d2] }
  | _ => none }
def ModeWordsWrongFalsely : Prop := modeWordsRow.holds Try.pinned (OpenSpec.ofChange modeWordsWrong)

/-- 'phosphorlaw17.ModeFinds': WHATEVER THE INPUT: true; the input reads as it did. -/
def modeFindsSpec : ChangeSpec := { name := "modeFinds", fn := fun _ => fun
  | [d1, d2, d3] => { results := [.lit (.bool true)], args := [d1, d2, d3] }
  | _ => none }
def modeFindsRow : OpenClaim := { program := "ytdmfcijcecogdaa", sum := "78d982baf7444298af0563450deedecaaf133464be5d605defad52b62c28780c", func := "phosphor/phosphorlaw17.ModeFinds", spec := "modeFinds", apart := false }
def ModeFindsSaid : Prop := modeFindsRow.holds Try.pinned (OpenSpec.ofChange modeFindsSpec)

/-- ITS FALSE NEIGHBOUR: 'it returns false'. Refute it at one input. -/
def modeFindsWrong : ChangeSpec := { name := "modeFinds", fn := fun _ => fun
  | [d1, d2, d3] => { results := [.lit (.bool false)], args := [d1, d2, d3] }
  | _ => none }
def ModeFindsWrongFalsely : Prop := modeFindsRow.holds Try.pinned (OpenSpec.ofChange modeFindsWrong)

/-- 'phosphorlaw17.ModeAsks': WHATEVER THE INPUT: true; the input reads as it did. -/
def modeAsksSpec : ChangeSpec := { name := "modeAsks", fn := fun _ => fun
  | [d1, d2, d3] => { results := [.lit (.bool true)], args := [d1, d2, d3] }
  | _ => none }
def modeAsksRow : OpenClaim := { program := "ytdmfcijcecogdaa", sum := "78d982baf7444298af0563450deedecaaf133464be5d605defad52b62c28780c", func := "phosphor/phosphorlaw17.ModeAsks", spec := "modeAsks", apart := false }
def ModeAsksSaid : Prop := modeAsksRow.holds Try.pinned (OpenSpec.ofChange modeAsksSpec)

/-- ITS FALSE NEIGHBOUR: 'it returns false'. Refute it at one input. -/
def modeAsksWrong : ChangeSpec := { name := "modeAsks", fn := fun _ => fun
  | [d1, d2, d3] => { results := [.lit (.bool false)], args := [d1, d2, d3] }
  | _ => none }
def ModeAsksWrongFalsely : Prop := modeAsksRow.holds Try.pinned (OpenSpec.ofChange modeAsksWrong)

/-- 'phosphorlaw05.BoxSpans': WHATEVER THE INPUT: true; the input reads as it did. -/
def boxSpansSpec : ChangeSpec := { name := "boxSpans", fn := fun _ => fun
  | [d1, d2, d3] => { results := [.lit (.bool true)], args := [d1, d2, d3] }
  | _ => none }
def boxSpansRow : OpenClaim := { program := "ytdmfcijcecogdaa", sum := "78d982baf7444298af0563450deedecaaf133464be5d605defad52b62c28780c", func := "phosphor/phosphorlaw05.BoxSpans", spec := "boxSpans", apart := false }
def BoxSpansSaid : Prop := boxSpansRow.holds Try.pinned (OpenSpec.ofChange boxSpansSpec)

/-- ITS FALSE NEIGHBOUR: 'it returns false'. Refute it at one input. -/
def boxSpansWrong : ChangeSpec := { name := "boxSpans", fn := fun _ => fun
  | [d1, d2, d3] => { results := [.lit (.bool false)], args := [d1, d2, d3] }
  | _ => none }
def BoxSpansWrongFalsely : Prop := boxSpansRow.holds Try.pinned (OpenSpec.ofChange boxSpansWrong)

/-- 'phosphorlaw05.BoxRects': WHATEVER THE INPUT: true; the input reads as it did. -/
def boxRectsSpec : ChangeSpec := { name := "boxRects", fn := fun _ => fun
  | [d1, d2, d3] => { results := [.lit (.bool true)], args := [d1, d2, d3] }
  | _ => none }
def boxRectsRow : OpenClaim := { program := "ytdmfcijcecogdaa", sum := "78d982baf7444298af0563450deedecaaf133464be5d605defad52b62c28780c", func := "phosphor/phosphorlaw05.BoxRects", spec := "boxRects", apart := false }
def BoxRectsSaid : Prop := boxRectsRow.holds Try.pinned (OpenSpec.ofChange boxRectsSpec)

/-- ITS FALSE NEIGHBOUR: 'it returns false'. Refute it at one input. -/
def boxRectsWrong : ChangeSpec := { name := "boxRects", fn := fun _ => fun
  | [d1, d2, d3] => { results := [.lit (.bool false)], args := [d1, d2, d3] }
  | _ => none }
def BoxRectsWrongFalsely : Prop := boxRectsRow.holds Try.pinned (OpenSpec.ofChange boxRectsWrong)

/-- 'phosphorlaw05.BoxBack': WHATEVER THE INPUT: true; the input reads as it did. -/
def boxBackSpec : ChangeSpec := { name := "boxBack", fn := fun _ => fun
  | [d1, d2, d3] => { results := [.lit (.bool true)], args := [d1, d2, d3] }
  | _ => none }
def boxBackRow : OpenClaim := { program := "ytdmfcijcecogdaa", sum := "78d982baf7444298af0563450deedecaaf133464be5d605defad52b62c28780c", func := "phosphor/phosphorlaw05.BoxBack", spec := "boxBack", apart := false }
def BoxBackSaid : Prop := boxBackRow.holds Try.pinned (OpenSpec.ofChange boxBackSpec)

/-- ITS FALSE NEIGHBOUR: 'it returns false'. Refute it at one input. -/
def boxBackWrong : ChangeSpec := { name := "boxBack", fn := fun _ => fun
  | [d1, d2, d3] => { results := [.lit (.bool false)], args := [d1, d2, d3] }
  | _ => none }
def BoxBackWrongFalsely : Prop := boxBackRow.holds Try.pinned (OpenSpec.ofChange boxBackWrong)

/-- 'phosphorlaw05.BoxMeets': WHATEVER THE INPUT: true; the input reads as it did. -/
def boxMeetsSpec : ChangeSpec := { name := "boxMeets", fn := fun _ => fun
  | [d1, d2, d3] => { results := [.lit (.bool true)], args := [d1, d2, d3] }
  | _ => none }
def boxMeetsRow : OpenClaim := { program := "ytdmfcijcecogdaa", sum := "78d982baf7444298af0563450deedecaaf133464be5d605defad52b62c28780c", func := "phosphor/phosphorlaw05.BoxMeets", spec := "boxMeets", apart := false }
def BoxMeetsSaid : Prop := boxMeetsRow.holds Try.pinned (OpenSpec.ofChange boxMeetsSpec)

/-- ITS FALSE NEIGHBOUR: 'it returns false'. Refute it at one input. -/
def boxMeetsWrong : ChangeSpec := { name := "boxMeets", fn := fun _ => fun
  | [d1, d2, d3] => { results := [.lit (.bool false)], args := [d1, d2, d3] }
  | _ => none }
def BoxMeetsWrongFalsely : Prop := boxMeetsRow.holds Try.pinned (OpenSpec.ofChange boxMeetsWrong)

/-- 'phosphorlaw05.BoxClamps': WHATEVER THE INPUT: true; the input reads as it did. -/
def boxClampsSpec : ChangeSpec := { name := "boxClamps", fn := fun _ => fun
  | [d1, d2] => { results := [.lit (.bool true)], args := [d1, d2] }
  | _ => none }
def boxClampsRow : OpenClaim := { program := "ytdmfcijcecogdaa", sum := "78d982baf7444298af0563450deedecaaf133464be5d605defad52b62c28780c", func := "phosphor/phosphorlaw05.BoxClamps", spec := "boxClamps", apart := false }
def BoxClampsSaid : Prop := boxClampsRow.holds Try.pinned (OpenSpec.ofChange boxClampsSpec)

/-- ITS FALSE NEIGHBOUR: 'it returns false'. Refute it at one input. -/
def boxClampsWrong : ChangeSpec := { name := "boxClamps", fn := fun _ => fun
  | [d1, d2] => { results := [.lit (.bool false)], args := [d1, d2] }
  | _ => none }
def BoxClampsWrongFalsely : Prop := boxClampsRow.holds Try.pinned (OpenSpec.ofChange boxClampsWrong)

/-- 'phosphorlaw05.BoxPlaces': WHATEVER THE INPUT: true; the input reads as it did. -/
def boxPlacesSpec : ChangeSpec := { name := "boxPlaces", fn := fun _ => fun
  | [d1, d2, d3] => { results := [.lit (.bool true)], args := [d1, d2, d3] }
  | _ => none }
def boxPlacesRow : OpenClaim := { program := "ytdmfcijcecogdaa", sum := "78d982baf7444298af0563450deedecaaf133464be5d605defad52b62c28780c", func := "phosphor/phosphorlaw05.BoxPlaces", spec := "boxPlaces", apart := false }
def BoxPlacesSaid : Prop := boxPlacesRow.holds Try.pinned (OpenSpec.ofChange boxPlacesSpec)

/-- ITS FALSE NEIGHBOUR: 'it returns false'. Refute it at one input. -/
def boxPlacesWrong : ChangeSpec := { name := "boxPlaces", fn := fun _ => fun
  | [d1, d2, d3] => { results := [.lit (.bool false)], args := [d1, d2, d3] }
  | _ => none }
def BoxPlacesWrongFalsely : Prop := boxPlacesRow.holds Try.pinned (OpenSpec.ofChange boxPlacesWrong)

/-- 'phosphortop.PhosphorNested': WHATEVER THE INPUT: true; the input reads as it did. -/
def phosphorNestedSpec : ChangeSpec := { name := "phosphorNested", fn := fun _ => fun
  | [d1, d2, d3] => { results := [.lit (.bool true)], args := [d1, d2, d3] }
  | _ => none }
def phosphorNestedRow : OpenClaim := { program := "ytdmfcijcecogdaa", sum := "78d982baf7444298af0563450deedecaaf133464be5d605defad52b62c28780c", func := "phosphor/phosphortop.PhosphorNested", spec := "phosphorNested", apart := false }
def PhosphorNestedSaid : Prop := phosphorNestedRow.holds Try.pinned (OpenSpec.ofChange phosphorNestedSpec)

/-- ITS FALSE NEIGHBOUR: 'it returns false'. Refute it at one input. -/
def phosphorNestedWrong : ChangeSpec := { name := "phosphorNested", fn := fun _ => fun
  | [d1, d2, d3] => { results := [.lit (.bool false)], args := [d1, d2, d3] }
  | _ => none }
def PhosphorNestedWrongFalsely : Prop := phosphorNestedRow.holds Try.pinned (OpenSpec.ofChange phosphorNestedWrong)

/- THE SECOND FORM. 'bulk': how many values and letters a reading holds, each counted each time it is reached (what is shared counts as often as it is met; a slice's spare places count too). A statement '..UptoSaid' is the law's where the arguments, and the package variables that the reading takes, are together of bulk at most 1048576: NARROWER than '..Said'. Prove '..Said' where nothing that the law and all that it calls make is longer than what came in: it says more and counts as full. Else prove '..UptoSaid'. A law counts once. -/
mutual
def uptoBulk {H : Type} : DataW H → Nat
  | .lit (.string bytes) => bytes.length + 1
  | .lit _ => 1
  | .nil => 1
  | .ptr d => uptoBulk d + 1
  | .slice elems spare => uptoBulkAll elems + uptoBulkAll spare + 1
  | .agg parts => uptoBulkAll parts + 1
  | .iface _ d => uptoBulk d + 1
  | .map entries => uptoBulkEntries entries + 1
  | .held _ => 1
def uptoBulkAll {H : Type} : List (DataW H) → Nat
  | [] => 0
  | d :: r => uptoBulk d + uptoBulkAll r
def uptoBulkEntries {H : Type} : List (Lit × DataW H) → Nat
  | [] => 0
  | x :: r => uptoBulkEntry x + uptoBulkEntries r
def uptoBulkEntry {H : Type} : Lit × DataW H → Nat
  | (.string bytes, d) => bytes.length + uptoBulk d + 1
  | (_, d) => uptoBulk d + 1
 end
def uptoSmall : (H : Type) → List (DataW H) → Bool := fun _ ds => decide (uptoBulkAll ds ≤ 1048576)
def OpenSpec.upto (s : _root_.Go.ChangeSpec) : _root_.Go.OpenSpec := { _root_.Go.OpenSpec.ofChange s with cond := some uptoSmall }

/-- 'phosphorlaw17.ModeSets', WHERE WHAT IT READS IS OF BULK AT MOST 1048576: true; the input reads as it did. -/
def modeSetsUptoRow : OpenClaim := { program := "ytdmfcijcecogdaa", sum := "78d982baf7444298af0563450deedecaaf133464be5d605defad52b62c28780c", func := "phosphor/phosphorlaw17.ModeSets", spec := "modeSets", apart := false, narrowed := true }
def ModeSetsUptoSaid : Prop := modeSetsUptoRow.holds Try.pinned (OpenSpec.upto modeSetsSpec)

/-- 'phosphorlaw17.ModeWords', WHERE WHAT IT READS IS OF BULK AT MOST 1048576: true; the input reads as it did. -/
def modeWordsUptoRow : OpenClaim := { program := "ytdmfcijcecogdaa", sum := "78d982baf7444298af0563450deedecaaf133464be5d605defad52b62c28780c", func := "phosphor/phosphorlaw17.ModeWords", spec := "modeWords", apart := false, narrowed := true }
def ModeWordsUptoSaid : Prop := modeWordsUptoRow.holds Try.pinned (OpenSpec.upto modeWordsSpec)

/-- 'phosphorlaw17.ModeFinds', WHERE WHAT IT READS IS OF BULK AT MOST 1048576: true; the input reads as it did. -/
def modeFindsUptoRow : OpenClaim := { program := "ytdmfcijcecogdaa", sum := "78d982baf7444298af0563450deedecaaf133464be5d605defad52b62c28780c", func := "phosphor/phosphorlaw17.ModeFinds", spec := "modeFinds", apart := false, narrowed := true }
def ModeFindsUptoSaid : Prop := modeFindsUptoRow.holds Try.pinned (OpenSpec.upto modeFindsSpec)

/-- 'phosphorlaw17.ModeAsks', WHERE WHAT IT READS IS OF BULK AT MOST 1048576: true; the input reads as it did. -/
def modeAsksUptoRow : OpenClaim := { program := "ytdmfcijcecogdaa", sum := "78d982baf7444298af0563450deedecaaf133464be5d605defad52b62c28780c", func := "phosphor/phosphorlaw17.ModeAsks", spec := "modeAsks", apart := false, narrowed := true }
def ModeAsksUptoSaid : Prop := modeAsksUptoRow.holds Try.pinned (OpenSpec.upto modeAsksSpec)

/-- 'phosphorlaw05.BoxSpans', WHERE WHAT IT READS IS OF BULK AT MOST 1048576: true; the input reads as it did. -/
def boxSpansUptoRow : OpenClaim := { program := "ytdmfcijcecogdaa", sum := "78d982baf7444298af0563450deedecaaf133464be5d605defad52b62c28780c", func := "phosphor/phosphorlaw05.BoxSpans", spec := "boxSpans", apart := false, narrowed := true }
def BoxSpansUptoSaid : Prop := boxSpansUptoRow.holds Try.pinned (OpenSpec.upto boxSpansSpec)

/-- 'phosphorlaw05.BoxRects', WHERE WHAT IT READS IS OF BULK AT MOST 1048576: true; the input reads as it did. -/
def boxRectsUptoRow : OpenClaim := { program := "ytdmfcijcecogdaa", sum := "78d982baf7444298af0563450deedecaaf133464be5d605defad52b62c28780c", func := "phosphor/phosphorlaw05.BoxRects", spec := "boxRects", apart := false, narrowed := true }
def BoxRectsUptoSaid : Prop := boxRectsUptoRow.holds Try.pinned (OpenSpec.upto boxRectsSpec)

/-- 'phosphorlaw05.BoxBack', WHERE WHAT IT READS IS OF BULK AT MOST 1048576: true; the input reads as it did. -/
def boxBackUptoRow : OpenClaim := { program := "ytdmfcijcecogdaa", sum := "78d982baf7444298af0563450deedecaaf133464be5d605defad52b62c28780c", func := "phosphor/phosphorlaw05.BoxBack", spec := "boxBack", apart := false, narrowed := true }
def BoxBackUptoSaid : Prop := boxBackUptoRow.holds Try.pinned (OpenSpec.upto boxBackSpec)

/-- 'phosphorlaw05.BoxMeets', WHERE WHAT IT READS IS OF BULK AT MOST 1048576: true; the input reads as it did. -/
def boxMeetsUptoRow : OpenClaim := { program := "ytdmfcijcecogdaa", sum := "78d982baf7444298af0563450deedecaaf133464be5d605defad52b62c28780c", func := "phosphor/phosphorlaw05.BoxMeets", spec := "boxMeets", apart := false, narrowed := true }
def BoxMeetsUptoSaid : Prop := boxMeetsUptoRow.holds Try.pinned (OpenSpec.upto boxMeetsSpec)

/-- 'phosphorlaw05.BoxClamps', WHERE WHAT IT READS IS OF BULK AT MOST 1048576: true; the input reads as it did. -/
def boxClampsUptoRow : OpenClaim := { program := "ytdmfcijcecogdaa", sum := "78d982baf7444298af0563450deedecaaf133464be5d605defad52b62c28780c", func := "phosphor/phosphorlaw05.BoxClamps", spec := "boxClamps", apart := false, narrowed := true }
def BoxClampsUptoSaid : Prop := boxClampsUptoRow.holds Try.pinned (OpenSpec.upto boxClampsSpec)

/-- 'phosphorlaw05.BoxPlaces', WHERE WHAT IT READS IS OF BULK AT MOST 1048576: true; the input reads as it did. -/
def boxPlacesUptoRow : OpenClaim := { program := "ytdmfcijcecogdaa", sum := "78d982baf7444298af0563450deedecaaf133464be5d605defad52b62c28780c", func := "phosphor/phosphorlaw05.BoxPlaces", spec := "boxPlaces", apart := false, narrowed := true }
def BoxPlacesUptoSaid : Prop := boxPlacesUptoRow.holds Try.pinned (OpenSpec.upto boxPlacesSpec)

/-- 'phosphortop.PhosphorNested', WHERE WHAT IT READS IS OF BULK AT MOST 1048576: true; the input reads as it did. -/
def phosphorNestedUptoRow : OpenClaim := { program := "ytdmfcijcecogdaa", sum := "78d982baf7444298af0563450deedecaaf133464be5d605defad52b62c28780c", func := "phosphor/phosphortop.PhosphorNested", spec := "phosphorNested", apart := false, narrowed := true }
def PhosphorNestedUptoSaid : Prop := phosphorNestedUptoRow.holds Try.pinned (OpenSpec.upto phosphorNestedSpec)

end Rows
end Go.Proofs.Ytdmfcijcecogdaa
