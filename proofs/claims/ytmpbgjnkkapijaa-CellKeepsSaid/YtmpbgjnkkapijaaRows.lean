/-
  No cell of these rows narrows 'for every input' (looked for: loops, veiled, ifaces, maps, wideKeys, modest, calm, conditions, laid).
  DERIVED. THE GIVEN ROWS OF THIS SEAT. 12 by the template 'for every input the law returns true; each argument reads behind the call as it read before'; 0 by the template 'total and deterministic' (their statements: YtmpbgjnkkapijaaTotals.lean).
  GIVEN WITH THE SEED: the statements are not yours to turn. If you find one false, say at which input.
  Laid BY PROGRAM, IN A SANDBOX (cutbox-rows.mjs): the forced cells as the released guide's own fill.sh prints them over the translation 3225ad329eeb3fe2… (all of the seat's roots in one cut). By AI agents, Wed Nov 11 2026. No macro, syntax, notation, axiom, sorry.
-/
import Derived.Test.YtmpbgjnkkapijaaChecked
import GoSem.Claim
import GoSem.ClaimJoined
import GoSem.ClaimMapViews
import Derived.JoinedTies
import Derived.KernelRfl
namespace Go.Proofs.Ytmpbgjnkkapijaa
/- THE CELL 'sum', in the pinned program and in every row, IS THE sha256 OF THE DUMP (.gsa) THAT YtmpbgjnkkapijaaProg.lean LOADS. Nothing in Lean hashes anything: it is a label: what it is worth is what the hold of that sum in a sandbox is worth. -/
noncomputable def Try.pinned : Pinned := { name := "ytmpbgjnkkapijaa", sum := "3225ad329eeb3fe2bb07b413d54e381001295c2b01f3abcb537cfb3448354b11", checked := Try.checked }
namespace Rows
def none {H : Type} : Left H := { results := [], args := [] }

/-- 'phosphorlaw02.CellWeighs': WHATEVER THE INPUT: true; the input reads as it did. -/
def cellWeighsSpec : ChangeSpec := { name := "cellWeighs", fn := fun _ => fun
  | [d] => { results := [.lit (.bool true)], args := [d] }
  | _ => none }
def cellWeighsRow : OpenClaim := { program := "ytmpbgjnkkapijaa", sum := "3225ad329eeb3fe2bb07b413d54e381001295c2b01f3abcb537cfb3448354b11", func := "phosphor/phosphorlaw02.CellWeighs", spec := "cellWeighs", apart := false }
def CellWeighsSaid : Prop := cellWeighsRow.holds Try.pinned (OpenSpec.ofChange cellWeighsSpec)

/-- ITS FALSE NEIGHBOUR: 'it returns false'. Refute it at one input. -/
def cellWeighsWrong : ChangeSpec := { name := "cellWeighs", fn := fun _ => fun
  | [d] => { results := [.lit (.bool false)], args := [d] }
  | _ => none }
def CellWeighsWrongFalsely : Prop := cellWeighsRow.holds Try.pinned (OpenSpec.ofChange cellWeighsWrong)

/-- 'phosphorlaw02.CellSums': WHATEVER THE INPUT: true; the input reads as it did. -/
def cellSumsSpec : ChangeSpec := { name := "cellSums", fn := fun _ => fun
  | [d1, d2] => { results := [.lit (.bool true)], args := [d1, d2] }
  | _ => none }
def cellSumsRow : OpenClaim := { program := "ytmpbgjnkkapijaa", sum := "3225ad329eeb3fe2bb07b413d54e381001295c2b01f3abcb537cfb3448354b11", func := "phosphor/phosphorlaw02.CellSums", spec := "cellSums", apart := false }
def CellSumsSaid : Prop := cellSumsRow.holds Try.pinned (OpenSpec.ofChange cellSumsSpec)

/-- ITS FALSE NEIGHBOUR: 'it returns false'. Refute it at one input. -/
def cellSumsWrong : ChangeSpec := { name := "cellSums", fn := fun _ => fun
  | [d1, d2] => { results := [.lit (.bool false)], args := [d1, d2] }
  | _ => none }
def CellSumsWrongFalsely : Prop := cellSumsRow.holds Try.pinned (OpenSpec.ofChange cellSumsWrong)

/-- 'phosphorlaw02.CellTurns': WHATEVER THE INPUT: true; the input reads as it did. -/
def cellTurnsSpec : ChangeSpec := { name := "cellTurns", fn := fun _ => fun
  | [d1, d2] => { results := [.lit (.bool true)], args := [d1, d2] }
  | _ => none }
def cellTurnsRow : OpenClaim := { program := "ytmpbgjnkkapijaa", sum := "3225ad329eeb3fe2bb07b413d54e381001295c2b01f3abcb537cfb3448354b11", func := "phosphor/phosphorlaw02.CellTurns", spec := "cellTurns", unfollowed := true, recurses := true, apart := false }
def CellTurnsSaid : Prop := cellTurnsRow.holds Try.pinned (OpenSpec.ofChange cellTurnsSpec)

/-- ITS FALSE NEIGHBOUR: 'it returns false'. Refute it at one input. -/
def cellTurnsWrong : ChangeSpec := { name := "cellTurns", fn := fun _ => fun
  | [d1, d2] => { results := [.lit (.bool false)], args := [d1, d2] }
  | _ => none }
def CellTurnsWrongFalsely : Prop := cellTurnsRow.holds Try.pinned (OpenSpec.ofChange cellTurnsWrong)

/-- 'phosphorlaw02.CellPacks': WHATEVER THE INPUT: true; the input reads as it did. -/
def cellPacksSpec : ChangeSpec := { name := "cellPacks", fn := fun _ => fun
  | [d1, d2] => { results := [.lit (.bool true)], args := [d1, d2] }
  | _ => none }
def cellPacksRow : OpenClaim := { program := "ytmpbgjnkkapijaa", sum := "3225ad329eeb3fe2bb07b413d54e381001295c2b01f3abcb537cfb3448354b11", func := "phosphor/phosphorlaw02.CellPacks", spec := "cellPacks", apart := false }
def CellPacksSaid : Prop := cellPacksRow.holds Try.pinned (OpenSpec.ofChange cellPacksSpec)

/-- ITS FALSE NEIGHBOUR: 'it returns false'. Refute it at one input. -/
def cellPacksWrong : ChangeSpec := { name := "cellPacks", fn := fun _ => fun
  | [d1, d2] => { results := [.lit (.bool false)], args := [d1, d2] }
  | _ => none }
def CellPacksWrongFalsely : Prop := cellPacksRow.holds Try.pinned (OpenSpec.ofChange cellPacksWrong)

/-- 'phosphorlaw02.CellKeeps': WHATEVER THE INPUT: true; the input reads as it did. -/
def cellKeepsSpec : ChangeSpec := { name := "cellKeeps", fn := fun _ => fun
  | [d] => { results := [.lit (.bool true)], args := [d] }
  | _ => none }
def cellKeepsRow : OpenClaim := { program := "ytmpbgjnkkapijaa", sum := "3225ad329eeb3fe2bb07b413d54e381001295c2b01f3abcb537cfb3448354b11", func := "phosphor/phosphorlaw02.CellKeeps", spec := "cellKeeps", apart := false }
def CellKeepsSaid : Prop := cellKeepsRow.holds Try.pinned (OpenSpec.ofChange cellKeepsSpec)

/-- ITS FALSE NEIGHBOUR: 'it returns false'. Refute it at one input. -/
def cellKeepsWrong : ChangeSpec := { name := "cellKeeps", fn := fun _ => fun
  | [d] => { results := [.lit (.bool false)], args := [d] }
  | _ => none }
def CellKeepsWrongFalsely : Prop := cellKeepsRow.holds Try.pinned (OpenSpec.ofChange cellKeepsWrong)

/-- 'phosphorlaw01.RendApplies': WHATEVER THE INPUT: true; the input reads as it did. -/
def rendAppliesSpec : ChangeSpec := { name := "rendApplies", fn := fun _ => fun
  | [d1, d2] => { results := [.lit (.bool true)], args := [d1, d2] }
  | _ => none }
def rendAppliesRow : OpenClaim := { program := "ytmpbgjnkkapijaa", sum := "3225ad329eeb3fe2bb07b413d54e381001295c2b01f3abcb537cfb3448354b11", func := "phosphor/phosphorlaw01.RendApplies", spec := "rendApplies", inPlace := ["internal/abi.NoEscape"], unfollowed := true, recurses := true, apart := false }
def RendAppliesSaid : Prop := rendAppliesRow.holds Try.pinned (OpenSpec.ofChange rendAppliesSpec)

/-- ITS FALSE NEIGHBOUR: 'it returns false'. Refute it at one input. -/
def rendAppliesWrong : ChangeSpec := { name := "rendApplies", fn := fun _ => fun
  | [d1, d2] => { results := [.lit (.bool false)], args := [d1, d2] }
  | _ => none }
def RendAppliesWrongFalsely : Prop := rendAppliesRow.holds Try.pinned (OpenSpec.ofChange rendAppliesWrong)

/-- 'phosphorlaw01.RendFlips': WHATEVER THE INPUT: true; the input reads as it did. -/
def rendFlipsSpec : ChangeSpec := { name := "rendFlips", fn := fun _ => fun
  | [d1, d2] => { results := [.lit (.bool true)], args := [d1, d2] }
  | _ => none }
def rendFlipsRow : OpenClaim := { program := "ytmpbgjnkkapijaa", sum := "3225ad329eeb3fe2bb07b413d54e381001295c2b01f3abcb537cfb3448354b11", func := "phosphor/phosphorlaw01.RendFlips", spec := "rendFlips", inPlace := ["internal/abi.NoEscape"], unfollowed := true, recurses := true, apart := false }
def RendFlipsSaid : Prop := rendFlipsRow.holds Try.pinned (OpenSpec.ofChange rendFlipsSpec)

/-- ITS FALSE NEIGHBOUR: 'it returns false'. Refute it at one input. -/
def rendFlipsWrong : ChangeSpec := { name := "rendFlips", fn := fun _ => fun
  | [d1, d2] => { results := [.lit (.bool false)], args := [d1, d2] }
  | _ => none }
def RendFlipsWrongFalsely : Prop := rendFlipsRow.holds Try.pinned (OpenSpec.ofChange rendFlipsWrong)

/-- 'phosphorlaw01.RendParams': WHATEVER THE INPUT: true; the input reads as it did. -/
def rendParamsSpec : ChangeSpec := { name := "rendParams", fn := fun _ => fun
  | [d1, d2] => { results := [.lit (.bool true)], args := [d1, d2] }
  | _ => none }
def rendParamsRow : OpenClaim := { program := "ytmpbgjnkkapijaa", sum := "3225ad329eeb3fe2bb07b413d54e381001295c2b01f3abcb537cfb3448354b11", func := "phosphor/phosphorlaw01.RendParams", spec := "rendParams", inPlace := ["internal/abi.NoEscape"], unfollowed := true, recurses := true, apart := false }
def RendParamsSaid : Prop := rendParamsRow.holds Try.pinned (OpenSpec.ofChange rendParamsSpec)

/-- ITS FALSE NEIGHBOUR: 'it returns false'. Refute it at one input. -/
def rendParamsWrong : ChangeSpec := { name := "rendParams", fn := fun _ => fun
  | [d1, d2] => { results := [.lit (.bool false)], args := [d1, d2] }
  | _ => none }
def RendParamsWrongFalsely : Prop := rendParamsRow.holds Try.pinned (OpenSpec.ofChange rendParamsWrong)

/-- 'phosphorlaw01.RendWeights': WHATEVER THE INPUT: true; the input reads as it did. -/
def rendWeightsSpec : ChangeSpec := { name := "rendWeights", fn := fun _ => fun
  | [d1, d2] => { results := [.lit (.bool true)], args := [d1, d2] }
  | _ => none }
def rendWeightsRow : OpenClaim := { program := "ytmpbgjnkkapijaa", sum := "3225ad329eeb3fe2bb07b413d54e381001295c2b01f3abcb537cfb3448354b11", func := "phosphor/phosphorlaw01.RendWeights", spec := "rendWeights", inPlace := ["internal/abi.NoEscape"], unfollowed := true, recurses := true, apart := false }
def RendWeightsSaid : Prop := rendWeightsRow.holds Try.pinned (OpenSpec.ofChange rendWeightsSpec)

/-- ITS FALSE NEIGHBOUR: 'it returns false'. Refute it at one input. -/
def rendWeightsWrong : ChangeSpec := { name := "rendWeights", fn := fun _ => fun
  | [d1, d2] => { results := [.lit (.bool false)], args := [d1, d2] }
  | _ => none }
def RendWeightsWrongFalsely : Prop := rendWeightsRow.holds Try.pinned (OpenSpec.ofChange rendWeightsWrong)

/-- 'phosphortop.PhosphorWeighed': WHATEVER THE INPUT: true; the input reads as it did. -/
def phosphorWeighedSpec : ChangeSpec := { name := "phosphorWeighed", fn := fun _ => fun
  | [d1, d2, d3] => { results := [.lit (.bool true)], args := [d1, d2, d3] }
  | _ => none }
def phosphorWeighedRow : OpenClaim := { program := "ytmpbgjnkkapijaa", sum := "3225ad329eeb3fe2bb07b413d54e381001295c2b01f3abcb537cfb3448354b11", func := "phosphor/phosphortop.PhosphorWeighed", spec := "phosphorWeighed", unfollowed := true, recurses := true, apart := false }
def PhosphorWeighedSaid : Prop := phosphorWeighedRow.holds Try.pinned (OpenSpec.ofChange phosphorWeighedSpec)

/-- ITS FALSE NEIGHBOUR: 'it returns false'. Refute it at one input. -/
def phosphorWeighedWrong : ChangeSpec := { name := "phosphorWeighed", fn := fun _ => fun
  | [d1, d2, d3] => { results := [.lit (.bool false)], args := [d1, d2, d3] }
  | _ => none }
def PhosphorWeighedWrongFalsely : Prop := phosphorWeighedRow.holds Try.pinned (OpenSpec.ofChange phosphorWeighedWrong)

/-- 'phosphorlaw01.RendLetters': WHATEVER THE INPUT: true; the input reads as it did. -/
def rendLettersSpec : ChangeSpec := { name := "rendLetters", fn := fun _ => fun
  | [d1, d2] => { results := [.lit (.bool true)], args := [d1, d2] }
  | _ => none }
def rendLettersRow : OpenClaim := { program := "ytmpbgjnkkapijaa", sum := "3225ad329eeb3fe2bb07b413d54e381001295c2b01f3abcb537cfb3448354b11", func := "phosphor/phosphorlaw01.RendLetters", spec := "rendLetters", inPlace := ["internal/abi.NoEscape", "internal/bytealg.IndexByteString"], unfollowed := true, recurses := true, apart := false }
def RendLettersSaid : Prop := rendLettersRow.holds Try.pinned (OpenSpec.ofChange rendLettersSpec)

/-- ITS FALSE NEIGHBOUR: 'it returns false'. Refute it at one input. -/
def rendLettersWrong : ChangeSpec := { name := "rendLetters", fn := fun _ => fun
  | [d1, d2] => { results := [.lit (.bool false)], args := [d1, d2] }
  | _ => none }
def RendLettersWrongFalsely : Prop := rendLettersRow.holds Try.pinned (OpenSpec.ofChange rendLettersWrong)

/-- 'phosphorlaw01.RendSays': WHATEVER THE INPUT: true; the input reads as it did. -/
def rendSaysSpec : ChangeSpec := { name := "rendSays", fn := fun _ => fun
  | [d1, d2] => { results := [.lit (.bool true)], args := [d1, d2] }
  | _ => none }
def rendSaysRow : OpenClaim := { program := "ytmpbgjnkkapijaa", sum := "3225ad329eeb3fe2bb07b413d54e381001295c2b01f3abcb537cfb3448354b11", func := "phosphor/phosphorlaw01.RendSays", spec := "rendSays", inPlace := ["internal/abi.NoEscape", "internal/bytealg.IndexByteString"], unfollowed := true, recurses := true, apart := false }
def RendSaysSaid : Prop := rendSaysRow.holds Try.pinned (OpenSpec.ofChange rendSaysSpec)

/-- ITS FALSE NEIGHBOUR: 'it returns false'. Refute it at one input. -/
def rendSaysWrong : ChangeSpec := { name := "rendSays", fn := fun _ => fun
  | [d1, d2] => { results := [.lit (.bool false)], args := [d1, d2] }
  | _ => none }
def RendSaysWrongFalsely : Prop := rendSaysRow.holds Try.pinned (OpenSpec.ofChange rendSaysWrong)

/- THE SECOND FORM. 'bulk': how many values and letters a reading holds, each counted each time it is reached (what is shared counts as often as it is met; a slice's spare places count too). A statement '..UptoSaid' is the law's where the arguments, and the package variables that the reading takes, are together of bulk at most 1048576: NARROWER than '..Said'. Prove '..Said' where nothing that the law and all that it calls make is longer than what came in: it says more and counts as full. Else prove '..UptoSaid'. A law counts once. -/
mutual
def uptoBulk {H : Type} : DataW H → Nat
  | .lit (.string bytes) => bytes.length + 1
  | .lit _ => 1
  | .nil => 1
  | .ptr d => uptoBulk d + 1
  | .slice elems spare => uptoBulkAll elems + uptoBulkAll spare + 1
  | .agg parts => uptoBulkAll parts + 1
  | .iface _ d => uptoBulk d + 1
  | .map entries => uptoBulkEntries entries + 1
  | .held _ => 1
def uptoBulkAll {H : Type} : List (DataW H) → Nat
  | [] => 0
  | d :: r => uptoBulk d + uptoBulkAll r
def uptoBulkEntries {H : Type} : List (Lit × DataW H) → Nat
  | [] => 0
  | x :: r => uptoBulkEntry x + uptoBulkEntries r
def uptoBulkEntry {H : Type} : Lit × DataW H → Nat
  | (.string bytes, d) => bytes.length + uptoBulk d + 1
  | (_, d) => uptoBulk d + 1
 end
def uptoSmall : (H : Type) → List (DataW H) → Bool := fun _ ds => decide (uptoBulkAll ds ≤ 1048576)
def OpenSpec.upto (s : _root_.Go.ChangeSpec) : _root_.Go.OpenSpec := { _root_.Go.OpenSpec.ofChange s with cond := some uptoSmall }

/-- 'phosphorlaw02.CellWeighs', WHERE WHAT IT READS IS OF BULK AT MOST 1048576: true; the input reads as it did. -/
def cellWeighsUptoRow : OpenClaim := { program := "ytmpbgjnkkapijaa", sum := "3225ad329eeb3fe2bb07b413d54e381001295c2b01f3abcb537cfb3448354b11", func := "phosphor/phosphorlaw02.CellWeighs", spec := "cellWeighs", apart := false, narrowed := true }
def CellWeighsUptoSaid : Prop := cellWeighsUptoRow.holds Try.pinned (OpenSpec.upto cellWeighsSpec)

/-- 'phosphorlaw02.CellSums', WHERE WHAT IT READS IS OF BULK AT MOST 1048576: true; the input reads as it did. -/
def cellSumsUptoRow : OpenClaim := { program := "ytmpbgjnkkapijaa", sum := "3225ad329eeb3fe2bb07b413d54e381001295c2b01f3abcb537cfb3448354b11", func := "phosphor/phosphorlaw02.CellSums", spec := "cellSums", apart := false, narrowed := true }
def CellSumsUptoSaid : Prop := cellSumsUptoRow.holds Try.pinned (OpenSpec.upto cellSumsSpec)

/-- 'phosphorlaw02.CellTurns', WHERE WHAT IT READS IS OF BULK AT MOST 1048576: true; the input reads as it did. -/
def cellTurnsUptoRow : OpenClaim := { program := "ytmpbgjnkkapijaa", sum := "3225ad329eeb3fe2bb07b413d54e381001295c2b01f3abcb537cfb3448354b11", func := "phosphor/phosphorlaw02.CellTurns", spec := "cellTurns", unfollowed := true, recurses := true, apart := false, narrowed := true }
def CellTurnsUptoSaid : Prop := cellTurnsUptoRow.holds Try.pinned (OpenSpec.upto cellTurnsSpec)

/-- 'phosphorlaw02.CellPacks', WHERE WHAT IT READS IS OF BULK AT MOST 1048576: true; the input reads as it did. -/
def cellPacksUptoRow : OpenClaim := { program := "ytmpbgjnkkapijaa", sum := "3225ad329eeb3fe2bb07b413d54e381001295c2b01f3abcb537cfb3448354b11", func := "phosphor/phosphorlaw02.CellPacks", spec := "cellPacks", apart := false, narrowed := true }
def CellPacksUptoSaid : Prop := cellPacksUptoRow.holds Try.pinned (OpenSpec.upto cellPacksSpec)

/-- 'phosphorlaw02.CellKeeps', WHERE WHAT IT READS IS OF BULK AT MOST 1048576: true; the input reads as it did. -/
def cellKeepsUptoRow : OpenClaim := { program := "ytmpbgjnkkapijaa", sum := "3225ad329eeb3fe2bb07b413d54e381001295c2b01f3abcb537cfb3448354b11", func := "phosphor/phosphorlaw02.CellKeeps", spec := "cellKeeps", apart := false, narrowed := true }
def CellKeepsUptoSaid : Prop := cellKeepsUptoRow.holds Try.pinned (OpenSpec.upto cellKeepsSpec)

/-- 'phosphorlaw01.RendApplies', WHERE WHAT IT READS IS OF BULK AT MOST 1048576: true; the input reads as it did. -/
def rendAppliesUptoRow : OpenClaim := { program := "ytmpbgjnkkapijaa", sum := "3225ad329eeb3fe2bb07b413d54e381001295c2b01f3abcb537cfb3448354b11", func := "phosphor/phosphorlaw01.RendApplies", spec := "rendApplies", inPlace := ["internal/abi.NoEscape"], unfollowed := true, recurses := true, apart := false, narrowed := true }
def RendAppliesUptoSaid : Prop := rendAppliesUptoRow.holds Try.pinned (OpenSpec.upto rendAppliesSpec)

/-- 'phosphorlaw01.RendFlips', WHERE WHAT IT READS IS OF BULK AT MOST 1048576: true; the input reads as it did. -/
def rendFlipsUptoRow : OpenClaim := { program := "ytmpbgjnkkapijaa", sum := "3225ad329eeb3fe2bb07b413d54e381001295c2b01f3abcb537cfb3448354b11", func := "phosphor/phosphorlaw01.RendFlips", spec := "rendFlips", inPlace := ["internal/abi.NoEscape"], unfollowed := true, recurses := true, apart := false, narrowed := true }
def RendFlipsUptoSaid : Prop := rendFlipsUptoRow.holds Try.pinned (OpenSpec.upto rendFlipsSpec)

/-- 'phosphorlaw01.RendParams', WHERE WHAT IT READS IS OF BULK AT MOST 1048576: true; the input reads as it did. -/
def rendParamsUptoRow : OpenClaim := { program := "ytmpbgjnkkapijaa", sum := "3225ad329eeb3fe2bb07b413d54e381001295c2b01f3abcb537cfb3448354b11", func := "phosphor/phosphorlaw01.RendParams", spec := "rendParams", inPlace := ["internal/abi.NoEscape"], unfollowed := true, recurses := true, apart := false, narrowed := true }
def RendParamsUptoSaid : Prop := rendParamsUptoRow.holds Try.pinned (OpenSpec.upto rendParamsSpec)

/-- 'phosphorlaw01.RendWeights', WHERE WHAT IT READS IS OF BULK AT MOST 1048576: true; the input reads as it did. -/
def rendWeightsUptoRow : OpenClaim := { program := "ytmpbgjnkkapijaa", sum := "3225ad329eeb3fe2bb07b413d54e381001295c2b01f3abcb537cfb3448354b11", func := "phosphor/phosphorlaw01.RendWeights", spec := "rendWeights", inPlace := ["internal/abi.NoEscape"], unfollowed := true, recurses := true, apart := false, narrowed := true }
def RendWeightsUptoSaid : Prop := rendWeightsUptoRow.holds Try.pinned (OpenSpec.upto rendWeightsSpec)

/-- 'phosphortop.PhosphorWeighed', WHERE WHAT IT READS IS OF BULK AT MOST 1048576: true; the input reads as it did. -/
def phosphorWeighedUptoRow : OpenClaim := { program := "ytmpbgjnkkapijaa", sum := "3225ad329eeb3fe2bb07b413d54e381001295c2b01f3abcb537cfb3448354b11", func := "phosphor/phosphortop.PhosphorWeighed", spec := "phosphorWeighed", unfollowed := true, recurses := true, apart := false, narrowed := true }
def PhosphorWeighedUptoSaid : Prop := phosphorWeighedUptoRow.holds Try.pinned (OpenSpec.upto phosphorWeighedSpec)

/-- 'phosphorlaw01.RendLetters', WHERE WHAT IT READS IS OF BULK AT MOST 1048576: true; the input reads as it did. -/
def rendLettersUptoRow : OpenClaim := { program := "ytmpbgjnkkapijaa", sum := "3225ad329eeb3fe2bb07b413d54e381001295c2b01f3abcb537cfb3448354b11", func := "phosphor/phosphorlaw01.RendLetters", spec := "rendLetters", inPlace := ["internal/abi.NoEscape", "internal/bytealg.IndexByteString"], unfollowed := true, recurses := true, apart := false, narrowed := true }
def RendLettersUptoSaid : Prop := rendLettersUptoRow.holds Try.pinned (OpenSpec.upto rendLettersSpec)

/-- 'phosphorlaw01.RendSays', WHERE WHAT IT READS IS OF BULK AT MOST 1048576: true; the input reads as it did. -/
def rendSaysUptoRow : OpenClaim := { program := "ytmpbgjnkkapijaa", sum := "3225ad329eeb3fe2bb07b413d54e381001295c2b01f3abcb537cfb3448354b11", func := "phosphor/phosphorlaw01.RendSays", spec := "rendSays", inPlace := ["internal/abi.NoEscape", "internal/bytealg.IndexByteString"], unfollowed := true, recurses := true, apart := false, narrowed := true }
def RendSaysUptoSaid : Prop := rendSaysUptoRow.holds Try.pinned (OpenSpec.upto rendSaysSpec)

end Rows
end Go.Proofs.Ytmpbgjnkkapijaa
