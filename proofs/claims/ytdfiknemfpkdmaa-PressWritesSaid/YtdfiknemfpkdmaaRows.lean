/-
  No cell of these rows narrows 'for every input' (looked for: loops, veiled, ifaces, maps, wideKeys, modest, calm, conditions, laid).
  DERIVED. THE GIVEN ROWS OF THIS SEAT. 5 by the template 'for every input the law returns true; each argument reads behind the call as it read before'; 0 by the template 'total and deterministic' (their statements: YtdfiknemfpkdmaaTotals.lean).
  GIVEN WITH THE SEED: the statements are not yours to turn. If you find one false, say at which input.
  Laid BY PROGRAM, IN A SANDBOX (cutbox-rows.mjs): the forced cells as the released guide's own fill.sh prints them over the translation 73dd7f675450a27c… (all of the seat's roots in one cut). By AI agents, Wed Nov 11 2026. No macro, syntax, notation, axiom, sorry.
-/
import Derived.Test.YtdfiknemfpkdmaaChecked
import GoSem.Claim
import GoSem.ClaimJoined
import GoSem.ClaimMapViews
import Derived.JoinedTies
import Derived.KernelRfl
namespace Go.Proofs.Ytdfiknemfpkdmaa
/- THE CELL 'sum', in the pinned program and in every row, IS THE sha256 OF THE DUMP (.gsa) THAT YtdfiknemfpkdmaaProg.lean LOADS. Nothing in Lean hashes anything: it is a label: what it is worth is what the hold of that sum in a sandbox is worth. -/
noncomputable def Try.pinned : Pinned := { name := "ytdfiknemfpkdmaa", sum := "73dd7f675450a27c04f5b76c81846f26e40bcdfaac4c9eb6379c5d9c9ff7b6c2", checked := Try.checked }
namespace Rows
def none {H : Type} : Left H := { results := [], args := [] }

/-- 'phosphorlaw15.EditKept': WHATEVER THE INPUT: true; the input reads as it did. -/
def editKeptSpec : ChangeSpec := { name := "editKept", fn := fun _ => fun
  | [d1, d2] => { results := [.lit (.bool true)], args := [d1, d2] }
  | _ => none }
def editKeptRow : OpenClaim := { program := "ytdfiknemfpkdmaa", sum := "73dd7f675450a27c04f5b76c81846f26e40bcdfaac4c9eb6379c5d9c9ff7b6c2", func := "phosphor/phosphorlaw15.EditKept", spec := "editKept", unfollowed := true, recurses := true, apart := false }
def EditKeptSaid : Prop := editKeptRow.holds Try.pinned (OpenSpec.ofChange editKeptSpec)

/-- ITS FALSE NEIGHBOUR: 'it returns false'. Refute it at one input. -/
def editKeptWrong : ChangeSpec := { name := "editKept", fn := fun _ => fun
  | [d1, d2] => { results := [.lit (.bool false)], args := [d1, d2] }
  | _ => none }
def EditKeptWrongFalsely : Prop := editKeptRow.holds Try.pinned (OpenSpec.ofChange editKeptWrong)

/-- 'phosphorlaw15.EditParts': WHATEVER THE INPUT: true; the input reads as it did. -/
def editPartsSpec : ChangeSpec := { name := "editParts", fn := fun _ => fun
  | [d1, d2] => { results := [.lit (.bool true)], args := [d1, d2] }
  | _ => none }
def editPartsRow : OpenClaim := { program := "ytdfiknemfpkdmaa", sum := "73dd7f675450a27c04f5b76c81846f26e40bcdfaac4c9eb6379c5d9c9ff7b6c2", func := "phosphor/phosphorlaw15.EditParts", spec := "editParts", unfollowed := true, recurses := true, apart := false }
def EditPartsSaid : Prop := editPartsRow.holds Try.pinned (OpenSpec.ofChange editPartsSpec)

/-- ITS FALSE NEIGHBOUR: 'it returns false'. Refute it at one input. -/
def editPartsWrong : ChangeSpec := { name := "editParts", fn := fun _ => fun
  | [d1, d2] => { results := [.lit (.bool false)], args := [d1, d2] }
  | _ => none }
def EditPartsWrongFalsely : Prop := editPartsRow.holds Try.pinned (OpenSpec.ofChange editPartsWrong)

/-- 'phosphorlaw14.PressWrites': WHATEVER THE INPUT: true; the input reads as it did. -/
def pressWritesSpec : ChangeSpec := { name := "pressWrites", fn := fun _ => fun
  | [d1, d2, d3] => { results := [.lit (.bool true)], args := [d1, d2, d3] }
  | _ => none }
def pressWritesRow : OpenClaim := { program := "ytdfiknemfpkdmaa", sum := "73dd7f675450a27c04f5b76c81846f26e40bcdfaac4c9eb6379c5d9c9ff7b6c2", func := "phosphor/phosphorlaw14.PressWrites", spec := "pressWrites", unfollowed := true, recurses := true, apart := false }
def PressWritesSaid : Prop := pressWritesRow.holds Try.pinned (OpenSpec.ofChange pressWritesSpec)

/-- ITS FALSE NEIGHBOUR: 'it returns false'. Refute it at one input. -/
def pressWritesWrong : ChangeSpec := { name := "pressWrites", fn := fun _ => fun
  | [d1, d2, d3] => { results := [.lit (.bool false)], args := [d1, d2, d3] }
  | _ => none }
def PressWritesWrongFalsely : Prop := pressWritesRow.holds Try.pinned (OpenSpec.ofChange pressWritesWrong)

/-- 'phosphorlaw14.PressFeeds': WHATEVER THE INPUT: true; the input reads as it did. -/
def pressFeedsSpec : ChangeSpec := { name := "pressFeeds", fn := fun _ => fun
  | [d1, d2] => { results := [.lit (.bool true)], args := [d1, d2] }
  | _ => none }
def pressFeedsRow : OpenClaim := { program := "ytdfiknemfpkdmaa", sum := "73dd7f675450a27c04f5b76c81846f26e40bcdfaac4c9eb6379c5d9c9ff7b6c2", func := "phosphor/phosphorlaw14.PressFeeds", spec := "pressFeeds", unfollowed := true, recurses := true, apart := false }
def PressFeedsSaid : Prop := pressFeedsRow.holds Try.pinned (OpenSpec.ofChange pressFeedsSpec)

/-- ITS FALSE NEIGHBOUR: 'it returns false'. Refute it at one input. -/
def pressFeedsWrong : ChangeSpec := { name := "pressFeeds", fn := fun _ => fun
  | [d1, d2] => { results := [.lit (.bool false)], args := [d1, d2] }
  | _ => none }
def PressFeedsWrongFalsely : Prop := pressFeedsRow.holds Try.pinned (OpenSpec.ofChange pressFeedsWrong)

/-- 'phosphorlaw15.EditTwice': WHATEVER THE INPUT: true; the input reads as it did. -/
def editTwiceSpec : ChangeSpec := { name := "editTwice", fn := fun _ => fun
  | [d1, d2] => { results := [.lit (.bool true)], args := [d1, d2] }
  | _ => none }
def editTwiceRow : OpenClaim := { program := "ytdfiknemfpkdmaa", sum := "73dd7f675450a27c04f5b76c81846f26e40bcdfaac4c9eb6379c5d9c9ff7b6c2", func := "phosphor/phosphorlaw15.EditTwice", spec := "editTwice", unfollowed := true, recurses := true, apart := false }
def EditTwiceSaid : Prop := editTwiceRow.holds Try.pinned (OpenSpec.ofChange editTwiceSpec)

/-- ITS FALSE NEIGHBOUR: 'it returns false'. Refute it at one input. -/
def editTwiceWrong : ChangeSpec := { name := "editTwice", fn := fun _ => fun
  | [d1, d2] => { results := [.lit (.bool false)], args := [d1, d2] }
  | _ => none }
def EditTwiceWrongFalsely : Prop := editTwiceRow.holds Try.pinned (OpenSpec.ofChange editTwiceWrong)

/- THE SECOND FORM. 'bulk': how many values and letters a reading holds, each counted each time it is reached (what is shared counts as often as it is met; a slice's spare places count too). A statement '..UptoSaid' is the law's where the arguments, and the package variables that the reading takes, are together of bulk at most 1048576: NARROWER than '..Said'. Prove '..Said' where nothing that the law and all that it calls make is longer than what came in: it says more and counts as full. Else prove '..UptoSaid'. A law counts once. -/
mutual
def uptoBulk {H : Type} : DataW H → Nat
  | .lit (.string bytes) => bytes.length + 1
  | .lit _ => 1
  | .nil => 1
  | .ptr d => uptoBulk d + 1
  | .slice elems spare => uptoBulkAll elems + uptoBulkAll spare + 1
  | .agg parts => uptoBulkAll parts + 1
  | .iface _ d => uptoBulk d + 1
  | .map entries => uptoBulkEntries entries + 1
  | .held _ => 1
def uptoBulkAll {H : Type} : List (DataW H) → Nat
  | [] => 0
  | d :: r => uptoBulk d + uptoBulkAll r
def uptoBulkEntries {H : Type} : List (Lit × DataW H) → Nat
  | [] => 0
  | x :: r => uptoBulkEntry x + uptoBulkEntries r
def uptoBulkEntry {H : Type} : Lit × DataW H → Nat
  | (.string bytes, d) => bytes.length + uptoBulk d + 1
  | (_, d) => uptoBulk d + 1
 end
def uptoSmall : (H : Type) → List (DataW H) → Bool := fun _ ds => decide (uptoBulkAll ds ≤ 1048576)
def OpenSpec.upto (s : _root_.Go.ChangeSpec) : _root_.Go.OpenSpec := { _root_.Go.OpenSpec.ofChange s with cond := some uptoSmall }

/-- 'phosphorlaw15.EditKept', WHERE WHAT IT READS IS OF BULK AT MOST 1048576: true; the input reads as it did. -/
def editKeptUptoRow : OpenClaim := { program := "ytdfiknemfpkdmaa", sum := "73dd7f675450a27c04f5b76c81846f26e40bcdfaac4c9eb6379c5d9c9ff7b6c2", func := "phosphor/phosphorlaw15.EditKept", spec := "editKept", unfollowed := true, recurses := true, apart := false, narrowed := true }
def EditKeptUptoSaid : Prop := editKeptUptoRow.holds Try.pinned (OpenSpec.upto editKeptSpec)

/-- 'phosphorlaw15.EditParts', WHERE WHAT IT READS IS OF BULK AT MOST 1048576: true; the input reads as it did. -/
def editPartsUptoRow : OpenClaim := { program := "ytdfiknemfpkdmaa", sum := "73dd7f675450a27c04f5b76c81846f26e40bcdfaac4c9eb6379c5d9c9ff7b6c2", func := "phosphor/phosphorlaw15.EditParts", spec := "editParts", unfollowed := true, recurses := true, apart := false, narrowed := true }
def EditPartsUptoSaid : Prop := editPartsUptoRow.holds Try.pinned (OpenSpec.upto editPartsSpec)

/-- 'phosphorlaw14.PressWrites', WHERE WHAT IT READS IS OF BULK AT MOST 1048576: true; the input reads as it did. -/
def pressWritesUptoRow : OpenClaim := { program := "ytdfiknemfpkdmaa", sum := "73dd7f675450a27c04f5b76c81846f26e40bcdfaac4c9eb6379c5d9c9ff7b6c2", func := "phosphor/phosphorlaw14.PressWrites", spec := "pressWrites", unfollowed := true, recurses := true, apart := false, narrowed := true }
def PressWritesUptoSaid : Prop := pressWritesUptoRow.holds Try.pinned (OpenSpec.upto pressWritesSpec)

/-- 'phosphorlaw14.PressFeeds', WHERE WHAT IT READS IS OF BULK AT MOST 1048576: true; the input reads as it did. -/
def pressFeedsUptoRow : OpenClaim := { program := "ytdfiknemfpkdmaa", sum := "73dd7f675450a27c04f5b76c81846f26e40bcdfaac4c9eb6379c5d9c9ff7b6c2", func := "phosphor/phosphorlaw14.PressFeeds", spec := "pressFeeds", unfollowed := true, recurses := true, apart := false, narrowed := true }
def PressFeedsUptoSaid : Prop := pressFeedsUptoRow.holds Try.pinned (OpenSpec.upto pressFeedsSpec)

/-- 'phosphorlaw15.EditTwice', WHERE WHAT IT READS IS OF BULK AT MOST 1048576: true; the input reads as it did. -/
def editTwiceUptoRow : OpenClaim := { program := "ytdfiknemfpkdmaa", sum := "73dd7f675450a27c04f5b76c81846f26e40bcdfaac4c9eb6379c5d9c9ff7b6c2", func := "phosphor/phosphorlaw15.EditTwice", spec := "editTwice", unfollowed := true, recurses := true, apart := false, narrowed := true }
def EditTwiceUptoSaid : Prop := editTwiceUptoRow.holds Try.pinned (OpenSpec.upto editTwiceSpec)

end Rows
end Go.Proofs.Ytdfiknemfpkdmaa
