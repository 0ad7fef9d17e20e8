/-
  No cell of these rows narrows 'for every input' (looked for: loops, veiled, ifaces, maps, wideKeys, modest, calm, conditions, laid).
  DERIVED. THE GIVEN ROWS OF THIS SEAT. 4 by the template 'for every input the law returns true; each argument reads behind the call as it read before'; 0 by the template 'total and deterministic' (their statements: YtignkkejkknddaaGreatTotals.lean).
  GIVEN WITH THE SEED: the statements are not yours to turn. If you find one false, say at which input.
  Laid BY PROGRAM, IN A SANDBOX (cutbox-rows.mjs): the forced cells as the released guide's own fill.sh prints them over the translation c241f54684009b1c… (all of the seat's roots in one cut). By AI agents, Wed Nov 11 2026. No macro, syntax, notation, axiom, sorry.
-/
import Derived.Test.YtignkkejkknddaaGreatChecked
import GoSem.Claim
import GoSem.ClaimJoined
import GoSem.ClaimMapViews
import Derived.JoinedTies
import Derived.KernelRfl
namespace Go.Proofs.YtignkkejkknddaaGreat
/- THE CELL 'sum', in the pinned program and in every row, IS THE sha256 OF THE DUMP (.gsa) THAT YtignkkejkknddaaGreatProg.lean LOADS. Nothing in Lean hashes anything: it is a label: what it is worth is what the hold of that sum in a sandbox is worth. -/
noncomputable def Tryz.pinned : Pinned := { name := "ytignkkejkknddaagreat", sum := "c241f54684009b1c7e31f8f1cb1d46e253742a5cdf7c07e5a9d70484c9cde141", checked := Tryz.checked }
namespace Rows
def none {H : Type} : Left H := { results := [], args := [] }

/-- 'phosphorlaw16.RectSums': WHATEVER THE INPUT: true; the input reads as it did. -/
def rectSumsSpec : ChangeSpec := { name := "rectSums", fn := fun _ => fun
  | [d1, d2, d3] => { results := [.lit (.bool true)], args := [d1, d2, d3] }
  | _ => none }
def rectSumsRow : OpenClaim := { program := "ytignkkejkknddaagreat", sum := "c241f54684009b1c7e31f8f1cb1d46e253742a5cdf7c07e5a9d70484c9cde141", func := "phosphor/phosphorlaw16.RectSums", spec := "rectSums", unfollowed := true, recurses := true, apart := false }
def RectSumsSaid : Prop := rectSumsRow.holds Tryz.pinned (OpenSpec.ofChange rectSumsSpec)

/-- ITS FALSE NEIGHBOUR: 'it returns false'. Refute it at one input. -/
def rectSumsWrong : ChangeSpec := { name := "rectSums", fn := fun _ => fun
  | [d1, d2, d3] => { results := [.lit (.bool false)], args := [d1, d2, d3] }
  | _ => none }
def RectSumsWrongFalsely : Prop := rectSumsRow.holds Tryz.pinned (OpenSpec.ofChange rectSumsWrong)

/-- 'phosphorlaw16.RectOutside': WHATEVER THE INPUT: true; the input reads as it did. -/
def rectOutsideSpec : ChangeSpec := { name := "rectOutside", fn := fun _ => fun
  | [d1, d2] => { results := [.lit (.bool true)], args := [d1, d2] }
  | _ => none }
def rectOutsideRow : OpenClaim := { program := "ytignkkejkknddaagreat", sum := "c241f54684009b1c7e31f8f1cb1d46e253742a5cdf7c07e5a9d70484c9cde141", func := "phosphor/phosphorlaw16.RectOutside", spec := "rectOutside", unfollowed := true, recurses := true, apart := false }
def RectOutsideSaid : Prop := rectOutsideRow.holds Tryz.pinned (OpenSpec.ofChange rectOutsideSpec)

/-- ITS FALSE NEIGHBOUR: 'it returns false'. Refute it at one input. -/
def rectOutsideWrong : ChangeSpec := { name := "rectOutside", fn := fun _ => fun
  | [d1, d2] => { results := [.lit (.bool false)], args := [d1, d2] }
  | _ => none }
def RectOutsideWrongFalsely : Prop := rectOutsideRow.holds Tryz.pinned (OpenSpec.ofChange rectOutsideWrong)

/-- 'phosphorlaw16.RectPlays': WHATEVER THE INPUT: true; the input reads as it did. -/
def rectPlaysSpec : ChangeSpec := { name := "rectPlays", fn := fun _ => fun
  | [d1, d2, d3] => { results := [.lit (.bool true)], args := [d1, d2, d3] }
  | _ => none }
def rectPlaysRow : OpenClaim := { program := "ytignkkejkknddaagreat", sum := "c241f54684009b1c7e31f8f1cb1d46e253742a5cdf7c07e5a9d70484c9cde141", func := "phosphor/phosphorlaw16.RectPlays", spec := "rectPlays", unfollowed := true, recurses := true, apart := false }
def RectPlaysSaid : Prop := rectPlaysRow.holds Tryz.pinned (OpenSpec.ofChange rectPlaysSpec)

/-- ITS FALSE NEIGHBOUR: 'it returns false'. Refute it at one input. -/
def rectPlaysWrong : ChangeSpec := { name := "rectPlays", fn := fun _ => fun
  | [d1, d2, d3] => { results := [.lit (.bool false)], args := [d1, d2, d3] }
  | _ => none }
def RectPlaysWrongFalsely : Prop := rectPlaysRow.holds Tryz.pinned (OpenSpec.ofChange rectPlaysWrong)

/-- 'phosphortop.PhosphorCarried': WHATEVER THE INPUT: true; the input reads as it did. -/
def phosphorCarriedSpec : ChangeSpec := { name := "phosphorCarried", fn := fun _ => fun
  | [d1, d2] => { results := [.lit (.bool true)], args := [d1, d2] }
  | _ => none }
def phosphorCarriedRow : OpenClaim := { program := "ytignkkejkknddaagreat", sum := "c241f54684009b1c7e31f8f1cb1d46e253742a5cdf7c07e5a9d70484c9cde141", func := "phosphor/phosphortop.PhosphorCarried", spec := "phosphorCarried", unfollowed := true, recurses := true, apart := false }
def PhosphorCarriedSaid : Prop := phosphorCarriedRow.holds Tryz.pinned (OpenSpec.ofChange phosphorCarriedSpec)

/-- ITS FALSE NEIGHBOUR: 'it returns false'. Refute it at one input. -/
def phosphorCarriedWrong : ChangeSpec := { name := "phosphorCarried", fn := fun _ => fun
  | [d1, d2] => { results := [.lit (.bool false)], args := [d1, d2] }
  | _ => none }
def PhosphorCarriedWrongFalsely : Prop := phosphorCarriedRow.holds Tryz.pinned (OpenSpec.ofChange phosphorCarriedWrong)

/- THE SECOND FORM. 'bulk': how many values and letters a reading holds, each counted each time it is reached (what is shared counts as often as it is met; a slice's spare places count too). A statement '..UptoSaid' is the law's where the arguments, and the package variables that the reading takes, are together of bulk at most 1048576: NARROWER than '..Said'. Prove '..Said' where nothing that the law and all that it calls make is longer than what came in: it says more and counts as full. Else prove '..UptoSaid'. A law counts once. -/
mutual
def uptoBulk {H : Type} : DataW H → Nat
  | .lit (.string bytes) => bytes.length + 1
  | .lit _ => 1
  | .nil => 1
  | .ptr d => uptoBulk d + 1
  | .slice elems spare => uptoBulkAll elems + uptoBulkAll spare + 1
  | .agg parts => uptoBulkAll parts + 1
  | .iface _ d => uptoBulk d + 1
  | .map entries => uptoBulkEntries entries + 1
  | .held _ => 1
def uptoBulkAll {H : Type} : List (DataW H) → Nat
  | [] => 0
  | d :: r => uptoBulk d + uptoBulkAll r
def uptoBulkEntries {H : Type} : List (Lit × DataW H) → Nat
  | [] => 0
  | x :: r => uptoBulkEntry x + uptoBulkEntries r
def uptoBulkEntry {H : Type} : Lit × DataW H → Nat
  | (.string bytes, d) => bytes.length + uptoBulk d + 1
  | (_, d) => uptoBulk d + 1
 end
def uptoSmall : (H : Type) → List (DataW H) → Bool := fun _ ds => decide (uptoBulkAll ds ≤ 1048576)
def OpenSpec.upto (s : _root_.Go.ChangeSpec) : _root_.Go.OpenSpec := { _root_.Go.OpenSpec.ofChange s with cond := some uptoSmall }

/-- 'phosphorlaw16.RectSums', WHERE WHAT IT READS IS OF BULK AT MOST 1048576: true; the input reads as it did. -/
def rectSumsUptoRow : OpenClaim := { program := "ytignkkejkknddaagreat", sum := "c241f54684009b1c7e31f8f1cb1d46e253742a5cdf7c07e5a9d70484c9cde141", func := "phosphor/phosphorlaw16.RectSums", spec := "rectSums", unfollowed := true, recurses := true, apart := false, narrowed := true }
def RectSumsUptoSaid : Prop := rectSumsUptoRow.holds Tryz.pinned (OpenSpec.upto rectSumsSpec)

/-- 'phosphorlaw16.RectOutside', WHERE WHAT IT READS IS OF BULK AT MOST 1048576: true; the input reads as it did. -/
def rectOutsideUptoRow : OpenClaim := { program := "ytignkkejkknddaagreat", sum := "c241f54684009b1c7e31f8f1cb1d46e253742a5cdf7c07e5a9d70484c9cde141", func := "phosphor/phosphorlaw16.RectOutside", spec := "rectOutside", unfollowed := true, recurses := true, apart := false, narrowed := true }
def RectOutsideUptoSaid : Prop := rectOutsideUptoRow.holds Tryz.pinned (OpenSpec.upto rectOutsideSpec)

/-- 'phosphorlaw16.RectPlays', WHERE WHAT IT READS IS OF BULK AT MOST 1048576: true; the input reads as it did. -/
def rectPlaysUptoRow : OpenClaim := { program := "ytignkkejkknddaagreat", sum := "c241f54684009b1c7e31f8f1cb1d46e253742a5cdf7c07e5a9d70484c9cde141", func := "phosphor/phosphorlaw16.RectPlays", spec := "rectPlays", unfollowed := true, recurses := true, apart := false, narrowed := true }
def RectPlaysUptoSaid : Prop := rectPlaysUptoRow.holds Tryz.pinned (OpenSpec.upto rectPlaysSpec)

/-- 'phosphortop.PhosphorCarried', WHERE WHAT IT READS IS OF BULK AT MOST 1048576: true; the input reads as it did. -/
def phosphorCarriedUptoRow : OpenClaim := { program := "ytignkkejkknddaagreat", sum := "c241f54684009b1c7e31f8f1cb1d46e253742a5cdf7c07e5a9d70484c9cde141", func := "phosphor/phosphortop.PhosphorCarried", spec := "phosphorCarried", unfollowed := true, recurses := true, apart := false, narrowed := true }
def PhosphorCarriedUptoSaid : Prop := phosphorCarriedUptoRow.holds Tryz.pinned (OpenSpec.upto phosphorCarriedSpec)

end Rows
end Go.Proofs.YtignkkejkknddaaGreat
