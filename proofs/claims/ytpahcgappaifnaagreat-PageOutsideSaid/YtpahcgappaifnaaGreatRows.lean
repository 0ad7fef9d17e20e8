/-
  No cell of these rows narrows 'for every input' (looked for: loops, veiled, ifaces, maps, wideKeys, modest, calm, conditions, laid).
  DERIVED. THE GIVEN ROWS OF THIS SEAT. 5 by the template 'for every input the law returns true; each argument reads behind the call as it read before'; 0 by the template 'total and deterministic' (their statements: YtpahcgappaifnaaGreatTotals.lean).
  GIVEN WITH THE SEED: the statements are not yours to turn. If you find one false, say at which input.
  Laid BY PROGRAM, IN A SANDBOX (cutbox-rows.mjs): the forced cells as the released guide's own fill.sh prints them over the translation 1337962266aaffee… (all of the seat's roots in one cut). By AI agents, Wed Nov 11 2026. No macro, syntax, notation, axiom, sorry.
-/
import Derived.Test.YtpahcgappaifnaaGreatChecked
import GoSem.Claim
import GoSem.ClaimJoined
import GoSem.ClaimMapViews
import Derived.JoinedTies
import Derived.KernelRfl
namespace Go.Proofs.YtpahcgappaifnaaGreat
/- THE CELL 'sum', in the pinned program and in every row, IS THE sha256 OF THE DUMP (.gsa) THAT YtpahcgappaifnaaGreatProg.lean LOADS. Nothing in Lean hashes anything: it is a label: what it is worth is what the hold of that sum in a sandbox is worth. -/
noncomputable def Tryz.pinned : Pinned := { name := "ytpahcgappaifnaagreat", sum := "1337962266aaffeec3b2ca47fbea85dcd28163284da5238fb85c74828f496fe8", checked := Tryz.checked }
namespace Rows
def none {H : Type} : Left H := { results := [], args := [] }

/-- 'phosphorlaw07.PagePlays': WHATEVER THE INPUT: true; the input reads as it did. -/
def pagePlaysSpec : ChangeSpec := { name := "pagePlays", fn := fun _ => fun
  | [d1, d2, d3] => { results := [.lit (.bool true)], args := [d1, d2, d3] }
  | _ => none }
def pagePlaysRow : OpenClaim := { program := "ytpahcgappaifnaagreat", sum := "1337962266aaffeec3b2ca47fbea85dcd28163284da5238fb85c74828f496fe8", func := "phosphor/phosphorlaw07.PagePlays", spec := "pagePlays", unfollowed := true, recurses := true, apart := false }
def PagePlaysSaid : Prop := pagePlaysRow.holds Tryz.pinned (OpenSpec.ofChange pagePlaysSpec)

/-- ITS FALSE NEIGHBOUR: 'it returns false'. Refute it at one input. -/
def pagePlaysWrong : ChangeSpec := { name := "pagePlays", fn := fun _ => fun
  | [d1, d2, d3] => { results := [.lit (.bool false)], args := [d1, d2, d3] }
  | _ => none }
def PagePlaysWrongFalsely : Prop := pagePlaysRow.holds Tryz.pinned (OpenSpec.ofChange pagePlaysWrong)

/-- 'phosphorlaw07.PageOutside': WHATEVER THE INPUT: true; the input reads as it did. -/
def pageOutsideSpec : ChangeSpec := { name := "pageOutside", fn := fun _ => fun
  | [d1, d2] => { results := [.lit (.bool true)], args := [d1, d2] }
  | _ => none }
def pageOutsideRow : OpenClaim := { program := "ytpahcgappaifnaagreat", sum := "1337962266aaffeec3b2ca47fbea85dcd28163284da5238fb85c74828f496fe8", func := "phosphor/phosphorlaw07.PageOutside", spec := "pageOutside", unfollowed := true, recurses := true, apart := false }
def PageOutsideSaid : Prop := pageOutsideRow.holds Tryz.pinned (OpenSpec.ofChange pageOutsideSpec)

/-- ITS FALSE NEIGHBOUR: 'it returns false'. Refute it at one input. -/
def pageOutsideWrong : ChangeSpec := { name := "pageOutside", fn := fun _ => fun
  | [d1, d2] => { results := [.lit (.bool false)], args := [d1, d2] }
  | _ => none }
def PageOutsideWrongFalsely : Prop := pageOutsideRow.holds Tryz.pinned (OpenSpec.ofChange pageOutsideWrong)

/-- 'phosphorlaw07.PageCopies': WHATEVER THE INPUT: true; the input reads as it did. -/
def pageCopiesSpec : ChangeSpec := { name := "pageCopies", fn := fun _ => fun
  | [d1, d2, d3] => { results := [.lit (.bool true)], args := [d1, d2, d3] }
  | _ => none }
def pageCopiesRow : OpenClaim := { program := "ytpahcgappaifnaagreat", sum := "1337962266aaffeec3b2ca47fbea85dcd28163284da5238fb85c74828f496fe8", func := "phosphor/phosphorlaw07.PageCopies", spec := "pageCopies", unfollowed := true, recurses := true, apart := false }
def PageCopiesSaid : Prop := pageCopiesRow.holds Tryz.pinned (OpenSpec.ofChange pageCopiesSpec)

/-- ITS FALSE NEIGHBOUR: 'it returns false'. Refute it at one input. -/
def pageCopiesWrong : ChangeSpec := { name := "pageCopies", fn := fun _ => fun
  | [d1, d2, d3] => { results := [.lit (.bool false)], args := [d1, d2, d3] }
  | _ => none }
def PageCopiesWrongFalsely : Prop := pageCopiesRow.holds Tryz.pinned (OpenSpec.ofChange pageCopiesWrong)

/-- 'phosphorlaw07.PageLines': WHATEVER THE INPUT: true; the input reads as it did. -/
def pageLinesSpec : ChangeSpec := { name := "pageLines", fn := fun _ => fun
  | [d1, d2, d3] => { results := [.lit (.bool true)], args := [d1, d2, d3] }
  | _ => none }
def pageLinesRow : OpenClaim := { program := "ytpahcgappaifnaagreat", sum := "1337962266aaffeec3b2ca47fbea85dcd28163284da5238fb85c74828f496fe8", func := "phosphor/phosphorlaw07.PageLines", spec := "pageLines", unfollowed := true, recurses := true, apart := false }
def PageLinesSaid : Prop := pageLinesRow.holds Tryz.pinned (OpenSpec.ofChange pageLinesSpec)

/-- ITS FALSE NEIGHBOUR: 'it returns false'. Refute it at one input. -/
def pageLinesWrong : ChangeSpec := { name := "pageLines", fn := fun _ => fun
  | [d1, d2, d3] => { results := [.lit (.bool false)], args := [d1, d2, d3] }
  | _ => none }
def PageLinesWrongFalsely : Prop := pageLinesRow.holds Tryz.pinned (OpenSpec.ofChange pageLinesWrong)

/-- 'phosphorlaw07.PageLooks': WHATEVER THE INPUT: true; the input reads as it did. -/
def pageLooksSpec : ChangeSpec := { name := "pageLooks", fn := fun _ => fun
  | [d1, d2, d3] => { results := [.lit (.bool true)], args := [d1, d2, d3] }
  | _ => none }
def pageLooksRow : OpenClaim := { program := "ytpahcgappaifnaagreat", sum := "1337962266aaffeec3b2ca47fbea85dcd28163284da5238fb85c74828f496fe8", func := "phosphor/phosphorlaw07.PageLooks", spec := "pageLooks", unfollowed := true, recurses := true, apart := false }
def PageLooksSaid : Prop := pageLooksRow.holds Tryz.pinned (OpenSpec.ofChange pageLooksSpec)

/-- ITS FALSE NEIGHBOUR: 'it returns false'. Refute it at one input. -/
def pageLooksWrong : ChangeSpec := { name := "pageLooks", fn := fun _ => fun
  | [d1, d2, d3] => { results := [.lit (.bool false)], args := [d1, d2, d3] }
  | _ => none }
def PageLooksWrongFalsely : Prop := pageLooksRow.holds Tryz.pinned (OpenSpec.ofChange pageLooksWrong)

/- THE SECOND FORM. 'bulk': how many values and letters a reading holds, each counted each time it is reached (what is shared counts as often as it is met; a slice's spare places count too). A statement '..UptoSaid' is the law's where the arguments, and the package variables that the reading takes, are together of bulk at most 1048576: NARROWER than '..Said'. Prove '..Said' where nothing that the law and all that it calls make is longer than what came in: it says more and counts as full. Else prove '..UptoSaid'. A law counts once. -/
mutual
def uptoBulk {H : Type} : DataW H → Nat
  | .lit (.string bytes) => bytes.length + 1
  | .lit _ => 1
  | .nil => 1
  | .ptr d => uptoBulk d + 1
  | .slice elems spare => uptoBulkAll elems + uptoBulkAll spare + 1
  | .agg parts => uptoBulkAll parts + 1
  | .iface _ d => uptoBulk d + 1
  | .map entries => uptoBulkEntries entries + 1
  | .held _ => 1
def uptoBulkAll {H : Type} : List (DataW H) → Nat
  | [] => 0
  | d :: r => uptoBulk d + uptoBulkAll r
def uptoBulkEntries {H : Type} : List (Lit × DataW H) → Nat
  | [] => 0
  | x :: r => uptoBulkEntry x + uptoBulkEntries r
def uptoBulkEntry {H : Type} : Lit × DataW H → Nat
  | (.string bytes, d) => bytes.length + uptoBulk d + 1
  | (_, d) => uptoBulk d + 1
 end
def uptoSmall : (H : Type) → List (DataW H) → Bool := fun _ ds => decide (uptoBulkAll ds ≤ 1048576)
def OpenSpec.upto (s : _root_.Go.ChangeSpec) : _root_.Go.OpenSpec := { _root_.Go.OpenSpec.ofChange s with cond := some uptoSmall }

/-- 'phosphorlaw07.PagePlays', WHERE WHAT IT READS IS OF BULK AT MOST 1048576: true; the input reads as it did. -/
def pagePlaysUptoRow : OpenClaim := { program := "ytpahcgappaifnaagreat", sum := "1337962266aaffeec3b2ca47fbea85dcd28163284da5238fb85c74828f496fe8", func := "phosphor/phosphorlaw07.PagePlays", spec := "pagePlays", unfollowed := true, recurses := true, apart := false, narrowed := true }
def PagePlaysUptoSaid : Prop := pagePlaysUptoRow.holds Tryz.pinned (OpenSpec.upto pagePlaysSpec)

/-- 'phosphorlaw07.PageOutside', WHERE WHAT IT READS IS OF BULK AT MOST 1048576: true; the input reads as it did. -/
def pageOutsideUptoRow : OpenClaim := { program := "ytpahcgappaifnaagreat", sum := "1337962266aaffeec3b2ca47fbea85dcd28163284da5238fb85c74828f496fe8", func := "phosphor/phosphorlaw07.PageOutside", spec := "pageOutside", unfollowed := true, recurses := true, apart := false, narrowed := true }
def PageOutsideUptoSaid : Prop := pageOutsideUptoRow.holds Tryz.pinned (OpenSpec.upto pageOutsideSpec)

/-- 'phosphorlaw07.PageCopies', WHERE WHAT IT READS IS OF BULK AT MOST 1048576: true; the input reads as it did. -/
def pageCopiesUptoRow : OpenClaim := { program := "ytpahcgappaifnaagreat", sum := "1337962266aaffeec3b2ca47fbea85dcd28163284da5238fb85c74828f496fe8", func := "phosphor/phosphorlaw07.PageCopies", spec := "pageCopies", unfollowed := true, recurses := true, apart := false, narrowed := true }
def PageCopiesUptoSaid : Prop := pageCopiesUptoRow.holds Tryz.pinned (OpenSpec.upto pageCopiesSpec)

/-- 'phosphorlaw07.PageLines', WHERE WHAT IT READS IS OF BULK AT MOST 1048576: true; the input reads as it did. -/
def pageLinesUptoRow : OpenClaim := { program := "ytpahcgappaifnaagreat", sum := "1337962266aaffeec3b2ca47fbea85dcd28163284da5238fb85c74828f496fe8", func := "phosphor/phosphorlaw07.PageLines", spec := "pageLines", unfollowed := true, recurses := true, apart := false, narrowed := true }
def PageLinesUptoSaid : Prop := pageLinesUptoRow.holds Tryz.pinned (OpenSpec.upto pageLinesSpec)

/-- 'phosphorlaw07.PageLooks', WHERE WHAT IT READS IS OF BULK AT MOST 1048576: true; the input reads as it did. -/
def pageLooksUptoRow : OpenClaim := { program := "ytpahcgappaifnaagreat", sum := "1337962266aaffeec3b2ca47fbea85dcd28163284da5238fb85c74828f496fe8", func := "phosphor/phosphorlaw07.PageLooks", spec := "pageLooks", unfollowed := true, recurses := true, apart := false, narrowed := true }
def PageLooksUptoSaid : Prop := pageLooksUptoRow.holds Tryz.pinned (OpenSpec.upto pageLooksSpec)

end Rows
end Go.Proofs.YtpahcgappaifnaaGreat
