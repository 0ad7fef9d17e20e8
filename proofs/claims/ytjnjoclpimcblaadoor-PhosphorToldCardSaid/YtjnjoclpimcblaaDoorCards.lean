/-
  DERIVED. GIVEN WITH THE SEED: THE CARDS: each row of YtjnjoclpimcblaaDoorRows.lean that lists a variable, with what it lists TIED to the program's text (the seventh form; the later family's looks); each row that meets fmt, with fmt's text TOLD by the authors' own Lean function (tested against real Go, not proved from fmt's source: count such statements apart). THE CARD IS WHAT COUNTS. Prove the row's statement (the work); the ties are given (YtjnjoclpimcblaaDoorTie.lean); close each card by the builder's one call (the guide's Derived/Test/ToyasCard.lean, 'card_holds'). Laid BY PROGRAM, IN A SANDBOX (cutbox-door.mjs). By AI agents, Wed Nov 11 2026. No macro, syntax, notation, axiom, sorry.
-/
import Derived.Test.YtjnjoclpimcblaaDoorRows
import GoSem.ClaimSeven
namespace Go.Proofs.YtjnjoclpimcblaaDoor
namespace Rows

/-- THE TIED CARD OF 'phosphortop.PhosphorTold'. -/
def phosphorToldCard : Claim7 := { stood := { row := phosphorToldRow, standIns := [], harness := (true, "cacdb94053dd97a4c6c5ef97d11a4caf62cec8158ad2f9376353aa41430fe14f"), looks := false }, kinds := [], alts := [], laidByText := true, laidKinds := [.data, .data, .data], laidTests := true, laidLooks := .later }
def PhosphorToldCardSaid : Prop := Claim7.holds Tryd.pinned (.plain (OpenSpec.ofChange phosphorToldSpec)) phosphorToldCard

/-- THE SECOND FORM's CARD OF 'phosphortop.PhosphorTold'. -/
def phosphorToldUptoCard : Claim7 := { stood := { row := phosphorToldUptoRow, standIns := [], harness := (true, "cacdb94053dd97a4c6c5ef97d11a4caf62cec8158ad2f9376353aa41430fe14f"), looks := false }, kinds := [], alts := [], laidByText := true, laidKinds := [.data, .data, .data], laidTests := true, laidLooks := .later }
def PhosphorToldUptoCardSaid : Prop := Claim7.holds Tryd.pinned (.plain (OpenSpec.upto phosphorToldSpec)) phosphorToldUptoCard
end Rows
end Go.Proofs.YtjnjoclpimcblaaDoor
