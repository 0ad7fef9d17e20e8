/-
  DERIVED. GIVEN WITH THE SEED: THE CARDS: each row of YtphkfffphlembaaDoorRows.lean that lists a variable, with what it lists TIED to the program's text (the seventh form; the later family's looks); each row that meets fmt, with fmt's text TOLD by the authors' own Lean function (tested against real Go, not proved from fmt's source: count such statements apart). THE CARD IS WHAT COUNTS. Prove the row's statement (the work); the ties are given (YtphkfffphlembaaDoorTie.lean); close each card by the builder's one call (the guide's Derived/Test/ToyasCard.lean, 'card_holds'). Laid BY PROGRAM, IN A SANDBOX (cutbox-door.mjs). By AI agents, Wed Nov 11 2026. No macro, syntax, notation, axiom, sorry.
-/
import Derived.Test.YtphkfffphlembaaDoorRows
import GoSem.ClaimSeven
namespace Go.Proofs.YtphkfffphlembaaDoor
namespace Rows

/-- THE TIED CARD OF 'phosphorlaw04.ParamParses'. -/
def paramParsesCard : Claim7 := { stood := { row := paramParsesRow, standIns := [], harness := (true, "01320c51837e2bdc9fd54e726b2c8fec3cc20e442ac179041f9b9dbed70f639f"), looks := false }, kinds := [], alts := [], laidByText := true, laidKinds := [.data, .data, .data], laidTests := true, laidLooks := .later }
def ParamParsesCardSaid : Prop := Claim7.holds Tryd.pinned (.plain (OpenSpec.ofChange paramParsesSpec)) paramParsesCard

/-- THE TIED CARD OF 'phosphorlaw04.ParamFormats'. -/
def paramFormatsCard : Claim7 := { stood := { row := paramFormatsRow, standIns := [], harness := (true, "01320c51837e2bdc9fd54e726b2c8fec3cc20e442ac179041f9b9dbed70f639f"), looks := false }, kinds := [], alts := [], laidByText := true, laidKinds := [.data, .data, .data], laidTests := true, laidLooks := .later }
def ParamFormatsCardSaid : Prop := Claim7.holds Tryd.pinned (.plain (OpenSpec.ofChange paramFormatsSpec)) paramFormatsCard

/-- THE TIED CARD OF 'phosphorlaw04.ParamClips'. -/
def paramClipsCard : Claim7 := { stood := { row := paramClipsRow, standIns := [], harness := (true, "01320c51837e2bdc9fd54e726b2c8fec3cc20e442ac179041f9b9dbed70f639f"), looks := false }, kinds := [], alts := [], laidByText := true, laidKinds := [.data, .data, .data], laidTests := true, laidLooks := .later }
def ParamClipsCardSaid : Prop := Claim7.holds Tryd.pinned (.plain (OpenSpec.ofChange paramClipsSpec)) paramClipsCard

/-- THE TIED CARD OF 'phosphorlaw04.ParamFields'. -/
def paramFieldsCard : Claim7 := { stood := { row := paramFieldsRow, standIns := [], harness := (true, "01320c51837e2bdc9fd54e726b2c8fec3cc20e442ac179041f9b9dbed70f639f"), looks := false }, kinds := [], alts := [], laidByText := true, laidKinds := [.data, .data, .data], laidTests := true, laidLooks := .later }
def ParamFieldsCardSaid : Prop := Claim7.holds Tryd.pinned (.plain (OpenSpec.ofChange paramFieldsSpec)) paramFieldsCard

/-- THE TIED CARD OF 'phosphorlaw04.ParamGets'. -/
def paramGetsCard : Claim7 := { stood := { row := paramGetsRow, standIns := [], harness := (true, "01320c51837e2bdc9fd54e726b2c8fec3cc20e442ac179041f9b9dbed70f639f"), looks := false }, kinds := [], alts := [], laidByText := true, laidKinds := [.data, .data, .data], laidTests := true, laidLooks := .later }
def ParamGetsCardSaid : Prop := Claim7.holds Tryd.pinned (.plain (OpenSpec.ofChange paramGetsSpec)) paramGetsCard

/-- THE TIED CARD OF 'phosphorlaw04.ParamKeeps'. -/
def paramKeepsCard : Claim7 := { stood := { row := paramKeepsRow, standIns := [], harness := (true, "01320c51837e2bdc9fd54e726b2c8fec3cc20e442ac179041f9b9dbed70f639f"), looks := false }, kinds := [], alts := [], laidByText := true, laidKinds := [.data, .data, .data], laidTests := true, laidLooks := .later }
def ParamKeepsCardSaid : Prop := Claim7.holds Tryd.pinned (.plain (OpenSpec.ofChange paramKeepsSpec)) paramKeepsCard

/-- THE TIED CARD OF 'phosphorlaw04.ParamSteps'. -/
def paramStepsCard : Claim7 := { stood := { row := paramStepsRow, standIns := [], harness := (true, "01320c51837e2bdc9fd54e726b2c8fec3cc20e442ac179041f9b9dbed70f639f"), looks := false }, kinds := [], alts := [], laidByText := true, laidKinds := [.data, .data, .data], laidTests := true, laidLooks := .later }
def ParamStepsCardSaid : Prop := Claim7.holds Tryd.pinned (.plain (OpenSpec.ofChange paramStepsSpec)) paramStepsCard

/-- THE SECOND FORM's CARD OF 'phosphorlaw04.ParamParses'. -/
def paramParsesUptoCard : Claim7 := { stood := { row := paramParsesUptoRow, standIns := [], harness := (true, "01320c51837e2bdc9fd54e726b2c8fec3cc20e442ac179041f9b9dbed70f639f"), looks := false }, kinds := [], alts := [], laidByText := true, laidKinds := [.data, .data, .data], laidTests := true, laidLooks := .later }
def ParamParsesUptoCardSaid : Prop := Claim7.holds Tryd.pinned (.plain (OpenSpec.upto paramParsesSpec)) paramParsesUptoCard

/-- THE SECOND FORM's CARD OF 'phosphorlaw04.ParamFormats'. -/
def paramFormatsUptoCard : Claim7 := { stood := { row := paramFormatsUptoRow, standIns := [], harness := (true, "01320c51837e2bdc9fd54e726b2c8fec3cc20e442ac179041f9b9dbed70f639f"), looks := false }, kinds := [], alts := [], laidByText := true, laidKinds := [.data, .data, .data], laidTests := true, laidLooks := .later }
def ParamFormatsUptoCardSaid : Prop := Claim7.holds Tryd.pinned (.plain (OpenSpec.upto paramFormatsSpec)) paramFormatsUptoCard

/-- THE SECOND FORM's CARD OF 'phosphorlaw04.ParamClips'. -/
def paramClipsUptoCard : Claim7 := { stood := { row := paramClipsUptoRow, standIns := [], harness := (true, "01320c51837e2bdc9fd54e726b2c8fec3cc20e442ac179041f9b9dbed70f639f"), looks := false }, kinds := [], alts := [], laidByText := true, laidKinds := [.data, .data, .data], laidTests := true, laidLooks := .later }
def ParamClipsUptoCardSaid : Prop := Claim7.holds Tryd.pinned (.plain (OpenSpec.upto paramClipsSpec)) paramClipsUptoCard

/-- THE SECOND FORM's CARD OF 'phosphorlaw04.ParamFields'. -/
def paramFieldsUptoCard : Claim7 := { stood := { row := paramFieldsUptoRow, standIns := [], harness := (true, "01320c51837e2bdc9fd54e726b2c8fec3cc20e442ac179041f9b9dbed70f639f"), looks := false }, kinds := [], alts := [], laidByText := true, laidKinds := [.data, .data, .data], laidTests := true, laidLooks := .later }
def ParamFieldsUptoCardSaid : Prop := Claim7.holds Tryd.pinned (.plain (OpenSpec.upto paramFieldsSpec)) paramFieldsUptoCard

/-- THE SECOND FORM's CARD OF 'phosphorlaw04.ParamGets'. -/
def paramGetsUptoCard : Claim7 := { stood := { row := paramGetsUptoRow, standIns := [], harness := (true, "01320c51837e2bdc9fd54e726b2c8fec3cc20e442ac179041f9b9dbed70f639f"), looks := false }, kinds := [], alts := [], laidByText := true, laidKinds := [.data, .data, .data], laidTests := true, laidLooks := .later }
def ParamGetsUptoCardSaid : Prop := Claim7.holds Tryd.pinned (.plain (OpenSpec.upto paramGetsSpec)) paramGetsUptoCard

/-- THE SECOND FORM's CARD OF 'phosphorlaw04.ParamKeeps'. -/
def paramKeepsUptoCard : Claim7 := { stood := { row := paramKeepsUptoRow, standIns := [], harness := (true, "01320c51837e2bdc9fd54e726b2c8fec3cc20e442ac179041f9b9dbed70f639f"), looks := false }, kinds := [], alts := [], laidByText := true, laidKinds := [.data, .data, .data], laidTests := true, laidLooks := .later }
def ParamKeepsUptoCardSaid : Prop := Claim7.holds Tryd.pinned (.plain (OpenSpec.upto paramKeepsSpec)) paramKeepsUptoCard

/-- THE SECOND FORM's CARD OF 'phosphorlaw04.ParamSteps'. -/
def paramStepsUptoCard : Claim7 := { stood := { row := paramStepsUptoRow, standIns := [], harness := (true, "01320c51837e2bdc9fd54e726b2c8fec3cc20e442ac179041f9b9dbed70f639f"), looks := false }, kinds := [], alts := [], laidByText := true, laidKinds := [.data, .data, .data], laidTests := true, laidLooks := .later }
def ParamStepsUptoCardSaid : Prop := Claim7.holds Tryd.pinned (.plain (OpenSpec.upto paramStepsSpec)) paramStepsUptoCard
end Rows
end Go.Proofs.YtphkfffphlembaaDoor
