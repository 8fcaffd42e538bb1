/-
  DERIVED. GIVEN WITH THE SEED: THE CARDS: each row of YtbnjajpencahfaaGreatDoorRows.lean that lists a variable, with what it lists TIED to the program's text (the seventh form; the later family's looks); each row that meets fmt, with fmt's text TOLD by the authors' own Lean function (tested against real Go, not proved from fmt's source: count such statements apart). THE CARD IS WHAT COUNTS. Prove the row's statement (the work); the ties are given (YtbnjajpencahfaaGreatDoorTie.lean); close each card by the builder's one call (the guide's Derived/Test/ToyasCard.lean, 'card_holds'). Laid BY PROGRAM, IN A SANDBOX (cutbox-door.mjs). By AI agents, Wed Nov 11 2026. No macro, syntax, notation, axiom, sorry.
-/
import Derived.Test.YtbnjajpencahfaaGreatDoorRows
import GoSem.ClaimSeven
namespace Go.Proofs.YtbnjajpencahfaaGreatDoor
namespace Rows

/-- THE TIED CARD OF 'quaysidelaw36.PurgeMatches'. -/
def purgeMatchesCard : Claim7 := { stood := { row := purgeMatchesRow, standIns := [], harness := (true, "4f79adc0c8d3016dc02ab8900f57bec8d71843470c560da4c29b99f115a585fa"), looks := true }, kinds := [], alts := [], laidByText := true, laidKinds := [.data, .data, .data, .data, .widerDeep, .pinned], laidTests := true, laidLooks := .later }
def PurgeMatchesCardSaid : Prop := Claim7.holds Tryz.pinned (.plain (OpenSpec.ofChange purgeMatchesSpec)) purgeMatchesCard

/-- THE TIED CARD OF 'quaysidelaw36.PurgeFormats'. -/
def purgeFormatsCard : Claim7 := { stood := { row := purgeFormatsRow, standIns := [], harness := (true, "4f79adc0c8d3016dc02ab8900f57bec8d71843470c560da4c29b99f115a585fa"), looks := true }, kinds := [], alts := [], laidByText := true, laidKinds := [.data, .data, .data, .data, .sentinel, .sentinel, .widerDeep, .pinned], laidTests := true, laidLooks := .later }
def PurgeFormatsCardSaid : Prop := Claim7.holds Tryz.pinned (.plain (OpenSpec.ofChange purgeFormatsSpec)) purgeFormatsCard

/-- THE TIED CARD OF 'quaysidelaw36.PurgeParses'. -/
def purgeParsesCard : Claim7 := { stood := { row := purgeParsesRow, standIns := [], harness := (true, "4f79adc0c8d3016dc02ab8900f57bec8d71843470c560da4c29b99f115a585fa"), looks := true }, kinds := [], alts := [], laidByText := true, laidKinds := [.data, .data, .data, .data, .sentinel, .sentinel, .widerDeep, .pinned], laidTests := true, laidLooks := .later }
def PurgeParsesCardSaid : Prop := Claim7.holds Tryz.pinned (.plain (OpenSpec.ofChange purgeParsesSpec)) purgeParsesCard

/-- THE SECOND FORM's CARD OF 'quaysidelaw36.PurgeMatches'. -/
def purgeMatchesUptoCard : Claim7 := { stood := { row := purgeMatchesUptoRow, standIns := [], harness := (true, "4f79adc0c8d3016dc02ab8900f57bec8d71843470c560da4c29b99f115a585fa"), looks := true }, kinds := [], alts := [], laidByText := true, laidKinds := [.data, .data, .data, .data, .widerDeep, .pinned], laidTests := true, laidLooks := .later }
def PurgeMatchesUptoCardSaid : Prop := Claim7.holds Tryz.pinned (.plain (OpenSpec.upto purgeMatchesSpec)) purgeMatchesUptoCard

/-- THE SECOND FORM's CARD OF 'quaysidelaw36.PurgeFormats'. -/
def purgeFormatsUptoCard : Claim7 := { stood := { row := purgeFormatsUptoRow, standIns := [], harness := (true, "4f79adc0c8d3016dc02ab8900f57bec8d71843470c560da4c29b99f115a585fa"), looks := true }, kinds := [], alts := [], laidByText := true, laidKinds := [.data, .data, .data, .data, .sentinel, .sentinel, .widerDeep, .pinned], laidTests := true, laidLooks := .later }
def PurgeFormatsUptoCardSaid : Prop := Claim7.holds Tryz.pinned (.plain (OpenSpec.upto purgeFormatsSpec)) purgeFormatsUptoCard

/-- THE SECOND FORM's CARD OF 'quaysidelaw36.PurgeParses'. -/
def purgeParsesUptoCard : Claim7 := { stood := { row := purgeParsesUptoRow, standIns := [], harness := (true, "4f79adc0c8d3016dc02ab8900f57bec8d71843470c560da4c29b99f115a585fa"), looks := true }, kinds := [], alts := [], laidByText := true, laidKinds := [.data, .data, .data, .data, .sentinel, .sentinel, .widerDeep, .pinned], laidTests := true, laidLooks := .later }
def PurgeParsesUptoCardSaid : Prop := Claim7.holds Tryz.pinned (.plain (OpenSpec.upto purgeParsesSpec)) purgeParsesUptoCard
end Rows
end Go.Proofs.YtbnjajpencahfaaGreatDoor
