/-
  DERIVED. GIVEN WITH THE SEED: THE CARDS: each row of YtofancbnaeabhaaGreatDoorRows.lean that lists a variable, with what it lists TIED to the program's text (the seventh form; the later family's looks); each row that meets fmt, with fmt's text TOLD by the authors' own Lean function (tested against real Go, not proved from fmt's source: count such statements apart). THE CARD IS WHAT COUNTS. Prove the row's statement (the work); the ties are given (YtofancbnaeabhaaGreatDoorTie.lean); close each card by the builder's one call (the guide's Derived/Test/ToyasCard.lean, 'card_holds'). Laid BY PROGRAM, IN A SANDBOX (cutbox-door.mjs). By AI agents, Wed Nov 11 2026. No macro, syntax, notation, axiom, sorry.
-/
import Derived.Test.YtofancbnaeabhaaGreatDoorRows
import GoSem.ClaimSeven
namespace Go.Proofs.YtofancbnaeabhaaGreatDoor
namespace Rows

/-- THE TIED CARD OF 'quaysidelaw37.PurgelogCovers'. -/
def purgelogCoversCard : Claim7 := { stood := { row := purgelogCoversRow, standIns := [], harness := (true, "7e5cd95af1a5d79b3748ecdf05330b322acc87215670a0adf8f1633067613dfd"), looks := true }, kinds := [], alts := [], laidByText := true, laidKinds := [.data, .pinned], laidTests := true, laidLooks := .later }
def PurgelogCoversCardSaid : Prop := Claim7.holds Tryz.pinned (.plain (OpenSpec.ofChange purgelogCoversSpec)) purgelogCoversCard

/-- THE TIED CARD OF 'quaysidelaw38.GatePlays'. -/
def gatePlaysCard : Claim7 := { stood := { row := gatePlaysRow, standIns := [], harness := (true, "7e5cd95af1a5d79b3748ecdf05330b322acc87215670a0adf8f1633067613dfd"), looks := true }, kinds := [], alts := [], laidByText := true, laidKinds := [.data, .pinned], laidTests := true, laidLooks := .later }
def GatePlaysCardSaid : Prop := Claim7.holds Tryz.pinned (.plain (OpenSpec.ofChange gatePlaysSpec)) gatePlaysCard

/-- THE TIED CARD OF 'quaysidelaw38.GateAccepts'. -/
def gateAcceptsCard : Claim7 := { stood := { row := gateAcceptsRow, standIns := [], harness := (true, "7e5cd95af1a5d79b3748ecdf05330b322acc87215670a0adf8f1633067613dfd"), looks := true }, kinds := [], alts := [], laidByText := true, laidKinds := [.data, .pinned], laidTests := true, laidLooks := .later }
def GateAcceptsCardSaid : Prop := Claim7.holds Tryz.pinned (.plain (OpenSpec.ofChange gateAcceptsSpec)) gateAcceptsCard

/-- THE TIED CARD OF 'quaysidelaw36.PurgeWider'. -/
def purgeWiderCard : Claim7 := { stood := { row := purgeWiderRow, standIns := [], harness := (true, "7e5cd95af1a5d79b3748ecdf05330b322acc87215670a0adf8f1633067613dfd"), looks := true }, kinds := [], alts := [], laidByText := true, laidKinds := [.data, .data, .data, .data, .widerDeep, .pinned], laidTests := true, laidLooks := .later }
def PurgeWiderCardSaid : Prop := Claim7.holds Tryz.pinned (.plain (OpenSpec.ofChange purgeWiderSpec)) purgeWiderCard

/-- THE TIED CARD OF 'quaysidelaw36.PurgeMatches'. -/
def purgeMatchesCard : Claim7 := { stood := { row := purgeMatchesRow, standIns := [], harness := (true, "7e5cd95af1a5d79b3748ecdf05330b322acc87215670a0adf8f1633067613dfd"), looks := true }, kinds := [], alts := [], laidByText := true, laidKinds := [.data, .data, .data, .data, .widerDeep, .pinned], laidTests := true, laidLooks := .later }
def PurgeMatchesCardSaid : Prop := Claim7.holds Tryz.pinned (.plain (OpenSpec.ofChange purgeMatchesSpec)) purgeMatchesCard

/-- THE TIED CARD OF 'quaysidelaw36.PurgeFormats'. -/
def purgeFormatsCard : Claim7 := { stood := { row := purgeFormatsRow, standIns := [], harness := (true, "7e5cd95af1a5d79b3748ecdf05330b322acc87215670a0adf8f1633067613dfd"), looks := true }, kinds := [], alts := [], laidByText := true, laidKinds := [.data, .data, .data, .data, .sentinel, .sentinel, .widerDeep, .pinned], laidTests := true, laidLooks := .later }
def PurgeFormatsCardSaid : Prop := Claim7.holds Tryz.pinned (.plain (OpenSpec.ofChange purgeFormatsSpec)) purgeFormatsCard

/-- THE TIED CARD OF 'quaysidelaw36.PurgeParses'. -/
def purgeParsesCard : Claim7 := { stood := { row := purgeParsesRow, standIns := [], harness := (true, "7e5cd95af1a5d79b3748ecdf05330b322acc87215670a0adf8f1633067613dfd"), looks := true }, kinds := [], alts := [], laidByText := true, laidKinds := [.data, .data, .data, .data, .sentinel, .sentinel, .widerDeep, .pinned], laidTests := true, laidLooks := .later }
def PurgeParsesCardSaid : Prop := Claim7.holds Tryz.pinned (.plain (OpenSpec.ofChange purgeParsesSpec)) purgeParsesCard

/-- THE SECOND FORM's CARD OF 'quaysidelaw37.PurgelogCovers'. -/
def purgelogCoversUptoCard : Claim7 := { stood := { row := purgelogCoversUptoRow, standIns := [], harness := (true, "7e5cd95af1a5d79b3748ecdf05330b322acc87215670a0adf8f1633067613dfd"), looks := true }, kinds := [], alts := [], laidByText := true, laidKinds := [.data, .pinned], laidTests := true, laidLooks := .later }
def PurgelogCoversUptoCardSaid : Prop := Claim7.holds Tryz.pinned (.plain (OpenSpec.upto purgelogCoversSpec)) purgelogCoversUptoCard

/-- THE SECOND FORM's CARD OF 'quaysidelaw38.GatePlays'. -/
def gatePlaysUptoCard : Claim7 := { stood := { row := gatePlaysUptoRow, standIns := [], harness := (true, "7e5cd95af1a5d79b3748ecdf05330b322acc87215670a0adf8f1633067613dfd"), looks := true }, kinds := [], alts := [], laidByText := true, laidKinds := [.data, .pinned], laidTests := true, laidLooks := .later }
def GatePlaysUptoCardSaid : Prop := Claim7.holds Tryz.pinned (.plain (OpenSpec.upto gatePlaysSpec)) gatePlaysUptoCard

/-- THE SECOND FORM's CARD OF 'quaysidelaw38.GateAccepts'. -/
def gateAcceptsUptoCard : Claim7 := { stood := { row := gateAcceptsUptoRow, standIns := [], harness := (true, "7e5cd95af1a5d79b3748ecdf05330b322acc87215670a0adf8f1633067613dfd"), looks := true }, kinds := [], alts := [], laidByText := true, laidKinds := [.data, .pinned], laidTests := true, laidLooks := .later }
def GateAcceptsUptoCardSaid : Prop := Claim7.holds Tryz.pinned (.plain (OpenSpec.upto gateAcceptsSpec)) gateAcceptsUptoCard

/-- THE SECOND FORM's CARD OF 'quaysidelaw36.PurgeWider'. -/
def purgeWiderUptoCard : Claim7 := { stood := { row := purgeWiderUptoRow, standIns := [], harness := (true, "7e5cd95af1a5d79b3748ecdf05330b322acc87215670a0adf8f1633067613dfd"), looks := true }, kinds := [], alts := [], laidByText := true, laidKinds := [.data, .data, .data, .data, .widerDeep, .pinned], laidTests := true, laidLooks := .later }
def PurgeWiderUptoCardSaid : Prop := Claim7.holds Tryz.pinned (.plain (OpenSpec.upto purgeWiderSpec)) purgeWiderUptoCard

/-- THE SECOND FORM's CARD OF 'quaysidelaw36.PurgeMatches'. -/
def purgeMatchesUptoCard : Claim7 := { stood := { row := purgeMatchesUptoRow, standIns := [], harness := (true, "7e5cd95af1a5d79b3748ecdf05330b322acc87215670a0adf8f1633067613dfd"), looks := true }, kinds := [], alts := [], laidByText := true, laidKinds := [.data, .data, .data, .data, .widerDeep, .pinned], laidTests := true, laidLooks := .later }
def PurgeMatchesUptoCardSaid : Prop := Claim7.holds Tryz.pinned (.plain (OpenSpec.upto purgeMatchesSpec)) purgeMatchesUptoCard

/-- THE SECOND FORM's CARD OF 'quaysidelaw36.PurgeFormats'. -/
def purgeFormatsUptoCard : Claim7 := { stood := { row := purgeFormatsUptoRow, standIns := [], harness := (true, "7e5cd95af1a5d79b3748ecdf05330b322acc87215670a0adf8f1633067613dfd"), looks := true }, kinds := [], alts := [], laidByText := true, laidKinds := [.data, .data, .data, .data, .sentinel, .sentinel, .widerDeep, .pinned], laidTests := true, laidLooks := .later }
def PurgeFormatsUptoCardSaid : Prop := Claim7.holds Tryz.pinned (.plain (OpenSpec.upto purgeFormatsSpec)) purgeFormatsUptoCard

/-- THE SECOND FORM's CARD OF 'quaysidelaw36.PurgeParses'. -/
def purgeParsesUptoCard : Claim7 := { stood := { row := purgeParsesUptoRow, standIns := [], harness := (true, "7e5cd95af1a5d79b3748ecdf05330b322acc87215670a0adf8f1633067613dfd"), looks := true }, kinds := [], alts := [], laidByText := true, laidKinds := [.data, .data, .data, .data, .sentinel, .sentinel, .widerDeep, .pinned], laidTests := true, laidLooks := .later }
def PurgeParsesUptoCardSaid : Prop := Claim7.holds Tryz.pinned (.plain (OpenSpec.upto purgeParsesSpec)) purgeParsesUptoCard
end Rows
end Go.Proofs.YtofancbnaeabhaaGreatDoor
