/-
  DERIVED. GIVEN WITH THE SEED: THE CARDS: each row of YtijjggbiljkalaaGreatDoorRows.lean that lists a variable, with what it lists TIED to the program's text (the seventh form; the later family's looks); each row that meets fmt, with fmt's text TOLD by the authors' own Lean function (tested against real Go, not proved from fmt's source: count such statements apart). THE CARD IS WHAT COUNTS. Prove the row's statement (the work); the ties are given (YtijjggbiljkalaaGreatDoorTie.lean); close each card by the builder's one call (the guide's Derived/Test/ToyasCard.lean, 'card_holds'). Laid BY PROGRAM, IN A SANDBOX (cutbox-door.mjs). By AI agents, Wed Nov 11 2026. No macro, syntax, notation, axiom, sorry.
-/
import Derived.Test.YtijjggbiljkalaaGreatDoorRows
import GoSem.ClaimSeven
namespace Go.Proofs.YtijjggbiljkalaaGreatDoor
namespace Rows

/-- THE TIED CARD OF 'quaysidelaw37.PurgelogCovers'. -/
def purgelogCoversCard : Claim7 := { stood := { row := purgelogCoversRow, standIns := [], harness := (true, "d50a2eb7f94cff6f3d76b56df803481d07c2b5d778246939a9a78861a18ce70f"), looks := true }, kinds := [], alts := [], laidByText := true, laidKinds := [.data, .pinned], laidTests := true, laidLooks := .later }
def PurgelogCoversCardSaid : Prop := Claim7.holds Tryz.pinned (.plain (OpenSpec.ofChange purgelogCoversSpec)) purgelogCoversCard

/-- THE TIED CARD OF 'quaysidelaw38.GatePlays'. -/
def gatePlaysCard : Claim7 := { stood := { row := gatePlaysRow, standIns := [], harness := (true, "d50a2eb7f94cff6f3d76b56df803481d07c2b5d778246939a9a78861a18ce70f"), looks := true }, kinds := [], alts := [], laidByText := true, laidKinds := [.data, .pinned], laidTests := true, laidLooks := .later }
def GatePlaysCardSaid : Prop := Claim7.holds Tryz.pinned (.plain (OpenSpec.ofChange gatePlaysSpec)) gatePlaysCard

/-- THE TIED CARD OF 'quaysidelaw38.GateAccepts'. -/
def gateAcceptsCard : Claim7 := { stood := { row := gateAcceptsRow, standIns := [], harness := (true, "d50a2eb7f94cff6f3d76b56df803481d07c2b5d778246939a9a78861a18ce70f"), looks := true }, kinds := [], alts := [], laidByText := true, laidKinds := [.data, .pinned], laidTests := true, laidLooks := .later }
def GateAcceptsCardSaid : Prop := Claim7.holds Tryz.pinned (.plain (OpenSpec.ofChange gateAcceptsSpec)) gateAcceptsCard

/-- THE SECOND FORM's CARD OF 'quaysidelaw37.PurgelogCovers'. -/
def purgelogCoversUptoCard : Claim7 := { stood := { row := purgelogCoversUptoRow, standIns := [], harness := (true, "d50a2eb7f94cff6f3d76b56df803481d07c2b5d778246939a9a78861a18ce70f"), looks := true }, kinds := [], alts := [], laidByText := true, laidKinds := [.data, .pinned], laidTests := true, laidLooks := .later }
def PurgelogCoversUptoCardSaid : Prop := Claim7.holds Tryz.pinned (.plain (OpenSpec.upto purgelogCoversSpec)) purgelogCoversUptoCard

/-- THE SECOND FORM's CARD OF 'quaysidelaw38.GatePlays'. -/
def gatePlaysUptoCard : Claim7 := { stood := { row := gatePlaysUptoRow, standIns := [], harness := (true, "d50a2eb7f94cff6f3d76b56df803481d07c2b5d778246939a9a78861a18ce70f"), looks := true }, kinds := [], alts := [], laidByText := true, laidKinds := [.data, .pinned], laidTests := true, laidLooks := .later }
def GatePlaysUptoCardSaid : Prop := Claim7.holds Tryz.pinned (.plain (OpenSpec.upto gatePlaysSpec)) gatePlaysUptoCard

/-- THE SECOND FORM's CARD OF 'quaysidelaw38.GateAccepts'. -/
def gateAcceptsUptoCard : Claim7 := { stood := { row := gateAcceptsUptoRow, standIns := [], harness := (true, "d50a2eb7f94cff6f3d76b56df803481d07c2b5d778246939a9a78861a18ce70f"), looks := true }, kinds := [], alts := [], laidByText := true, laidKinds := [.data, .pinned], laidTests := true, laidLooks := .later }
def GateAcceptsUptoCardSaid : Prop := Claim7.holds Tryz.pinned (.plain (OpenSpec.upto gateAcceptsSpec)) gateAcceptsUptoCard
end Rows
end Go.Proofs.YtijjggbiljkalaaGreatDoor
