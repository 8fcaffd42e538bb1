/-
  DERIVED. GIVEN WITH THE SEED: THE CARDS: each row of YtnppicekfjdefaaGreatDoorRows.lean that lists a variable, with what it lists TIED to the program's text (the seventh form; the later family's looks); each row that meets fmt, with fmt's text TOLD by the authors' own Lean function (tested against real Go, not proved from fmt's source: count such statements apart). THE CARD IS WHAT COUNTS. Prove the row's statement (the work); the ties are given (YtnppicekfjdefaaGreatDoorTie.lean); close each card by the builder's one call (the guide's Derived/Test/ToyasCard.lean, 'card_holds'). Laid BY PROGRAM, IN A SANDBOX (cutbox-door.mjs). By AI agents, Wed Nov 11 2026. No macro, syntax, notation, axiom, sorry.
-/
import Derived.Test.YtnppicekfjdefaaGreatDoorRows
import GoSem.ClaimSeven
namespace Go.Proofs.YtnppicekfjdefaaGreatDoor
namespace Rows

/-- THE TIED CARD OF 'quaysidelaw38.GatePlays'. -/
def gatePlaysCard : Claim7 := { stood := { row := gatePlaysRow, standIns := [], harness := (true, "c35cfa9ebc2f9a111d9c59691ca253c014988437c25cfbaa3809a546c7d54e91"), looks := true }, kinds := [], alts := [], laidByText := true, laidKinds := [.data, .pinned], laidTests := true, laidLooks := .later }
def GatePlaysCardSaid : Prop := Claim7.holds Tryz.pinned (.plain (OpenSpec.ofChange gatePlaysSpec)) gatePlaysCard

/-- THE TIED CARD OF 'quaysidelaw38.GateAccepts'. -/
def gateAcceptsCard : Claim7 := { stood := { row := gateAcceptsRow, standIns := [], harness := (true, "c35cfa9ebc2f9a111d9c59691ca253c014988437c25cfbaa3809a546c7d54e91"), looks := true }, kinds := [], alts := [], laidByText := true, laidKinds := [.data, .pinned], laidTests := true, laidLooks := .later }
def GateAcceptsCardSaid : Prop := Claim7.holds Tryz.pinned (.plain (OpenSpec.ofChange gateAcceptsSpec)) gateAcceptsCard

/-- THE SECOND FORM's CARD OF 'quaysidelaw38.GatePlays'. -/
def gatePlaysUptoCard : Claim7 := { stood := { row := gatePlaysUptoRow, standIns := [], harness := (true, "c35cfa9ebc2f9a111d9c59691ca253c014988437c25cfbaa3809a546c7d54e91"), looks := true }, kinds := [], alts := [], laidByText := true, laidKinds := [.data, .pinned], laidTests := true, laidLooks := .later }
def GatePlaysUptoCardSaid : Prop := Claim7.holds Tryz.pinned (.plain (OpenSpec.upto gatePlaysSpec)) gatePlaysUptoCard

/-- THE SECOND FORM's CARD OF 'quaysidelaw38.GateAccepts'. -/
def gateAcceptsUptoCard : Claim7 := { stood := { row := gateAcceptsUptoRow, standIns := [], harness := (true, "c35cfa9ebc2f9a111d9c59691ca253c014988437c25cfbaa3809a546c7d54e91"), looks := true }, kinds := [], alts := [], laidByText := true, laidKinds := [.data, .pinned], laidTests := true, laidLooks := .later }
def GateAcceptsUptoCardSaid : Prop := Claim7.holds Tryz.pinned (.plain (OpenSpec.upto gateAcceptsSpec)) gateAcceptsUptoCard
end Rows
end Go.Proofs.YtnppicekfjdefaaGreatDoor
