/-
  DERIVED. GIVEN WITH THE SEED: THE CARDS: each row of YtnppicekfjdefaaDoorRows.lean that lists a variable, with what it lists TIED to the program's text (the seventh form; the later family's looks); each row that meets fmt, with fmt's text TOLD by the authors' own Lean function (tested against real Go, not proved from fmt's source: count such statements apart). THE CARD IS WHAT COUNTS. Prove the row's statement (the work); the ties are given (YtnppicekfjdefaaDoorTie.lean); close each card by the builder's one call (the guide's Derived/Test/ToyasCard.lean, 'card_holds'). Laid BY PROGRAM, IN A SANDBOX (cutbox-door.mjs). By AI agents, Wed Nov 11 2026. No macro, syntax, notation, axiom, sorry.
-/
import Derived.Test.YtnppicekfjdefaaDoorRows
import GoSem.ClaimSeven
namespace Go.Proofs.YtnppicekfjdefaaDoor
namespace Rows

/-- THE TIED CARD OF 'quaysidelaw38.GateSafe'. -/
def gateSafeCard : Claim7 := { stood := { row := gateSafeRow, standIns := [], harness := (true, "6992cee456ba6ebf6dc420db7d55ae7a86b01f881db042c16a7310acb2dcc7d0"), looks := true }, kinds := [], alts := [], laidByText := true, laidKinds := [.data, .pinned], laidTests := true, laidLooks := .later }
def GateSafeCardSaid : Prop := Claim7.holds Tryd.pinned (.plain (OpenSpec.ofChange gateSafeSpec)) gateSafeCard

/-- THE TIED CARD OF 'quaysidelaw38.GateGrows'. -/
def gateGrowsCard : Claim7 := { stood := { row := gateGrowsRow, standIns := [], harness := (true, "6992cee456ba6ebf6dc420db7d55ae7a86b01f881db042c16a7310acb2dcc7d0"), looks := true }, kinds := [], alts := [], laidByText := true, laidKinds := [.data, .pinned], laidTests := true, laidLooks := .later }
def GateGrowsCardSaid : Prop := Claim7.holds Tryd.pinned (.plain (OpenSpec.ofChange gateGrowsSpec)) gateGrowsCard

/-- THE TIED CARD OF 'quaysidelaw38.GateGathers'. -/
def gateGathersCard : Claim7 := { stood := { row := gateGathersRow, standIns := [], harness := (true, "6992cee456ba6ebf6dc420db7d55ae7a86b01f881db042c16a7310acb2dcc7d0"), looks := true }, kinds := [], alts := [], laidByText := true, laidKinds := [.data, .pinned], laidTests := true, laidLooks := .later }
def GateGathersCardSaid : Prop := Claim7.holds Tryd.pinned (.plain (OpenSpec.ofChange gateGathersSpec)) gateGathersCard

/-- THE SECOND FORM's CARD OF 'quaysidelaw38.GateSafe'. -/
def gateSafeUptoCard : Claim7 := { stood := { row := gateSafeUptoRow, standIns := [], harness := (true, "6992cee456ba6ebf6dc420db7d55ae7a86b01f881db042c16a7310acb2dcc7d0"), looks := true }, kinds := [], alts := [], laidByText := true, laidKinds := [.data, .pinned], laidTests := true, laidLooks := .later }
def GateSafeUptoCardSaid : Prop := Claim7.holds Tryd.pinned (.plain (OpenSpec.upto gateSafeSpec)) gateSafeUptoCard

/-- THE SECOND FORM's CARD OF 'quaysidelaw38.GateGrows'. -/
def gateGrowsUptoCard : Claim7 := { stood := { row := gateGrowsUptoRow, standIns := [], harness := (true, "6992cee456ba6ebf6dc420db7d55ae7a86b01f881db042c16a7310acb2dcc7d0"), looks := true }, kinds := [], alts := [], laidByText := true, laidKinds := [.data, .pinned], laidTests := true, laidLooks := .later }
def GateGrowsUptoCardSaid : Prop := Claim7.holds Tryd.pinned (.plain (OpenSpec.upto gateGrowsSpec)) gateGrowsUptoCard

/-- THE SECOND FORM's CARD OF 'quaysidelaw38.GateGathers'. -/
def gateGathersUptoCard : Claim7 := { stood := { row := gateGathersUptoRow, standIns := [], harness := (true, "6992cee456ba6ebf6dc420db7d55ae7a86b01f881db042c16a7310acb2dcc7d0"), looks := true }, kinds := [], alts := [], laidByText := true, laidKinds := [.data, .pinned], laidTests := true, laidLooks := .later }
def GateGathersUptoCardSaid : Prop := Claim7.holds Tryd.pinned (.plain (OpenSpec.upto gateGathersSpec)) gateGathersUptoCard
end Rows
end Go.Proofs.YtnppicekfjdefaaDoor
