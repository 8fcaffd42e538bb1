/-
  DERIVED. GIVEN WITH THE SEED: THE CARDS: each row of YtbpbopjlcidefaaDoorRows.lean that lists a variable, with what it lists TIED to the program's text (the seventh form; the later family's looks); each row that meets fmt, with fmt's text TOLD by the authors' own Lean function (tested against real Go, not proved from fmt's source: count such statements apart). THE CARD IS WHAT COUNTS. Prove the row's statement (the work); the ties are given (YtbpbopjlcidefaaDoorTie.lean); close each card by the builder's one call (the guide's Derived/Test/ToyasCard.lean, 'card_holds'). Laid BY PROGRAM, IN A SANDBOX (cutbox-door.mjs). By AI agents, Wed Nov 11 2026. No macro, syntax, notation, axiom, sorry.
-/
import Derived.Test.YtbpbopjlcidefaaDoorRows
import GoSem.ClaimSeven
namespace Go.Proofs.YtbpbopjlcidefaaDoor
namespace Rows

/-- THE TIED CARD OF 'quaysidelaw50.KeyringRotates'. -/
def keyringRotatesCard : Claim7 := { stood := { row := keyringRotatesRow, standIns := [], harness := (true, "c61d596a996ba1bda47266f171efc8433630c895528bfd07ca9fd90a1a43e427"), looks := true }, kinds := [], alts := [], laidByText := true, laidKinds := [.data, .data, .data], laidTests := true, laidLooks := .later }
def KeyringRotatesCardSaid : Prop := Claim7.holds Tryd.pinned (.plain (OpenSpec.ofChange keyringRotatesSpec)) keyringRotatesCard

/-- THE TIED CARD OF 'quaysidelaw50.KeyringPlays'. -/
def keyringPlaysCard : Claim7 := { stood := { row := keyringPlaysRow, standIns := [], harness := (true, "c61d596a996ba1bda47266f171efc8433630c895528bfd07ca9fd90a1a43e427"), looks := true }, kinds := [], alts := [], laidByText := true, laidKinds := [.data, .data, .data], laidTests := true, laidLooks := .later }
def KeyringPlaysCardSaid : Prop := Claim7.holds Tryd.pinned (.plain (OpenSpec.ofChange keyringPlaysSpec)) keyringPlaysCard

/-- THE TIED CARD OF 'quaysidelaw50.KeyringTenants'. -/
def keyringTenantsCard : Claim7 := { stood := { row := keyringTenantsRow, standIns := [], harness := (true, "c61d596a996ba1bda47266f171efc8433630c895528bfd07ca9fd90a1a43e427"), looks := true }, kinds := [], alts := [], laidByText := true, laidKinds := [.data, .data, .data], laidTests := true, laidLooks := .later }
def KeyringTenantsCardSaid : Prop := Claim7.holds Tryd.pinned (.plain (OpenSpec.ofChange keyringTenantsSpec)) keyringTenantsCard

/-- THE SECOND FORM's CARD OF 'quaysidelaw50.KeyringRotates'. -/
def keyringRotatesUptoCard : Claim7 := { stood := { row := keyringRotatesUptoRow, standIns := [], harness := (true, "c61d596a996ba1bda47266f171efc8433630c895528bfd07ca9fd90a1a43e427"), looks := true }, kinds := [], alts := [], laidByText := true, laidKinds := [.data, .data, .data], laidTests := true, laidLooks := .later }
def KeyringRotatesUptoCardSaid : Prop := Claim7.holds Tryd.pinned (.plain (OpenSpec.upto keyringRotatesSpec)) keyringRotatesUptoCard

/-- THE SECOND FORM's CARD OF 'quaysidelaw50.KeyringPlays'. -/
def keyringPlaysUptoCard : Claim7 := { stood := { row := keyringPlaysUptoRow, standIns := [], harness := (true, "c61d596a996ba1bda47266f171efc8433630c895528bfd07ca9fd90a1a43e427"), looks := true }, kinds := [], alts := [], laidByText := true, laidKinds := [.data, .data, .data], laidTests := true, laidLooks := .later }
def KeyringPlaysUptoCardSaid : Prop := Claim7.holds Tryd.pinned (.plain (OpenSpec.upto keyringPlaysSpec)) keyringPlaysUptoCard

/-- THE SECOND FORM's CARD OF 'quaysidelaw50.KeyringTenants'. -/
def keyringTenantsUptoCard : Claim7 := { stood := { row := keyringTenantsUptoRow, standIns := [], harness := (true, "c61d596a996ba1bda47266f171efc8433630c895528bfd07ca9fd90a1a43e427"), looks := true }, kinds := [], alts := [], laidByText := true, laidKinds := [.data, .data, .data], laidTests := true, laidLooks := .later }
def KeyringTenantsUptoCardSaid : Prop := Claim7.holds Tryd.pinned (.plain (OpenSpec.upto keyringTenantsSpec)) keyringTenantsUptoCard
end Rows
end Go.Proofs.YtbpbopjlcidefaaDoor
