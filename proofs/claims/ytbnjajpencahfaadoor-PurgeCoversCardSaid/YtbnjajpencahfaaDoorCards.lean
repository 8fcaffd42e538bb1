/-
  DERIVED. GIVEN WITH THE SEED: THE CARDS: each row of YtbnjajpencahfaaDoorRows.lean that lists a variable, with what it lists TIED to the program's text (the seventh form; the later family's looks); each row that meets fmt, with fmt's text TOLD by the authors' own Lean function (tested against real Go, not proved from fmt's source: count such statements apart). THE CARD IS WHAT COUNTS. Prove the row's statement (the work); the ties are given (YtbnjajpencahfaaDoorTie.lean); close each card by the builder's one call (the guide's Derived/Test/ToyasCard.lean, 'card_holds'). Laid BY PROGRAM, IN A SANDBOX (cutbox-door.mjs). By AI agents, Wed Nov 11 2026. No macro, syntax, notation, axiom, sorry.
-/
import Derived.Test.YtbnjajpencahfaaDoorRows
import GoSem.ClaimSeven
namespace Go.Proofs.YtbnjajpencahfaaDoor
namespace Rows

/-- THE TIED CARD OF 'quaysidelaw36.PurgeTenants'. -/
def purgeTenantsCard : Claim7 := { stood := { row := purgeTenantsRow, standIns := [], harness := (true, "ab9c36242bc16e72414bbb4c50c3a400d1bb1bba134fda6edec95857eeba5455"), looks := false }, kinds := [], alts := [], laidByText := true, laidKinds := [.data, .data, .data, .data, .widerDeep, .pinned], laidTests := true, laidLooks := .later }
def PurgeTenantsCardSaid : Prop := Claim7.holds Tryd.pinned (.plain (OpenSpec.ofChange purgeTenantsSpec)) purgeTenantsCard

/-- THE TIED CARD OF 'quaysidelaw36.PurgeCovers'. -/
def purgeCoversCard : Claim7 := { stood := { row := purgeCoversRow, standIns := [], harness := (true, "ab9c36242bc16e72414bbb4c50c3a400d1bb1bba134fda6edec95857eeba5455"), looks := false }, kinds := [], alts := [], laidByText := true, laidKinds := [.data, .data, .data, .data, .widerDeep, .pinned], laidTests := true, laidLooks := .later }
def PurgeCoversCardSaid : Prop := Claim7.holds Tryd.pinned (.plain (OpenSpec.ofChange purgeCoversSpec)) purgeCoversCard

/-- THE SECOND FORM's CARD OF 'quaysidelaw36.PurgeTenants'. -/
def purgeTenantsUptoCard : Claim7 := { stood := { row := purgeTenantsUptoRow, standIns := [], harness := (true, "ab9c36242bc16e72414bbb4c50c3a400d1bb1bba134fda6edec95857eeba5455"), looks := false }, kinds := [], alts := [], laidByText := true, laidKinds := [.data, .data, .data, .data, .widerDeep, .pinned], laidTests := true, laidLooks := .later }
def PurgeTenantsUptoCardSaid : Prop := Claim7.holds Tryd.pinned (.plain (OpenSpec.upto purgeTenantsSpec)) purgeTenantsUptoCard

/-- THE SECOND FORM's CARD OF 'quaysidelaw36.PurgeCovers'. -/
def purgeCoversUptoCard : Claim7 := { stood := { row := purgeCoversUptoRow, standIns := [], harness := (true, "ab9c36242bc16e72414bbb4c50c3a400d1bb1bba134fda6edec95857eeba5455"), looks := false }, kinds := [], alts := [], laidByText := true, laidKinds := [.data, .data, .data, .data, .widerDeep, .pinned], laidTests := true, laidLooks := .later }
def PurgeCoversUptoCardSaid : Prop := Claim7.holds Tryd.pinned (.plain (OpenSpec.upto purgeCoversSpec)) purgeCoversUptoCard
end Rows
end Go.Proofs.YtbnjajpencahfaaDoor
