/-
  DERIVED. GIVEN WITH THE SEED: THE CARDS: each row of YthbjpekgiiflkaaDoorRows.lean that lists a variable, with what it lists TIED to the program's text (the seventh form; the later family's looks); each row that meets fmt, with fmt's text TOLD by the authors' own Lean function (tested against real Go, not proved from fmt's source: count such statements apart). THE CARD IS WHAT COUNTS. Prove the row's statement (the work); the ties are given (YthbjpekgiiflkaaDoorTie.lean); close each card by the builder's one call (the guide's Derived/Test/ToyasCard.lean, 'card_holds'). Laid BY PROGRAM, IN A SANDBOX (cutbox-door.mjs). By AI agents, Wed Nov 11 2026. No macro, syntax, notation, axiom, sorry.
-/
import Derived.Test.YthbjpekgiiflkaaDoorRows
import GoSem.ClaimSeven
namespace Go.Proofs.YthbjpekgiiflkaaDoor
namespace Rows

/-- THE TIED CARD OF 'quaysidelaw03.AddressHosts'. -/
def addressHostsCard : Claim7 := { stood := { row := addressHostsRow, standIns := [], harness := (true, "12e69516bd255e953295af8a6f75ed25c9a8855bcd34b3124eb839a507c37a2a"), looks := true }, kinds := [], alts := [], laidByText := true, laidKinds := [.data, .pinned], laidTests := true, laidLooks := .later }
def AddressHostsCardSaid : Prop := Claim7.holds Tryd.pinned (.plain (OpenSpec.ofChange addressHostsSpec)) addressHostsCard

/-- THE TIED CARD OF 'quaysidelaw03.AddressEquals'. -/
def addressEqualsCard : Claim7 := { stood := { row := addressEqualsRow, standIns := [], harness := (true, "12e69516bd255e953295af8a6f75ed25c9a8855bcd34b3124eb839a507c37a2a"), looks := true }, kinds := [], alts := [], laidByText := true, laidKinds := [.data, .pinned], laidTests := true, laidLooks := .later }
def AddressEqualsCardSaid : Prop := Claim7.holds Tryd.pinned (.plain (OpenSpec.ofChange addressEqualsSpec)) addressEqualsCard

/-- THE TIED CARD OF 'quaysidelaw03.AddressParses'. -/
def addressParsesCard : Claim7 := { stood := { row := addressParsesRow, standIns := [], harness := (true, "12e69516bd255e953295af8a6f75ed25c9a8855bcd34b3124eb839a507c37a2a"), looks := true }, kinds := [], alts := [], laidByText := true, laidKinds := [.data, .pinned], laidTests := true, laidLooks := .later }
def AddressParsesCardSaid : Prop := Claim7.holds Tryd.pinned (.plain (OpenSpec.ofChange addressParsesSpec)) addressParsesCard

/-- THE TIED CARD OF 'quaysidelaw03.AddressFormats'. -/
def addressFormatsCard : Claim7 := { stood := { row := addressFormatsRow, standIns := [], harness := (true, "12e69516bd255e953295af8a6f75ed25c9a8855bcd34b3124eb839a507c37a2a"), looks := true }, kinds := [], alts := [], laidByText := true, laidKinds := [.data, .pinned], laidTests := true, laidLooks := .later }
def AddressFormatsCardSaid : Prop := Claim7.holds Tryd.pinned (.plain (OpenSpec.ofChange addressFormatsSpec)) addressFormatsCard

/-- THE TIED CARD OF 'quaysidelaw03.AddressUnder'. -/
def addressUnderCard : Claim7 := { stood := { row := addressUnderRow, standIns := [], harness := (true, "12e69516bd255e953295af8a6f75ed25c9a8855bcd34b3124eb839a507c37a2a"), looks := true }, kinds := [], alts := [], laidByText := true, laidKinds := [.data, .pinned], laidTests := true, laidLooks := .later }
def AddressUnderCardSaid : Prop := Claim7.holds Tryd.pinned (.plain (OpenSpec.ofChange addressUnderSpec)) addressUnderCard

/-- THE TIED CARD OF 'quaysidelaw03.AddressSegments'. -/
def addressSegmentsCard : Claim7 := { stood := { row := addressSegmentsRow, standIns := [], harness := (true, "12e69516bd255e953295af8a6f75ed25c9a8855bcd34b3124eb839a507c37a2a"), looks := true }, kinds := [], alts := [], laidByText := true, laidKinds := [.data, .pinned], laidTests := true, laidLooks := .later }
def AddressSegmentsCardSaid : Prop := Claim7.holds Tryd.pinned (.plain (OpenSpec.ofChange addressSegmentsSpec)) addressSegmentsCard

/-- THE TIED CARD OF 'quaysidelaw03.AddressArgs'. -/
def addressArgsCard : Claim7 := { stood := { row := addressArgsRow, standIns := [], harness := (true, "12e69516bd255e953295af8a6f75ed25c9a8855bcd34b3124eb839a507c37a2a"), looks := true }, kinds := [], alts := [], laidByText := true, laidKinds := [.data, .pinned], laidTests := true, laidLooks := .later }
def AddressArgsCardSaid : Prop := Claim7.holds Tryd.pinned (.plain (OpenSpec.ofChange addressArgsSpec)) addressArgsCard

/-- THE TIED CARD OF 'quaysidelaw03.AddressReads'. -/
def addressReadsCard : Claim7 := { stood := { row := addressReadsRow, standIns := [], harness := (true, "12e69516bd255e953295af8a6f75ed25c9a8855bcd34b3124eb839a507c37a2a"), looks := true }, kinds := [], alts := [], laidByText := true, laidKinds := [.data, .pinned], laidTests := true, laidLooks := .later }
def AddressReadsCardSaid : Prop := Claim7.holds Tryd.pinned (.plain (OpenSpec.ofChange addressReadsSpec)) addressReadsCard

/-- THE TIED CARD OF 'quaysidelaw03.AddressReturns'. -/
def addressReturnsCard : Claim7 := { stood := { row := addressReturnsRow, standIns := [], harness := (true, "12e69516bd255e953295af8a6f75ed25c9a8855bcd34b3124eb839a507c37a2a"), looks := true }, kinds := [], alts := [], laidByText := true, laidKinds := [.data, .pinned], laidTests := true, laidLooks := .later }
def AddressReturnsCardSaid : Prop := Claim7.holds Tryd.pinned (.plain (OpenSpec.ofChange addressReturnsSpec)) addressReturnsCard

/-- THE SECOND FORM's CARD OF 'quaysidelaw03.AddressHosts'. -/
def addressHostsUptoCard : Claim7 := { stood := { row := addressHostsUptoRow, standIns := [], harness := (true, "12e69516bd255e953295af8a6f75ed25c9a8855bcd34b3124eb839a507c37a2a"), looks := true }, kinds := [], alts := [], laidByText := true, laidKinds := [.data, .pinned], laidTests := true, laidLooks := .later }
def AddressHostsUptoCardSaid : Prop := Claim7.holds Tryd.pinned (.plain (OpenSpec.upto addressHostsSpec)) addressHostsUptoCard

/-- THE SECOND FORM's CARD OF 'quaysidelaw03.AddressEquals'. -/
def addressEqualsUptoCard : Claim7 := { stood := { row := addressEqualsUptoRow, standIns := [], harness := (true, "12e69516bd255e953295af8a6f75ed25c9a8855bcd34b3124eb839a507c37a2a"), looks := true }, kinds := [], alts := [], laidByText := true, laidKinds := [.data, .pinned], laidTests := true, laidLooks := .later }
def AddressEqualsUptoCardSaid : Prop := Claim7.holds Tryd.pinned (.plain (OpenSpec.upto addressEqualsSpec)) addressEqualsUptoCard

/-- THE SECOND FORM's CARD OF 'quaysidelaw03.AddressParses'. -/
def addressParsesUptoCard : Claim7 := { stood := { row := addressParsesUptoRow, standIns := [], harness := (true, "12e69516bd255e953295af8a6f75ed25c9a8855bcd34b3124eb839a507c37a2a"), looks := true }, kinds := [], alts := [], laidByText := true, laidKinds := [.data, .pinned], laidTests := true, laidLooks := .later }
def AddressParsesUptoCardSaid : Prop := Claim7.holds Tryd.pinned (.plain (OpenSpec.upto addressParsesSpec)) addressParsesUptoCard

/-- THE SECOND FORM's CARD OF 'quaysidelaw03.AddressFormats'. -/
def addressFormatsUptoCard : Claim7 := { stood := { row := addressFormatsUptoRow, standIns := [], harness := (true, "12e69516bd255e953295af8a6f75ed25c9a8855bcd34b3124eb839a507c37a2a"), looks := true }, kinds := [], alts := [], laidByText := true, laidKinds := [.data, .pinned], laidTests := true, laidLooks := .later }
def AddressFormatsUptoCardSaid : Prop := Claim7.holds Tryd.pinned (.plain (OpenSpec.upto addressFormatsSpec)) addressFormatsUptoCard

/-- THE SECOND FORM's CARD OF 'quaysidelaw03.AddressUnder'. -/
def addressUnderUptoCard : Claim7 := { stood := { row := addressUnderUptoRow, standIns := [], harness := (true, "12e69516bd255e953295af8a6f75ed25c9a8855bcd34b3124eb839a507c37a2a"), looks := true }, kinds := [], alts := [], laidByText := true, laidKinds := [.data, .pinned], laidTests := true, laidLooks := .later }
def AddressUnderUptoCardSaid : Prop := Claim7.holds Tryd.pinned (.plain (OpenSpec.upto addressUnderSpec)) addressUnderUptoCard

/-- THE SECOND FORM's CARD OF 'quaysidelaw03.AddressSegments'. -/
def addressSegmentsUptoCard : Claim7 := { stood := { row := addressSegmentsUptoRow, standIns := [], harness := (true, "12e69516bd255e953295af8a6f75ed25c9a8855bcd34b3124eb839a507c37a2a"), looks := true }, kinds := [], alts := [], laidByText := true, laidKinds := [.data, .pinned], laidTests := true, laidLooks := .later }
def AddressSegmentsUptoCardSaid : Prop := Claim7.holds Tryd.pinned (.plain (OpenSpec.upto addressSegmentsSpec)) addressSegmentsUptoCard

/-- THE SECOND FORM's CARD OF 'quaysidelaw03.AddressArgs'. -/
def addressArgsUptoCard : Claim7 := { stood := { row := addressArgsUptoRow, standIns := [], harness := (true, "12e69516bd255e953295af8a6f75ed25c9a8855bcd34b3124eb839a507c37a2a"), looks := true }, kinds := [], alts := [], laidByText := true, laidKinds := [.data, .pinned], laidTests := true, laidLooks := .later }
def AddressArgsUptoCardSaid : Prop := Claim7.holds Tryd.pinned (.plain (OpenSpec.upto addressArgsSpec)) addressArgsUptoCard

/-- THE SECOND FORM's CARD OF 'quaysidelaw03.AddressReads'. -/
def addressReadsUptoCard : Claim7 := { stood := { row := addressReadsUptoRow, standIns := [], harness := (true, "12e69516bd255e953295af8a6f75ed25c9a8855bcd34b3124eb839a507c37a2a"), looks := true }, kinds := [], alts := [], laidByText := true, laidKinds := [.data, .pinned], laidTests := true, laidLooks := .later }
def AddressReadsUptoCardSaid : Prop := Claim7.holds Tryd.pinned (.plain (OpenSpec.upto addressReadsSpec)) addressReadsUptoCard

/-- THE SECOND FORM's CARD OF 'quaysidelaw03.AddressReturns'. -/
def addressReturnsUptoCard : Claim7 := { stood := { row := addressReturnsUptoRow, standIns := [], harness := (true, "12e69516bd255e953295af8a6f75ed25c9a8855bcd34b3124eb839a507c37a2a"), looks := true }, kinds := [], alts := [], laidByText := true, laidKinds := [.data, .pinned], laidTests := true, laidLooks := .later }
def AddressReturnsUptoCardSaid : Prop := Claim7.holds Tryd.pinned (.plain (OpenSpec.upto addressReturnsSpec)) addressReturnsUptoCard
end Rows
end Go.Proofs.YthbjpekgiiflkaaDoor
