/-
  DERIVED. GIVEN WITH THE SEED: THE CARDS: each row of YtpmhkkjecapbeaaGreatDoorRows.lean that lists a variable, with what it lists TIED to the program's text (the seventh form; the later family's looks); each row that meets fmt, with fmt's text TOLD by the authors' own Lean function (tested against real Go, not proved from fmt's source: count such statements apart). THE CARD IS WHAT COUNTS. Prove the row's statement (the work); the ties are given (YtpmhkkjecapbeaaGreatDoorTie.lean); close each card by the builder's one call (the guide's Derived/Test/ToyasCard.lean, 'card_holds'). Laid BY PROGRAM, IN A SANDBOX (cutbox-door.mjs). By AI agents, Wed Nov 11 2026. No macro, syntax, notation, axiom, sorry.
-/
import Derived.Test.YtpmhkkjecapbeaaGreatDoorRows
import GoSem.ClaimSeven
namespace Go.Proofs.YtpmhkkjecapbeaaGreatDoor
namespace Rows

/-- THE TIED CARD OF 'quaysidetop.WholeTokens'. -/
def wholeTokensCard : Claim7 := { stood := { row := wholeTokensRow, standIns := [], harness := (true, "93f5614b93273b1e56c62fabc3949f94031f8dd08332b61ffa05bbd122eae1c8"), looks := true }, kinds := [], alts := [], laidByText := true, laidKinds := [.data, .data, .data, .data, .sentinel, .sentinel, .data, .pinned], laidTests := true, laidLooks := .later }
def WholeTokensCardSaid : Prop := Claim7.holds Tryz.pinned (.plain (OpenSpec.ofChange wholeTokensSpec)) wholeTokensCard

/-- THE TIED CARD OF 'quaysidelaw49.SignedSigns'. -/
def signedSignsCard : Claim7 := { stood := { row := signedSignsRow, standIns := [], harness := (true, "93f5614b93273b1e56c62fabc3949f94031f8dd08332b61ffa05bbd122eae1c8"), looks := true }, kinds := [], alts := [], laidByText := true, laidKinds := [.data, .data, .data, .data, .sentinel, .sentinel, .data, .pinned], laidTests := true, laidLooks := .later }
def SignedSignsCardSaid : Prop := Claim7.holds Tryz.pinned (.plain (OpenSpec.ofChange signedSignsSpec)) signedSignsCard

/-- THE TIED CARD OF 'quaysidelaw49.SignedReads'. -/
def signedReadsCard : Claim7 := { stood := { row := signedReadsRow, standIns := [], harness := (true, "93f5614b93273b1e56c62fabc3949f94031f8dd08332b61ffa05bbd122eae1c8"), looks := true }, kinds := [], alts := [], laidByText := true, laidKinds := [.data, .data, .data, .data, .sentinel, .sentinel, .data, .pinned], laidTests := true, laidLooks := .later }
def SignedReadsCardSaid : Prop := Claim7.holds Tryz.pinned (.plain (OpenSpec.ofChange signedReadsSpec)) signedReadsCard

/-- THE TIED CARD OF 'quaysidelaw49.SignedVerifies'. -/
def signedVerifiesCard : Claim7 := { stood := { row := signedVerifiesRow, standIns := [], harness := (true, "93f5614b93273b1e56c62fabc3949f94031f8dd08332b61ffa05bbd122eae1c8"), looks := true }, kinds := [], alts := [], laidByText := true, laidKinds := [.data, .data, .data, .data, .sentinel, .sentinel, .data, .pinned], laidTests := true, laidLooks := .later }
def SignedVerifiesCardSaid : Prop := Claim7.holds Tryz.pinned (.plain (OpenSpec.ofChange signedVerifiesSpec)) signedVerifiesCard

/-- THE TIED CARD OF 'quaysidelaw49.SignedReturns'. -/
def signedReturnsCard : Claim7 := { stood := { row := signedReturnsRow, standIns := [], harness := (true, "93f5614b93273b1e56c62fabc3949f94031f8dd08332b61ffa05bbd122eae1c8"), looks := true }, kinds := [], alts := [], laidByText := true, laidKinds := [.data, .data, .data, .data, .sentinel, .sentinel, .data, .pinned], laidTests := true, laidLooks := .later }
def SignedReturnsCardSaid : Prop := Claim7.holds Tryz.pinned (.plain (OpenSpec.ofChange signedReturnsSpec)) signedReturnsCard

/-- THE TIED CARD OF 'quaysidelaw49.SignedSecrets'. -/
def signedSecretsCard : Claim7 := { stood := { row := signedSecretsRow, standIns := [], harness := (true, "93f5614b93273b1e56c62fabc3949f94031f8dd08332b61ffa05bbd122eae1c8"), looks := true }, kinds := [], alts := [], laidByText := true, laidKinds := [.data, .data, .data, .data, .sentinel, .sentinel, .data, .pinned], laidTests := true, laidLooks := .later }
def SignedSecretsCardSaid : Prop := Claim7.holds Tryz.pinned (.plain (OpenSpec.ofChange signedSecretsSpec)) signedSecretsCard

/-- THE TIED CARD OF 'quaysidelaw49.SignedForgeries'. -/
def signedForgeriesCard : Claim7 := { stood := { row := signedForgeriesRow, standIns := [], harness := (true, "93f5614b93273b1e56c62fabc3949f94031f8dd08332b61ffa05bbd122eae1c8"), looks := true }, kinds := [], alts := [], laidByText := true, laidKinds := [.data, .data, .data, .data, .sentinel, .sentinel, .data, .pinned], laidTests := true, laidLooks := .later }
def SignedForgeriesCardSaid : Prop := Claim7.holds Tryz.pinned (.plain (OpenSpec.ofChange signedForgeriesSpec)) signedForgeriesCard

/-- THE TIED CARD OF 'quaysidelaw50.KeyringVerifies'. -/
def keyringVerifiesCard : Claim7 := { stood := { row := keyringVerifiesRow, standIns := [], harness := (true, "93f5614b93273b1e56c62fabc3949f94031f8dd08332b61ffa05bbd122eae1c8"), looks := true }, kinds := [], alts := [], laidByText := true, laidKinds := [.data, .data, .data, .data, .sentinel, .sentinel, .data, .pinned], laidTests := true, laidLooks := .later }
def KeyringVerifiesCardSaid : Prop := Claim7.holds Tryz.pinned (.plain (OpenSpec.ofChange keyringVerifiesSpec)) keyringVerifiesCard

/-- THE TIED CARD OF 'quaysidelaw50.KeyringSigns'. -/
def keyringSignsCard : Claim7 := { stood := { row := keyringSignsRow, standIns := [], harness := (true, "93f5614b93273b1e56c62fabc3949f94031f8dd08332b61ffa05bbd122eae1c8"), looks := true }, kinds := [], alts := [], laidByText := true, laidKinds := [.data, .data, .data, .data, .sentinel, .sentinel, .data, .pinned], laidTests := true, laidLooks := .later }
def KeyringSignsCardSaid : Prop := Claim7.holds Tryz.pinned (.plain (OpenSpec.ofChange keyringSignsSpec)) keyringSignsCard

/-- THE TIED CARD OF 'quaysidelaw50.KeyringForms'. -/
def keyringFormsCard : Claim7 := { stood := { row := keyringFormsRow, standIns := [], harness := (true, "93f5614b93273b1e56c62fabc3949f94031f8dd08332b61ffa05bbd122eae1c8"), looks := true }, kinds := [], alts := [], laidByText := true, laidKinds := [.data, .data, .data, .data, .sentinel, .sentinel, .data, .pinned], laidTests := true, laidLooks := .later }
def KeyringFormsCardSaid : Prop := Claim7.holds Tryz.pinned (.plain (OpenSpec.ofChange keyringFormsSpec)) keyringFormsCard

/-- THE SECOND FORM's CARD OF 'quaysidetop.WholeTokens'. -/
def wholeTokensUptoCard : Claim7 := { stood := { row := wholeTokensUptoRow, standIns := [], harness := (true, "93f5614b93273b1e56c62fabc3949f94031f8dd08332b61ffa05bbd122eae1c8"), looks := true }, kinds := [], alts := [], laidByText := true, laidKinds := [.data, .data, .data, .data, .sentinel, .sentinel, .data, .pinned], laidTests := true, laidLooks := .later }
def WholeTokensUptoCardSaid : Prop := Claim7.holds Tryz.pinned (.plain (OpenSpec.upto wholeTokensSpec)) wholeTokensUptoCard

/-- THE SECOND FORM's CARD OF 'quaysidelaw49.SignedSigns'. -/
def signedSignsUptoCard : Claim7 := { stood := { row := signedSignsUptoRow, standIns := [], harness := (true, "93f5614b93273b1e56c62fabc3949f94031f8dd08332b61ffa05bbd122eae1c8"), looks := true }, kinds := [], alts := [], laidByText := true, laidKinds := [.data, .data, .data, .data, .sentinel, .sentinel, .data, .pinned], laidTests := true, laidLooks := .later }
def SignedSignsUptoCardSaid : Prop := Claim7.holds Tryz.pinned (.plain (OpenSpec.upto signedSignsSpec)) signedSignsUptoCard

/-- THE SECOND FORM's CARD OF 'quaysidelaw49.SignedReads'. -/
def signedReadsUptoCard : Claim7 := { stood := { row := signedReadsUptoRow, standIns := [], harness := (true, "93f5614b93273b1e56c62fabc3949f94031f8dd08332b61ffa05bbd122eae1c8"), looks := true }, kinds := [], alts := [], laidByText := true, laidKinds := [.data, .data, .data, .data, .sentinel, .sentinel, .data, .pinned], laidTests := true, laidLooks := .later }
def SignedReadsUptoCardSaid : Prop := Claim7.holds Tryz.pinned (.plain (OpenSpec.upto signedReadsSpec)) signedReadsUptoCard

/-- THE SECOND FORM's CARD OF 'quaysidelaw49.SignedVerifies'. -/
def signedVerifiesUptoCard : Claim7 := { stood := { row := signedVerifiesUptoRow, standIns := [], harness := (true, "93f5614b93273b1e56c62fabc3949f94031f8dd08332b61ffa05bbd122eae1c8"), looks := true }, kinds := [], alts := [], laidByText := true, laidKinds := [.data, .data, .data, .data, .sentinel, .sentinel, .data, .pinned], laidTests := true, laidLooks := .later }
def SignedVerifiesUptoCardSaid : Prop := Claim7.holds Tryz.pinned (.plain (OpenSpec.upto signedVerifiesSpec)) signedVerifiesUptoCard

/-- THE SECOND FORM's CARD OF 'quaysidelaw49.SignedReturns'. -/
def signedReturnsUptoCard : Claim7 := { stood := { row := signedReturnsUptoRow, standIns := [], harness := (true, "93f5614b93273b1e56c62fabc3949f94031f8dd08332b61ffa05bbd122eae1c8"), looks := true }, kinds := [], alts := [], laidByText := true, laidKinds := [.data, .data, .data, .data, .sentinel, .sentinel, .data, .pinned], laidTests := true, laidLooks := .later }
def SignedReturnsUptoCardSaid : Prop := Claim7.holds Tryz.pinned (.plain (OpenSpec.upto signedReturnsSpec)) signedReturnsUptoCard

/-- THE SECOND FORM's CARD OF 'quaysidelaw49.SignedSecrets'. -/
def signedSecretsUptoCard : Claim7 := { stood := { row := signedSecretsUptoRow, standIns := [], harness := (true, "93f5614b93273b1e56c62fabc3949f94031f8dd08332b61ffa05bbd122eae1c8"), looks := true }, kinds := [], alts := [], laidByText := true, laidKinds := [.data, .data, .data, .data, .sentinel, .sentinel, .data, .pinned], laidTests := true, laidLooks := .later }
def SignedSecretsUptoCardSaid : Prop := Claim7.holds Tryz.pinned (.plain (OpenSpec.upto signedSecretsSpec)) signedSecretsUptoCard

/-- THE SECOND FORM's CARD OF 'quaysidelaw49.SignedForgeries'. -/
def signedForgeriesUptoCard : Claim7 := { stood := { row := signedForgeriesUptoRow, standIns := [], harness := (true, "93f5614b93273b1e56c62fabc3949f94031f8dd08332b61ffa05bbd122eae1c8"), looks := true }, kinds := [], alts := [], laidByText := true, laidKinds := [.data, .data, .data, .data, .sentinel, .sentinel, .data, .pinned], laidTests := true, laidLooks := .later }
def SignedForgeriesUptoCardSaid : Prop := Claim7.holds Tryz.pinned (.plain (OpenSpec.upto signedForgeriesSpec)) signedForgeriesUptoCard

/-- THE SECOND FORM's CARD OF 'quaysidelaw50.KeyringVerifies'. -/
def keyringVerifiesUptoCard : Claim7 := { stood := { row := keyringVerifiesUptoRow, standIns := [], harness := (true, "93f5614b93273b1e56c62fabc3949f94031f8dd08332b61ffa05bbd122eae1c8"), looks := true }, kinds := [], alts := [], laidByText := true, laidKinds := [.data, .data, .data, .data, .sentinel, .sentinel, .data, .pinned], laidTests := true, laidLooks := .later }
def KeyringVerifiesUptoCardSaid : Prop := Claim7.holds Tryz.pinned (.plain (OpenSpec.upto keyringVerifiesSpec)) keyringVerifiesUptoCard

/-- THE SECOND FORM's CARD OF 'quaysidelaw50.KeyringSigns'. -/
def keyringSignsUptoCard : Claim7 := { stood := { row := keyringSignsUptoRow, standIns := [], harness := (true, "93f5614b93273b1e56c62fabc3949f94031f8dd08332b61ffa05bbd122eae1c8"), looks := true }, kinds := [], alts := [], laidByText := true, laidKinds := [.data, .data, .data, .data, .sentinel, .sentinel, .data, .pinned], laidTests := true, laidLooks := .later }
def KeyringSignsUptoCardSaid : Prop := Claim7.holds Tryz.pinned (.plain (OpenSpec.upto keyringSignsSpec)) keyringSignsUptoCard

/-- THE SECOND FORM's CARD OF 'quaysidelaw50.KeyringForms'. -/
def keyringFormsUptoCard : Claim7 := { stood := { row := keyringFormsUptoRow, standIns := [], harness := (true, "93f5614b93273b1e56c62fabc3949f94031f8dd08332b61ffa05bbd122eae1c8"), looks := true }, kinds := [], alts := [], laidByText := true, laidKinds := [.data, .data, .data, .data, .sentinel, .sentinel, .data, .pinned], laidTests := true, laidLooks := .later }
def KeyringFormsUptoCardSaid : Prop := Claim7.holds Tryz.pinned (.plain (OpenSpec.upto keyringFormsSpec)) keyringFormsUptoCard
end Rows
end Go.Proofs.YtpmhkkjecapbeaaGreatDoor
