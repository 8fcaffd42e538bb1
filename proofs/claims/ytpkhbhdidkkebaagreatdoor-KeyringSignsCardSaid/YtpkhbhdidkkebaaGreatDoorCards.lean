/-
  DERIVED. GIVEN WITH THE SEED: THE CARDS: each row of YtpkhbhdidkkebaaGreatDoorRows.lean that lists a variable, with what it lists TIED to the program's text (the seventh form; the later family's looks); each row that meets fmt, with fmt's text TOLD by the authors' own Lean function (tested against real Go, not proved from fmt's source: count such statements apart). THE CARD IS WHAT COUNTS. Prove the row's statement (the work); the ties are given (YtpkhbhdidkkebaaGreatDoorTie.lean); close each card by the builder's one call (the guide's Derived/Test/ToyasCard.lean, 'card_holds'). Laid BY PROGRAM, IN A SANDBOX (cutbox-door.mjs). By AI agents, Wed Nov 11 2026. No macro, syntax, notation, axiom, sorry.
-/
import Derived.Test.YtpkhbhdidkkebaaGreatDoorRows
import GoSem.ClaimSeven
namespace Go.Proofs.YtpkhbhdidkkebaaGreatDoor
namespace Rows

/-- THE TIED CARD OF 'quaysidetop.WholeTokens'. -/
def wholeTokensCard : Claim7 := { stood := { row := wholeTokensRow, standIns := [], harness := (true, "0d0bb102c3da87d74650ecbf6015f8af963c4f55e81e33e99e37e8f6bea1bc2f"), looks := true }, kinds := [], alts := [], laidByText := true, laidKinds := [.data, .data, .data, .data, .sentinel, .sentinel, .data, .pinned], laidTests := true, laidLooks := .later }
def WholeTokensCardSaid : Prop := Claim7.holds Tryz.pinned (.plain (OpenSpec.ofChange wholeTokensSpec)) wholeTokensCard

/-- THE TIED CARD OF 'quaysidelaw50.KeyringVerifies'. -/
def keyringVerifiesCard : Claim7 := { stood := { row := keyringVerifiesRow, standIns := [], harness := (true, "0d0bb102c3da87d74650ecbf6015f8af963c4f55e81e33e99e37e8f6bea1bc2f"), looks := true }, kinds := [], alts := [], laidByText := true, laidKinds := [.data, .data, .data, .data, .sentinel, .sentinel, .data, .pinned], laidTests := true, laidLooks := .later }
def KeyringVerifiesCardSaid : Prop := Claim7.holds Tryz.pinned (.plain (OpenSpec.ofChange keyringVerifiesSpec)) keyringVerifiesCard

/-- THE TIED CARD OF 'quaysidelaw50.KeyringSigns'. -/
def keyringSignsCard : Claim7 := { stood := { row := keyringSignsRow, standIns := [], harness := (true, "0d0bb102c3da87d74650ecbf6015f8af963c4f55e81e33e99e37e8f6bea1bc2f"), looks := true }, kinds := [], alts := [], laidByText := true, laidKinds := [.data, .data, .data, .data, .sentinel, .sentinel, .data, .pinned], laidTests := true, laidLooks := .later }
def KeyringSignsCardSaid : Prop := Claim7.holds Tryz.pinned (.plain (OpenSpec.ofChange keyringSignsSpec)) keyringSignsCard

/-- THE SECOND FORM's CARD OF 'quaysidetop.WholeTokens'. -/
def wholeTokensUptoCard : Claim7 := { stood := { row := wholeTokensUptoRow, standIns := [], harness := (true, "0d0bb102c3da87d74650ecbf6015f8af963c4f55e81e33e99e37e8f6bea1bc2f"), looks := true }, kinds := [], alts := [], laidByText := true, laidKinds := [.data, .data, .data, .data, .sentinel, .sentinel, .data, .pinned], laidTests := true, laidLooks := .later }
def WholeTokensUptoCardSaid : Prop := Claim7.holds Tryz.pinned (.plain (OpenSpec.upto wholeTokensSpec)) wholeTokensUptoCard

/-- THE SECOND FORM's CARD OF 'quaysidelaw50.KeyringVerifies'. -/
def keyringVerifiesUptoCard : Claim7 := { stood := { row := keyringVerifiesUptoRow, standIns := [], harness := (true, "0d0bb102c3da87d74650ecbf6015f8af963c4f55e81e33e99e37e8f6bea1bc2f"), looks := true }, kinds := [], alts := [], laidByText := true, laidKinds := [.data, .data, .data, .data, .sentinel, .sentinel, .data, .pinned], laidTests := true, laidLooks := .later }
def KeyringVerifiesUptoCardSaid : Prop := Claim7.holds Tryz.pinned (.plain (OpenSpec.upto keyringVerifiesSpec)) keyringVerifiesUptoCard

/-- THE SECOND FORM's CARD OF 'quaysidelaw50.KeyringSigns'. -/
def keyringSignsUptoCard : Claim7 := { stood := { row := keyringSignsUptoRow, standIns := [], harness := (true, "0d0bb102c3da87d74650ecbf6015f8af963c4f55e81e33e99e37e8f6bea1bc2f"), looks := true }, kinds := [], alts := [], laidByText := true, laidKinds := [.data, .data, .data, .data, .sentinel, .sentinel, .data, .pinned], laidTests := true, laidLooks := .later }
def KeyringSignsUptoCardSaid : Prop := Claim7.holds Tryz.pinned (.plain (OpenSpec.upto keyringSignsSpec)) keyringSignsUptoCard
end Rows
end Go.Proofs.YtpkhbhdidkkebaaGreatDoor
