/-
  DERIVED. GIVEN WITH THE SEED: THE CARDS: each row of YtijjggbiljkalaaDoorRows.lean that lists a variable, with what it lists TIED to the program's text (the seventh form; the later family's looks); each row that meets fmt, with fmt's text TOLD by the authors' own Lean function (tested against real Go, not proved from fmt's source: count such statements apart). THE CARD IS WHAT COUNTS. Prove the row's statement (the work); the ties are given (YtijjggbiljkalaaDoorTie.lean); close each card by the builder's one call (the guide's Derived/Test/ToyasCard.lean, 'card_holds'). Laid BY PROGRAM, IN A SANDBOX (cutbox-door.mjs). By AI agents, Wed Nov 11 2026. No macro, syntax, notation, axiom, sorry.
-/
import Derived.Test.YtijjggbiljkalaaDoorRows
import GoSem.ClaimSeven
namespace Go.Proofs.YtijjggbiljkalaaDoor
namespace Rows

/-- THE TIED CARD OF 'quaysidelaw37.PurgelogMakes'. -/
def purgelogMakesCard : Claim7 := { stood := { row := purgelogMakesRow, standIns := [], harness := (true, "28b082c9923759d6b4394c3be7da939e0694a62c610d947848e094d659eb2874"), looks := true }, kinds := [], alts := [], laidByText := true, laidKinds := [.data, .pinned], laidTests := true, laidLooks := .later }
def PurgelogMakesCardSaid : Prop := Claim7.holds Tryd.pinned (.plain (OpenSpec.ofChange purgelogMakesSpec)) purgelogMakesCard

/-- THE TIED CARD OF 'quaysidelaw37.PurgelogWindow'. -/
def purgelogWindowCard : Claim7 := { stood := { row := purgelogWindowRow, standIns := [], harness := (true, "28b082c9923759d6b4394c3be7da939e0694a62c610d947848e094d659eb2874"), looks := true }, kinds := [], alts := [], laidByText := true, laidKinds := [.data, .pinned], laidTests := true, laidLooks := .later }
def PurgelogWindowCardSaid : Prop := Claim7.holds Tryd.pinned (.plain (OpenSpec.ofChange purgelogWindowSpec)) purgelogWindowCard

/-- THE TIED CARD OF 'quaysidelaw37.PurgelogPlays'. -/
def purgelogPlaysCard : Claim7 := { stood := { row := purgelogPlaysRow, standIns := [], harness := (true, "28b082c9923759d6b4394c3be7da939e0694a62c610d947848e094d659eb2874"), looks := true }, kinds := [], alts := [], laidByText := true, laidKinds := [.data, .pinned], laidTests := true, laidLooks := .later }
def PurgelogPlaysCardSaid : Prop := Claim7.holds Tryd.pinned (.plain (OpenSpec.ofChange purgelogPlaysSpec)) purgelogPlaysCard

/-- THE TIED CARD OF 'quaysidelaw37.PurgelogCopies'. -/
def purgelogCopiesCard : Claim7 := { stood := { row := purgelogCopiesRow, standIns := [], harness := (true, "28b082c9923759d6b4394c3be7da939e0694a62c610d947848e094d659eb2874"), looks := true }, kinds := [], alts := [], laidByText := true, laidKinds := [.data, .pinned], laidTests := true, laidLooks := .later }
def PurgelogCopiesCardSaid : Prop := Claim7.holds Tryd.pinned (.plain (OpenSpec.ofChange purgelogCopiesSpec)) purgelogCopiesCard

/-- THE TIED CARD OF 'quaysidelaw38.GateMakes'. -/
def gateMakesCard : Claim7 := { stood := { row := gateMakesRow, standIns := [], harness := (true, "28b082c9923759d6b4394c3be7da939e0694a62c610d947848e094d659eb2874"), looks := true }, kinds := [], alts := [], laidByText := true, laidKinds := [.data, .pinned], laidTests := true, laidLooks := .later }
def GateMakesCardSaid : Prop := Claim7.holds Tryd.pinned (.plain (OpenSpec.ofChange gateMakesSpec)) gateMakesCard

/-- THE TIED CARD OF 'quaysidelaw37.PurgelogFirst'. -/
def purgelogFirstCard : Claim7 := { stood := { row := purgelogFirstRow, standIns := [], harness := (true, "28b082c9923759d6b4394c3be7da939e0694a62c610d947848e094d659eb2874"), looks := true }, kinds := [], alts := [], laidByText := true, laidKinds := [.data, .pinned], laidTests := true, laidLooks := .later }
def PurgelogFirstCardSaid : Prop := Claim7.holds Tryd.pinned (.plain (OpenSpec.ofChange purgelogFirstSpec)) purgelogFirstCard

/-- THE TIED CARD OF 'quaysidelaw37.PurgelogNone'. -/
def purgelogNoneCard : Claim7 := { stood := { row := purgelogNoneRow, standIns := [], harness := (true, "28b082c9923759d6b4394c3be7da939e0694a62c610d947848e094d659eb2874"), looks := true }, kinds := [], alts := [], laidByText := true, laidKinds := [.data, .pinned], laidTests := true, laidLooks := .later }
def PurgelogNoneCardSaid : Prop := Claim7.holds Tryd.pinned (.plain (OpenSpec.ofChange purgelogNoneSpec)) purgelogNoneCard

/-- THE TIED CARD OF 'quaysidelaw38.GateSafe'. -/
def gateSafeCard : Claim7 := { stood := { row := gateSafeRow, standIns := [], harness := (true, "28b082c9923759d6b4394c3be7da939e0694a62c610d947848e094d659eb2874"), looks := true }, kinds := [], alts := [], laidByText := true, laidKinds := [.data, .pinned], laidTests := true, laidLooks := .later }
def GateSafeCardSaid : Prop := Claim7.holds Tryd.pinned (.plain (OpenSpec.ofChange gateSafeSpec)) gateSafeCard

/-- THE TIED CARD OF 'quaysidelaw38.GateGrows'. -/
def gateGrowsCard : Claim7 := { stood := { row := gateGrowsRow, standIns := [], harness := (true, "28b082c9923759d6b4394c3be7da939e0694a62c610d947848e094d659eb2874"), looks := true }, kinds := [], alts := [], laidByText := true, laidKinds := [.data, .pinned], laidTests := true, laidLooks := .later }
def GateGrowsCardSaid : Prop := Claim7.holds Tryd.pinned (.plain (OpenSpec.ofChange gateGrowsSpec)) gateGrowsCard

/-- THE TIED CARD OF 'quaysidelaw38.GateNone'. -/
def gateNoneCard : Claim7 := { stood := { row := gateNoneRow, standIns := [], harness := (true, "28b082c9923759d6b4394c3be7da939e0694a62c610d947848e094d659eb2874"), looks := true }, kinds := [], alts := [], laidByText := true, laidKinds := [.data, .pinned], laidTests := true, laidLooks := .later }
def GateNoneCardSaid : Prop := Claim7.holds Tryd.pinned (.plain (OpenSpec.ofChange gateNoneSpec)) gateNoneCard

/-- THE TIED CARD OF 'quaysidelaw38.GateGathers'. -/
def gateGathersCard : Claim7 := { stood := { row := gateGathersRow, standIns := [], harness := (true, "28b082c9923759d6b4394c3be7da939e0694a62c610d947848e094d659eb2874"), looks := true }, kinds := [], alts := [], laidByText := true, laidKinds := [.data, .pinned], laidTests := true, laidLooks := .later }
def GateGathersCardSaid : Prop := Claim7.holds Tryd.pinned (.plain (OpenSpec.ofChange gateGathersSpec)) gateGathersCard

/-- THE SECOND FORM's CARD OF 'quaysidelaw37.PurgelogMakes'. -/
def purgelogMakesUptoCard : Claim7 := { stood := { row := purgelogMakesUptoRow, standIns := [], harness := (true, "28b082c9923759d6b4394c3be7da939e0694a62c610d947848e094d659eb2874"), looks := true }, kinds := [], alts := [], laidByText := true, laidKinds := [.data, .pinned], laidTests := true, laidLooks := .later }
def PurgelogMakesUptoCardSaid : Prop := Claim7.holds Tryd.pinned (.plain (OpenSpec.upto purgelogMakesSpec)) purgelogMakesUptoCard

/-- THE SECOND FORM's CARD OF 'quaysidelaw37.PurgelogWindow'. -/
def purgelogWindowUptoCard : Claim7 := { stood := { row := purgelogWindowUptoRow, standIns := [], harness := (true, "28b082c9923759d6b4394c3be7da939e0694a62c610d947848e094d659eb2874"), looks := true }, kinds := [], alts := [], laidByText := true, laidKinds := [.data, .pinned], laidTests := true, laidLooks := .later }
def PurgelogWindowUptoCardSaid : Prop := Claim7.holds Tryd.pinned (.plain (OpenSpec.upto purgelogWindowSpec)) purgelogWindowUptoCard

/-- THE SECOND FORM's CARD OF 'quaysidelaw37.PurgelogPlays'. -/
def purgelogPlaysUptoCard : Claim7 := { stood := { row := purgelogPlaysUptoRow, standIns := [], harness := (true, "28b082c9923759d6b4394c3be7da939e0694a62c610d947848e094d659eb2874"), looks := true }, kinds := [], alts := [], laidByText := true, laidKinds := [.data, .pinned], laidTests := true, laidLooks := .later }
def PurgelogPlaysUptoCardSaid : Prop := Claim7.holds Tryd.pinned (.plain (OpenSpec.upto purgelogPlaysSpec)) purgelogPlaysUptoCard

/-- THE SECOND FORM's CARD OF 'quaysidelaw37.PurgelogCopies'. -/
def purgelogCopiesUptoCard : Claim7 := { stood := { row := purgelogCopiesUptoRow, standIns := [], harness := (true, "28b082c9923759d6b4394c3be7da939e0694a62c610d947848e094d659eb2874"), looks := true }, kinds := [], alts := [], laidByText := true, laidKinds := [.data, .pinned], laidTests := true, laidLooks := .later }
def PurgelogCopiesUptoCardSaid : Prop := Claim7.holds Tryd.pinned (.plain (OpenSpec.upto purgelogCopiesSpec)) purgelogCopiesUptoCard

/-- THE SECOND FORM's CARD OF 'quaysidelaw38.GateMakes'. -/
def gateMakesUptoCard : Claim7 := { stood := { row := gateMakesUptoRow, standIns := [], harness := (true, "28b082c9923759d6b4394c3be7da939e0694a62c610d947848e094d659eb2874"), looks := true }, kinds := [], alts := [], laidByText := true, laidKinds := [.data, .pinned], laidTests := true, laidLooks := .later }
def GateMakesUptoCardSaid : Prop := Claim7.holds Tryd.pinned (.plain (OpenSpec.upto gateMakesSpec)) gateMakesUptoCard

/-- THE SECOND FORM's CARD OF 'quaysidelaw37.PurgelogFirst'. -/
def purgelogFirstUptoCard : Claim7 := { stood := { row := purgelogFirstUptoRow, standIns := [], harness := (true, "28b082c9923759d6b4394c3be7da939e0694a62c610d947848e094d659eb2874"), looks := true }, kinds := [], alts := [], laidByText := true, laidKinds := [.data, .pinned], laidTests := true, laidLooks := .later }
def PurgelogFirstUptoCardSaid : Prop := Claim7.holds Tryd.pinned (.plain (OpenSpec.upto purgelogFirstSpec)) purgelogFirstUptoCard

/-- THE SECOND FORM's CARD OF 'quaysidelaw37.PurgelogNone'. -/
def purgelogNoneUptoCard : Claim7 := { stood := { row := purgelogNoneUptoRow, standIns := [], harness := (true, "28b082c9923759d6b4394c3be7da939e0694a62c610d947848e094d659eb2874"), looks := true }, kinds := [], alts := [], laidByText := true, laidKinds := [.data, .pinned], laidTests := true, laidLooks := .later }
def PurgelogNoneUptoCardSaid : Prop := Claim7.holds Tryd.pinned (.plain (OpenSpec.upto purgelogNoneSpec)) purgelogNoneUptoCard

/-- THE SECOND FORM's CARD OF 'quaysidelaw38.GateSafe'. -/
def gateSafeUptoCard : Claim7 := { stood := { row := gateSafeUptoRow, standIns := [], harness := (true, "28b082c9923759d6b4394c3be7da939e0694a62c610d947848e094d659eb2874"), looks := true }, kinds := [], alts := [], laidByText := true, laidKinds := [.data, .pinned], laidTests := true, laidLooks := .later }
def GateSafeUptoCardSaid : Prop := Claim7.holds Tryd.pinned (.plain (OpenSpec.upto gateSafeSpec)) gateSafeUptoCard

/-- THE SECOND FORM's CARD OF 'quaysidelaw38.GateGrows'. -/
def gateGrowsUptoCard : Claim7 := { stood := { row := gateGrowsUptoRow, standIns := [], harness := (true, "28b082c9923759d6b4394c3be7da939e0694a62c610d947848e094d659eb2874"), looks := true }, kinds := [], alts := [], laidByText := true, laidKinds := [.data, .pinned], laidTests := true, laidLooks := .later }
def GateGrowsUptoCardSaid : Prop := Claim7.holds Tryd.pinned (.plain (OpenSpec.upto gateGrowsSpec)) gateGrowsUptoCard

/-- THE SECOND FORM's CARD OF 'quaysidelaw38.GateNone'. -/
def gateNoneUptoCard : Claim7 := { stood := { row := gateNoneUptoRow, standIns := [], harness := (true, "28b082c9923759d6b4394c3be7da939e0694a62c610d947848e094d659eb2874"), looks := true }, kinds := [], alts := [], laidByText := true, laidKinds := [.data, .pinned], laidTests := true, laidLooks := .later }
def GateNoneUptoCardSaid : Prop := Claim7.holds Tryd.pinned (.plain (OpenSpec.upto gateNoneSpec)) gateNoneUptoCard

/-- THE SECOND FORM's CARD OF 'quaysidelaw38.GateGathers'. -/
def gateGathersUptoCard : Claim7 := { stood := { row := gateGathersUptoRow, standIns := [], harness := (true, "28b082c9923759d6b4394c3be7da939e0694a62c610d947848e094d659eb2874"), looks := true }, kinds := [], alts := [], laidByText := true, laidKinds := [.data, .pinned], laidTests := true, laidLooks := .later }
def GateGathersUptoCardSaid : Prop := Claim7.holds Tryd.pinned (.plain (OpenSpec.upto gateGathersSpec)) gateGathersUptoCard
end Rows
end Go.Proofs.YtijjggbiljkalaaDoor
