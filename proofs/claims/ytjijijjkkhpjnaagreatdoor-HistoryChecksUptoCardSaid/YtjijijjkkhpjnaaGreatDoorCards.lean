/-
  DERIVED. GIVEN WITH THE SEED: THE CARDS: each row of YtjijijjkkhpjnaaGreatDoorRows.lean that lists a variable, with what it lists TIED to the program's text (the seventh form; the later family's looks); each row that meets fmt, with fmt's text TOLD by the authors' own Lean function (tested against real Go, not proved from fmt's source: count such statements apart). THE CARD IS WHAT COUNTS. Prove the row's statement (the work); the ties are given (YtjijijjkkhpjnaaGreatDoorTie.lean); close each card by the builder's one call (the guide's Derived/Test/ToyasCard.lean, 'card_holds'). Laid BY PROGRAM, IN A SANDBOX (cutbox-door.mjs). By AI agents, Wed Nov 11 2026. No macro, syntax, notation, axiom, sorry.
-/
import Derived.Test.YtjijijjkkhpjnaaGreatDoorRows
import GoSem.ClaimSeven
namespace Go.Proofs.YtjijijjkkhpjnaaGreatDoor
namespace Rows

/-- THE TIED CARD OF 'quaysidetop.WholeCover'. -/
def wholeCoverCard : Claim7 := { stood := { row := wholeCoverRow, standIns := [], harness := (true, "fc9a9eff5c5a46a707436165efd8b56ff735f572873e737805bfbea025986afa"), looks := true }, kinds := [], alts := [], laidByText := true, laidKinds := [.data, .data, .data, .data, .sentinel, .sentinel, .widerDeep, .pinned], laidTests := true, laidLooks := .later }
def WholeCoverCardSaid : Prop := Claim7.holds Tryz.pinned (.plain (OpenSpec.ofChange wholeCoverSpec)) wholeCoverCard

/-- THE TIED CARD OF 'quaysidelaw58.HistoryRules'. -/
def historyRulesCard : Claim7 := { stood := { row := historyRulesRow, standIns := [], harness := (true, "fc9a9eff5c5a46a707436165efd8b56ff735f572873e737805bfbea025986afa"), looks := true }, kinds := [], alts := [], laidByText := true, laidKinds := [.data, .data, .data, .data, .sentinel, .sentinel, .widerDeep, .pinned], laidTests := true, laidLooks := .later }
def HistoryRulesCardSaid : Prop := Claim7.holds Tryz.pinned (.plain (OpenSpec.ofChange historyRulesSpec)) historyRulesCard

/-- THE TIED CARD OF 'quaysidelaw58.HistoryChecks'. -/
def historyChecksCard : Claim7 := { stood := { row := historyChecksRow, standIns := [], harness := (true, "fc9a9eff5c5a46a707436165efd8b56ff735f572873e737805bfbea025986afa"), looks := true }, kinds := [], alts := [], laidByText := true, laidKinds := [.data, .data, .data, .data, .sentinel, .sentinel, .widerDeep, .pinned], laidTests := true, laidLooks := .later }
def HistoryChecksCardSaid : Prop := Claim7.holds Tryz.pinned (.plain (OpenSpec.ofChange historyChecksSpec)) historyChecksCard

/-- THE TIED CARD OF 'quaysidelaw58.HistoryParts'. -/
def historyPartsCard : Claim7 := { stood := { row := historyPartsRow, standIns := [], harness := (true, "fc9a9eff5c5a46a707436165efd8b56ff735f572873e737805bfbea025986afa"), looks := true }, kinds := [], alts := [], laidByText := true, laidKinds := [.data, .data, .data, .data, .sentinel, .sentinel, .widerDeep, .pinned], laidTests := true, laidLooks := .later }
def HistoryPartsCardSaid : Prop := Claim7.holds Tryz.pinned (.plain (OpenSpec.ofChange historyPartsSpec)) historyPartsCard

/-- THE TIED CARD OF 'quaysidelaw58.HistorySpoils'. -/
def historySpoilsCard : Claim7 := { stood := { row := historySpoilsRow, standIns := [], harness := (true, "fc9a9eff5c5a46a707436165efd8b56ff735f572873e737805bfbea025986afa"), looks := true }, kinds := [], alts := [], laidByText := true, laidKinds := [.data, .data, .data, .data, .sentinel, .sentinel, .widerDeep, .pinned], laidTests := true, laidLooks := .later }
def HistorySpoilsCardSaid : Prop := Claim7.holds Tryz.pinned (.plain (OpenSpec.ofChange historySpoilsSpec)) historySpoilsCard

/-- THE TIED CARD OF 'quaysidelaw58.HistoryWhole'. -/
def historyWholeCard : Claim7 := { stood := { row := historyWholeRow, standIns := [], harness := (true, "fc9a9eff5c5a46a707436165efd8b56ff735f572873e737805bfbea025986afa"), looks := true }, kinds := [], alts := [], laidByText := true, laidKinds := [.data, .data, .data, .data, .sentinel, .sentinel, .widerDeep, .pinned], laidTests := true, laidLooks := .later }
def HistoryWholeCardSaid : Prop := Claim7.holds Tryz.pinned (.plain (OpenSpec.ofChange historyWholeSpec)) historyWholeCard

/-- THE TIED CARD OF 'quaysidelaw58.HistoryTimes'. -/
def historyTimesCard : Claim7 := { stood := { row := historyTimesRow, standIns := [], harness := (true, "fc9a9eff5c5a46a707436165efd8b56ff735f572873e737805bfbea025986afa"), looks := true }, kinds := [], alts := [], laidByText := true, laidKinds := [.data, .data, .data, .data, .sentinel, .sentinel, .widerDeep, .pinned], laidTests := true, laidLooks := .later }
def HistoryTimesCardSaid : Prop := Claim7.holds Tryz.pinned (.plain (OpenSpec.ofChange historyTimesSpec)) historyTimesCard

/-- THE TIED CARD OF 'quaysidelaw58.HistoryLate'. -/
def historyLateCard : Claim7 := { stood := { row := historyLateRow, standIns := [], harness := (true, "fc9a9eff5c5a46a707436165efd8b56ff735f572873e737805bfbea025986afa"), looks := true }, kinds := [], alts := [], laidByText := true, laidKinds := [.data, .data, .data, .data, .sentinel, .sentinel, .widerDeep, .pinned], laidTests := true, laidLooks := .later }
def HistoryLateCardSaid : Prop := Claim7.holds Tryz.pinned (.plain (OpenSpec.ofChange historyLateSpec)) historyLateCard

/-- THE TIED CARD OF 'quaysidelaw58.HistoryOnce'. -/
def historyOnceCard : Claim7 := { stood := { row := historyOnceRow, standIns := [], harness := (true, "fc9a9eff5c5a46a707436165efd8b56ff735f572873e737805bfbea025986afa"), looks := true }, kinds := [], alts := [], laidByText := true, laidKinds := [.data, .data, .data, .data, .sentinel, .sentinel, .widerDeep, .pinned], laidTests := true, laidLooks := .later }
def HistoryOnceCardSaid : Prop := Claim7.holds Tryz.pinned (.plain (OpenSpec.ofChange historyOnceSpec)) historyOnceCard

/-- THE TIED CARD OF 'quaysidelaw58.HistoryFormats'. -/
def historyFormatsCard : Claim7 := { stood := { row := historyFormatsRow, standIns := [], harness := (true, "fc9a9eff5c5a46a707436165efd8b56ff735f572873e737805bfbea025986afa"), looks := true }, kinds := [], alts := [], laidByText := true, laidKinds := [.data, .data, .data, .data, .sentinel, .sentinel, .widerDeep, .pinned], laidTests := true, laidLooks := .later }
def HistoryFormatsCardSaid : Prop := Claim7.holds Tryz.pinned (.plain (OpenSpec.ofChange historyFormatsSpec)) historyFormatsCard

/-- THE SECOND FORM's CARD OF 'quaysidetop.WholeCover'. -/
def wholeCoverUptoCard : Claim7 := { stood := { row := wholeCoverUptoRow, standIns := [], harness := (true, "fc9a9eff5c5a46a707436165efd8b56ff735f572873e737805bfbea025986afa"), looks := true }, kinds := [], alts := [], laidByText := true, laidKinds := [.data, .data, .data, .data, .sentinel, .sentinel, .widerDeep, .pinned], laidTests := true, laidLooks := .later }
def WholeCoverUptoCardSaid : Prop := Claim7.holds Tryz.pinned (.plain (OpenSpec.upto wholeCoverSpec)) wholeCoverUptoCard

/-- THE SECOND FORM's CARD OF 'quaysidelaw58.HistoryRules'. -/
def historyRulesUptoCard : Claim7 := { stood := { row := historyRulesUptoRow, standIns := [], harness := (true, "fc9a9eff5c5a46a707436165efd8b56ff735f572873e737805bfbea025986afa"), looks := true }, kinds := [], alts := [], laidByText := true, laidKinds := [.data, .data, .data, .data, .sentinel, .sentinel, .widerDeep, .pinned], laidTests := true, laidLooks := .later }
def HistoryRulesUptoCardSaid : Prop := Claim7.holds Tryz.pinned (.plain (OpenSpec.upto historyRulesSpec)) historyRulesUptoCard

/-- THE SECOND FORM's CARD OF 'quaysidelaw58.HistoryChecks'. -/
def historyChecksUptoCard : Claim7 := { stood := { row := historyChecksUptoRow, standIns := [], harness := (true, "fc9a9eff5c5a46a707436165efd8b56ff735f572873e737805bfbea025986afa"), looks := true }, kinds := [], alts := [], laidByText := true, laidKinds := [.data, .data, .data, .data, .sentinel, .sentinel, .widerDeep, .pinned], laidTests := true, laidLooks := .later }
def HistoryChecksUptoCardSaid : Prop := Claim7.holds Tryz.pinned (.plain (OpenSpec.upto historyChecksSpec)) historyChecksUptoCard

/-- THE SECOND FORM's CARD OF 'quaysidelaw58.HistoryParts'. -/
def historyPartsUptoCard : Claim7 := { stood := { row := historyPartsUptoRow, standIns := [], harness := (true, "fc9a9eff5c5a46a707436165efd8b56ff735f572873e737805bfbea025986afa"), looks := true }, kinds := [], alts := [], laidByText := true, laidKinds := [.data, .data, .data, .data, .sentinel, .sentinel, .widerDeep, .pinned], laidTests := true, laidLooks := .later }
def HistoryPartsUptoCardSaid : Prop := Claim7.holds Tryz.pinned (.plain (OpenSpec.upto historyPartsSpec)) historyPartsUptoCard

/-- THE SECOND FORM's CARD OF 'quaysidelaw58.HistorySpoils'. -/
def historySpoilsUptoCard : Claim7 := { stood := { row := historySpoilsUptoRow, standIns := [], harness := (true, "fc9a9eff5c5a46a707436165efd8b56ff735f572873e737805bfbea025986afa"), looks := true }, kinds := [], alts := [], laidByText := true, laidKinds := [.data, .data, .data, .data, .sentinel, .sentinel, .widerDeep, .pinned], laidTests := true, laidLooks := .later }
def HistorySpoilsUptoCardSaid : Prop := Claim7.holds Tryz.pinned (.plain (OpenSpec.upto historySpoilsSpec)) historySpoilsUptoCard

/-- THE SECOND FORM's CARD OF 'quaysidelaw58.HistoryWhole'. -/
def historyWholeUptoCard : Claim7 := { stood := { row := historyWholeUptoRow, standIns := [], harness := (true, "fc9a9eff5c5a46a707436165efd8b56ff735f572873e737805bfbea025986afa"), looks := true }, kinds := [], alts := [], laidByText := true, laidKinds := [.data, .data, .data, .data, .sentinel, .sentinel, .widerDeep, .pinned], laidTests := true, laidLooks := .later }
def HistoryWholeUptoCardSaid : Prop := Claim7.holds Tryz.pinned (.plain (OpenSpec.upto historyWholeSpec)) historyWholeUptoCard

/-- THE SECOND FORM's CARD OF 'quaysidelaw58.HistoryTimes'. -/
def historyTimesUptoCard : Claim7 := { stood := { row := historyTimesUptoRow, standIns := [], harness := (true, "fc9a9eff5c5a46a707436165efd8b56ff735f572873e737805bfbea025986afa"), looks := true }, kinds := [], alts := [], laidByText := true, laidKinds := [.data, .data, .data, .data, .sentinel, .sentinel, .widerDeep, .pinned], laidTests := true, laidLooks := .later }
def HistoryTimesUptoCardSaid : Prop := Claim7.holds Tryz.pinned (.plain (OpenSpec.upto historyTimesSpec)) historyTimesUptoCard

/-- THE SECOND FORM's CARD OF 'quaysidelaw58.HistoryLate'. -/
def historyLateUptoCard : Claim7 := { stood := { row := historyLateUptoRow, standIns := [], harness := (true, "fc9a9eff5c5a46a707436165efd8b56ff735f572873e737805bfbea025986afa"), looks := true }, kinds := [], alts := [], laidByText := true, laidKinds := [.data, .data, .data, .data, .sentinel, .sentinel, .widerDeep, .pinned], laidTests := true, laidLooks := .later }
def HistoryLateUptoCardSaid : Prop := Claim7.holds Tryz.pinned (.plain (OpenSpec.upto historyLateSpec)) historyLateUptoCard

/-- THE SECOND FORM's CARD OF 'quaysidelaw58.HistoryOnce'. -/
def historyOnceUptoCard : Claim7 := { stood := { row := historyOnceUptoRow, standIns := [], harness := (true, "fc9a9eff5c5a46a707436165efd8b56ff735f572873e737805bfbea025986afa"), looks := true }, kinds := [], alts := [], laidByText := true, laidKinds := [.data, .data, .data, .data, .sentinel, .sentinel, .widerDeep, .pinned], laidTests := true, laidLooks := .later }
def HistoryOnceUptoCardSaid : Prop := Claim7.holds Tryz.pinned (.plain (OpenSpec.upto historyOnceSpec)) historyOnceUptoCard

/-- THE SECOND FORM's CARD OF 'quaysidelaw58.HistoryFormats'. -/
def historyFormatsUptoCard : Claim7 := { stood := { row := historyFormatsUptoRow, standIns := [], harness := (true, "fc9a9eff5c5a46a707436165efd8b56ff735f572873e737805bfbea025986afa"), looks := true }, kinds := [], alts := [], laidByText := true, laidKinds := [.data, .data, .data, .data, .sentinel, .sentinel, .widerDeep, .pinned], laidTests := true, laidLooks := .later }
def HistoryFormatsUptoCardSaid : Prop := Claim7.holds Tryz.pinned (.plain (OpenSpec.upto historyFormatsSpec)) historyFormatsUptoCard
end Rows
end Go.Proofs.YtjijijjkkhpjnaaGreatDoor
