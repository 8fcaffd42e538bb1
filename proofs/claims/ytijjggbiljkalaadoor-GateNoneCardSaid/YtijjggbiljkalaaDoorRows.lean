/-
  NARROWER THAN 'FOR EVERY INPUT', by the rows' own cells (each row's printed sentence says how): PurgelogMakes: laid · PurgelogWindow: laid · PurgelogPlays: laid · PurgelogCopies: laid · GateMakes: laid · PurgelogFirst: laid · PurgelogNone: laid · GateSafe: laid · GateGrows: laid · GateNone: laid · GateGathers: laid.
  DERIVED. THE GIVEN ROWS OF THIS SEAT. 11 by the template 'for every input the law returns true; each argument reads behind the call as it read before'; 0 by the template 'total and deterministic' (their statements: YtijjggbiljkalaaDoorTotals.lean).
  GIVEN WITH THE SEED: the statements are not yours to turn. If you find one false, say at which input.
  Laid BY PROGRAM, IN A SANDBOX (cutbox-rows.mjs): the forced cells as the released guide's own fill.sh prints them over the translation 445c007f7b504621… (all of the seat's roots in one cut). By AI agents, Wed Nov 11 2026. No macro, syntax, notation, axiom, sorry.
-/
import Derived.Test.YtijjggbiljkalaaDoorChecked
import GoSem.PinnedTables
import GoSem.Claim
import GoSem.ClaimJoined
import GoSem.ClaimMapViews
import Derived.JoinedTies
import Derived.KernelRfl
namespace Go.Proofs.YtijjggbiljkalaaDoor
/- THE CELL 'sum', in the pinned program and in every row, IS THE sha256 OF THE DUMP (.gsa) THAT YtijjggbiljkalaaDoorProg.lean LOADS. Nothing in Lean hashes anything: it is a label: what it is worth is what the hold of that sum in a sandbox is worth. -/
noncomputable def Tryd.pinned : Pinned := { name := "ytijjggbiljkalaadoor", sum := "445c007f7b504621579170bee05da234e9820ad20a1997c3be78ebb37880688f", checked := Tryd.checked }
namespace Rows
def none {H : Type} : Left H := { results := [], args := [] }

/- WHAT THE LISTED PACKAGE-LEVEL VARIABLES READ AS WHEN THE CALL BEGINS. Each datum BY PROGRAM (the guide's laid-datum.mjs) off the statement by which the dump's own 'gosem.cut.vars' lays the variable. In a bare row this is a premise. The card (YtijjggbiljkalaaDoorCards.lean) ties it to the program's text. -/
def laid_unicode_utf8_acceptRanges {H : Type} : DataW H := .agg [.agg [.lit (.int .u8 128), .lit (.int .u8 191)], .agg [.lit (.int .u8 160), .lit (.int .u8 191)], .agg [.lit (.int .u8 128), .lit (.int .u8 159)], .agg [.lit (.int .u8 144), .lit (.int .u8 191)], .agg [.lit (.int .u8 128), .lit (.int .u8 143)], .agg [.lit (.int .u8 0), .lit (.int .u8 0)], .agg [.lit (.int .u8 0), .lit (.int .u8 0)], .agg [.lit (.int .u8 0), .lit (.int .u8 0)], .agg [.lit (.int .u8 0), .lit (.int .u8 0)], .agg [.lit (.int .u8 0), .lit (.int .u8 0)], .agg [.lit (.int .u8 0), .lit (.int .u8 0)], .agg [.lit (.int .u8 0), .lit (.int .u8 0)], .agg [.lit (.int .u8 0), .lit (.int .u8 0)], .agg [.lit (.int .u8 0), .lit (.int .u8 0)], .agg [.lit (.int .u8 0), .lit (.int .u8 0)], .agg [.lit (.int .u8 0), .lit (.int .u8 0)]]
/-- One of Go's own tables, pinned by name: the form's constant. -/
def laid_unicode_utf8_first : DataW Unit := Go.Pinned.utf8First

/-- 'quaysidelaw37.PurgelogMakes': WHATEVER THE INPUT: true; the input reads as it did. -/
def purgelogMakesSpec : ChangeSpec := { name := "purgelogMakes", fn := fun _ => fun
  | [d] => { results := [.lit (.bool true)], args := [d] }
  | _ => none }
def purgelogMakesRow : OpenClaim := { program := "ytijjggbiljkalaadoor", sum := "445c007f7b504621579170bee05da234e9820ad20a1997c3be78ebb37880688f", func := "quayside/quaysidelaw37.PurgelogMakes", spec := "purgelogMakes", inPlace := ["internal/bytealg.IndexByteString", "internal/bytealg.CountString", "internal/bytealg.IndexString", "internal/abi.NoEscape", "internal/bytealg.MakeNoZero"], recurses := true, named := ["unicode/utf8.first", "unicode/utf8.acceptRanges", "internal/bytealg.MaxLen"], apart := false, laid := [("unicode/utf8.acceptRanges", laid_unicode_utf8_acceptRanges), ("unicode/utf8.first", laid_unicode_utf8_first)] }
def PurgelogMakesSaid : Prop := purgelogMakesRow.holds Tryd.pinned (OpenSpec.ofChange purgelogMakesSpec)

/-- ITS FALSE NEIGHBOUR: 'it returns false'. Refute it at one input. -/
def purgelogMakesWrong : ChangeSpec := { name := "purgelogMakes", fn := fun _ => fun
  | [d] => { results := [.lit (.bool false)], args := [d] }
  | _ => none }
def PurgelogMakesWrongFalsely : Prop := purgelogMakesRow.holds Tryd.pinned (OpenSpec.ofChange purgelogMakesWrong)

/-- 'quaysidelaw37.PurgelogWindow': WHATEVER THE INPUT: true; the input reads as it did. -/
def purgelogWindowSpec : ChangeSpec := { name := "purgelogWindow", fn := fun _ => fun
  | [d1, d2] => { results := [.lit (.bool true)], args := [d1, d2] }
  | _ => none }
def purgelogWindowRow : OpenClaim := { program := "ytijjggbiljkalaadoor", sum := "445c007f7b504621579170bee05da234e9820ad20a1997c3be78ebb37880688f", func := "quayside/quaysidelaw37.PurgelogWindow", spec := "purgelogWindow", inPlace := ["internal/bytealg.IndexByteString", "internal/bytealg.CountString", "internal/bytealg.IndexString", "internal/abi.NoEscape", "internal/bytealg.MakeNoZero"], recurses := true, named := ["unicode/utf8.first", "unicode/utf8.acceptRanges", "internal/bytealg.MaxLen"], apart := false, laid := [("unicode/utf8.acceptRanges", laid_unicode_utf8_acceptRanges), ("unicode/utf8.first", laid_unicode_utf8_first)] }
def PurgelogWindowSaid : Prop := purgelogWindowRow.holds Tryd.pinned (OpenSpec.ofChange purgelogWindowSpec)

/-- ITS FALSE NEIGHBOUR: 'it returns false'. Refute it at one input. -/
def purgelogWindowWrong : ChangeSpec := { name := "purgelogWindow", fn := fun _ => fun
  | [d1, d2] => { results := [.lit (.bool false)], args := [d1, d2] }
  | _ => none }
def PurgelogWindowWrongFalsely : Prop := purgelogWindowRow.holds Tryd.pinned (OpenSpec.ofChange purgelogWindowWrong)

/-- 'quaysidelaw37.PurgelogPlays': WHATEVER THE INPUT: true; the input reads as it did. -/
def purgelogPlaysSpec : ChangeSpec := { name := "purgelogPlays", fn := fun _ => fun
  | [d1, d2, d3] => { results := [.lit (.bool true)], args := [d1, d2, d3] }
  | _ => none }
def purgelogPlaysRow : OpenClaim := { program := "ytijjggbiljkalaadoor", sum := "445c007f7b504621579170bee05da234e9820ad20a1997c3be78ebb37880688f", func := "quayside/quaysidelaw37.PurgelogPlays", spec := "purgelogPlays", inPlace := ["internal/bytealg.IndexByteString", "internal/bytealg.CountString", "internal/bytealg.IndexString", "internal/abi.NoEscape", "internal/bytealg.MakeNoZero"], recurses := true, named := ["unicode/utf8.first", "unicode/utf8.acceptRanges", "internal/bytealg.MaxLen"], apart := false, laid := [("unicode/utf8.acceptRanges", laid_unicode_utf8_acceptRanges), ("unicode/utf8.first", laid_unicode_utf8_first)] }
def PurgelogPlaysSaid : Prop := purgelogPlaysRow.holds Tryd.pinned (OpenSpec.ofChange purgelogPlaysSpec)

/-- ITS FALSE NEIGHBOUR: 'it returns false'. Refute it at one input. -/
def purgelogPlaysWrong : ChangeSpec := { name := "purgelogPlays", fn := fun _ => fun
  | [d1, d2, d3] => { results := [.lit (.bool false)], args := [d1, d2, d3] }
  | _ => none }
def PurgelogPlaysWrongFalsely : Prop := purgelogPlaysRow.holds Tryd.pinned (OpenSpec.ofChange purgelogPlaysWrong)

/-- 'quaysidelaw37.PurgelogCopies': WHATEVER THE INPUT: true; the input reads as it did. -/
def purgelogCopiesSpec : ChangeSpec := { name := "purgelogCopies", fn := fun _ => fun
  | [d1, d2] => { results := [.lit (.bool true)], args := [d1, d2] }
  | _ => none }
def purgelogCopiesRow : OpenClaim := { program := "ytijjggbiljkalaadoor", sum := "445c007f7b504621579170bee05da234e9820ad20a1997c3be78ebb37880688f", func := "quayside/quaysidelaw37.PurgelogCopies", spec := "purgelogCopies", inPlace := ["internal/bytealg.IndexByteString", "internal/bytealg.CountString", "internal/bytealg.IndexString", "internal/abi.NoEscape", "internal/bytealg.MakeNoZero"], recurses := true, named := ["unicode/utf8.first", "unicode/utf8.acceptRanges", "internal/bytealg.MaxLen"], apart := false, laid := [("unicode/utf8.acceptRanges", laid_unicode_utf8_acceptRanges), ("unicode/utf8.first", laid_unicode_utf8_first)] }
def PurgelogCopiesSaid : Prop := purgelogCopiesRow.holds Tryd.pinned (OpenSpec.ofChange purgelogCopiesSpec)

/-- ITS FALSE NEIGHBOUR: 'it returns false'. Refute it at one input. -/
def purgelogCopiesWrong : ChangeSpec := { name := "purgelogCopies", fn := fun _ => fun
  | [d1, d2] => { results := [.lit (.bool false)], args := [d1, d2] }
  | _ => none }
def PurgelogCopiesWrongFalsely : Prop := purgelogCopiesRow.holds Tryd.pinned (OpenSpec.ofChange purgelogCopiesWrong)

/-- 'quaysidelaw38.GateMakes': WHATEVER THE INPUT: true; the input reads as it did. -/
def gateMakesSpec : ChangeSpec := { name := "gateMakes", fn := fun _ => fun
  | [d] => { results := [.lit (.bool true)], args := [d] }
  | _ => none }
def gateMakesRow : OpenClaim := { program := "ytijjggbiljkalaadoor", sum := "445c007f7b504621579170bee05da234e9820ad20a1997c3be78ebb37880688f", func := "quayside/quaysidelaw38.GateMakes", spec := "gateMakes", inPlace := ["internal/bytealg.IndexByteString", "internal/bytealg.CountString", "internal/bytealg.IndexString", "internal/abi.NoEscape", "internal/bytealg.MakeNoZero"], recurses := true, named := ["unicode/utf8.first", "unicode/utf8.acceptRanges", "internal/bytealg.MaxLen"], apart := false, laid := [("unicode/utf8.acceptRanges", laid_unicode_utf8_acceptRanges), ("unicode/utf8.first", laid_unicode_utf8_first)] }
def GateMakesSaid : Prop := gateMakesRow.holds Tryd.pinned (OpenSpec.ofChange gateMakesSpec)

/-- ITS FALSE NEIGHBOUR: 'it returns false'. Refute it at one input. -/
def gateMakesWrong : ChangeSpec := { name := "gateMakes", fn := fun _ => fun
  | [d] => { results := [.lit (.bool false)], args := [d] }
  | _ => none }
def GateMakesWrongFalsely : Prop := gateMakesRow.holds Tryd.pinned (OpenSpec.ofChange gateMakesWrong)

/-- 'quaysidelaw37.PurgelogFirst': WHATEVER THE INPUT: true; the input reads as it did. -/
def purgelogFirstSpec : ChangeSpec := { name := "purgelogFirst", fn := fun _ => fun
  | [d1, d2] => { results := [.lit (.bool true)], args := [d1, d2] }
  | _ => none }
def purgelogFirstRow : OpenClaim := { program := "ytijjggbiljkalaadoor", sum := "445c007f7b504621579170bee05da234e9820ad20a1997c3be78ebb37880688f", func := "quayside/quaysidelaw37.PurgelogFirst", spec := "purgelogFirst", inPlace := ["internal/bytealg.IndexByteString", "internal/bytealg.CountString", "internal/bytealg.IndexString", "internal/abi.NoEscape", "internal/bytealg.MakeNoZero"], recurses := true, named := ["unicode/utf8.first", "unicode/utf8.acceptRanges", "internal/bytealg.MaxLen"], apart := false, laid := [("unicode/utf8.acceptRanges", laid_unicode_utf8_acceptRanges), ("unicode/utf8.first", laid_unicode_utf8_first)] }
def PurgelogFirstSaid : Prop := purgelogFirstRow.holds Tryd.pinned (OpenSpec.ofChange purgelogFirstSpec)

/-- ITS FALSE NEIGHBOUR: 'it returns false'. Refute it at one input. -/
def purgelogFirstWrong : ChangeSpec := { name := "purgelogFirst", fn := fun _ => fun
  | [d1, d2] => { results := [.lit (.bool false)], args := [d1, d2] }
  | _ => none }
def PurgelogFirstWrongFalsely : Prop := purgelogFirstRow.holds Tryd.pinned (OpenSpec.ofChange purgelogFirstWrong)

/-- 'quaysidelaw37.PurgelogNone': WHATEVER THE INPUT: true; the input reads as it did. -/
def purgelogNoneSpec : ChangeSpec := { name := "purgelogNone", fn := fun _ => fun
  | [d] => { results := [.lit (.bool true)], args := [d] }
  | _ => none }
def purgelogNoneRow : OpenClaim := { program := "ytijjggbiljkalaadoor", sum := "445c007f7b504621579170bee05da234e9820ad20a1997c3be78ebb37880688f", func := "quayside/quaysidelaw37.PurgelogNone", spec := "purgelogNone", inPlace := ["internal/bytealg.IndexByteString", "internal/bytealg.CountString", "internal/bytealg.IndexString", "internal/abi.NoEscape", "internal/bytealg.MakeNoZero"], recurses := true, named := ["unicode/utf8.first", "unicode/utf8.acceptRanges", "internal/bytealg.MaxLen"], apart := false, laid := [("unicode/utf8.acceptRanges", laid_unicode_utf8_acceptRanges), ("unicode/utf8.first", laid_unicode_utf8_first)] }
def PurgelogNoneSaid : Prop := purgelogNoneRow.holds Tryd.pinned (OpenSpec.ofChange purgelogNoneSpec)

/-- ITS FALSE NEIGHBOUR: 'it returns false'. Refute it at one input. -/
def purgelogNoneWrong : ChangeSpec := { name := "purgelogNone", fn := fun _ => fun
  | [d] => { results := [.lit (.bool false)], args := [d] }
  | _ => none }
def PurgelogNoneWrongFalsely : Prop := purgelogNoneRow.holds Tryd.pinned (OpenSpec.ofChange purgelogNoneWrong)

/-- 'quaysidelaw38.GateSafe': WHATEVER THE INPUT: true; the input reads as it did. -/
def gateSafeSpec : ChangeSpec := { name := "gateSafe", fn := fun _ => fun
  | [d1, d2, d3] => { results := [.lit (.bool true)], args := [d1, d2, d3] }
  | _ => none }
def gateSafeRow : OpenClaim := { program := "ytijjggbiljkalaadoor", sum := "445c007f7b504621579170bee05da234e9820ad20a1997c3be78ebb37880688f", func := "quayside/quaysidelaw38.GateSafe", spec := "gateSafe", inPlace := ["internal/bytealg.IndexByteString", "internal/bytealg.CountString", "internal/bytealg.IndexString", "internal/abi.NoEscape", "internal/bytealg.MakeNoZero"], unfollowed := true, recurses := true, named := ["unicode/utf8.first", "unicode/utf8.acceptRanges", "internal/bytealg.MaxLen"], apart := false, laid := [("unicode/utf8.acceptRanges", laid_unicode_utf8_acceptRanges), ("unicode/utf8.first", laid_unicode_utf8_first)] }
def GateSafeSaid : Prop := gateSafeRow.holds Tryd.pinned (OpenSpec.ofChange gateSafeSpec)

/-- ITS FALSE NEIGHBOUR: 'it returns false'. Refute it at one input. -/
def gateSafeWrong : ChangeSpec := { name := "gateSafe", fn := fun _ => fun
  | [d1, d2, d3] => { results := [.lit (.bool false)], args := [d1, d2, d3] }
  | _ => none }
def GateSafeWrongFalsely : Prop := gateSafeRow.holds Tryd.pinned (OpenSpec.ofChange gateSafeWrong)

/-- 'quaysidelaw38.GateGrows': WHATEVER THE INPUT: true; the input reads as it did. -/
def gateGrowsSpec : ChangeSpec := { name := "gateGrows", fn := fun _ => fun
  | [d1, d2] => { results := [.lit (.bool true)], args := [d1, d2] }
  | _ => none }
def gateGrowsRow : OpenClaim := { program := "ytijjggbiljkalaadoor", sum := "445c007f7b504621579170bee05da234e9820ad20a1997c3be78ebb37880688f", func := "quayside/quaysidelaw38.GateGrows", spec := "gateGrows", inPlace := ["internal/bytealg.IndexByteString", "internal/bytealg.CountString", "internal/bytealg.IndexString", "internal/abi.NoEscape", "internal/bytealg.MakeNoZero"], unfollowed := true, recurses := true, named := ["unicode/utf8.first", "unicode/utf8.acceptRanges", "internal/bytealg.MaxLen"], apart := false, laid := [("unicode/utf8.acceptRanges", laid_unicode_utf8_acceptRanges), ("unicode/utf8.first", laid_unicode_utf8_first)] }
def GateGrowsSaid : Prop := gateGrowsRow.holds Tryd.pinned (OpenSpec.ofChange gateGrowsSpec)

/-- ITS FALSE NEIGHBOUR: 'it returns false'. Refute it at one input. -/
def gateGrowsWrong : ChangeSpec := { name := "gateGrows", fn := fun _ => fun
  | [d1, d2] => { results := [.lit (.bool false)], args := [d1, d2] }
  | _ => none }
def GateGrowsWrongFalsely : Prop := gateGrowsRow.holds Tryd.pinned (OpenSpec.ofChange gateGrowsWrong)

/-- 'quaysidelaw38.GateNone': WHATEVER THE INPUT: true; the input reads as it did. -/
def gateNoneSpec : ChangeSpec := { name := "gateNone", fn := fun _ => fun
  | [d] => { results := [.lit (.bool true)], args := [d] }
  | _ => none }
def gateNoneRow : OpenClaim := { program := "ytijjggbiljkalaadoor", sum := "445c007f7b504621579170bee05da234e9820ad20a1997c3be78ebb37880688f", func := "quayside/quaysidelaw38.GateNone", spec := "gateNone", inPlace := ["internal/bytealg.IndexByteString", "internal/bytealg.CountString", "internal/bytealg.IndexString", "internal/abi.NoEscape", "internal/bytealg.MakeNoZero"], unfollowed := true, recurses := true, named := ["unicode/utf8.first", "unicode/utf8.acceptRanges", "internal/bytealg.MaxLen"], apart := false, laid := [("unicode/utf8.acceptRanges", laid_unicode_utf8_acceptRanges), ("unicode/utf8.first", laid_unicode_utf8_first)] }
def GateNoneSaid : Prop := gateNoneRow.holds Tryd.pinned (OpenSpec.ofChange gateNoneSpec)

/-- ITS FALSE NEIGHBOUR: 'it returns false'. Refute it at one input. -/
def gateNoneWrong : ChangeSpec := { name := "gateNone", fn := fun _ => fun
  | [d] => { results := [.lit (.bool false)], args := [d] }
  | _ => none }
def GateNoneWrongFalsely : Prop := gateNoneRow.holds Tryd.pinned (OpenSpec.ofChange gateNoneWrong)

/-- 'quaysidelaw38.GateGathers': WHATEVER THE INPUT: true; the input reads as it did. -/
def gateGathersSpec : ChangeSpec := { name := "gateGathers", fn := fun _ => fun
  | [d1, d2, d3] => { results := [.lit (.bool true)], args := [d1, d2, d3] }
  | _ => none }
def gateGathersRow : OpenClaim := { program := "ytijjggbiljkalaadoor", sum := "445c007f7b504621579170bee05da234e9820ad20a1997c3be78ebb37880688f", func := "quayside/quaysidelaw38.GateGathers", spec := "gateGathers", inPlace := ["internal/bytealg.IndexByteString", "internal/bytealg.CountString", "internal/bytealg.IndexString", "internal/abi.NoEscape", "internal/bytealg.MakeNoZero"], unfollowed := true, recurses := true, named := ["unicode/utf8.first", "unicode/utf8.acceptRanges", "internal/bytealg.MaxLen"], apart := false, laid := [("unicode/utf8.acceptRanges", laid_unicode_utf8_acceptRanges), ("unicode/utf8.first", laid_unicode_utf8_first)] }
def GateGathersSaid : Prop := gateGathersRow.holds Tryd.pinned (OpenSpec.ofChange gateGathersSpec)

/-- ITS FALSE NEIGHBOUR: 'it returns false'. Refute it at one input. -/
def gateGathersWrong : ChangeSpec := { name := "gateGathers", fn := fun _ => fun
  | [d1, d2, d3] => { results := [.lit (.bool false)], args := [d1, d2, d3] }
  | _ => none }
def GateGathersWrongFalsely : Prop := gateGathersRow.holds Tryd.pinned (OpenSpec.ofChange gateGathersWrong)

/- THE SECOND FORM. 'bulk': how many values and letters a reading holds, each counted each time it is reached (what is shared counts as often as it is met; a slice's spare places count too). A statement '..UptoSaid' is the law's where the arguments, and the package variables that the reading takes, are together of bulk at most 1048576: NARROWER than '..Said'. Prove '..Said' where nothing that the law and all that it calls make is longer than what came in: it says more and counts as full. Else prove '..UptoSaid'. A law counts once. -/
mutual
def uptoBulk {H : Type} : DataW H → Nat
  | .lit (.string bytes) => bytes.length + 1
  | .lit _ => 1
  | .nil => 1
  | .ptr d => uptoBulk d + 1
  | .slice elems spare => uptoBulkAll elems + uptoBulkAll spare + 1
  | .agg parts => uptoBulkAll parts + 1
  | .iface _ d => uptoBulk d + 1
  | .map entries => uptoBulkEntries entries + 1
  | .held _ => 1
def uptoBulkAll {H : Type} : List (DataW H) → Nat
  | [] => 0
  | d :: r => uptoBulk d + uptoBulkAll r
def uptoBulkEntries {H : Type} : List (Lit × DataW H) → Nat
  | [] => 0
  | x :: r => uptoBulkEntry x + uptoBulkEntries r
def uptoBulkEntry {H : Type} : Lit × DataW H → Nat
  | (.string bytes, d) => bytes.length + uptoBulk d + 1
  | (_, d) => uptoBulk d + 1
 end
def uptoSmall : (H : Type) → List (DataW H) → Bool := fun _ ds => decide (uptoBulkAll ds ≤ 1048576)
def OpenSpec.upto (s : _root_.Go.ChangeSpec) : _root_.Go.OpenSpec := { _root_.Go.OpenSpec.ofChange s with cond := some uptoSmall }

/-- 'quaysidelaw37.PurgelogMakes', WHERE WHAT IT READS IS OF BULK AT MOST 1048576: true; the input reads as it did. -/
def purgelogMakesUptoRow : OpenClaim := { program := "ytijjggbiljkalaadoor", sum := "445c007f7b504621579170bee05da234e9820ad20a1997c3be78ebb37880688f", func := "quayside/quaysidelaw37.PurgelogMakes", spec := "purgelogMakes", inPlace := ["internal/bytealg.IndexByteString", "internal/bytealg.CountString", "internal/bytealg.IndexString", "internal/abi.NoEscape", "internal/bytealg.MakeNoZero"], recurses := true, named := ["unicode/utf8.first", "unicode/utf8.acceptRanges", "internal/bytealg.MaxLen"], apart := false, laid := [("unicode/utf8.acceptRanges", laid_unicode_utf8_acceptRanges), ("unicode/utf8.first", laid_unicode_utf8_first)], narrowed := true }
def PurgelogMakesUptoSaid : Prop := purgelogMakesUptoRow.holds Tryd.pinned (OpenSpec.upto purgelogMakesSpec)

/-- 'quaysidelaw37.PurgelogWindow', WHERE WHAT IT READS IS OF BULK AT MOST 1048576: true; the input reads as it did. -/
def purgelogWindowUptoRow : OpenClaim := { program := "ytijjggbiljkalaadoor", sum := "445c007f7b504621579170bee05da234e9820ad20a1997c3be78ebb37880688f", func := "quayside/quaysidelaw37.PurgelogWindow", spec := "purgelogWindow", inPlace := ["internal/bytealg.IndexByteString", "internal/bytealg.CountString", "internal/bytealg.IndexString", "internal/abi.NoEscape", "internal/bytealg.MakeNoZero"], recurses := true, named := ["unicode/utf8.first", "unicode/utf8.acceptRanges", "internal/bytealg.MaxLen"], apart := false, laid := [("unicode/utf8.acceptRanges", laid_unicode_utf8_acceptRanges), ("unicode/utf8.first", laid_unicode_utf8_first)], narrowed := true }
def PurgelogWindowUptoSaid : Prop := purgelogWindowUptoRow.holds Tryd.pinned (OpenSpec.upto purgelogWindowSpec)

/-- 'quaysidelaw37.PurgelogPlays', WHERE WHAT IT READS IS OF BULK AT MOST 1048576: true; the input reads as it did. -/
def purgelogPlaysUptoRow : OpenClaim := { program := "ytijjggbiljkalaadoor", sum := "445c007f7b504621579170bee05da234e9820ad20a1997c3be78ebb37880688f", func := "quayside/quaysidelaw37.PurgelogPlays", spec := "purgelogPlays", inPlace := ["internal/bytealg.IndexByteString", "internal/bytealg.CountString", "internal/bytealg.IndexString", "internal/abi.NoEscape", "internal/bytealg.MakeNoZero"], recurses := true, named := ["unicode/utf8.first", "unicode/utf8.acceptRanges", "internal/bytealg.MaxLen"], apart := false, laid := [("unicode/utf8.acceptRanges", laid_unicode_utf8_acceptRanges), ("unicode/utf8.first", laid_unicode_utf8_first)], narrowed := true }
def PurgelogPlaysUptoSaid : Prop := purgelogPlaysUptoRow.holds Tryd.pinned (OpenSpec.upto purgelogPlaysSpec)

/-- 'quaysidelaw37.PurgelogCopies', WHERE WHAT IT READS IS OF BULK AT MOST 1048576: true; the input reads as it did. -/
def purgelogCopiesUptoRow : OpenClaim := { program := "ytijjggbiljkalaadoor", sum := "445c007f7b504621579170bee05da234e9820ad20a1997c3be78ebb37880688f", func := "quayside/quaysidelaw37.PurgelogCopies", spec := "purgelogCopies", inPlace := ["internal/bytealg.IndexByteString", "internal/bytealg.CountString", "internal/bytealg.IndexString", "internal/abi.NoEscape", "internal/bytealg.MakeNoZero"], recurses := true, named := ["unicode/utf8.first", "unicode/utf8.acceptRanges", "internal/bytealg.MaxLen"], apart := false, laid := [("unicode/utf8.acceptRanges", laid_unicode_utf8_acceptRanges), ("unicode/utf8.first", laid_unicode_utf8_first)], narrowed := true }
def PurgelogCopiesUptoSaid : Prop := purgelogCopiesUptoRow.holds Tryd.pinned (OpenSpec.upto purgelogCopiesSpec)

/-- 'quaysidelaw38.GateMakes', WHERE WHAT IT READS IS OF BULK AT MOST 1048576: true; the input reads as it did. -/
def gateMakesUptoRow : OpenClaim := { program := "ytijjggbiljkalaadoor", sum := "445c007f7b504621579170bee05da234e9820ad20a1997c3be78ebb37880688f", func := "quayside/quaysidelaw38.GateMakes", spec := "gateMakes", inPlace := ["internal/bytealg.IndexByteString", "internal/bytealg.CountString", "internal/bytealg.IndexString", "internal/abi.NoEscape", "internal/bytealg.MakeNoZero"], recurses := true, named := ["unicode/utf8.first", "unicode/utf8.acceptRanges", "internal/bytealg.MaxLen"], apart := false, laid := [("unicode/utf8.acceptRanges", laid_unicode_utf8_acceptRanges), ("unicode/utf8.first", laid_unicode_utf8_first)], narrowed := true }
def GateMakesUptoSaid : Prop := gateMakesUptoRow.holds Tryd.pinned (OpenSpec.upto gateMakesSpec)

/-- 'quaysidelaw37.PurgelogFirst', WHERE WHAT IT READS IS OF BULK AT MOST 1048576: true; the input reads as it did. -/
def purgelogFirstUptoRow : OpenClaim := { program := "ytijjggbiljkalaadoor", sum := "445c007f7b504621579170bee05da234e9820ad20a1997c3be78ebb37880688f", func := "quayside/quaysidelaw37.PurgelogFirst", spec := "purgelogFirst", inPlace := ["internal/bytealg.IndexByteString", "internal/bytealg.CountString", "internal/bytealg.IndexString", "internal/abi.NoEscape", "internal/bytealg.MakeNoZero"], recurses := true, named := ["unicode/utf8.first", "unicode/utf8.acceptRanges", "internal/bytealg.MaxLen"], apart := false, laid := [("unicode/utf8.acceptRanges", laid_unicode_utf8_acceptRanges), ("unicode/utf8.first", laid_unicode_utf8_first)], narrowed := true }
def PurgelogFirstUptoSaid : Prop := purgelogFirstUptoRow.holds Tryd.pinned (OpenSpec.upto purgelogFirstSpec)

/-- 'quaysidelaw37.PurgelogNone', WHERE WHAT IT READS IS OF BULK AT MOST 1048576: true; the input reads as it did. -/
def purgelogNoneUptoRow : OpenClaim := { program := "ytijjggbiljkalaadoor", sum := "445c007f7b504621579170bee05da234e9820ad20a1997c3be78ebb37880688f", func := "quayside/quaysidelaw37.PurgelogNone", spec := "purgelogNone", inPlace := ["internal/bytealg.IndexByteString", "internal/bytealg.CountString", "internal/bytealg.IndexString", "internal/abi.NoEscape", "internal/bytealg.MakeNoZero"], recurses := true, named := ["unicode/utf8.first", "unicode/utf8.acceptRanges", "internal/bytealg.MaxLen"], apart := false, laid := [("unicode/utf8.acceptRanges", laid_unicode_utf8_acceptRanges), ("unicode/utf8.first", laid_unicode_utf8_first)], narrowed := true }
def PurgelogNoneUptoSaid : Prop := purgelogNoneUptoRow.holds Tryd.pinned (OpenSpec.upto purgelogNoneSpec)

/-- 'quaysidelaw38.GateSafe', WHERE WHAT IT READS IS OF BULK AT MOST 1048576: true; the input reads as it did. -/
def gateSafeUptoRow : OpenClaim := { program := "ytijjggbiljkalaadoor", sum := "445c007f7b504621579170bee05da234e9820ad20a1997c3be78ebb37880688f", func := "quayside/quaysidelaw38.GateSafe", spec := "gateSafe", inPlace := ["internal/bytealg.IndexByteString", "internal/bytealg.CountString", "internal/bytealg.IndexString", "internal/abi.NoEscape", "internal/bytealg.MakeNoZero"], unfollowed := true, recurses := true, named := ["unicode/utf8.first", "unicode/utf8.acceptRanges", "internal/bytealg.MaxLen"], apart := false, laid := [("unicode/utf8.acceptRanges", laid_unicode_utf8_acceptRanges), ("unicode/utf8.first", laid_unicode_utf8_first)], narrowed := true }
def GateSafeUptoSaid : Prop := gateSafeUptoRow.holds Tryd.pinned (OpenSpec.upto gateSafeSpec)

/-- 'quaysidelaw38.GateGrows', WHERE WHAT IT READS IS OF BULK AT MOST 1048576: true; the input reads as it did. -/
def gateGrowsUptoRow : OpenClaim := { program := "ytijjggbiljkalaadoor", sum := "445c007f7b504621579170bee05da234e9820ad20a1997c3be78ebb37880688f", func := "quayside/quaysidelaw38.GateGrows", spec := "gateGrows", inPlace := ["internal/bytealg.IndexByteString", "internal/bytealg.CountString", "internal/bytealg.IndexString", "internal/abi.NoEscape", "internal/bytealg.MakeNoZero"], unfollowed := true, recurses := true, named := ["unicode/utf8.first", "unicode/utf8.acceptRanges", "internal/bytealg.MaxLen"], apart := false, laid := [("unicode/utf8.acceptRanges", laid_unicode_utf8_acceptRanges), ("unicode/utf8.first", laid_unicode_utf8_first)], narrowed := true }
def GateGrowsUptoSaid : Prop := gateGrowsUptoRow.holds Tryd.pinned (OpenSpec.upto gateGrowsSpec)

/-- 'quaysidelaw38.GateNone', WHERE WHAT IT READS IS OF BULK AT MOST 1048576: true; the input reads as it did. -/
def gateNoneUptoRow : OpenClaim := { program := "ytijjggbiljkalaadoor", sum := "445c007f7b504621579170bee05da234e9820ad20a1997c3be78ebb37880688f", func := "quayside/quaysidelaw38.GateNone", spec := "gateNone", inPlace := ["internal/bytealg.IndexByteString", "internal/bytealg.CountString", "internal/bytealg.IndexString", "internal/abi.NoEscape", "internal/bytealg.MakeNoZero"], unfollowed := true, recurses := true, named := ["unicode/utf8.first", "unicode/utf8.acceptRanges", "internal/bytealg.MaxLen"], apart := false, laid := [("unicode/utf8.acceptRanges", laid_unicode_utf8_acceptRanges), ("unicode/utf8.first", laid_unicode_utf8_first)], narrowed := true }
def GateNoneUptoSaid : Prop := gateNoneUptoRow.holds Tryd.pinned (OpenSpec.upto gateNoneSpec)

/-- 'quaysidelaw38.GateGathers', WHERE WHAT IT READS IS OF BULK AT MOST 1048576: true; the input reads as it did. -/
def gateGathersUptoRow : OpenClaim := { program := "ytijjggbiljkalaadoor", sum := "445c007f7b504621579170bee05da234e9820ad20a1997c3be78ebb37880688f", func := "quayside/quaysidelaw38.GateGathers", spec := "gateGathers", inPlace := ["internal/bytealg.IndexByteString", "internal/bytealg.CountString", "internal/bytealg.IndexString", "internal/abi.NoEscape", "internal/bytealg.MakeNoZero"], unfollowed := true, recurses := true, named := ["unicode/utf8.first", "unicode/utf8.acceptRanges", "internal/bytealg.MaxLen"], apart := false, laid := [("unicode/utf8.acceptRanges", laid_unicode_utf8_acceptRanges), ("unicode/utf8.first", laid_unicode_utf8_first)], narrowed := true }
def GateGathersUptoSaid : Prop := gateGathersUptoRow.holds Tryd.pinned (OpenSpec.upto gateGathersSpec)

end Rows
end Go.Proofs.YtijjggbiljkalaaDoor
