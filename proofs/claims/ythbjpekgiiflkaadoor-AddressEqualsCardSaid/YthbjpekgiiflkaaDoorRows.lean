/-
  NARROWER THAN 'FOR EVERY INPUT', by the rows' own cells (each row's printed sentence says how): AddressHosts: laid · AddressEquals: laid · AddressParses: laid · AddressFormats: laid · AddressUnder: laid · AddressSegments: laid · AddressArgs: laid · AddressReads: laid · AddressReturns: laid.
  DERIVED. THE GIVEN ROWS OF THIS SEAT. 9 by the template 'for every input the law returns true; each argument reads behind the call as it read before'; 0 by the template 'total and deterministic' (their statements: YthbjpekgiiflkaaDoorTotals.lean).
  GIVEN WITH THE SEED: the statements are not yours to turn. If you find one false, say at which input.
  Laid BY PROGRAM, IN A SANDBOX (cutbox-rows.mjs): the forced cells as the released guide's own fill.sh prints them over the translation b530c77bbf1688e1… (all of the seat's roots in one cut). By AI agents, Wed Nov 11 2026. No macro, syntax, notation, axiom, sorry.
-/
import Derived.Test.YthbjpekgiiflkaaDoorChecked
import GoSem.PinnedTables
import GoSem.Claim
import GoSem.ClaimJoined
import GoSem.ClaimMapViews
import Derived.JoinedTies
import Derived.KernelRfl
namespace Go.Proofs.YthbjpekgiiflkaaDoor
/- THE CELL 'sum', in the pinned program and in every row, IS THE sha256 OF THE DUMP (.gsa) THAT YthbjpekgiiflkaaDoorProg.lean LOADS. Nothing in Lean hashes anything: it is a label: what it is worth is what the hold of that sum in a sandbox is worth. -/
noncomputable def Tryd.pinned : Pinned := { name := "ythbjpekgiiflkaadoor", sum := "b530c77bbf1688e100ac33d8cb50d71a3a2b5aaaa450a944b7381174176de4d6", checked := Tryd.checked }
namespace Rows
def none {H : Type} : Left H := { results := [], args := [] }

/- WHAT THE LISTED PACKAGE-LEVEL VARIABLES READ AS WHEN THE CALL BEGINS. Each datum BY PROGRAM (the guide's laid-datum.mjs) off the statement by which the dump's own 'gosem.cut.vars' lays the variable. In a bare row this is a premise. The card (YthbjpekgiiflkaaDoorCards.lean) ties it to the program's text. -/
def laid_unicode_utf8_acceptRanges {H : Type} : DataW H := .agg [.agg [.lit (.int .u8 128), .lit (.int .u8 191)], .agg [.lit (.int .u8 160), .lit (.int .u8 191)], .agg [.lit (.int .u8 128), .lit (.int .u8 159)], .agg [.lit (.int .u8 144), .lit (.int .u8 191)], .agg [.lit (.int .u8 128), .lit (.int .u8 143)], .agg [.lit (.int .u8 0), .lit (.int .u8 0)], .agg [.lit (.int .u8 0), .lit (.int .u8 0)], .agg [.lit (.int .u8 0), .lit (.int .u8 0)], .agg [.lit (.int .u8 0), .lit (.int .u8 0)], .agg [.lit (.int .u8 0), .lit (.int .u8 0)], .agg [.lit (.int .u8 0), .lit (.int .u8 0)], .agg [.lit (.int .u8 0), .lit (.int .u8 0)], .agg [.lit (.int .u8 0), .lit (.int .u8 0)], .agg [.lit (.int .u8 0), .lit (.int .u8 0)], .agg [.lit (.int .u8 0), .lit (.int .u8 0)], .agg [.lit (.int .u8 0), .lit (.int .u8 0)]]
/-- One of Go's own tables, pinned by name: the form's constant. -/
def laid_unicode_utf8_first : DataW Unit := Go.Pinned.utf8First

/-- 'quaysidelaw03.AddressHosts': WHATEVER THE INPUT: true; the input reads as it did. -/
def addressHostsSpec : ChangeSpec := { name := "addressHosts", fn := fun _ => fun
  | [d] => { results := [.lit (.bool true)], args := [d] }
  | _ => none }
def addressHostsRow : OpenClaim := { program := "ythbjpekgiiflkaadoor", sum := "b530c77bbf1688e100ac33d8cb50d71a3a2b5aaaa450a944b7381174176de4d6", func := "quayside/quaysidelaw03.AddressHosts", spec := "addressHosts", inPlace := ["internal/bytealg.CountString", "internal/bytealg.IndexByteString", "internal/bytealg.IndexString", "internal/abi.NoEscape", "internal/bytealg.MakeNoZero"], named := ["unicode/utf8.first", "unicode/utf8.acceptRanges", "internal/bytealg.MaxLen"], apart := false, laid := [("unicode/utf8.acceptRanges", laid_unicode_utf8_acceptRanges), ("unicode/utf8.first", laid_unicode_utf8_first)] }
def AddressHostsSaid : Prop := addressHostsRow.holds Tryd.pinned (OpenSpec.ofChange addressHostsSpec)

/-- ITS FALSE NEIGHBOUR: 'it returns false'. Refute it at one input. -/
def addressHostsWrong : ChangeSpec := { name := "addressHosts", fn := fun _ => fun
  | [d] => { results := [.lit (.bool false)], args := [d] }
  | _ => none }
def AddressHostsWrongFalsely : Prop := addressHostsRow.holds Tryd.pinned (OpenSpec.ofChange addressHostsWrong)

/-- 'quaysidelaw03.AddressEquals': WHATEVER THE INPUT: true; the input reads as it did. -/
def addressEqualsSpec : ChangeSpec := { name := "addressEquals", fn := fun _ => fun
  | [d1, d2] => { results := [.lit (.bool true)], args := [d1, d2] }
  | _ => none }
def addressEqualsRow : OpenClaim := { program := "ythbjpekgiiflkaadoor", sum := "b530c77bbf1688e100ac33d8cb50d71a3a2b5aaaa450a944b7381174176de4d6", func := "quayside/quaysidelaw03.AddressEquals", spec := "addressEquals", inPlace := ["internal/bytealg.CountString", "internal/bytealg.IndexByteString", "internal/bytealg.IndexString", "internal/abi.NoEscape", "internal/bytealg.MakeNoZero"], named := ["unicode/utf8.first", "unicode/utf8.acceptRanges", "internal/bytealg.MaxLen"], apart := false, laid := [("unicode/utf8.acceptRanges", laid_unicode_utf8_acceptRanges), ("unicode/utf8.first", laid_unicode_utf8_first)] }
def AddressEqualsSaid : Prop := addressEqualsRow.holds Tryd.pinned (OpenSpec.ofChange addressEqualsSpec)

/-- ITS FALSE NEIGHBOUR: 'it returns false'. Refute it at one input. -/
def addressEqualsWrong : ChangeSpec := { name := "addressEquals", fn := fun _ => fun
  | [d1, d2] => { results := [.lit (.bool false)], args := [d1, d2] }
  | _ => none }
def AddressEqualsWrongFalsely : Prop := addressEqualsRow.holds Tryd.pinned (OpenSpec.ofChange addressEqualsWrong)

/-- 'quaysidelaw03.AddressParses': WHATEVER THE INPUT: true; the input reads as it did. -/
def addressParsesSpec : ChangeSpec := { name := "addressParses", fn := fun _ => fun
  | [d1, d2] => { results := [.lit (.bool true)], args := [d1, d2] }
  | _ => none }
def addressParsesRow : OpenClaim := { program := "ythbjpekgiiflkaadoor", sum := "b530c77bbf1688e100ac33d8cb50d71a3a2b5aaaa450a944b7381174176de4d6", func := "quayside/quaysidelaw03.AddressParses", spec := "addressParses", inPlace := ["internal/bytealg.CountString", "internal/bytealg.IndexByteString", "internal/bytealg.IndexString", "internal/abi.NoEscape", "internal/bytealg.MakeNoZero"], named := ["unicode/utf8.first", "unicode/utf8.acceptRanges", "internal/bytealg.MaxLen"], apart := false, laid := [("unicode/utf8.acceptRanges", laid_unicode_utf8_acceptRanges), ("unicode/utf8.first", laid_unicode_utf8_first)] }
def AddressParsesSaid : Prop := addressParsesRow.holds Tryd.pinned (OpenSpec.ofChange addressParsesSpec)

/-- ITS FALSE NEIGHBOUR: 'it returns false'. Refute it at one input. -/
def addressParsesWrong : ChangeSpec := { name := "addressParses", fn := fun _ => fun
  | [d1, d2] => { results := [.lit (.bool false)], args := [d1, d2] }
  | _ => none }
def AddressParsesWrongFalsely : Prop := addressParsesRow.holds Tryd.pinned (OpenSpec.ofChange addressParsesWrong)

/-- 'quaysidelaw03.AddressFormats': WHATEVER THE INPUT: true; the input reads as it did. -/
def addressFormatsSpec : ChangeSpec := { name := "addressFormats", fn := fun _ => fun
  | [d] => { results := [.lit (.bool true)], args := [d] }
  | _ => none }
def addressFormatsRow : OpenClaim := { program := "ythbjpekgiiflkaadoor", sum := "b530c77bbf1688e100ac33d8cb50d71a3a2b5aaaa450a944b7381174176de4d6", func := "quayside/quaysidelaw03.AddressFormats", spec := "addressFormats", inPlace := ["internal/bytealg.CountString", "internal/bytealg.IndexByteString", "internal/bytealg.IndexString", "internal/abi.NoEscape", "internal/bytealg.MakeNoZero"], named := ["unicode/utf8.first", "unicode/utf8.acceptRanges", "internal/bytealg.MaxLen"], apart := false, laid := [("unicode/utf8.acceptRanges", laid_unicode_utf8_acceptRanges), ("unicode/utf8.first", laid_unicode_utf8_first)] }
def AddressFormatsSaid : Prop := addressFormatsRow.holds Tryd.pinned (OpenSpec.ofChange addressFormatsSpec)

/-- ITS FALSE NEIGHBOUR: 'it returns false'. Refute it at one input. -/
def addressFormatsWrong : ChangeSpec := { name := "addressFormats", fn := fun _ => fun
  | [d] => { results := [.lit (.bool false)], args := [d] }
  | _ => none }
def AddressFormatsWrongFalsely : Prop := addressFormatsRow.holds Tryd.pinned (OpenSpec.ofChange addressFormatsWrong)

/-- 'quaysidelaw03.AddressUnder': WHATEVER THE INPUT: true; the input reads as it did. -/
def addressUnderSpec : ChangeSpec := { name := "addressUnder", fn := fun _ => fun
  | [d1, d2] => { results := [.lit (.bool true)], args := [d1, d2] }
  | _ => none }
def addressUnderRow : OpenClaim := { program := "ythbjpekgiiflkaadoor", sum := "b530c77bbf1688e100ac33d8cb50d71a3a2b5aaaa450a944b7381174176de4d6", func := "quayside/quaysidelaw03.AddressUnder", spec := "addressUnder", inPlace := ["internal/bytealg.CountString", "internal/bytealg.IndexByteString", "internal/bytealg.IndexString", "internal/abi.NoEscape", "internal/bytealg.MakeNoZero"], named := ["unicode/utf8.first", "unicode/utf8.acceptRanges", "internal/bytealg.MaxLen"], apart := false, laid := [("unicode/utf8.acceptRanges", laid_unicode_utf8_acceptRanges), ("unicode/utf8.first", laid_unicode_utf8_first)] }
def AddressUnderSaid : Prop := addressUnderRow.holds Tryd.pinned (OpenSpec.ofChange addressUnderSpec)

/-- ITS FALSE NEIGHBOUR: 'it returns false'. Refute it at one input. -/
def addressUnderWrong : ChangeSpec := { name := "addressUnder", fn := fun _ => fun
  | [d1, d2] => { results := [.lit (.bool false)], args := [d1, d2] }
  | _ => none }
def AddressUnderWrongFalsely : Prop := addressUnderRow.holds Tryd.pinned (OpenSpec.ofChange addressUnderWrong)

/-- 'quaysidelaw03.AddressSegments': WHATEVER THE INPUT: true; the input reads as it did. -/
def addressSegmentsSpec : ChangeSpec := { name := "addressSegments", fn := fun _ => fun
  | [d1, d2, d3] => { results := [.lit (.bool true)], args := [d1, d2, d3] }
  | _ => none }
def addressSegmentsRow : OpenClaim := { program := "ythbjpekgiiflkaadoor", sum := "b530c77bbf1688e100ac33d8cb50d71a3a2b5aaaa450a944b7381174176de4d6", func := "quayside/quaysidelaw03.AddressSegments", spec := "addressSegments", inPlace := ["internal/bytealg.CountString", "internal/bytealg.IndexByteString", "internal/bytealg.IndexString", "internal/abi.NoEscape", "internal/bytealg.MakeNoZero"], named := ["unicode/utf8.first", "unicode/utf8.acceptRanges", "internal/bytealg.MaxLen"], apart := false, laid := [("unicode/utf8.acceptRanges", laid_unicode_utf8_acceptRanges), ("unicode/utf8.first", laid_unicode_utf8_first)] }
def AddressSegmentsSaid : Prop := addressSegmentsRow.holds Tryd.pinned (OpenSpec.ofChange addressSegmentsSpec)

/-- ITS FALSE NEIGHBOUR: 'it returns false'. Refute it at one input. -/
def addressSegmentsWrong : ChangeSpec := { name := "addressSegments", fn := fun _ => fun
  | [d1, d2, d3] => { results := [.lit (.bool false)], args := [d1, d2, d3] }
  | _ => none }
def AddressSegmentsWrongFalsely : Prop := addressSegmentsRow.holds Tryd.pinned (OpenSpec.ofChange addressSegmentsWrong)

/-- 'quaysidelaw03.AddressArgs': WHATEVER THE INPUT: true; the input reads as it did. -/
def addressArgsSpec : ChangeSpec := { name := "addressArgs", fn := fun _ => fun
  | [d1, d2] => { results := [.lit (.bool true)], args := [d1, d2] }
  | _ => none }
def addressArgsRow : OpenClaim := { program := "ythbjpekgiiflkaadoor", sum := "b530c77bbf1688e100ac33d8cb50d71a3a2b5aaaa450a944b7381174176de4d6", func := "quayside/quaysidelaw03.AddressArgs", spec := "addressArgs", inPlace := ["internal/bytealg.CountString", "internal/bytealg.IndexByteString", "internal/bytealg.IndexString", "internal/abi.NoEscape", "internal/bytealg.MakeNoZero"], named := ["unicode/utf8.first", "unicode/utf8.acceptRanges", "internal/bytealg.MaxLen"], apart := false, laid := [("unicode/utf8.acceptRanges", laid_unicode_utf8_acceptRanges), ("unicode/utf8.first", laid_unicode_utf8_first)] }
def AddressArgsSaid : Prop := addressArgsRow.holds Tryd.pinned (OpenSpec.ofChange addressArgsSpec)

/-- ITS FALSE NEIGHBOUR: 'it returns false'. Refute it at one input. -/
def addressArgsWrong : ChangeSpec := { name := "addressArgs", fn := fun _ => fun
  | [d1, d2] => { results := [.lit (.bool false)], args := [d1, d2] }
  | _ => none }
def AddressArgsWrongFalsely : Prop := addressArgsRow.holds Tryd.pinned (OpenSpec.ofChange addressArgsWrong)

/-- 'quaysidelaw03.AddressReads': WHATEVER THE INPUT: true; the input reads as it did. -/
def addressReadsSpec : ChangeSpec := { name := "addressReads", fn := fun _ => fun
  | [d] => { results := [.lit (.bool true)], args := [d] }
  | _ => none }
def addressReadsRow : OpenClaim := { program := "ythbjpekgiiflkaadoor", sum := "b530c77bbf1688e100ac33d8cb50d71a3a2b5aaaa450a944b7381174176de4d6", func := "quayside/quaysidelaw03.AddressReads", spec := "addressReads", inPlace := ["internal/bytealg.CountString", "internal/bytealg.IndexByteString", "internal/bytealg.IndexString", "internal/abi.NoEscape", "internal/bytealg.MakeNoZero"], named := ["unicode/utf8.first", "unicode/utf8.acceptRanges", "internal/bytealg.MaxLen"], apart := false, laid := [("unicode/utf8.acceptRanges", laid_unicode_utf8_acceptRanges), ("unicode/utf8.first", laid_unicode_utf8_first)] }
def AddressReadsSaid : Prop := addressReadsRow.holds Tryd.pinned (OpenSpec.ofChange addressReadsSpec)

/-- ITS FALSE NEIGHBOUR: 'it returns false'. Refute it at one input. -/
def addressReadsWrong : ChangeSpec := { name := "addressReads", fn := fun _ => fun
  | [d] => { results := [.lit (.bool false)], args := [d] }
  | _ => none }
def AddressReadsWrongFalsely : Prop := addressReadsRow.holds Tryd.pinned (OpenSpec.ofChange addressReadsWrong)

/-- 'quaysidelaw03.AddressReturns': WHATEVER THE INPUT: true; the input reads as it did. -/
def addressReturnsSpec : ChangeSpec := { name := "addressReturns", fn := fun _ => fun
  | [d1, d2] => { results := [.lit (.bool true)], args := [d1, d2] }
  | _ => none }
def addressReturnsRow : OpenClaim := { program := "ythbjpekgiiflkaadoor", sum := "b530c77bbf1688e100ac33d8cb50d71a3a2b5aaaa450a944b7381174176de4d6", func := "quayside/quaysidelaw03.AddressReturns", spec := "addressReturns", inPlace := ["internal/bytealg.CountString", "internal/bytealg.IndexByteString", "internal/bytealg.IndexString", "internal/abi.NoEscape", "internal/bytealg.MakeNoZero"], named := ["unicode/utf8.first", "unicode/utf8.acceptRanges", "internal/bytealg.MaxLen"], apart := false, laid := [("unicode/utf8.acceptRanges", laid_unicode_utf8_acceptRanges), ("unicode/utf8.first", laid_unicode_utf8_first)] }
def AddressReturnsSaid : Prop := addressReturnsRow.holds Tryd.pinned (OpenSpec.ofChange addressReturnsSpec)

/-- ITS FALSE NEIGHBOUR: 'it returns false'. Refute it at one input. -/
def addressReturnsWrong : ChangeSpec := { name := "addressReturns", fn := fun _ => fun
  | [d1, d2] => { results := [.lit (.bool false)], args := [d1, d2] }
  | _ => none }
def AddressReturnsWrongFalsely : Prop := addressReturnsRow.holds Tryd.pinned (OpenSpec.ofChange addressReturnsWrong)

/- THE SECOND FORM. 'bulk': how many values and letters a reading holds, each counted each time it is reached (what is shared counts as often as it is met; a slice's spare places count too). A statement '..UptoSaid' is the law's where the arguments, and the package variables that the reading takes, are together of bulk at most 1048576: NARROWER than '..Said'. Prove '..Said' where nothing that the law and all that it calls make is longer than what came in: it says more and counts as full. Else prove '..UptoSaid'. A law counts once. -/
mutual
def uptoBulk {H : Type} : DataW H → Nat
  | .lit (.string bytes) => bytes.length + 1
  | .lit _ => 1
  | .nil => 1
  | .ptr d => uptoBulk d + 1
  | .slice elems spare => uptoBulkAll elems + uptoBulkAll spare + 1
  | .agg parts => uptoBulkAll parts + 1
  | .iface _ d => uptoBulk d + 1
  | .map entries => uptoBulkEntries entries + 1
  | .held _ => 1
def uptoBulkAll {H : Type} : List (DataW H) → Nat
  | [] => 0
  | d :: r => uptoBulk d + uptoBulkAll r
def uptoBulkEntries {H : Type} : List (Lit × DataW H) → Nat
  | [] => 0
  | x :: r => uptoBulkEntry x + uptoBulkEntries r
def uptoBulkEntry {H : Type} : Lit × DataW H → Nat
  | (.string bytes, d) => bytes.length + uptoBulk d + 1
  | (_, d) => uptoBulk d + 1
 end
def uptoSmall : (H : Type) → List (DataW H) → Bool := fun _ ds => decide (uptoBulkAll ds ≤ 1048576)
def OpenSpec.upto (s : _root_.Go.ChangeSpec) : _root_.Go.OpenSpec := { _root_.Go.OpenSpec.ofChange s with cond := some uptoSmall }

/-- 'quaysidelaw03.AddressHosts', WHERE WHAT IT READS IS OF BULK AT MOST 1048576: true; the input reads as it did. -/
def addressHostsUptoRow : OpenClaim := { program := "ythbjpekgiiflkaadoor", sum := "b530c77bbf1688e100ac33d8cb50d71a3a2b5aaaa450a944b7381174176de4d6", func := "quayside/quaysidelaw03.AddressHosts", spec := "addressHosts", inPlace := ["internal/bytealg.CountString", "internal/bytealg.IndexByteString", "internal/bytealg.IndexString", "internal/abi.NoEscape", "internal/bytealg.MakeNoZero"], named := ["unicode/utf8.first", "unicode/utf8.acceptRanges", "internal/bytealg.MaxLen"], apart := false, laid := [("unicode/utf8.acceptRanges", laid_unicode_utf8_acceptRanges), ("unicode/utf8.first", laid_unicode_utf8_first)], narrowed := true }
def AddressHostsUptoSaid : Prop := addressHostsUptoRow.holds Tryd.pinned (OpenSpec.upto addressHostsSpec)

/-- 'quaysidelaw03.AddressEquals', WHERE WHAT IT READS IS OF BULK AT MOST 1048576: true; the input reads as it did. -/
def addressEqualsUptoRow : OpenClaim := { program := "ythbjpekgiiflkaadoor", sum := "b530c77bbf1688e100ac33d8cb50d71a3a2b5aaaa450a944b7381174176de4d6", func := "quayside/quaysidelaw03.AddressEquals", spec := "addressEquals", inPlace := ["internal/bytealg.CountString", "internal/bytealg.IndexByteString", "internal/bytealg.IndexString", "internal/abi.NoEscape", "internal/bytealg.MakeNoZero"], named := ["unicode/utf8.first", "unicode/utf8.acceptRanges", "internal/bytealg.MaxLen"], apart := false, laid := [("unicode/utf8.acceptRanges", laid_unicode_utf8_acceptRanges), ("unicode/utf8.first", laid_unicode_utf8_first)], narrowed := true }
def AddressEqualsUptoSaid : Prop := addressEqualsUptoRow.holds Tryd.pinned (OpenSpec.upto addressEqualsSpec)

/-- 'quaysidelaw03.AddressParses', WHERE WHAT IT READS IS OF BULK AT MOST 1048576: true; the input reads as it did. -/
def addressParsesUptoRow : OpenClaim := { program := "ythbjpekgiiflkaadoor", sum := "b530c77bbf1688e100ac33d8cb50d71a3a2b5aaaa450a944b7381174176de4d6", func := "quayside/quaysidelaw03.AddressParses", spec := "addressParses", inPlace := ["internal/bytealg.CountString", "internal/bytealg.IndexByteString", "internal/bytealg.IndexString", "internal/abi.NoEscape", "internal/bytealg.MakeNoZero"], named := ["unicode/utf8.first", "unicode/utf8.acceptRanges", "internal/bytealg.MaxLen"], apart := false, laid := [("unicode/utf8.acceptRanges", laid_unicode_utf8_acceptRanges), ("unicode/utf8.first", laid_unicode_utf8_first)], narrowed := true }
def AddressParsesUptoSaid : Prop := addressParsesUptoRow.holds Tryd.pinned (OpenSpec.upto addressParsesSpec)

/-- 'quaysidelaw03.AddressFormats', WHERE WHAT IT READS IS OF BULK AT MOST 1048576: true; the input reads as it did. -/
def addressFormatsUptoRow : OpenClaim := { program := "ythbjpekgiiflkaadoor", sum := "b530c77bbf1688e100ac33d8cb50d71a3a2b5aaaa450a944b7381174176de4d6", func := "quayside/quaysidelaw03.AddressFormats", spec := "addressFormats", inPlace := ["internal/bytealg.CountString", "internal/bytealg.IndexByteString", "internal/bytealg.IndexString", "internal/abi.NoEscape", "internal/bytealg.MakeNoZero"], named := ["unicode/utf8.first", "unicode/utf8.acceptRanges", "internal/bytealg.MaxLen"], apart := false, laid := [("unicode/utf8.acceptRanges", laid_unicode_utf8_acceptRanges), ("unicode/utf8.first", laid_unicode_utf8_first)], narrowed := true }
def AddressFormatsUptoSaid : Prop := addressFormatsUptoRow.holds Tryd.pinned (OpenSpec.upto addressFormatsSpec)

/-- 'quaysidelaw03.AddressUnder', WHERE WHAT IT READS IS OF BULK AT MOST 1048576: true; the input reads as it did. -/
def addressUnderUptoRow : OpenClaim := { program := "ythbjpekgiiflkaadoor", sum := "b530c77bbf1688e100ac33d8cb50d71a3a2b5aaaa450a944b7381174176de4d6", func := "quayside/quaysidelaw03.AddressUnder", spec := "addressUnder", inPlace := ["internal/bytealg.CountString", "internal/bytealg.IndexByteString", "internal/bytealg.IndexString", "internal/abi.NoEscape", "internal/bytealg.MakeNoZero"], named := ["unicode/utf8.first", "unicode/utf8.acceptRanges", "internal/bytealg.MaxLen"], apart := false, laid := [("unicode/utf8.acceptRanges", laid_unicode_utf8_acceptRanges), ("unicode/utf8.first", laid_unicode_utf8_first)], narrowed := true }
def AddressUnderUptoSaid : Prop := addressUnderUptoRow.holds Tryd.pinned (OpenSpec.upto addressUnderSpec)

/-- 'quaysidelaw03.AddressSegments', WHERE WHAT IT READS IS OF BULK AT MOST 1048576: true; the input reads as it did. -/
def addressSegmentsUptoRow : OpenClaim := { program := "ythbjpekgiiflkaadoor", sum := "b530c77bbf1688e100ac33d8cb50d71a3a2b5aaaa450a944b7381174176de4d6", func := "quayside/quaysidelaw03.AddressSegments", spec := "addressSegments", inPlace := ["internal/bytealg.CountString", "internal/bytealg.IndexByteString", "internal/bytealg.IndexString", "internal/abi.NoEscape", "internal/bytealg.MakeNoZero"], named := ["unicode/utf8.first", "unicode/utf8.acceptRanges", "internal/bytealg.MaxLen"], apart := false, laid := [("unicode/utf8.acceptRanges", laid_unicode_utf8_acceptRanges), ("unicode/utf8.first", laid_unicode_utf8_first)], narrowed := true }
def AddressSegmentsUptoSaid : Prop := addressSegmentsUptoRow.holds Tryd.pinned (OpenSpec.upto addressSegmentsSpec)

/-- 'quaysidelaw03.AddressArgs', WHERE WHAT IT READS IS OF BULK AT MOST 1048576: true; the input reads as it did. -/
def addressArgsUptoRow : OpenClaim := { program := "ythbjpekgiiflkaadoor", sum := "b530c77bbf1688e100ac33d8cb50d71a3a2b5aaaa450a944b7381174176de4d6", func := "quayside/quaysidelaw03.AddressArgs", spec := "addressArgs", inPlace := ["internal/bytealg.CountString", "internal/bytealg.IndexByteString", "internal/bytealg.IndexString", "internal/abi.NoEscape", "internal/bytealg.MakeNoZero"], named := ["unicode/utf8.first", "unicode/utf8.acceptRanges", "internal/bytealg.MaxLen"], apart := false, laid := [("unicode/utf8.acceptRanges", laid_unicode_utf8_acceptRanges), ("unicode/utf8.first", laid_unicode_utf8_first)], narrowed := true }
def AddressArgsUptoSaid : Prop := addressArgsUptoRow.holds Tryd.pinned (OpenSpec.upto addressArgsSpec)

/-- 'quaysidelaw03.AddressReads', WHERE WHAT IT READS IS OF BULK AT MOST 1048576: true; the input reads as it did. -/
def addressReadsUptoRow : OpenClaim := { program := "ythbjpekgiiflkaadoor", sum := "b530c77bbf1688e100ac33d8cb50d71a3a2b5aaaa450a944b7381174176de4d6", func := "quayside/quaysidelaw03.AddressReads", spec := "addressReads", inPlace := ["internal/bytealg.CountString", "internal/bytealg.IndexByteString", "internal/bytealg.IndexString", "internal/abi.NoEscape", "internal/bytealg.MakeNoZero"], named := ["unicode/utf8.first", "unicode/utf8.acceptRanges", "internal/bytealg.MaxLen"], apart := false, laid := [("unicode/utf8.acceptRanges", laid_unicode_utf8_acceptRanges), ("unicode/utf8.first", laid_unicode_utf8_first)], narrowed := true }
def AddressReadsUptoSaid : Prop := addressReadsUptoRow.holds Tryd.pinned (OpenSpec.upto addressReadsSpec)

/-- 'quaysidelaw03.AddressReturns', WHERE WHAT IT READS IS OF BULK AT MOST 1048576: true; the input reads as it did. -/
def addressReturnsUptoRow : OpenClaim := { program := "ythbjpekgiiflkaadoor", sum := "b530c77bbf1688e100ac33d8cb50d71a3a2b5aaaa450a944b7381174176de4d6", func := "quayside/quaysidelaw03.AddressReturns", spec := "addressReturns", inPlace := ["internal/bytealg.CountString", "internal/bytealg.IndexByteString", "internal/bytealg.IndexString", "internal/abi.NoEscape", "internal/bytealg.MakeNoZero"], named := ["unicode/utf8.first", "unicode/utf8.acceptRanges", "internal/bytealg.MaxLen"], apart := false, laid := [("unicode/utf8.acceptRanges", laid_unicode_utf8_acceptRanges), ("unicode/utf8.first", laid_unicode_utf8_first)], narrowed := true }
def AddressReturnsUptoSaid : Prop := addressReturnsUptoRow.holds Tryd.pinned (OpenSpec.upto addressReturnsSpec)

end Rows
end Go.Proofs.YthbjpekgiiflkaaDoor
