/-
  NARROWER THAN 'FOR EVERY INPUT', by the rows' own cells (each row's printed sentence says how): WholeCover: laid · HistoryRules: laid · HistoryChecks: laid · HistoryParts: laid · HistorySpoils: laid · HistoryWhole: laid · HistoryTimes: laid · HistoryLate: laid · HistoryOnce: laid · HistoryFormats: laid.
  DERIVED. THE GIVEN ROWS OF THIS SEAT. 10 by the template 'for every input the law returns true; each argument reads behind the call as it read before'; 0 by the template 'total and deterministic' (their statements: YtjijijjkkhpjnaaGreatDoorTotals.lean).
  GIVEN WITH THE SEED: the statements are not yours to turn. If you find one false, say at which input.
  Laid BY PROGRAM, IN A SANDBOX (cutbox-rows.mjs): the forced cells as the released guide's own fill.sh prints them over the translation 649324fc631d435e… (all of the seat's roots in one cut). By AI agents, Wed Nov 11 2026. No macro, syntax, notation, axiom, sorry.
-/
import Derived.Test.YtjijijjkkhpjnaaGreatDoorChecked
import GoSem.PinnedTables
import GoSem.Claim
import GoSem.ClaimJoined
import GoSem.ClaimMapViews
import Derived.JoinedTies
import Derived.KernelRfl
namespace Go.Proofs.YtjijijjkkhpjnaaGreatDoor
/- THE CELL 'sum', in the pinned program and in every row, IS THE sha256 OF THE DUMP (.gsa) THAT YtjijijjkkhpjnaaGreatDoorProg.lean LOADS. Nothing in Lean hashes anything: it is a label: what it is worth is what the hold of that sum in a sandbox is worth. -/
noncomputable def Tryz.pinned : Pinned := { name := "ytjijijjkkhpjnaagreatdoor", sum := "649324fc631d435e8746aae8c2635c23a356af1a90f7067f2a049850441dba38", checked := Tryz.checked }
namespace Rows
def none {H : Type} : Left H := { results := [], args := [] }

/- WHAT THE LISTED PACKAGE-LEVEL VARIABLES READ AS WHEN THE CALL BEGINS. Each datum BY PROGRAM (the guide's laid-datum.mjs) off the statement by which the dump's own 'gosem.cut.vars' lays the variable. In a bare row this is a premise. The card (YtjijijjkkhpjnaaGreatDoorCards.lean) ties it to the program's text. -/
def laid_math_bits_deBruijn32tab {H : Type} : DataW H := .agg [.lit (.int .u8 0), .lit (.int .u8 1), .lit (.int .u8 28), .lit (.int .u8 2), .lit (.int .u8 29), .lit (.int .u8 14), .lit (.int .u8 24), .lit (.int .u8 3), .lit (.int .u8 30), .lit (.int .u8 22), .lit (.int .u8 20), .lit (.int .u8 15), .lit (.int .u8 25), .lit (.int .u8 17), .lit (.int .u8 4), .lit (.int .u8 8), .lit (.int .u8 31), .lit (.int .u8 27), .lit (.int .u8 13), .lit (.int .u8 23), .lit (.int .u8 21), .lit (.int .u8 19), .lit (.int .u8 16), .lit (.int .u8 7), .lit (.int .u8 26), .lit (.int .u8 12), .lit (.int .u8 18), .lit (.int .u8 6), .lit (.int .u8 11), .lit (.int .u8 5), .lit (.int .u8 10), .lit (.int .u8 9)]
def laid_math_bits_deBruijn64tab {H : Type} : DataW H := .agg [.lit (.int .u8 0), .lit (.int .u8 1), .lit (.int .u8 56), .lit (.int .u8 2), .lit (.int .u8 57), .lit (.int .u8 49), .lit (.int .u8 28), .lit (.int .u8 3), .lit (.int .u8 61), .lit (.int .u8 58), .lit (.int .u8 42), .lit (.int .u8 50), .lit (.int .u8 38), .lit (.int .u8 29), .lit (.int .u8 17), .lit (.int .u8 4), .lit (.int .u8 62), .lit (.int .u8 47), .lit (.int .u8 59), .lit (.int .u8 36), .lit (.int .u8 45), .lit (.int .u8 43), .lit (.int .u8 51), .lit (.int .u8 22), .lit (.int .u8 53), .lit (.int .u8 39), .lit (.int .u8 33), .lit (.int .u8 30), .lit (.int .u8 24), .lit (.int .u8 18), .lit (.int .u8 12), .lit (.int .u8 5), .lit (.int .u8 63), .lit (.int .u8 55), .lit (.int .u8 48), .lit (.int .u8 27), .lit (.int .u8 60), .lit (.int .u8 41), .lit (.int .u8 37), .lit (.int .u8 16), .lit (.int .u8 46), .lit (.int .u8 35), .lit (.int .u8 44), .lit (.int .u8 21), .lit (.int .u8 52), .lit (.int .u8 32), .lit (.int .u8 23), .lit (.int .u8 11), .lit (.int .u8 54), .lit (.int .u8 26), .lit (.int .u8 40), .lit (.int .u8 15), .lit (.int .u8 34), .lit (.int .u8 20), .lit (.int .u8 31), .lit (.int .u8 10), .lit (.int .u8 25), .lit (.int .u8 14), .lit (.int .u8 19), .lit (.int .u8 9), .lit (.int .u8 13), .lit (.int .u8 8), .lit (.int .u8 7), .lit (.int .u8 6)]
def laid_internal_strconv_uint64pow10 {H : Type} : DataW H := .agg [.lit (.int .u64 1), .lit (.int .u64 10), .lit (.int .u64 100), .lit (.int .u64 1000), .lit (.int .u64 10000), .lit (.int .u64 100000), .lit (.int .u64 1000000), .lit (.int .u64 10000000), .lit (.int .u64 100000000), .lit (.int .u64 1000000000), .lit (.int .u64 10000000000), .lit (.int .u64 100000000000), .lit (.int .u64 1000000000000), .lit (.int .u64 10000000000000), .lit (.int .u64 100000000000000), .lit (.int .u64 1000000000000000), .lit (.int .u64 10000000000000000), .lit (.int .u64 100000000000000000), .lit (.int .u64 1000000000000000000), .lit (.int .u64 10000000000000000000)]
def laid_unicode_utf8_acceptRanges {H : Type} : DataW H := .agg [.agg [.lit (.int .u8 128), .lit (.int .u8 191)], .agg [.lit (.int .u8 160), .lit (.int .u8 191)], .agg [.lit (.int .u8 128), .lit (.int .u8 159)], .agg [.lit (.int .u8 144), .lit (.int .u8 191)], .agg [.lit (.int .u8 128), .lit (.int .u8 143)], .agg [.lit (.int .u8 0), .lit (.int .u8 0)], .agg [.lit (.int .u8 0), .lit (.int .u8 0)], .agg [.lit (.int .u8 0), .lit (.int .u8 0)], .agg [.lit (.int .u8 0), .lit (.int .u8 0)], .agg [.lit (.int .u8 0), .lit (.int .u8 0)], .agg [.lit (.int .u8 0), .lit (.int .u8 0)], .agg [.lit (.int .u8 0), .lit (.int .u8 0)], .agg [.lit (.int .u8 0), .lit (.int .u8 0)], .agg [.lit (.int .u8 0), .lit (.int .u8 0)], .agg [.lit (.int .u8 0), .lit (.int .u8 0)], .agg [.lit (.int .u8 0), .lit (.int .u8 0)]]
def laid_strconv_ErrRange {H : Type} : DataW H := .iface "*errors.errorString" (.ptr (.agg [.lit (.string [118, 97, 108, 117, 101, 32, 111, 117, 116, 32, 111, 102, 32, 114, 97, 110, 103, 101])]))
def laid_strconv_ErrSyntax {H : Type} : DataW H := .iface "*errors.errorString" (.ptr (.agg [.lit (.string [105, 110, 118, 97, 108, 105, 100, 32, 115, 121, 110, 116, 97, 120])]))
def laid_quayside_purge_words {H : Type} : DataW H := .agg [.lit (.string []), .lit (.string [101, 120, 97, 99, 116]), .lit (.string [112, 114, 101, 102, 105, 120]), .lit (.string [116, 97, 103])]
/-- One of Go's own tables, pinned by name: the form's constant. -/
def laid_unicode_utf8_first : DataW Unit := Go.Pinned.utf8First

/-- 'quaysidetop.WholeCover': WHATEVER THE INPUT: true; the input reads as it did. -/
def wholeCoverSpec : ChangeSpec := { name := "wholeCover", fn := fun _ => fun
  | [d1, d2, d3, d4] => { results := [.lit (.bool true)], args := [d1, d2, d3, d4] }
  | _ => none }
def wholeCoverRow : OpenClaim := { program := "ytjijijjkkhpjnaagreatdoor", sum := "649324fc631d435e8746aae8c2635c23a356af1a90f7067f2a049850441dba38", func := "quayside/quaysidetop.WholeCover", spec := "wholeCover", inPlace := ["internal/bytealg.IndexByteString", "internal/bytealg.CountString", "internal/bytealg.IndexString", "internal/abi.NoEscape", "internal/bytealg.MakeNoZero"], unfollowed := true, recurses := true, named := ["unicode/utf8.first", "unicode/utf8.acceptRanges", "internal/bytealg.MaxLen", "quayside/purge.words", "internal/strconv.uint64pow10", "math/bits.deBruijn32tab", "math/bits.deBruijn64tab", "strconv.ErrSyntax", "strconv.ErrRange"], apart := false, laid := [("math/bits.deBruijn32tab", laid_math_bits_deBruijn32tab), ("math/bits.deBruijn64tab", laid_math_bits_deBruijn64tab), ("internal/strconv.uint64pow10", laid_internal_strconv_uint64pow10), ("unicode/utf8.acceptRanges", laid_unicode_utf8_acceptRanges), ("strconv.ErrRange", laid_strconv_ErrRange), ("strconv.ErrSyntax", laid_strconv_ErrSyntax), ("quayside/purge.words", laid_quayside_purge_words), ("unicode/utf8.first", laid_unicode_utf8_first)] }
def WholeCoverSaid : Prop := wholeCoverRow.holds Tryz.pinned (OpenSpec.ofChange wholeCoverSpec)

/-- ITS FALSE NEIGHBOUR: 'it returns false'. Refute it at one input. -/
def wholeCoverWrong : ChangeSpec := { name := "wholeCover", fn := fun _ => fun
  | [d1, d2, d3, d4] => { results := [.lit (.bool false)], args := [d1, d2, d3, d4] }
  | _ => none }
def WholeCoverWrongFalsely : Prop := wholeCoverRow.holds Tryz.pinned (OpenSpec.ofChange wholeCoverWrong)

/-- 'quaysidelaw58.HistoryRules': WHATEVER THE INPUT: true; the input reads as it did. -/
def historyRulesSpec : ChangeSpec := { name := "historyRules", fn := fun _ => fun
  | [d1, d2] => { results := [.lit (.bool true)], args := [d1, d2] }
  | _ => none }
def historyRulesRow : OpenClaim := { program := "ytjijijjkkhpjnaagreatdoor", sum := "649324fc631d435e8746aae8c2635c23a356af1a90f7067f2a049850441dba38", func := "quayside/quaysidelaw58.HistoryRules", spec := "historyRules", inPlace := ["internal/bytealg.IndexByteString", "internal/bytealg.IndexString", "internal/bytealg.CountString", "internal/abi.NoEscape", "internal/bytealg.MakeNoZero"], recurses := true, named := ["quayside/purge.words", "internal/bytealg.MaxLen", "strconv.ErrSyntax", "strconv.ErrRange", "internal/strconv.uint64pow10", "math/bits.deBruijn32tab", "math/bits.deBruijn64tab", "unicode/utf8.first", "unicode/utf8.acceptRanges"], apart := false, laid := [("math/bits.deBruijn32tab", laid_math_bits_deBruijn32tab), ("math/bits.deBruijn64tab", laid_math_bits_deBruijn64tab), ("internal/strconv.uint64pow10", laid_internal_strconv_uint64pow10), ("unicode/utf8.acceptRanges", laid_unicode_utf8_acceptRanges), ("strconv.ErrRange", laid_strconv_ErrRange), ("strconv.ErrSyntax", laid_strconv_ErrSyntax), ("quayside/purge.words", laid_quayside_purge_words), ("unicode/utf8.first", laid_unicode_utf8_first)] }
def HistoryRulesSaid : Prop := historyRulesRow.holds Tryz.pinned (OpenSpec.ofChange historyRulesSpec)

/-- ITS FALSE NEIGHBOUR: 'it returns false'. Refute it at one input. -/
def historyRulesWrong : ChangeSpec := { name := "historyRules", fn := fun _ => fun
  | [d1, d2] => { results := [.lit (.bool false)], args := [d1, d2] }
  | _ => none }
def HistoryRulesWrongFalsely : Prop := historyRulesRow.holds Tryz.pinned (OpenSpec.ofChange historyRulesWrong)

/-- 'quaysidelaw58.HistoryChecks': WHATEVER THE INPUT: true; the input reads as it did. -/
def historyChecksSpec : ChangeSpec := { name := "historyChecks", fn := fun _ => fun
  | [d] => { results := [.lit (.bool true)], args := [d] }
  | _ => none }
def historyChecksRow : OpenClaim := { program := "ytjijijjkkhpjnaagreatdoor", sum := "649324fc631d435e8746aae8c2635c23a356af1a90f7067f2a049850441dba38", func := "quayside/quaysidelaw58.HistoryChecks", spec := "historyChecks", inPlace := ["internal/bytealg.IndexByteString", "internal/bytealg.IndexString", "internal/bytealg.CountString", "internal/abi.NoEscape", "internal/bytealg.MakeNoZero"], recurses := true, named := ["quayside/purge.words", "internal/bytealg.MaxLen", "strconv.ErrSyntax", "strconv.ErrRange", "internal/strconv.uint64pow10", "math/bits.deBruijn32tab", "math/bits.deBruijn64tab", "unicode/utf8.first", "unicode/utf8.acceptRanges"], apart := false, laid := [("math/bits.deBruijn32tab", laid_math_bits_deBruijn32tab), ("math/bits.deBruijn64tab", laid_math_bits_deBruijn64tab), ("internal/strconv.uint64pow10", laid_internal_strconv_uint64pow10), ("unicode/utf8.acceptRanges", laid_unicode_utf8_acceptRanges), ("strconv.ErrRange", laid_strconv_ErrRange), ("strconv.ErrSyntax", laid_strconv_ErrSyntax), ("quayside/purge.words", laid_quayside_purge_words), ("unicode/utf8.first", laid_unicode_utf8_first)] }
def HistoryChecksSaid : Prop := historyChecksRow.holds Tryz.pinned (OpenSpec.ofChange historyChecksSpec)

/-- ITS FALSE NEIGHBOUR: 'it returns false'. Refute it at one input. -/
def historyChecksWrong : ChangeSpec := { name := "historyChecks", fn := fun _ => fun
  | [d] => { results := [.lit (.bool false)], args := [d] }
  | _ => none }
def HistoryChecksWrongFalsely : Prop := historyChecksRow.holds Tryz.pinned (OpenSpec.ofChange historyChecksWrong)

/-- 'quaysidelaw58.HistoryParts': WHATEVER THE INPUT: true; the input reads as it did. -/
def historyPartsSpec : ChangeSpec := { name := "historyParts", fn := fun _ => fun
  | [d1, d2, d3, d4] => { results := [.lit (.bool true)], args := [d1, d2, d3, d4] }
  | _ => none }
def historyPartsRow : OpenClaim := { program := "ytjijijjkkhpjnaagreatdoor", sum := "649324fc631d435e8746aae8c2635c23a356af1a90f7067f2a049850441dba38", func := "quayside/quaysidelaw58.HistoryParts", spec := "historyParts", inPlace := ["internal/bytealg.IndexByteString", "internal/bytealg.IndexString", "internal/bytealg.CountString", "internal/abi.NoEscape", "internal/bytealg.MakeNoZero"], recurses := true, named := ["quayside/purge.words", "internal/bytealg.MaxLen", "strconv.ErrSyntax", "strconv.ErrRange", "internal/strconv.uint64pow10", "math/bits.deBruijn32tab", "math/bits.deBruijn64tab", "unicode/utf8.first", "unicode/utf8.acceptRanges"], apart := false, laid := [("math/bits.deBruijn32tab", laid_math_bits_deBruijn32tab), ("math/bits.deBruijn64tab", laid_math_bits_deBruijn64tab), ("internal/strconv.uint64pow10", laid_internal_strconv_uint64pow10), ("unicode/utf8.acceptRanges", laid_unicode_utf8_acceptRanges), ("strconv.ErrRange", laid_strconv_ErrRange), ("strconv.ErrSyntax", laid_strconv_ErrSyntax), ("quayside/purge.words", laid_quayside_purge_words), ("unicode/utf8.first", laid_unicode_utf8_first)] }
def HistoryPartsSaid : Prop := historyPartsRow.holds Tryz.pinned (OpenSpec.ofChange historyPartsSpec)

/-- ITS FALSE NEIGHBOUR: 'it returns false'. Refute it at one input. -/
def historyPartsWrong : ChangeSpec := { name := "historyParts", fn := fun _ => fun
  | [d1, d2, d3, d4] => { results := [.lit (.bool false)], args := [d1, d2, d3, d4] }
  | _ => none }
def HistoryPartsWrongFalsely : Prop := historyPartsRow.holds Tryz.pinned (OpenSpec.ofChange historyPartsWrong)

/-- 'quaysidelaw58.HistorySpoils': WHATEVER THE INPUT: true; the input reads as it did. -/
def historySpoilsSpec : ChangeSpec := { name := "historySpoils", fn := fun _ => fun
  | [d1, d2, d3] => { results := [.lit (.bool true)], args := [d1, d2, d3] }
  | _ => none }
def historySpoilsRow : OpenClaim := { program := "ytjijijjkkhpjnaagreatdoor", sum := "649324fc631d435e8746aae8c2635c23a356af1a90f7067f2a049850441dba38", func := "quayside/quaysidelaw58.HistorySpoils", spec := "historySpoils", inPlace := ["internal/bytealg.IndexByteString", "internal/bytealg.IndexString", "internal/bytealg.CountString", "internal/abi.NoEscape", "internal/bytealg.MakeNoZero"], recurses := true, named := ["quayside/purge.words", "internal/bytealg.MaxLen", "strconv.ErrSyntax", "strconv.ErrRange", "internal/strconv.uint64pow10", "math/bits.deBruijn32tab", "math/bits.deBruijn64tab", "unicode/utf8.first", "unicode/utf8.acceptRanges"], apart := false, laid := [("math/bits.deBruijn32tab", laid_math_bits_deBruijn32tab), ("math/bits.deBruijn64tab", laid_math_bits_deBruijn64tab), ("internal/strconv.uint64pow10", laid_internal_strconv_uint64pow10), ("unicode/utf8.acceptRanges", laid_unicode_utf8_acceptRanges), ("strconv.ErrRange", laid_strconv_ErrRange), ("strconv.ErrSyntax", laid_strconv_ErrSyntax), ("quayside/purge.words", laid_quayside_purge_words), ("unicode/utf8.first", laid_unicode_utf8_first)] }
def HistorySpoilsSaid : Prop := historySpoilsRow.holds Tryz.pinned (OpenSpec.ofChange historySpoilsSpec)

/-- ITS FALSE NEIGHBOUR: 'it returns false'. Refute it at one input. -/
def historySpoilsWrong : ChangeSpec := { name := "historySpoils", fn := fun _ => fun
  | [d1, d2, d3] => { results := [.lit (.bool false)], args := [d1, d2, d3] }
  | _ => none }
def HistorySpoilsWrongFalsely : Prop := historySpoilsRow.holds Tryz.pinned (OpenSpec.ofChange historySpoilsWrong)

/-- 'quaysidelaw58.HistoryWhole': WHATEVER THE INPUT: true; the input reads as it did. -/
def historyWholeSpec : ChangeSpec := { name := "historyWhole", fn := fun _ => fun
  | [d1, d2, d3] => { results := [.lit (.bool true)], args := [d1, d2, d3] }
  | _ => none }
def historyWholeRow : OpenClaim := { program := "ytjijijjkkhpjnaagreatdoor", sum := "649324fc631d435e8746aae8c2635c23a356af1a90f7067f2a049850441dba38", func := "quayside/quaysidelaw58.HistoryWhole", spec := "historyWhole", inPlace := ["internal/bytealg.IndexByteString", "internal/bytealg.IndexString", "internal/bytealg.CountString", "internal/abi.NoEscape", "internal/bytealg.MakeNoZero"], recurses := true, named := ["quayside/purge.words", "internal/bytealg.MaxLen", "strconv.ErrSyntax", "strconv.ErrRange", "internal/strconv.uint64pow10", "math/bits.deBruijn32tab", "math/bits.deBruijn64tab", "unicode/utf8.first", "unicode/utf8.acceptRanges"], apart := false, laid := [("math/bits.deBruijn32tab", laid_math_bits_deBruijn32tab), ("math/bits.deBruijn64tab", laid_math_bits_deBruijn64tab), ("internal/strconv.uint64pow10", laid_internal_strconv_uint64pow10), ("unicode/utf8.acceptRanges", laid_unicode_utf8_acceptRanges), ("strconv.ErrRange", laid_strconv_ErrRange), ("strconv.ErrSyntax", laid_strconv_ErrSyntax), ("quayside/purge.words", laid_quayside_purge_words), ("unicode/utf8.first", laid_unicode_utf8_first)] }
def HistoryWholeSaid : Prop := historyWholeRow.holds Tryz.pinned (OpenSpec.ofChange historyWholeSpec)

/-- ITS FALSE NEIGHBOUR: 'it returns false'. Refute it at one input. -/
def historyWholeWrong : ChangeSpec := { name := "historyWhole", fn := fun _ => fun
  | [d1, d2, d3] => { results := [.lit (.bool false)], args := [d1, d2, d3] }
  | _ => none }
def HistoryWholeWrongFalsely : Prop := historyWholeRow.holds Tryz.pinned (OpenSpec.ofChange historyWholeWrong)

/-- 'quaysidelaw58.HistoryTimes': WHATEVER THE INPUT: true; the input reads as it did. -/
def historyTimesSpec : ChangeSpec := { name := "historyTimes", fn := fun _ => fun
  | [d1, d2, d3, d4] => { results := [.lit (.bool true)], args := [d1, d2, d3, d4] }
  | _ => none }
def historyTimesRow : OpenClaim := { program := "ytjijijjkkhpjnaagreatdoor", sum := "649324fc631d435e8746aae8c2635c23a356af1a90f7067f2a049850441dba38", func := "quayside/quaysidelaw58.HistoryTimes", spec := "historyTimes", inPlace := ["internal/bytealg.IndexByteString", "internal/bytealg.IndexString", "internal/bytealg.CountString", "internal/abi.NoEscape", "internal/bytealg.MakeNoZero"], recurses := true, named := ["quayside/purge.words", "internal/bytealg.MaxLen", "strconv.ErrSyntax", "strconv.ErrRange", "internal/strconv.uint64pow10", "math/bits.deBruijn32tab", "math/bits.deBruijn64tab", "unicode/utf8.first", "unicode/utf8.acceptRanges"], apart := false, laid := [("math/bits.deBruijn32tab", laid_math_bits_deBruijn32tab), ("math/bits.deBruijn64tab", laid_math_bits_deBruijn64tab), ("internal/strconv.uint64pow10", laid_internal_strconv_uint64pow10), ("unicode/utf8.acceptRanges", laid_unicode_utf8_acceptRanges), ("strconv.ErrRange", laid_strconv_ErrRange), ("strconv.ErrSyntax", laid_strconv_ErrSyntax), ("quayside/purge.words", laid_quayside_purge_words), ("unicode/utf8.first", laid_unicode_utf8_first)] }
def HistoryTimesSaid : Prop := historyTimesRow.holds Tryz.pinned (OpenSpec.ofChange historyTimesSpec)

/-- ITS FALSE NEIGHBOUR: 'it returns false'. Refute it at one input. -/
def historyTimesWrong : ChangeSpec := { name := "historyTimes", fn := fun _ => fun
  | [d1, d2, d3, d4] => { results := [.lit (.bool false)], args := [d1, d2, d3, d4] }
  | _ => none }
def HistoryTimesWrongFalsely : Prop := historyTimesRow.holds Tryz.pinned (OpenSpec.ofChange historyTimesWrong)

/-- 'quaysidelaw58.HistoryLate': WHATEVER THE INPUT: true; the input reads as it did. -/
def historyLateSpec : ChangeSpec := { name := "historyLate", fn := fun _ => fun
  | [d1, d2, d3, d4] => { results := [.lit (.bool true)], args := [d1, d2, d3, d4] }
  | _ => none }
def historyLateRow : OpenClaim := { program := "ytjijijjkkhpjnaagreatdoor", sum := "649324fc631d435e8746aae8c2635c23a356af1a90f7067f2a049850441dba38", func := "quayside/quaysidelaw58.HistoryLate", spec := "historyLate", inPlace := ["internal/bytealg.IndexByteString", "internal/bytealg.IndexString", "internal/bytealg.CountString", "internal/abi.NoEscape", "internal/bytealg.MakeNoZero"], recurses := true, named := ["quayside/purge.words", "internal/bytealg.MaxLen", "strconv.ErrSyntax", "strconv.ErrRange", "internal/strconv.uint64pow10", "math/bits.deBruijn32tab", "math/bits.deBruijn64tab", "unicode/utf8.first", "unicode/utf8.acceptRanges"], apart := false, laid := [("math/bits.deBruijn32tab", laid_math_bits_deBruijn32tab), ("math/bits.deBruijn64tab", laid_math_bits_deBruijn64tab), ("internal/strconv.uint64pow10", laid_internal_strconv_uint64pow10), ("unicode/utf8.acceptRanges", laid_unicode_utf8_acceptRanges), ("strconv.ErrRange", laid_strconv_ErrRange), ("strconv.ErrSyntax", laid_strconv_ErrSyntax), ("quayside/purge.words", laid_quayside_purge_words), ("unicode/utf8.first", laid_unicode_utf8_first)] }
def HistoryLateSaid : Prop := historyLateRow.holds Tryz.pinned (OpenSpec.ofChange historyLateSpec)

/-- ITS FALSE NEIGHBOUR: 'it returns false'. Refute it at one input. -/
def historyLateWrong : ChangeSpec := { name := "historyLate", fn := fun _ => fun
  | [d1, d2, d3, d4] => { results := [.lit (.bool false)], args := [d1, d2, d3, d4] }
  | _ => none }
def HistoryLateWrongFalsely : Prop := historyLateRow.holds Tryz.pinned (OpenSpec.ofChange historyLateWrong)

/-- 'quaysidelaw58.HistoryOnce': WHATEVER THE INPUT: true; the input reads as it did. -/
def historyOnceSpec : ChangeSpec := { name := "historyOnce", fn := fun _ => fun
  | [d] => { results := [.lit (.bool true)], args := [d] }
  | _ => none }
def historyOnceRow : OpenClaim := { program := "ytjijijjkkhpjnaagreatdoor", sum := "649324fc631d435e8746aae8c2635c23a356af1a90f7067f2a049850441dba38", func := "quayside/quaysidelaw58.HistoryOnce", spec := "historyOnce", inPlace := ["internal/bytealg.IndexByteString", "internal/bytealg.IndexString", "internal/bytealg.CountString", "internal/abi.NoEscape", "internal/bytealg.MakeNoZero"], recurses := true, named := ["quayside/purge.words", "internal/bytealg.MaxLen", "strconv.ErrSyntax", "strconv.ErrRange", "internal/strconv.uint64pow10", "math/bits.deBruijn32tab", "math/bits.deBruijn64tab", "unicode/utf8.first", "unicode/utf8.acceptRanges"], apart := false, laid := [("math/bits.deBruijn32tab", laid_math_bits_deBruijn32tab), ("math/bits.deBruijn64tab", laid_math_bits_deBruijn64tab), ("internal/strconv.uint64pow10", laid_internal_strconv_uint64pow10), ("unicode/utf8.acceptRanges", laid_unicode_utf8_acceptRanges), ("strconv.ErrRange", laid_strconv_ErrRange), ("strconv.ErrSyntax", laid_strconv_ErrSyntax), ("quayside/purge.words", laid_quayside_purge_words), ("unicode/utf8.first", laid_unicode_utf8_first)] }
def HistoryOnceSaid : Prop := historyOnceRow.holds Tryz.pinned (OpenSpec.ofChange historyOnceSpec)

/-- ITS FALSE NEIGHBOUR: 'it returns false'. Refute it at one input. -/
def historyOnceWrong : ChangeSpec := { name := "historyOnce", fn := fun _ => fun
  | [d] => { results := [.lit (.bool false)], args := [d] }
  | _ => none }
def HistoryOnceWrongFalsely : Prop := historyOnceRow.holds Tryz.pinned (OpenSpec.ofChange historyOnceWrong)

/-- 'quaysidelaw58.HistoryFormats': WHATEVER THE INPUT: true; the input reads as it did. -/
def historyFormatsSpec : ChangeSpec := { name := "historyFormats", fn := fun _ => fun
  | [d] => { results := [.lit (.bool true)], args := [d] }
  | _ => none }
def historyFormatsRow : OpenClaim := { program := "ytjijijjkkhpjnaagreatdoor", sum := "649324fc631d435e8746aae8c2635c23a356af1a90f7067f2a049850441dba38", func := "quayside/quaysidelaw58.HistoryFormats", spec := "historyFormats", inPlace := ["internal/bytealg.IndexByteString", "internal/bytealg.IndexString", "internal/bytealg.CountString", "internal/abi.NoEscape", "internal/bytealg.MakeNoZero"], recurses := true, named := ["quayside/purge.words", "internal/bytealg.MaxLen", "strconv.ErrSyntax", "strconv.ErrRange", "internal/strconv.uint64pow10", "math/bits.deBruijn32tab", "math/bits.deBruijn64tab", "unicode/utf8.first", "unicode/utf8.acceptRanges"], apart := false, laid := [("math/bits.deBruijn32tab", laid_math_bits_deBruijn32tab), ("math/bits.deBruijn64tab", laid_math_bits_deBruijn64tab), ("internal/strconv.uint64pow10", laid_internal_strconv_uint64pow10), ("unicode/utf8.acceptRanges", laid_unicode_utf8_acceptRanges), ("strconv.ErrRange", laid_strconv_ErrRange), ("strconv.ErrSyntax", laid_strconv_ErrSyntax), ("quayside/purge.words", laid_quayside_purge_words), ("unicode/utf8.first", laid_unicode_utf8_first)] }
def HistoryFormatsSaid : Prop := historyFormatsRow.holds Tryz.pinned (OpenSpec.ofChange historyFormatsSpec)

/-- ITS FALSE NEIGHBOUR: 'it returns false'. Refute it at one input. -/
def historyFormatsWrong : ChangeSpec := { name := "historyFormats", fn := fun _ => fun
  | [d] => { results := [.lit (.bool false)], args := [d] }
  | _ => none }
def HistoryFormatsWrongFalsely : Prop := historyFormatsRow.holds Tryz.pinned (OpenSpec.ofChange historyFormatsWrong)

/- THE SECOND FORM. 'bulk': how many values and letters a reading holds, each counted each time it is reached (what is shared counts as often as it is met; a slice's spare places count too). A statement '..UptoSaid' is the law's where the arguments, and the package variables that the reading takes, are together of bulk at most 1048576: NARROWER than '..Said'. Prove '..Said' where nothing that the law and all that it calls make is longer than what came in: it says more and counts as full. Else prove '..UptoSaid'. A law counts once. -/
mutual
def uptoBulk {H : Type} : DataW H → Nat
  | .lit (.string bytes) => bytes.length + 1
  | .lit _ => 1
  | .nil => 1
  | .ptr d => uptoBulk d + 1
  | .slice elems spare => uptoBulkAll elems + uptoBulkAll spare + 1
  | .agg parts => uptoBulkAll parts + 1
  | .iface _ d => uptoBulk d + 1
  | .map entries => uptoBulkEntries entries + 1
  | .held _ => 1
def uptoBulkAll {H : Type} : List (DataW H) → Nat
  | [] => 0
  | d :: r => uptoBulk d + uptoBulkAll r
def uptoBulkEntries {H : Type} : List (Lit × DataW H) → Nat
  | [] => 0
  | x :: r => uptoBulkEntry x + uptoBulkEntries r
def uptoBulkEntry {H : Type} : Lit × DataW H → Nat
  | (.string bytes, d) => bytes.length + uptoBulk d + 1
  | (_, d) => uptoBulk d + 1
 end
def uptoSmall : (H : Type) → List (DataW H) → Bool := fun _ ds => decide (uptoBulkAll ds ≤ 1048576)
def OpenSpec.upto (s : _root_.Go.ChangeSpec) : _root_.Go.OpenSpec := { _root_.Go.OpenSpec.ofChange s with cond := some uptoSmall }

/-- 'quaysidetop.WholeCover', WHERE WHAT IT READS IS OF BULK AT MOST 1048576: true; the input reads as it did. -/
def wholeCoverUptoRow : OpenClaim := { program := "ytjijijjkkhpjnaagreatdoor", sum := "649324fc631d435e8746aae8c2635c23a356af1a90f7067f2a049850441dba38", func := "quayside/quaysidetop.WholeCover", spec := "wholeCover", inPlace := ["internal/bytealg.IndexByteString", "internal/bytealg.CountString", "internal/bytealg.IndexString", "internal/abi.NoEscape", "internal/bytealg.MakeNoZero"], unfollowed := true, recurses := true, named := ["unicode/utf8.first", "unicode/utf8.acceptRanges", "internal/bytealg.MaxLen", "quayside/purge.words", "internal/strconv.uint64pow10", "math/bits.deBruijn32tab", "math/bits.deBruijn64tab", "strconv.ErrSyntax", "strconv.ErrRange"], apart := false, laid := [("math/bits.deBruijn32tab", laid_math_bits_deBruijn32tab), ("math/bits.deBruijn64tab", laid_math_bits_deBruijn64tab), ("internal/strconv.uint64pow10", laid_internal_strconv_uint64pow10), ("unicode/utf8.acceptRanges", laid_unicode_utf8_acceptRanges), ("strconv.ErrRange", laid_strconv_ErrRange), ("strconv.ErrSyntax", laid_strconv_ErrSyntax), ("quayside/purge.words", laid_quayside_purge_words), ("unicode/utf8.first", laid_unicode_utf8_first)], narrowed := true }
def WholeCoverUptoSaid : Prop := wholeCoverUptoRow.holds Tryz.pinned (OpenSpec.upto wholeCoverSpec)

/-- 'quaysidelaw58.HistoryRules', WHERE WHAT IT READS IS OF BULK AT MOST 1048576: true; the input reads as it did. -/
def historyRulesUptoRow : OpenClaim := { program := "ytjijijjkkhpjnaagreatdoor", sum := "649324fc631d435e8746aae8c2635c23a356af1a90f7067f2a049850441dba38", func := "quayside/quaysidelaw58.HistoryRules", spec := "historyRules", inPlace := ["internal/bytealg.IndexByteString", "internal/bytealg.IndexString", "internal/bytealg.CountString", "internal/abi.NoEscape", "internal/bytealg.MakeNoZero"], recurses := true, named := ["quayside/purge.words", "internal/bytealg.MaxLen", "strconv.ErrSyntax", "strconv.ErrRange", "internal/strconv.uint64pow10", "math/bits.deBruijn32tab", "math/bits.deBruijn64tab", "unicode/utf8.first", "unicode/utf8.acceptRanges"], apart := false, laid := [("math/bits.deBruijn32tab", laid_math_bits_deBruijn32tab), ("math/bits.deBruijn64tab", laid_math_bits_deBruijn64tab), ("internal/strconv.uint64pow10", laid_internal_strconv_uint64pow10), ("unicode/utf8.acceptRanges", laid_unicode_utf8_acceptRanges), ("strconv.ErrRange", laid_strconv_ErrRange), ("strconv.ErrSyntax", laid_strconv_ErrSyntax), ("quayside/purge.words", laid_quayside_purge_words), ("unicode/utf8.first", laid_unicode_utf8_first)], narrowed := true }
def HistoryRulesUptoSaid : Prop := historyRulesUptoRow.holds Tryz.pinned (OpenSpec.upto historyRulesSpec)

/-- 'quaysidelaw58.HistoryChecks', WHERE WHAT IT READS IS OF BULK AT MOST 1048576: true; the input reads as it did. -/
def historyChecksUptoRow : OpenClaim := { program := "ytjijijjkkhpjnaagreatdoor", sum := "649324fc631d435e8746aae8c2635c23a356af1a90f7067f2a049850441dba38", func := "quayside/quaysidelaw58.HistoryChecks", spec := "historyChecks", inPlace := ["internal/bytealg.IndexByteString", "internal/bytealg.IndexString", "internal/bytealg.CountString", "internal/abi.NoEscape", "internal/bytealg.MakeNoZero"], recurses := true, named := ["quayside/purge.words", "internal/bytealg.MaxLen", "strconv.ErrSyntax", "strconv.ErrRange", "internal/strconv.uint64pow10", "math/bits.deBruijn32tab", "math/bits.deBruijn64tab", "unicode/utf8.first", "unicode/utf8.acceptRanges"], apart := false, laid := [("math/bits.deBruijn32tab", laid_math_bits_deBruijn32tab), ("math/bits.deBruijn64tab", laid_math_bits_deBruijn64tab), ("internal/strconv.uint64pow10", laid_internal_strconv_uint64pow10), ("unicode/utf8.acceptRanges", laid_unicode_utf8_acceptRanges), ("strconv.ErrRange", laid_strconv_ErrRange), ("strconv.ErrSyntax", laid_strconv_ErrSyntax), ("quayside/purge.words", laid_quayside_purge_words), ("unicode/utf8.first", laid_unicode_utf8_first)], narrowed := true }
def HistoryChecksUptoSaid : Prop := historyChecksUptoRow.holds Tryz.pinned (OpenSpec.upto historyChecksSpec)

/-- 'quaysidelaw58.HistoryParts', WHERE WHAT IT READS IS OF BULK AT MOST 1048576: true; the input reads as it did. -/
def historyPartsUptoRow : OpenClaim := { program := "ytjijijjkkhpjnaagreatdoor", sum := "649324fc631d435e8746aae8c2635c23a356af1a90f7067f2a049850441dba38", func := "quayside/quaysidelaw58.HistoryParts", spec := "historyParts", inPlace := ["internal/bytealg.IndexByteString", "internal/bytealg.IndexString", "internal/bytealg.CountString", "internal/abi.NoEscape", "internal/bytealg.MakeNoZero"], recurses := true, named := ["quayside/purge.words", "internal/bytealg.MaxLen", "strconv.ErrSyntax", "strconv.ErrRange", "internal/strconv.uint64pow10", "math/bits.deBruijn32tab", "math/bits.deBruijn64tab", "unicode/utf8.first", "unicode/utf8.acceptRanges"], apart := false, laid := [("math/bits.deBruijn32tab", laid_math_bits_deBruijn32tab), ("math/bits.deBruijn64tab", laid_math_bits_deBruijn64tab), ("internal/strconv.uint64pow10", laid_internal_strconv_uint64pow10), ("unicode/utf8.acceptRanges", laid_unicode_utf8_acceptRanges), ("strconv.ErrRange", laid_strconv_ErrRange), ("strconv.ErrSyntax", laid_strconv_ErrSyntax), ("quayside/purge.words", laid_quayside_purge_words), ("unicode/utf8.first", laid_unicode_utf8_first)], narrowed := true }
def HistoryPartsUptoSaid : Prop := historyPartsUptoRow.holds Tryz.pinned (OpenSpec.upto historyPartsSpec)

/-- 'quaysidelaw58.HistorySpoils', WHERE WHAT IT READS IS OF BULK AT MOST 1048576: true; the input reads as it did. -/
def historySpoilsUptoRow : OpenClaim := { program := "ytjijijjkkhpjnaagreatdoor", sum := "649324fc631d435e8746aae8c2635c23a356af1a90f7067f2a049850441dba38", func := "quayside/quaysidelaw58.HistorySpoils", spec := "historySpoils", inPlace := ["internal/bytealg.IndexByteString", "internal/bytealg.IndexString", "internal/bytealg.CountString", "internal/abi.NoEscape", "internal/bytealg.MakeNoZero"], recurses := true, named := ["quayside/purge.words", "internal/bytealg.MaxLen", "strconv.ErrSyntax", "strconv.ErrRange", "internal/strconv.uint64pow10", "math/bits.deBruijn32tab", "math/bits.deBruijn64tab", "unicode/utf8.first", "unicode/utf8.acceptRanges"], apart := false, laid := [("math/bits.deBruijn32tab", laid_math_bits_deBruijn32tab), ("math/bits.deBruijn64tab", laid_math_bits_deBruijn64tab), ("internal/strconv.uint64pow10", laid_internal_strconv_uint64pow10), ("unicode/utf8.acceptRanges", laid_unicode_utf8_acceptRanges), ("strconv.ErrRange", laid_strconv_ErrRange), ("strconv.ErrSyntax", laid_strconv_ErrSyntax), ("quayside/purge.words", laid_quayside_purge_words), ("unicode/utf8.first", laid_unicode_utf8_first)], narrowed := true }
def HistorySpoilsUptoSaid : Prop := historySpoilsUptoRow.holds Tryz.pinned (OpenSpec.upto historySpoilsSpec)

/-- 'quaysidelaw58.HistoryWhole', WHERE WHAT IT READS IS OF BULK AT MOST 1048576: true; the input reads as it did. -/
def historyWholeUptoRow : OpenClaim := { program := "ytjijijjkkhpjnaagreatdoor", sum := "649324fc631d435e8746aae8c2635c23a356af1a90f7067f2a049850441dba38", func := "quayside/quaysidelaw58.HistoryWhole", spec := "historyWhole", inPlace := ["internal/bytealg.IndexByteString", "internal/bytealg.IndexString", "internal/bytealg.CountString", "internal/abi.NoEscape", "internal/bytealg.MakeNoZero"], recurses := true, named := ["quayside/purge.words", "internal/bytealg.MaxLen", "strconv.ErrSyntax", "strconv.ErrRange", "internal/strconv.uint64pow10", "math/bits.deBruijn32tab", "math/bits.deBruijn64tab", "unicode/utf8.first", "unicode/utf8.acceptRanges"], apart := false, laid := [("math/bits.deBruijn32tab", laid_math_bits_deBruijn32tab), ("math/bits.deBruijn64tab", laid_math_bits_deBruijn64tab), ("internal/strconv.uint64pow10", laid_internal_strconv_uint64pow10), ("unicode/utf8.acceptRanges", laid_unicode_utf8_acceptRanges), ("strconv.ErrRange", laid_strconv_ErrRange), ("strconv.ErrSyntax", laid_strconv_ErrSyntax), ("quayside/purge.words", laid_quayside_purge_words), ("unicode/utf8.first", laid_unicode_utf8_first)], narrowed := true }
def HistoryWholeUptoSaid : Prop := historyWholeUptoRow.holds Tryz.pinned (OpenSpec.upto historyWholeSpec)

/-- 'quaysidelaw58.HistoryTimes', WHERE WHAT IT READS IS OF BULK AT MOST 1048576: true; the input reads as it did. -/
def historyTimesUptoRow : OpenClaim := { program := "ytjijijjkkhpjnaagreatdoor", sum := "649324fc631d435e8746aae8c2635c23a356af1a90f7067f2a049850441dba38", func := "quayside/quaysidelaw58.HistoryTimes", spec := "historyTimes", inPlace := ["internal/bytealg.IndexByteString", "internal/bytealg.IndexString", "internal/bytealg.CountString", "internal/abi.NoEscape", "internal/bytealg.MakeNoZero"], recurses := true, named := ["quayside/purge.words", "internal/bytealg.MaxLen", "strconv.ErrSyntax", "strconv.ErrRange", "internal/strconv.uint64pow10", "math/bits.deBruijn32tab", "math/bits.deBruijn64tab", "unicode/utf8.first", "unicode/utf8.acceptRanges"], apart := false, laid := [("math/bits.deBruijn32tab", laid_math_bits_deBruijn32tab), ("math/bits.deBruijn64tab", laid_math_bits_deBruijn64tab), ("internal/strconv.uint64pow10", laid_internal_strconv_uint64pow10), ("unicode/utf8.acceptRanges", laid_unicode_utf8_acceptRanges), ("strconv.ErrRange", laid_strconv_ErrRange), ("strconv.ErrSyntax", laid_strconv_ErrSyntax), ("quayside/purge.words", laid_quayside_purge_words), ("unicode/utf8.first", laid_unicode_utf8_first)], narrowed := true }
def HistoryTimesUptoSaid : Prop := historyTimesUptoRow.holds Tryz.pinned (OpenSpec.upto historyTimesSpec)

/-- 'quaysidelaw58.HistoryLate', WHERE WHAT IT READS IS OF BULK AT MOST 1048576: true; the input reads as it did. -/
def historyLateUptoRow : OpenClaim := { program := "ytjijijjkkhpjnaagreatdoor", sum := "649324fc631d435e8746aae8c2635c23a356af1a90f7067f2a049850441dba38", func := "quayside/quaysidelaw58.HistoryLate", spec := "historyLate", inPlace := ["internal/bytealg.IndexByteString", "internal/bytealg.IndexString", "internal/bytealg.CountString", "internal/abi.NoEscape", "internal/bytealg.MakeNoZero"], recurses := true, named := ["quayside/purge.words", "internal/bytealg.MaxLen", "strconv.ErrSyntax", "strconv.ErrRange", "internal/strconv.uint64pow10", "math/bits.deBruijn32tab", "math/bits.deBruijn64tab", "unicode/utf8.first", "unicode/utf8.acceptRanges"], apart := false, laid := [("math/bits.deBruijn32tab", laid_math_bits_deBruijn32tab), ("math/bits.deBruijn64tab", laid_math_bits_deBruijn64tab), ("internal/strconv.uint64pow10", laid_internal_strconv_uint64pow10), ("unicode/utf8.acceptRanges", laid_unicode_utf8_acceptRanges), ("strconv.ErrRange", laid_strconv_ErrRange), ("strconv.ErrSyntax", laid_strconv_ErrSyntax), ("quayside/purge.words", laid_quayside_purge_words), ("unicode/utf8.first", laid_unicode_utf8_first)], narrowed := true }
def HistoryLateUptoSaid : Prop := historyLateUptoRow.holds Tryz.pinned (OpenSpec.upto historyLateSpec)

/-- 'quaysidelaw58.HistoryOnce', WHERE WHAT IT READS IS OF BULK AT MOST 1048576: true; the input reads as it did. -/
def historyOnceUptoRow : OpenClaim := { program := "ytjijijjkkhpjnaagreatdoor", sum := "649324fc631d435e8746aae8c2635c23a356af1a90f7067f2a049850441dba38", func := "quayside/quaysidelaw58.HistoryOnce", spec := "historyOnce", inPlace := ["internal/bytealg.IndexByteString", "internal/bytealg.IndexString", "internal/bytealg.CountString", "internal/abi.NoEscape", "internal/bytealg.MakeNoZero"], recurses := true, named := ["quayside/purge.words", "internal/bytealg.MaxLen", "strconv.ErrSyntax", "strconv.ErrRange", "internal/strconv.uint64pow10", "math/bits.deBruijn32tab", "math/bits.deBruijn64tab", "unicode/utf8.first", "unicode/utf8.acceptRanges"], apart := false, laid := [("math/bits.deBruijn32tab", laid_math_bits_deBruijn32tab), ("math/bits.deBruijn64tab", laid_math_bits_deBruijn64tab), ("internal/strconv.uint64pow10", laid_internal_strconv_uint64pow10), ("unicode/utf8.acceptRanges", laid_unicode_utf8_acceptRanges), ("strconv.ErrRange", laid_strconv_ErrRange), ("strconv.ErrSyntax", laid_strconv_ErrSyntax), ("quayside/purge.words", laid_quayside_purge_words), ("unicode/utf8.first", laid_unicode_utf8_first)], narrowed := true }
def HistoryOnceUptoSaid : Prop := historyOnceUptoRow.holds Tryz.pinned (OpenSpec.upto historyOnceSpec)

/-- 'quaysidelaw58.HistoryFormats', WHERE WHAT IT READS IS OF BULK AT MOST 1048576: true; the input reads as it did. -/
def historyFormatsUptoRow : OpenClaim := { program := "ytjijijjkkhpjnaagreatdoor", sum := "649324fc631d435e8746aae8c2635c23a356af1a90f7067f2a049850441dba38", func := "quayside/quaysidelaw58.HistoryFormats", spec := "historyFormats", inPlace := ["internal/bytealg.IndexByteString", "internal/bytealg.IndexString", "internal/bytealg.CountString", "internal/abi.NoEscape", "internal/bytealg.MakeNoZero"], recurses := true, named := ["quayside/purge.words", "internal/bytealg.MaxLen", "strconv.ErrSyntax", "strconv.ErrRange", "internal/strconv.uint64pow10", "math/bits.deBruijn32tab", "math/bits.deBruijn64tab", "unicode/utf8.first", "unicode/utf8.acceptRanges"], apart := false, laid := [("math/bits.deBruijn32tab", laid_math_bits_deBruijn32tab), ("math/bits.deBruijn64tab", laid_math_bits_deBruijn64tab), ("internal/strconv.uint64pow10", laid_internal_strconv_uint64pow10), ("unicode/utf8.acceptRanges", laid_unicode_utf8_acceptRanges), ("strconv.ErrRange", laid_strconv_ErrRange), ("strconv.ErrSyntax", laid_strconv_ErrSyntax), ("quayside/purge.words", laid_quayside_purge_words), ("unicode/utf8.first", laid_unicode_utf8_first)], narrowed := true }
def HistoryFormatsUptoSaid : Prop := historyFormatsUptoRow.holds Tryz.pinned (OpenSpec.upto historyFormatsSpec)

end Rows
end Go.Proofs.YtjijijjkkhpjnaaGreatDoor
