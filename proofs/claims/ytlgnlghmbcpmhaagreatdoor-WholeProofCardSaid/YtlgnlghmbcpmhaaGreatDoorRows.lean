/-
  NARROWER THAN 'FOR EVERY INPUT', by the rows' own cells (each row's printed sentence says how): EngineMachine: laid · EngineCrashes: laid · QueueFormats: laid · QueueRuns: laid · InspectFinds: laid · InspectLines: laid · InspectClean: laid · WholeOrder: laid · WholeProof: laid.
  DERIVED. THE GIVEN ROWS OF THIS SEAT. 9 by the template 'for every input the law returns true; each argument reads behind the call as it read before'; 0 by the template 'total and deterministic' (their statements: YtlgnlghmbcpmhaaGreatDoorTotals.lean).
  GIVEN WITH THE SEED: the statements are not yours to turn. If you find one false, say at which input.
  Laid BY PROGRAM, IN A SANDBOX (cutbox-rows.mjs): the forced cells as the released guide's own fill.sh prints them over the translation b6c8394e0c342358… (all of the seat's roots in one cut). By AI agents, Wed Nov 11 2026. No macro, syntax, notation, axiom, sorry.
-/
import Derived.Test.YtlgnlghmbcpmhaaGreatDoorChecked
import GoSem.PinnedTables
import GoSem.Claim
import GoSem.ClaimJoined
import GoSem.ClaimMapViews
import Derived.JoinedTies
import Derived.KernelRfl
namespace Go.Proofs.YtlgnlghmbcpmhaaGreatDoor
/- THE CELL 'sum', in the pinned program and in every row, IS THE sha256 OF THE DUMP (.gsa) THAT YtlgnlghmbcpmhaaGreatDoorProg.lean LOADS. Nothing in Lean hashes anything: it is a label: what it is worth is what the hold of that sum in a sandbox is worth. -/
noncomputable def Tryz.pinned : Pinned := { name := "ytlgnlghmbcpmhaagreatdoor", sum := "b6c8394e0c342358f3e80079ed02db874b20289869f1554b47c706ebb518fe36", checked := Tryz.checked }
namespace Rows
def none {H : Type} : Left H := { results := [], args := [] }

/- WHAT THE LISTED PACKAGE-LEVEL VARIABLES READ AS WHEN THE CALL BEGINS. Each datum BY PROGRAM (the guide's laid-datum.mjs) off the statement by which the dump's own 'gosem.cut.vars' lays the variable. In a bare row this is a premise. The card (YtlgnlghmbcpmhaaGreatDoorCards.lean) ties it to the program's text. -/
def laid_math_bits_deBruijn32tab {H : Type} : DataW H := .agg [.lit (.int .u8 0), .lit (.int .u8 1), .lit (.int .u8 28), .lit (.int .u8 2), .lit (.int .u8 29), .lit (.int .u8 14), .lit (.int .u8 24), .lit (.int .u8 3), .lit (.int .u8 30), .lit (.int .u8 22), .lit (.int .u8 20), .lit (.int .u8 15), .lit (.int .u8 25), .lit (.int .u8 17), .lit (.int .u8 4), .lit (.int .u8 8), .lit (.int .u8 31), .lit (.int .u8 27), .lit (.int .u8 13), .lit (.int .u8 23), .lit (.int .u8 21), .lit (.int .u8 19), .lit (.int .u8 16), .lit (.int .u8 7), .lit (.int .u8 26), .lit (.int .u8 12), .lit (.int .u8 18), .lit (.int .u8 6), .lit (.int .u8 11), .lit (.int .u8 5), .lit (.int .u8 10), .lit (.int .u8 9)]
def laid_math_bits_deBruijn64tab {H : Type} : DataW H := .agg [.lit (.int .u8 0), .lit (.int .u8 1), .lit (.int .u8 56), .lit (.int .u8 2), .lit (.int .u8 57), .lit (.int .u8 49), .lit (.int .u8 28), .lit (.int .u8 3), .lit (.int .u8 61), .lit (.int .u8 58), .lit (.int .u8 42), .lit (.int .u8 50), .lit (.int .u8 38), .lit (.int .u8 29), .lit (.int .u8 17), .lit (.int .u8 4), .lit (.int .u8 62), .lit (.int .u8 47), .lit (.int .u8 59), .lit (.int .u8 36), .lit (.int .u8 45), .lit (.int .u8 43), .lit (.int .u8 51), .lit (.int .u8 22), .lit (.int .u8 53), .lit (.int .u8 39), .lit (.int .u8 33), .lit (.int .u8 30), .lit (.int .u8 24), .lit (.int .u8 18), .lit (.int .u8 12), .lit (.int .u8 5), .lit (.int .u8 63), .lit (.int .u8 55), .lit (.int .u8 48), .lit (.int .u8 27), .lit (.int .u8 60), .lit (.int .u8 41), .lit (.int .u8 37), .lit (.int .u8 16), .lit (.int .u8 46), .lit (.int .u8 35), .lit (.int .u8 44), .lit (.int .u8 21), .lit (.int .u8 52), .lit (.int .u8 32), .lit (.int .u8 23), .lit (.int .u8 11), .lit (.int .u8 54), .lit (.int .u8 26), .lit (.int .u8 40), .lit (.int .u8 15), .lit (.int .u8 34), .lit (.int .u8 20), .lit (.int .u8 31), .lit (.int .u8 10), .lit (.int .u8 25), .lit (.int .u8 14), .lit (.int .u8 19), .lit (.int .u8 9), .lit (.int .u8 13), .lit (.int .u8 8), .lit (.int .u8 7), .lit (.int .u8 6)]
def laid_unicode_utf8_acceptRanges {H : Type} : DataW H := .agg [.agg [.lit (.int .u8 128), .lit (.int .u8 191)], .agg [.lit (.int .u8 160), .lit (.int .u8 191)], .agg [.lit (.int .u8 128), .lit (.int .u8 159)], .agg [.lit (.int .u8 144), .lit (.int .u8 191)], .agg [.lit (.int .u8 128), .lit (.int .u8 143)], .agg [.lit (.int .u8 0), .lit (.int .u8 0)], .agg [.lit (.int .u8 0), .lit (.int .u8 0)], .agg [.lit (.int .u8 0), .lit (.int .u8 0)], .agg [.lit (.int .u8 0), .lit (.int .u8 0)], .agg [.lit (.int .u8 0), .lit (.int .u8 0)], .agg [.lit (.int .u8 0), .lit (.int .u8 0)], .agg [.lit (.int .u8 0), .lit (.int .u8 0)], .agg [.lit (.int .u8 0), .lit (.int .u8 0)], .agg [.lit (.int .u8 0), .lit (.int .u8 0)], .agg [.lit (.int .u8 0), .lit (.int .u8 0)], .agg [.lit (.int .u8 0), .lit (.int .u8 0)]]
/-- One of Go's own tables, pinned by name: the form's constant. -/
def laid_unicode_utf8_first : DataW Unit := Go.Pinned.utf8First
def laid_internal_strconv_uint64pow10 {H : Type} : DataW H := .agg [.lit (.int .u64 1), .lit (.int .u64 10), .lit (.int .u64 100), .lit (.int .u64 1000), .lit (.int .u64 10000), .lit (.int .u64 100000), .lit (.int .u64 1000000), .lit (.int .u64 10000000), .lit (.int .u64 100000000), .lit (.int .u64 1000000000), .lit (.int .u64 10000000000), .lit (.int .u64 100000000000), .lit (.int .u64 1000000000000), .lit (.int .u64 10000000000000), .lit (.int .u64 100000000000000), .lit (.int .u64 1000000000000000), .lit (.int .u64 10000000000000000), .lit (.int .u64 100000000000000000), .lit (.int .u64 1000000000000000000), .lit (.int .u64 10000000000000000000)]
def laid_abacist_inspect_words {H : Type} : DataW H := .agg [.lit (.string []), .lit (.string [98, 97, 114, 101]), .lit (.string [115, 108, 111, 116]), .lit (.string [103, 97, 112]), .lit (.string [105, 110, 112, 117, 116]), .lit (.string [111, 117, 116, 112, 117, 116]), .lit (.string [115, 111, 117, 114, 99, 101])]
def laid_abacist_record_names {H : Type} : DataW H := .agg [.lit (.string []), .lit (.string [119, 105, 112, 101]), .lit (.string [108, 111, 97, 100]), .lit (.string [115, 117, 98, 109, 105, 116]), .lit (.string [112, 97, 115, 115])]

/-- 'abacistlaw26.EngineMachine': WHATEVER THE INPUT: true; the input reads as it did. -/
def engineMachineSpec : ChangeSpec := { name := "engineMachine", fn := fun _ => fun
  | [d1, d2] => { results := [.lit (.bool true)], args := [d1, d2] }
  | _ => none }
def engineMachineRow : OpenClaim := { program := "ytlgnlghmbcpmhaagreatdoor", sum := "b6c8394e0c342358f3e80079ed02db874b20289869f1554b47c706ebb518fe36", func := "abacist/abacistlaw26.EngineMachine", spec := "engineMachine", inPlace := ["internal/bytealg.IndexByteString", "internal/bytealg.IndexString", "math/bits.Add64"], unfollowed := true, recurses := true, named := ["math/bits.deBruijn64tab", "unicode/utf8.first", "unicode/utf8.acceptRanges", "math/bits.deBruijn32tab", "internal/bytealg.MaxLen"], apart := false, laid := [("math/bits.deBruijn32tab", laid_math_bits_deBruijn32tab), ("math/bits.deBruijn64tab", laid_math_bits_deBruijn64tab), ("unicode/utf8.acceptRanges", laid_unicode_utf8_acceptRanges), ("unicode/utf8.first", laid_unicode_utf8_first)] }
def EngineMachineSaid : Prop := engineMachineRow.holds Tryz.pinned (OpenSpec.ofChange engineMachineSpec)

/-- ITS FALSE NEIGHBOUR: 'it returns false'. Refute it at one input. -/
def engineMachineWrong : ChangeSpec := { name := "engineMachine", fn := fun _ => fun
  | [d1, d2] => { results := [.lit (.bool false)], args := [d1, d2] }
  | _ => none }
def EngineMachineWrongFalsely : Prop := engineMachineRow.holds Tryz.pinned (OpenSpec.ofChange engineMachineWrong)

/-- 'abacistlaw26.EngineCrashes': WHATEVER THE INPUT: true; the input reads as it did. -/
def engineCrashesSpec : ChangeSpec := { name := "engineCrashes", fn := fun _ => fun
  | [d1, d2] => { results := [.lit (.bool true)], args := [d1, d2] }
  | _ => none }
def engineCrashesRow : OpenClaim := { program := "ytlgnlghmbcpmhaagreatdoor", sum := "b6c8394e0c342358f3e80079ed02db874b20289869f1554b47c706ebb518fe36", func := "abacist/abacistlaw26.EngineCrashes", spec := "engineCrashes", inPlace := ["internal/bytealg.IndexByteString", "internal/bytealg.IndexString", "math/bits.Add64"], unfollowed := true, recurses := true, named := ["math/bits.deBruijn64tab", "unicode/utf8.first", "unicode/utf8.acceptRanges", "math/bits.deBruijn32tab", "internal/bytealg.MaxLen"], apart := false, laid := [("math/bits.deBruijn32tab", laid_math_bits_deBruijn32tab), ("math/bits.deBruijn64tab", laid_math_bits_deBruijn64tab), ("unicode/utf8.acceptRanges", laid_unicode_utf8_acceptRanges), ("unicode/utf8.first", laid_unicode_utf8_first)] }
def EngineCrashesSaid : Prop := engineCrashesRow.holds Tryz.pinned (OpenSpec.ofChange engineCrashesSpec)

/-- ITS FALSE NEIGHBOUR: 'it returns false'. Refute it at one input. -/
def engineCrashesWrong : ChangeSpec := { name := "engineCrashes", fn := fun _ => fun
  | [d1, d2] => { results := [.lit (.bool false)], args := [d1, d2] }
  | _ => none }
def EngineCrashesWrongFalsely : Prop := engineCrashesRow.holds Tryz.pinned (OpenSpec.ofChange engineCrashesWrong)

/-- 'abacistlaw37.QueueFormats': WHATEVER THE INPUT: true; the input reads as it did. -/
def queueFormatsSpec : ChangeSpec := { name := "queueFormats", fn := fun _ => fun
  | [d1, d2] => { results := [.lit (.bool true)], args := [d1, d2] }
  | _ => none }
def queueFormatsRow : OpenClaim := { program := "ytlgnlghmbcpmhaagreatdoor", sum := "b6c8394e0c342358f3e80079ed02db874b20289869f1554b47c706ebb518fe36", func := "abacist/abacistlaw37.QueueFormats", spec := "queueFormats", inPlace := ["internal/bytealg.IndexByteString", "internal/bytealg.IndexString", "math/bits.Add64"], unfollowed := true, recurses := true, named := ["unicode/utf8.first", "unicode/utf8.acceptRanges", "math/bits.deBruijn64tab", "math/bits.deBruijn32tab", "internal/bytealg.MaxLen"], apart := false, laid := [("math/bits.deBruijn32tab", laid_math_bits_deBruijn32tab), ("math/bits.deBruijn64tab", laid_math_bits_deBruijn64tab), ("unicode/utf8.acceptRanges", laid_unicode_utf8_acceptRanges), ("unicode/utf8.first", laid_unicode_utf8_first)] }
def QueueFormatsSaid : Prop := queueFormatsRow.holds Tryz.pinned (OpenSpec.ofChange queueFormatsSpec)

/-- ITS FALSE NEIGHBOUR: 'it returns false'. Refute it at one input. -/
def queueFormatsWrong : ChangeSpec := { name := "queueFormats", fn := fun _ => fun
  | [d1, d2] => { results := [.lit (.bool false)], args := [d1, d2] }
  | _ => none }
def QueueFormatsWrongFalsely : Prop := queueFormatsRow.holds Tryz.pinned (OpenSpec.ofChange queueFormatsWrong)

/-- 'abacistlaw37.QueueRuns': WHATEVER THE INPUT: true; the input reads as it did. -/
def queueRunsSpec : ChangeSpec := { name := "queueRuns", fn := fun _ => fun
  | [d1, d2, d3] => { results := [.lit (.bool true)], args := [d1, d2, d3] }
  | _ => none }
def queueRunsRow : OpenClaim := { program := "ytlgnlghmbcpmhaagreatdoor", sum := "b6c8394e0c342358f3e80079ed02db874b20289869f1554b47c706ebb518fe36", func := "abacist/abacistlaw37.QueueRuns", spec := "queueRuns", inPlace := ["internal/bytealg.IndexByteString", "internal/bytealg.IndexString", "math/bits.Add64"], unfollowed := true, recurses := true, named := ["unicode/utf8.first", "unicode/utf8.acceptRanges", "math/bits.deBruijn64tab", "math/bits.deBruijn32tab", "internal/bytealg.MaxLen"], apart := false, laid := [("math/bits.deBruijn32tab", laid_math_bits_deBruijn32tab), ("math/bits.deBruijn64tab", laid_math_bits_deBruijn64tab), ("unicode/utf8.acceptRanges", laid_unicode_utf8_acceptRanges), ("unicode/utf8.first", laid_unicode_utf8_first)] }
def QueueRunsSaid : Prop := queueRunsRow.holds Tryz.pinned (OpenSpec.ofChange queueRunsSpec)

/-- ITS FALSE NEIGHBOUR: 'it returns false'. Refute it at one input. -/
def queueRunsWrong : ChangeSpec := { name := "queueRuns", fn := fun _ => fun
  | [d1, d2, d3] => { results := [.lit (.bool false)], args := [d1, d2, d3] }
  | _ => none }
def QueueRunsWrongFalsely : Prop := queueRunsRow.holds Tryz.pinned (OpenSpec.ofChange queueRunsWrong)

/-- 'abacistlaw35.InspectFinds': WHATEVER THE INPUT: true; the input reads as it did. -/
def inspectFindsSpec : ChangeSpec := { name := "inspectFinds", fn := fun _ => fun
  | [d1, d2, d3, d4, d5, d6] => { results := [.lit (.bool true)], args := [d1, d2, d3, d4, d5, d6] }
  | _ => none }
def inspectFindsRow : OpenClaim := { program := "ytlgnlghmbcpmhaagreatdoor", sum := "b6c8394e0c342358f3e80079ed02db874b20289869f1554b47c706ebb518fe36", func := "abacist/abacistlaw35.InspectFinds", spec := "inspectFinds", inPlace := ["internal/bytealg.IndexByteString", "internal/bytealg.IndexString", "math/bits.Add64"], unfollowed := true, recurses := true, named := ["unicode/utf8.first", "unicode/utf8.acceptRanges", "abacist/inspect.words", "internal/strconv.uint64pow10", "math/bits.deBruijn32tab", "math/bits.deBruijn64tab", "internal/bytealg.MaxLen"], apart := false, laid := [("math/bits.deBruijn32tab", laid_math_bits_deBruijn32tab), ("math/bits.deBruijn64tab", laid_math_bits_deBruijn64tab), ("internal/strconv.uint64pow10", laid_internal_strconv_uint64pow10), ("unicode/utf8.acceptRanges", laid_unicode_utf8_acceptRanges), ("abacist/inspect.words", laid_abacist_inspect_words), ("unicode/utf8.first", laid_unicode_utf8_first)] }
def InspectFindsSaid : Prop := inspectFindsRow.holds Tryz.pinned (OpenSpec.ofChange inspectFindsSpec)

/-- ITS FALSE NEIGHBOUR: 'it returns false'. Refute it at one input. -/
def inspectFindsWrong : ChangeSpec := { name := "inspectFinds", fn := fun _ => fun
  | [d1, d2, d3, d4, d5, d6] => { results := [.lit (.bool false)], args := [d1, d2, d3, d4, d5, d6] }
  | _ => none }
def InspectFindsWrongFalsely : Prop := inspectFindsRow.holds Tryz.pinned (OpenSpec.ofChange inspectFindsWrong)

/-- 'abacistlaw35.InspectLines': WHATEVER THE INPUT: true; the input reads as it did. -/
def inspectLinesSpec : ChangeSpec := { name := "inspectLines", fn := fun _ => fun
  | [d1, d2, d3, d4] => { results := [.lit (.bool true)], args := [d1, d2, d3, d4] }
  | _ => none }
def inspectLinesRow : OpenClaim := { program := "ytlgnlghmbcpmhaagreatdoor", sum := "b6c8394e0c342358f3e80079ed02db874b20289869f1554b47c706ebb518fe36", func := "abacist/abacistlaw35.InspectLines", spec := "inspectLines", inPlace := ["internal/bytealg.IndexByteString", "internal/bytealg.IndexString", "math/bits.Add64"], unfollowed := true, recurses := true, named := ["unicode/utf8.first", "unicode/utf8.acceptRanges", "abacist/inspect.words", "internal/strconv.uint64pow10", "math/bits.deBruijn32tab", "math/bits.deBruijn64tab", "abacist/record.names", "internal/bytealg.MaxLen"], apart := false, laid := [("math/bits.deBruijn32tab", laid_math_bits_deBruijn32tab), ("math/bits.deBruijn64tab", laid_math_bits_deBruijn64tab), ("internal/strconv.uint64pow10", laid_internal_strconv_uint64pow10), ("unicode/utf8.acceptRanges", laid_unicode_utf8_acceptRanges), ("abacist/record.names", laid_abacist_record_names), ("abacist/inspect.words", laid_abacist_inspect_words), ("unicode/utf8.first", laid_unicode_utf8_first)] }
def InspectLinesSaid : Prop := inspectLinesRow.holds Tryz.pinned (OpenSpec.ofChange inspectLinesSpec)

/-- ITS FALSE NEIGHBOUR: 'it returns false'. Refute it at one input. -/
def inspectLinesWrong : ChangeSpec := { name := "inspectLines", fn := fun _ => fun
  | [d1, d2, d3, d4] => { results := [.lit (.bool false)], args := [d1, d2, d3, d4] }
  | _ => none }
def InspectLinesWrongFalsely : Prop := inspectLinesRow.holds Tryz.pinned (OpenSpec.ofChange inspectLinesWrong)

/-- 'abacistlaw35.InspectClean': WHATEVER THE INPUT: true; the input reads as it did. -/
def inspectCleanSpec : ChangeSpec := { name := "inspectClean", fn := fun _ => fun
  | [d1, d2] => { results := [.lit (.bool true)], args := [d1, d2] }
  | _ => none }
def inspectCleanRow : OpenClaim := { program := "ytlgnlghmbcpmhaagreatdoor", sum := "b6c8394e0c342358f3e80079ed02db874b20289869f1554b47c706ebb518fe36", func := "abacist/abacistlaw35.InspectClean", spec := "inspectClean", inPlace := ["internal/bytealg.IndexByteString", "internal/bytealg.IndexString", "math/bits.Add64"], unfollowed := true, recurses := true, named := ["unicode/utf8.first", "unicode/utf8.acceptRanges", "abacist/inspect.words", "internal/strconv.uint64pow10", "math/bits.deBruijn32tab", "math/bits.deBruijn64tab", "internal/bytealg.MaxLen"], apart := false, laid := [("math/bits.deBruijn32tab", laid_math_bits_deBruijn32tab), ("math/bits.deBruijn64tab", laid_math_bits_deBruijn64tab), ("internal/strconv.uint64pow10", laid_internal_strconv_uint64pow10), ("unicode/utf8.acceptRanges", laid_unicode_utf8_acceptRanges), ("abacist/inspect.words", laid_abacist_inspect_words), ("unicode/utf8.first", laid_unicode_utf8_first)] }
def InspectCleanSaid : Prop := inspectCleanRow.holds Tryz.pinned (OpenSpec.ofChange inspectCleanSpec)

/-- ITS FALSE NEIGHBOUR: 'it returns false'. Refute it at one input. -/
def inspectCleanWrong : ChangeSpec := { name := "inspectClean", fn := fun _ => fun
  | [d1, d2] => { results := [.lit (.bool false)], args := [d1, d2] }
  | _ => none }
def InspectCleanWrongFalsely : Prop := inspectCleanRow.holds Tryz.pinned (OpenSpec.ofChange inspectCleanWrong)

/-- 'abacisttop.WholeOrder': WHATEVER THE INPUT: true; the input reads as it did. -/
def wholeOrderSpec : ChangeSpec := { name := "wholeOrder", fn := fun _ => fun
  | [d1, d2, d3, d4, d5, d6] => { results := [.lit (.bool true)], args := [d1, d2, d3, d4, d5, d6] }
  | _ => none }
def wholeOrderRow : OpenClaim := { program := "ytlgnlghmbcpmhaagreatdoor", sum := "b6c8394e0c342358f3e80079ed02db874b20289869f1554b47c706ebb518fe36", func := "abacist/abacisttop.WholeOrder", spec := "wholeOrder", inPlace := ["internal/bytealg.IndexByteString", "internal/bytealg.IndexString", "math/bits.Add64"], unfollowed := true, recurses := true, named := ["math/bits.deBruijn64tab", "unicode/utf8.first", "unicode/utf8.acceptRanges", "math/bits.deBruijn32tab", "internal/bytealg.MaxLen"], apart := false, laid := [("math/bits.deBruijn32tab", laid_math_bits_deBruijn32tab), ("math/bits.deBruijn64tab", laid_math_bits_deBruijn64tab), ("unicode/utf8.acceptRanges", laid_unicode_utf8_acceptRanges), ("unicode/utf8.first", laid_unicode_utf8_first)] }
def WholeOrderSaid : Prop := wholeOrderRow.holds Tryz.pinned (OpenSpec.ofChange wholeOrderSpec)

/-- ITS FALSE NEIGHBOUR: 'it returns false'. Refute it at one input. -/
def wholeOrderWrong : ChangeSpec := { name := "wholeOrder", fn := fun _ => fun
  | [d1, d2, d3, d4, d5, d6] => { results := [.lit (.bool false)], args := [d1, d2, d3, d4, d5, d6] }
  | _ => none }
def WholeOrderWrongFalsely : Prop := wholeOrderRow.holds Tryz.pinned (OpenSpec.ofChange wholeOrderWrong)

/-- 'abacisttop.WholeProof': WHATEVER THE INPUT: true; the input reads as it did. -/
def wholeProofSpec : ChangeSpec := { name := "wholeProof", fn := fun _ => fun
  | [d1, d2, d3, d4, d5, d6, d7] => { results := [.lit (.bool true)], args := [d1, d2, d3, d4, d5, d6, d7] }
  | _ => none }
def wholeProofRow : OpenClaim := { program := "ytlgnlghmbcpmhaagreatdoor", sum := "b6c8394e0c342358f3e80079ed02db874b20289869f1554b47c706ebb518fe36", func := "abacist/abacisttop.WholeProof", spec := "wholeProof", inPlace := ["internal/bytealg.IndexByteString", "internal/bytealg.IndexString", "math/bits.Add64"], unfollowed := true, recurses := true, named := ["math/bits.deBruijn64tab", "unicode/utf8.first", "unicode/utf8.acceptRanges", "math/bits.deBruijn32tab", "internal/bytealg.MaxLen"], apart := false, laid := [("math/bits.deBruijn32tab", laid_math_bits_deBruijn32tab), ("math/bits.deBruijn64tab", laid_math_bits_deBruijn64tab), ("unicode/utf8.acceptRanges", laid_unicode_utf8_acceptRanges), ("unicode/utf8.first", laid_unicode_utf8_first)] }
def WholeProofSaid : Prop := wholeProofRow.holds Tryz.pinned (OpenSpec.ofChange wholeProofSpec)

/-- ITS FALSE NEIGHBOUR: 'it returns false'. Refute it at one input. -/
def wholeProofWrong : ChangeSpec := { name := "wholeProof", fn := fun _ => fun
  | [d1, d2, d3, d4, d5, d6, d7] => { results := [.lit (.bool false)], args := [d1, d2, d3, d4, d5, d6, d7] }
  | _ => none }
def WholeProofWrongFalsely : Prop := wholeProofRow.holds Tryz.pinned (OpenSpec.ofChange wholeProofWrong)

/- THE SECOND FORM. 'bulk': how many values and letters a reading holds, each counted each time it is reached (what is shared counts as often as it is met; a slice's spare places count too). A statement '..UptoSaid' is the law's where the arguments, and the package variables that the reading takes, are together of bulk at most 1048576: NARROWER than '..Said'. Prove '..Said' where nothing that the law and all that it calls make is longer than what came in: it says more and counts as full. Else prove '..UptoSaid'. A law counts once. -/
mutual
def uptoBulk {H : Type} : DataW H → Nat
  | .lit (.string bytes) => bytes.length + 1
  | .lit _ => 1
  | .nil => 1
  | .ptr d => uptoBulk d + 1
  | .slice elems spare => uptoBulkAll elems + uptoBulkAll spare + 1
  | .agg parts => uptoBulkAll parts + 1
  | .iface _ d => uptoBulk d + 1
  | .map entries => uptoBulkEntries entries + 1
  | .held _ => 1
def uptoBulkAll {H : Type} : List (DataW H) → Nat
  | [] => 0
  | d :: r => uptoBulk d + uptoBulkAll r
def uptoBulkEntries {H : Type} : List (Lit × DataW H) → Nat
  | [] => 0
  | x :: r => uptoBulkEntry x + uptoBulkEntries r
def uptoBulkEntry {H : Type} : Lit × DataW H → Nat
  | (.string bytes, d) => bytes.length + uptoBulk d + 1
  | (_, d) => uptoBulk d + 1
 end
def uptoSmall : (H : Type) → List (DataW H) → Bool := fun _ ds => decide (uptoBulkAll ds ≤ 1048576)
def OpenSpec.upto (s : _root_.Go.ChangeSpec) : _root_.Go.OpenSpec := { _root_.Go.OpenSpec.ofChange s with cond := some uptoSmall }

/-- 'abacistlaw26.EngineMachine', WHERE WHAT IT READS IS OF BULK AT MOST 1048576: true; the input reads as it did. -/
def engineMachineUptoRow : OpenClaim := { program := "ytlgnlghmbcpmhaagreatdoor", sum := "b6c8394e0c342358f3e80079ed02db874b20289869f1554b47c706ebb518fe36", func := "abacist/abacistlaw26.EngineMachine", spec := "engineMachine", inPlace := ["internal/bytealg.IndexByteString", "internal/bytealg.IndexString", "math/bits.Add64"], unfollowed := true, recurses := true, named := ["math/bits.deBruijn64tab", "unicode/utf8.first", "unicode/utf8.acceptRanges", "math/bits.deBruijn32tab", "internal/bytealg.MaxLen"], apart := false, laid := [("math/bits.deBruijn32tab", laid_math_bits_deBruijn32tab), ("math/bits.deBruijn64tab", laid_math_bits_deBruijn64tab), ("unicode/utf8.acceptRanges", laid_unicode_utf8_acceptRanges), ("unicode/utf8.first", laid_unicode_utf8_first)], narrowed := true }
def EngineMachineUptoSaid : Prop := engineMachineUptoRow.holds Tryz.pinned (OpenSpec.upto engineMachineSpec)

/-- 'abacistlaw26.EngineCrashes', WHERE WHAT IT READS IS OF BULK AT MOST 1048576: true; the input reads as it did. -/
def engineCrashesUptoRow : OpenClaim := { program := "ytlgnlghmbcpmhaagreatdoor", sum := "b6c8394e0c342358f3e80079ed02db874b20289869f1554b47c706ebb518fe36", func := "abacist/abacistlaw26.EngineCrashes", spec := "engineCrashes", inPlace := ["internal/bytealg.IndexByteString", "internal/bytealg.IndexString", "math/bits.Add64"], unfollowed := true, recurses := true, named := ["math/bits.deBruijn64tab", "unicode/utf8.first", "unicode/utf8.acceptRanges", "math/bits.deBruijn32tab", "internal/bytealg.MaxLen"], apart := false, laid := [("math/bits.deBruijn32tab", laid_math_bits_deBruijn32tab), ("math/bits.deBruijn64tab", laid_math_bits_deBruijn64tab), ("unicode/utf8.acceptRanges", laid_unicode_utf8_acceptRanges), ("unicode/utf8.first", laid_unicode_utf8_first)], narrowed := true }
def EngineCrashesUptoSaid : Prop := engineCrashesUptoRow.holds Tryz.pinned (OpenSpec.upto engineCrashesSpec)

/-- 'abacistlaw37.QueueFormats', WHERE WHAT IT READS IS OF BULK AT MOST 1048576: true; the input reads as it did. -/
def queueFormatsUptoRow : OpenClaim := { program := "ytlgnlghmbcpmhaagreatdoor", sum := "b6c8394e0c342358f3e80079ed02db874b20289869f1554b47c706ebb518fe36", func := "abacist/abacistlaw37.QueueFormats", spec := "queueFormats", inPlace := ["internal/bytealg.IndexByteString", "internal/bytealg.IndexString", "math/bits.Add64"], unfollowed := true, recurses := true, named := ["unicode/utf8.first", "unicode/utf8.acceptRanges", "math/bits.deBruijn64tab", "math/bits.deBruijn32tab", "internal/bytealg.MaxLen"], apart := false, laid := [("math/bits.deBruijn32tab", laid_math_bits_deBruijn32tab), ("math/bits.deBruijn64tab", laid_math_bits_deBruijn64tab), ("unicode/utf8.acceptRanges", laid_unicode_utf8_acceptRanges), ("unicode/utf8.first", laid_unicode_utf8_first)], narrowed := true }
def QueueFormatsUptoSaid : Prop := queueFormatsUptoRow.holds Tryz.pinned (OpenSpec.upto queueFormatsSpec)

/-- 'abacistlaw37.QueueRuns', WHERE WHAT IT READS IS OF BULK AT MOST 1048576: true; the input reads as it did. -/
def queueRunsUptoRow : OpenClaim := { program := "ytlgnlghmbcpmhaagreatdoor", sum := "b6c8394e0c342358f3e80079ed02db874b20289869f1554b47c706ebb518fe36", func := "abacist/abacistlaw37.QueueRuns", spec := "queueRuns", inPlace := ["internal/bytealg.IndexByteString", "internal/bytealg.IndexString", "math/bits.Add64"], unfollowed := true, recurses := true, named := ["unicode/utf8.first", "unicode/utf8.acceptRanges", "math/bits.deBruijn64tab", "math/bits.deBruijn32tab", "internal/bytealg.MaxLen"], apart := false, laid := [("math/bits.deBruijn32tab", laid_math_bits_deBruijn32tab), ("math/bits.deBruijn64tab", laid_math_bits_deBruijn64tab), ("unicode/utf8.acceptRanges", laid_unicode_utf8_acceptRanges), ("unicode/utf8.first", laid_unicode_utf8_first)], narrowed := true }
def QueueRunsUptoSaid : Prop := queueRunsUptoRow.holds Tryz.pinned (OpenSpec.upto queueRunsSpec)

/-- 'abacistlaw35.InspectFinds', WHERE WHAT IT READS IS OF BULK AT MOST 1048576: true; the input reads as it did. -/
def inspectFindsUptoRow : OpenClaim := { program := "ytlgnlghmbcpmhaagreatdoor", sum := "b6c8394e0c342358f3e80079ed02db874b20289869f1554b47c706ebb518fe36", func := "abacist/abacistlaw35.InspectFinds", spec := "inspectFinds", inPlace := ["internal/bytealg.IndexByteString", "internal/bytealg.IndexString", "math/bits.Add64"], unfollowed := true, recurses := true, named := ["unicode/utf8.first", "unicode/utf8.acceptRanges", "abacist/inspect.words", "internal/strconv.uint64pow10", "math/bits.deBruijn32tab", "math/bits.deBruijn64tab", "internal/bytealg.MaxLen"], apart := false, laid := [("math/bits.deBruijn32tab", laid_math_bits_deBruijn32tab), ("math/bits.deBruijn64tab", laid_math_bits_deBruijn64tab), ("internal/strconv.uint64pow10", laid_internal_strconv_uint64pow10), ("unicode/utf8.acceptRanges", laid_unicode_utf8_acceptRanges), ("abacist/inspect.words", laid_abacist_inspect_words), ("unicode/utf8.first", laid_unicode_utf8_first)], narrowed := true }
def InspectFindsUptoSaid : Prop := inspectFindsUptoRow.holds Tryz.pinned (OpenSpec.upto inspectFindsSpec)

/-- 'abacistlaw35.InspectLines', WHERE WHAT IT READS IS OF BULK AT MOST 1048576: true; the input reads as it did. -/
def inspectLinesUptoRow : OpenClaim := { program := "ytlgnlghmbcpmhaagreatdoor", sum := "b6c8394e0c342358f3e80079ed02db874b20289869f1554b47c706ebb518fe36", func := "abacist/abacistlaw35.InspectLines", spec := "inspectLines", inPlace := ["internal/bytealg.IndexByteString", "internal/bytealg.IndexString", "math/bits.Add64"], unfollowed := true, recurses := true, named := ["unicode/utf8.first", "unicode/utf8.acceptRanges", "abacist/inspect.words", "internal/strconv.uint64pow10", "math/bits.deBruijn32tab", "math/bits.deBruijn64tab", "abacist/record.names", "internal/bytealg.MaxLen"], apart := false, laid := [("math/bits.deBruijn32tab", laid_math_bits_deBruijn32tab), ("math/bits.deBruijn64tab", laid_math_bits_deBruijn64tab), ("internal/strconv.uint64pow10", laid_internal_strconv_uint64pow10), ("unicode/utf8.acceptRanges", laid_unicode_utf8_acceptRanges), ("abacist/record.names", laid_abacist_record_names), ("abacist/inspect.words", laid_abacist_inspect_words), ("unicode/utf8.first", laid_unicode_utf8_first)], narrowed := true }
def InspectLinesUptoSaid : Prop := inspectLinesUptoRow.holds Tryz.pinned (OpenSpec.upto inspectLinesSpec)

/-- 'abacistlaw35.InspectClean', WHERE WHAT IT READS IS OF BULK AT MOST 1048576: true; the input reads as it did. -/
def inspectCleanUptoRow : OpenClaim := { program := "ytlgnlghmbcpmhaagreatdoor", sum := "b6c8394e0c342358f3e80079ed02db874b20289869f1554b47c706ebb518fe36", func := "abacist/abacistlaw35.InspectClean", spec := "inspectClean", inPlace := ["internal/bytealg.IndexByteString", "internal/bytealg.IndexString", "math/bits.Add64"], unfollowed := true, recurses := true, named := ["unicode/utf8.first", "unicode/utf8.acceptRanges", "abacist/inspect.words", "internal/strconv.uint64pow10", "math/bits.deBruijn32tab", "math/bits.deBruijn64tab", "internal/bytealg.MaxLen"], apart := false, laid := [("math/bits.deBruijn32tab", laid_math_bits_deBruijn32tab), ("math/bits.deBruijn64tab", laid_math_bits_deBruijn64tab), ("internal/strconv.uint64pow10", laid_internal_strconv_uint64pow10), ("unicode/utf8.acceptRanges", laid_unicode_utf8_acceptRanges), ("abacist/inspect.words", laid_abacist_inspect_words), ("unicode/utf8.first", laid_unicode_utf8_first)], narrowed := true }
def InspectCleanUptoSaid : Prop := inspectCleanUptoRow.holds Tryz.pinned (OpenSpec.upto inspectCleanSpec)

/-- 'abacisttop.WholeOrder', WHERE WHAT IT READS IS OF BULK AT MOST 1048576: true; the input reads as it did. -/
def wholeOrderUptoRow : OpenClaim := { program := "ytlgnlghmbcpmhaagreatdoor", sum := "b6c8394e0c342358f3e80079ed02db874b20289869f1554b47c706ebb518fe36", func := "abacist/abacisttop.WholeOrder", spec := "wholeOrder", inPlace := ["internal/bytealg.IndexByteString", "internal/bytealg.IndexString", "math/bits.Add64"], unfollowed := true, recurses := true, named := ["math/bits.deBruijn64tab", "unicode/utf8.first", "unicode/utf8.acceptRanges", "math/bits.deBruijn32tab", "internal/bytealg.MaxLen"], apart := false, laid := [("math/bits.deBruijn32tab", laid_math_bits_deBruijn32tab), ("math/bits.deBruijn64tab", laid_math_bits_deBruijn64tab), ("unicode/utf8.acceptRanges", laid_unicode_utf8_acceptRanges), ("unicode/utf8.first", laid_unicode_utf8_first)], narrowed := true }
def WholeOrderUptoSaid : Prop := wholeOrderUptoRow.holds Tryz.pinned (OpenSpec.upto wholeOrderSpec)

/-- 'abacisttop.WholeProof', WHERE WHAT IT READS IS OF BULK AT MOST 1048576: true; the input reads as it did. -/
def wholeProofUptoRow : OpenClaim := { program := "ytlgnlghmbcpmhaagreatdoor", sum := "b6c8394e0c342358f3e80079ed02db874b20289869f1554b47c706ebb518fe36", func := "abacist/abacisttop.WholeProof", spec := "wholeProof", inPlace := ["internal/bytealg.IndexByteString", "internal/bytealg.IndexString", "math/bits.Add64"], unfollowed := true, recurses := true, named := ["math/bits.deBruijn64tab", "unicode/utf8.first", "unicode/utf8.acceptRanges", "math/bits.deBruijn32tab", "internal/bytealg.MaxLen"], apart := false, laid := [("math/bits.deBruijn32tab", laid_math_bits_deBruijn32tab), ("math/bits.deBruijn64tab", laid_math_bits_deBruijn64tab), ("unicode/utf8.acceptRanges", laid_unicode_utf8_acceptRanges), ("unicode/utf8.first", laid_unicode_utf8_first)], narrowed := true }
def WholeProofUptoSaid : Prop := wholeProofUptoRow.holds Tryz.pinned (OpenSpec.upto wholeProofSpec)

end Rows
end Go.Proofs.YtlgnlghmbcpmhaaGreatDoor
