/-
  NARROWER THAN 'FOR EVERY INPUT', by the rows' own cells (each row's printed sentence says how): RecordForms: laid · RecordTurned: laid · PassBack: laid · PassCosts: laid · CodecTexts: laid · RecordLines: laid · CodecPlaces: laid · CodecForms: laid · GenLines: laid.
  DERIVED. THE GIVEN ROWS OF THIS SEAT. 9 by the template 'for every input the law returns true; each argument reads behind the call as it read before'; 0 by the template 'total and deterministic' (their statements: YtbnhfcdagoigkaaDoorTotals.lean).
  GIVEN WITH THE SEED: the statements are not yours to turn. If you find one false, say at which input.
  Laid BY PROGRAM, IN A SANDBOX (cutbox-rows.mjs): the forced cells as the released guide's own fill.sh prints them over the translation ec88deb5832c4cad… (all of the seat's roots in one cut). By AI agents, Wed Nov 11 2026. No macro, syntax, notation, axiom, sorry.
-/
import Derived.Test.YtbnhfcdagoigkaaDoorChecked
import GoSem.PinnedTables
import GoSem.Claim
import GoSem.ClaimJoined
import GoSem.ClaimMapViews
import Derived.JoinedTies
import Derived.KernelRfl
namespace Go.Proofs.YtbnhfcdagoigkaaDoor
/- THE CELL 'sum', in the pinned program and in every row, IS THE sha256 OF THE DUMP (.gsa) THAT YtbnhfcdagoigkaaDoorProg.lean LOADS. Nothing in Lean hashes anything: it is a label: what it is worth is what the hold of that sum in a sandbox is worth. -/
noncomputable def Tryd.pinned : Pinned := { name := "ytbnhfcdagoigkaadoor", sum := "ec88deb5832c4cadae89bf3162b8c71648ca48101c4de25f652cc6c1dc71acd9", checked := Tryd.checked }
namespace Rows
def none {H : Type} : Left H := { results := [], args := [] }

/- WHAT THE LISTED PACKAGE-LEVEL VARIABLES READ AS WHEN THE CALL BEGINS. Each datum BY PROGRAM (the guide's laid-datum.mjs) off the statement by which the dump's own 'gosem.cut.vars' lays the variable. In a bare row this is a premise. The card (YtbnhfcdagoigkaaDoorCards.lean) ties it to the program's text. -/
def laid_math_bits_deBruijn32tab {H : Type} : DataW H := .agg [.lit (.int .u8 0), .lit (.int .u8 1), .lit (.int .u8 28), .lit (.int .u8 2), .lit (.int .u8 29), .lit (.int .u8 14), .lit (.int .u8 24), .lit (.int .u8 3), .lit (.int .u8 30), .lit (.int .u8 22), .lit (.int .u8 20), .lit (.int .u8 15), .lit (.int .u8 25), .lit (.int .u8 17), .lit (.int .u8 4), .lit (.int .u8 8), .lit (.int .u8 31), .lit (.int .u8 27), .lit (.int .u8 13), .lit (.int .u8 23), .lit (.int .u8 21), .lit (.int .u8 19), .lit (.int .u8 16), .lit (.int .u8 7), .lit (.int .u8 26), .lit (.int .u8 12), .lit (.int .u8 18), .lit (.int .u8 6), .lit (.int .u8 11), .lit (.int .u8 5), .lit (.int .u8 10), .lit (.int .u8 9)]
def laid_math_bits_deBruijn64tab {H : Type} : DataW H := .agg [.lit (.int .u8 0), .lit (.int .u8 1), .lit (.int .u8 56), .lit (.int .u8 2), .lit (.int .u8 57), .lit (.int .u8 49), .lit (.int .u8 28), .lit (.int .u8 3), .lit (.int .u8 61), .lit (.int .u8 58), .lit (.int .u8 42), .lit (.int .u8 50), .lit (.int .u8 38), .lit (.int .u8 29), .lit (.int .u8 17), .lit (.int .u8 4), .lit (.int .u8 62), .lit (.int .u8 47), .lit (.int .u8 59), .lit (.int .u8 36), .lit (.int .u8 45), .lit (.int .u8 43), .lit (.int .u8 51), .lit (.int .u8 22), .lit (.int .u8 53), .lit (.int .u8 39), .lit (.int .u8 33), .lit (.int .u8 30), .lit (.int .u8 24), .lit (.int .u8 18), .lit (.int .u8 12), .lit (.int .u8 5), .lit (.int .u8 63), .lit (.int .u8 55), .lit (.int .u8 48), .lit (.int .u8 27), .lit (.int .u8 60), .lit (.int .u8 41), .lit (.int .u8 37), .lit (.int .u8 16), .lit (.int .u8 46), .lit (.int .u8 35), .lit (.int .u8 44), .lit (.int .u8 21), .lit (.int .u8 52), .lit (.int .u8 32), .lit (.int .u8 23), .lit (.int .u8 11), .lit (.int .u8 54), .lit (.int .u8 26), .lit (.int .u8 40), .lit (.int .u8 15), .lit (.int .u8 34), .lit (.int .u8 20), .lit (.int .u8 31), .lit (.int .u8 10), .lit (.int .u8 25), .lit (.int .u8 14), .lit (.int .u8 19), .lit (.int .u8 9), .lit (.int .u8 13), .lit (.int .u8 8), .lit (.int .u8 7), .lit (.int .u8 6)]
def laid_internal_strconv_uint64pow10 {H : Type} : DataW H := .agg [.lit (.int .u64 1), .lit (.int .u64 10), .lit (.int .u64 100), .lit (.int .u64 1000), .lit (.int .u64 10000), .lit (.int .u64 100000), .lit (.int .u64 1000000), .lit (.int .u64 10000000), .lit (.int .u64 100000000), .lit (.int .u64 1000000000), .lit (.int .u64 10000000000), .lit (.int .u64 100000000000), .lit (.int .u64 1000000000000), .lit (.int .u64 10000000000000), .lit (.int .u64 100000000000000), .lit (.int .u64 1000000000000000), .lit (.int .u64 10000000000000000), .lit (.int .u64 100000000000000000), .lit (.int .u64 1000000000000000000), .lit (.int .u64 10000000000000000000)]
def laid_unicode_utf8_acceptRanges {H : Type} : DataW H := .agg [.agg [.lit (.int .u8 128), .lit (.int .u8 191)], .agg [.lit (.int .u8 160), .lit (.int .u8 191)], .agg [.lit (.int .u8 128), .lit (.int .u8 159)], .agg [.lit (.int .u8 144), .lit (.int .u8 191)], .agg [.lit (.int .u8 128), .lit (.int .u8 143)], .agg [.lit (.int .u8 0), .lit (.int .u8 0)], .agg [.lit (.int .u8 0), .lit (.int .u8 0)], .agg [.lit (.int .u8 0), .lit (.int .u8 0)], .agg [.lit (.int .u8 0), .lit (.int .u8 0)], .agg [.lit (.int .u8 0), .lit (.int .u8 0)], .agg [.lit (.int .u8 0), .lit (.int .u8 0)], .agg [.lit (.int .u8 0), .lit (.int .u8 0)], .agg [.lit (.int .u8 0), .lit (.int .u8 0)], .agg [.lit (.int .u8 0), .lit (.int .u8 0)], .agg [.lit (.int .u8 0), .lit (.int .u8 0)], .agg [.lit (.int .u8 0), .lit (.int .u8 0)]]
def laid_abacist_record_names {H : Type} : DataW H := .agg [.lit (.string []), .lit (.string [119, 105, 112, 101]), .lit (.string [108, 111, 97, 100]), .lit (.string [115, 117, 98, 109, 105, 116]), .lit (.string [112, 97, 115, 115])]
/-- One of Go's own tables, pinned by name: the form's constant. -/
def laid_unicode_utf8_first : DataW Unit := Go.Pinned.utf8First
def laid_strconv_ErrRange {H : Type} : DataW H := .iface "*errors.errorString" (.ptr (.agg [.lit (.string [118, 97, 108, 117, 101, 32, 111, 117, 116, 32, 111, 102, 32, 114, 97, 110, 103, 101])]))
def laid_strconv_ErrSyntax {H : Type} : DataW H := .iface "*errors.errorString" (.ptr (.agg [.lit (.string [105, 110, 118, 97, 108, 105, 100, 32, 115, 121, 110, 116, 97, 120])]))
def laid_abacist_gen_kinds {H : Type} : DataW H := .agg [.agg [.lit (.string []), .lit (.int .i64 0)], .agg [.lit (.string [99, 111, 110, 115, 116]), .lit (.int .i64 1)], .agg [.lit (.string [108, 105, 110, 101]), .lit (.int .i64 2)], .agg [.lit (.string [112, 111, 119, 101, 114]), .lit (.int .i64 2)], .agg [.lit (.string [99, 104, 97, 105, 110]), .lit (.int .i64 3)], .agg [.lit (.string [112, 117, 108, 115, 101]), .lit (.int .i64 3)]]

/-- 'abacistlaw20.RecordForms': WHATEVER THE INPUT: true; the input reads as it did. -/
def recordFormsSpec : ChangeSpec := { name := "recordForms", fn := fun _ => fun
  | [d1, d2, d3] => { results := [.lit (.bool true)], args := [d1, d2, d3] }
  | _ => none }
def recordFormsRow : OpenClaim := { program := "ytbnhfcdagoigkaadoor", sum := "ec88deb5832c4cadae89bf3162b8c71648ca48101c4de25f652cc6c1dc71acd9", func := "abacist/abacistlaw20.RecordForms", spec := "recordForms", inPlace := ["internal/bytealg.IndexByteString", "internal/bytealg.IndexString"], named := ["abacist/record.names", "internal/strconv.uint64pow10", "math/bits.deBruijn32tab", "math/bits.deBruijn64tab", "unicode/utf8.first", "unicode/utf8.acceptRanges", "internal/bytealg.MaxLen"], apart := false, laid := [("math/bits.deBruijn32tab", laid_math_bits_deBruijn32tab), ("math/bits.deBruijn64tab", laid_math_bits_deBruijn64tab), ("internal/strconv.uint64pow10", laid_internal_strconv_uint64pow10), ("unicode/utf8.acceptRanges", laid_unicode_utf8_acceptRanges), ("abacist/record.names", laid_abacist_record_names), ("unicode/utf8.first", laid_unicode_utf8_first)] }
def RecordFormsSaid : Prop := recordFormsRow.holds Tryd.pinned (OpenSpec.ofChange recordFormsSpec)

/-- ITS FALSE NEIGHBOUR: 'it returns false'. Refute it at one input. -/
def recordFormsWrong : ChangeSpec := { name := "recordForms", fn := fun _ => fun
  | [d1, d2, d3] => { results := [.lit (.bool false)], args := [d1, d2, d3] }
  | _ => none }
def RecordFormsWrongFalsely : Prop := recordFormsRow.holds Tryd.pinned (OpenSpec.ofChange recordFormsWrong)

/-- 'abacistlaw20.RecordTurned': WHATEVER THE INPUT: true; the input reads as it did. -/
def recordTurnedSpec : ChangeSpec := { name := "recordTurned", fn := fun _ => fun
  | [d1, d2, d3, d4] => { results := [.lit (.bool true)], args := [d1, d2, d3, d4] }
  | _ => none }
def recordTurnedRow : OpenClaim := { program := "ytbnhfcdagoigkaadoor", sum := "ec88deb5832c4cadae89bf3162b8c71648ca48101c4de25f652cc6c1dc71acd9", func := "abacist/abacistlaw20.RecordTurned", spec := "recordTurned", inPlace := ["internal/bytealg.IndexByteString", "internal/bytealg.IndexString"], named := ["abacist/record.names", "internal/strconv.uint64pow10", "math/bits.deBruijn32tab", "math/bits.deBruijn64tab", "unicode/utf8.first", "unicode/utf8.acceptRanges", "internal/bytealg.MaxLen"], apart := false, laid := [("math/bits.deBruijn32tab", laid_math_bits_deBruijn32tab), ("math/bits.deBruijn64tab", laid_math_bits_deBruijn64tab), ("internal/strconv.uint64pow10", laid_internal_strconv_uint64pow10), ("unicode/utf8.acceptRanges", laid_unicode_utf8_acceptRanges), ("abacist/record.names", laid_abacist_record_names), ("unicode/utf8.first", laid_unicode_utf8_first)] }
def RecordTurnedSaid : Prop := recordTurnedRow.holds Tryd.pinned (OpenSpec.ofChange recordTurnedSpec)

/-- ITS FALSE NEIGHBOUR: 'it returns false'. Refute it at one input. -/
def recordTurnedWrong : ChangeSpec := { name := "recordTurned", fn := fun _ => fun
  | [d1, d2, d3, d4] => { results := [.lit (.bool false)], args := [d1, d2, d3, d4] }
  | _ => none }
def RecordTurnedWrongFalsely : Prop := recordTurnedRow.holds Tryd.pinned (OpenSpec.ofChange recordTurnedWrong)

/-- 'abacistlaw23.PassBack': WHATEVER THE INPUT: true; the input reads as it did. -/
def passBackSpec : ChangeSpec := { name := "passBack", fn := fun _ => fun
  | [d1, d2, d3] => { results := [.lit (.bool true)], args := [d1, d2, d3] }
  | _ => none }
def passBackRow : OpenClaim := { program := "ytbnhfcdagoigkaadoor", sum := "ec88deb5832c4cadae89bf3162b8c71648ca48101c4de25f652cc6c1dc71acd9", func := "abacist/abacistlaw23.PassBack", spec := "passBack", inPlace := ["math/bits.Add64"], unfollowed := true, recurses := true, named := ["math/bits.deBruijn64tab", "math/bits.deBruijn32tab"], apart := false, laid := [("math/bits.deBruijn32tab", laid_math_bits_deBruijn32tab), ("math/bits.deBruijn64tab", laid_math_bits_deBruijn64tab)] }
def PassBackSaid : Prop := passBackRow.holds Tryd.pinned (OpenSpec.ofChange passBackSpec)

/-- ITS FALSE NEIGHBOUR: 'it returns false'. Refute it at one input. -/
def passBackWrong : ChangeSpec := { name := "passBack", fn := fun _ => fun
  | [d1, d2, d3] => { results := [.lit (.bool false)], args := [d1, d2, d3] }
  | _ => none }
def PassBackWrongFalsely : Prop := passBackRow.holds Tryd.pinned (OpenSpec.ofChange passBackWrong)

/-- 'abacistlaw23.PassCosts': WHATEVER THE INPUT: true; the input reads as it did. -/
def passCostsSpec : ChangeSpec := { name := "passCosts", fn := fun _ => fun
  | [d1, d2] => { results := [.lit (.bool true)], args := [d1, d2] }
  | _ => none }
def passCostsRow : OpenClaim := { program := "ytbnhfcdagoigkaadoor", sum := "ec88deb5832c4cadae89bf3162b8c71648ca48101c4de25f652cc6c1dc71acd9", func := "abacist/abacistlaw23.PassCosts", spec := "passCosts", inPlace := ["math/bits.Add64"], unfollowed := true, recurses := true, named := ["math/bits.deBruijn64tab", "math/bits.deBruijn32tab"], apart := false, laid := [("math/bits.deBruijn32tab", laid_math_bits_deBruijn32tab), ("math/bits.deBruijn64tab", laid_math_bits_deBruijn64tab)] }
def PassCostsSaid : Prop := passCostsRow.holds Tryd.pinned (OpenSpec.ofChange passCostsSpec)

/-- ITS FALSE NEIGHBOUR: 'it returns false'. Refute it at one input. -/
def passCostsWrong : ChangeSpec := { name := "passCosts", fn := fun _ => fun
  | [d1, d2] => { results := [.lit (.bool false)], args := [d1, d2] }
  | _ => none }
def PassCostsWrongFalsely : Prop := passCostsRow.holds Tryd.pinned (OpenSpec.ofChange passCostsWrong)

/-- 'abacistlaw04.CodecTexts': WHATEVER THE INPUT: true; the input reads as it did. -/
def codecTextsSpec : ChangeSpec := { name := "codecTexts", fn := fun _ => fun
  | [d1, d2] => { results := [.lit (.bool true)], args := [d1, d2] }
  | _ => none }
def codecTextsRow : OpenClaim := { program := "ytbnhfcdagoigkaadoor", sum := "ec88deb5832c4cadae89bf3162b8c71648ca48101c4de25f652cc6c1dc71acd9", func := "abacist/abacistlaw04.CodecTexts", spec := "codecTexts", inPlace := ["internal/bytealg.CountString", "internal/bytealg.IndexByteString", "internal/bytealg.IndexString", "math/bits.Add64", "internal/abi.NoEscape", "internal/bytealg.MakeNoZero"], unfollowed := true, recurses := true, named := ["unicode/utf8.first", "unicode/utf8.acceptRanges", "internal/bytealg.MaxLen", "internal/strconv.uint64pow10", "math/bits.deBruijn32tab", "math/bits.deBruijn64tab"], apart := false, laid := [("math/bits.deBruijn32tab", laid_math_bits_deBruijn32tab), ("math/bits.deBruijn64tab", laid_math_bits_deBruijn64tab), ("internal/strconv.uint64pow10", laid_internal_strconv_uint64pow10), ("unicode/utf8.acceptRanges", laid_unicode_utf8_acceptRanges), ("unicode/utf8.first", laid_unicode_utf8_first)] }
def CodecTextsSaid : Prop := codecTextsRow.holds Tryd.pinned (OpenSpec.ofChange codecTextsSpec)

/-- ITS FALSE NEIGHBOUR: 'it returns false'. Refute it at one input. -/
def codecTextsWrong : ChangeSpec := { name := "codecTexts", fn := fun _ => fun
  | [d1, d2] => { results := [.lit (.bool false)], args := [d1, d2] }
  | _ => none }
def CodecTextsWrongFalsely : Prop := codecTextsRow.holds Tryd.pinned (OpenSpec.ofChange codecTextsWrong)

/-- 'abacistlaw20.RecordLines': WHATEVER THE INPUT: true; the input reads as it did. -/
def recordLinesSpec : ChangeSpec := { name := "recordLines", fn := fun _ => fun
  | [d1, d2] => { results := [.lit (.bool true)], args := [d1, d2] }
  | _ => none }
def recordLinesRow : OpenClaim := { program := "ytbnhfcdagoigkaadoor", sum := "ec88deb5832c4cadae89bf3162b8c71648ca48101c4de25f652cc6c1dc71acd9", func := "abacist/abacistlaw20.RecordLines", spec := "recordLines", inPlace := ["internal/bytealg.CountString", "internal/bytealg.IndexByteString", "internal/bytealg.IndexString"], named := ["abacist/record.names", "internal/strconv.uint64pow10", "math/bits.deBruijn32tab", "math/bits.deBruijn64tab", "unicode/utf8.first", "unicode/utf8.acceptRanges", "internal/bytealg.MaxLen", "strconv.ErrSyntax", "strconv.ErrRange"], apart := false, laid := [("math/bits.deBruijn32tab", laid_math_bits_deBruijn32tab), ("math/bits.deBruijn64tab", laid_math_bits_deBruijn64tab), ("internal/strconv.uint64pow10", laid_internal_strconv_uint64pow10), ("unicode/utf8.acceptRanges", laid_unicode_utf8_acceptRanges), ("strconv.ErrRange", laid_strconv_ErrRange), ("strconv.ErrSyntax", laid_strconv_ErrSyntax), ("abacist/record.names", laid_abacist_record_names), ("unicode/utf8.first", laid_unicode_utf8_first)] }
def RecordLinesSaid : Prop := recordLinesRow.holds Tryd.pinned (OpenSpec.ofChange recordLinesSpec)

/-- ITS FALSE NEIGHBOUR: 'it returns false'. Refute it at one input. -/
def recordLinesWrong : ChangeSpec := { name := "recordLines", fn := fun _ => fun
  | [d1, d2] => { results := [.lit (.bool false)], args := [d1, d2] }
  | _ => none }
def RecordLinesWrongFalsely : Prop := recordLinesRow.holds Tryd.pinned (OpenSpec.ofChange recordLinesWrong)

/-- 'abacistlaw04.CodecPlaces': WHATEVER THE INPUT: true; the input reads as it did. -/
def codecPlacesSpec : ChangeSpec := { name := "codecPlaces", fn := fun _ => fun
  | [d1, d2, d3] => { results := [.lit (.bool true)], args := [d1, d2, d3] }
  | _ => none }
def codecPlacesRow : OpenClaim := { program := "ytbnhfcdagoigkaadoor", sum := "ec88deb5832c4cadae89bf3162b8c71648ca48101c4de25f652cc6c1dc71acd9", func := "abacist/abacistlaw04.CodecPlaces", spec := "codecPlaces", inPlace := ["internal/bytealg.CountString", "internal/bytealg.IndexByteString", "internal/bytealg.IndexString", "math/bits.Add64", "internal/abi.NoEscape", "internal/bytealg.MakeNoZero"], named := ["unicode/utf8.first", "unicode/utf8.acceptRanges", "internal/bytealg.MaxLen", "internal/strconv.uint64pow10", "math/bits.deBruijn32tab", "math/bits.deBruijn64tab"], apart := false, laid := [("math/bits.deBruijn32tab", laid_math_bits_deBruijn32tab), ("math/bits.deBruijn64tab", laid_math_bits_deBruijn64tab), ("internal/strconv.uint64pow10", laid_internal_strconv_uint64pow10), ("unicode/utf8.acceptRanges", laid_unicode_utf8_acceptRanges), ("unicode/utf8.first", laid_unicode_utf8_first)] }
def CodecPlacesSaid : Prop := codecPlacesRow.holds Tryd.pinned (OpenSpec.ofChange codecPlacesSpec)

/-- ITS FALSE NEIGHBOUR: 'it returns false'. Refute it at one input. -/
def codecPlacesWrong : ChangeSpec := { name := "codecPlaces", fn := fun _ => fun
  | [d1, d2, d3] => { results := [.lit (.bool false)], args := [d1, d2, d3] }
  | _ => none }
def CodecPlacesWrongFalsely : Prop := codecPlacesRow.holds Tryd.pinned (OpenSpec.ofChange codecPlacesWrong)

/-- 'abacistlaw04.CodecForms': WHATEVER THE INPUT: true; the input reads as it did. -/
def codecFormsSpec : ChangeSpec := { name := "codecForms", fn := fun _ => fun
  | [d1, d2] => { results := [.lit (.bool true)], args := [d1, d2] }
  | _ => none }
def codecFormsRow : OpenClaim := { program := "ytbnhfcdagoigkaadoor", sum := "ec88deb5832c4cadae89bf3162b8c71648ca48101c4de25f652cc6c1dc71acd9", func := "abacist/abacistlaw04.CodecForms", spec := "codecForms", inPlace := ["internal/bytealg.CountString", "internal/bytealg.IndexByteString", "internal/bytealg.IndexString", "math/bits.Add64", "internal/abi.NoEscape", "internal/bytealg.MakeNoZero"], unfollowed := true, recurses := true, named := ["unicode/utf8.first", "unicode/utf8.acceptRanges", "internal/bytealg.MaxLen", "internal/strconv.uint64pow10", "math/bits.deBruijn32tab", "math/bits.deBruijn64tab"], apart := false, laid := [("math/bits.deBruijn32tab", laid_math_bits_deBruijn32tab), ("math/bits.deBruijn64tab", laid_math_bits_deBruijn64tab), ("internal/strconv.uint64pow10", laid_internal_strconv_uint64pow10), ("unicode/utf8.acceptRanges", laid_unicode_utf8_acceptRanges), ("unicode/utf8.first", laid_unicode_utf8_first)] }
def CodecFormsSaid : Prop := codecFormsRow.holds Tryd.pinned (OpenSpec.ofChange codecFormsSpec)

/-- ITS FALSE NEIGHBOUR: 'it returns false'. Refute it at one input. -/
def codecFormsWrong : ChangeSpec := { name := "codecForms", fn := fun _ => fun
  | [d1, d2] => { results := [.lit (.bool false)], args := [d1, d2] }
  | _ => none }
def CodecFormsWrongFalsely : Prop := codecFormsRow.holds Tryd.pinned (OpenSpec.ofChange codecFormsWrong)

/-- 'abacistlaw38.GenLines': WHATEVER THE INPUT: true; the input reads as it did. -/
def genLinesSpec : ChangeSpec := { name := "genLines", fn := fun _ => fun
  | [d1, d2] => { results := [.lit (.bool true)], args := [d1, d2] }
  | _ => none }
def genLinesRow : OpenClaim := { program := "ytbnhfcdagoigkaadoor", sum := "ec88deb5832c4cadae89bf3162b8c71648ca48101c4de25f652cc6c1dc71acd9", func := "abacist/abacistlaw38.GenLines", spec := "genLines", inPlace := ["math/bits.Add64", "internal/abi.NoEscape", "internal/bytealg.MakeNoZero", "internal/bytealg.IndexByteString", "internal/bytealg.IndexString", "internal/bytealg.CountString"], unfollowed := true, recurses := true, named := ["abacist/gen.kinds", "internal/strconv.uint64pow10", "math/bits.deBruijn32tab", "math/bits.deBruijn64tab", "internal/bytealg.MaxLen", "unicode/utf8.first", "unicode/utf8.acceptRanges"], apart := false, laid := [("math/bits.deBruijn32tab", laid_math_bits_deBruijn32tab), ("math/bits.deBruijn64tab", laid_math_bits_deBruijn64tab), ("internal/strconv.uint64pow10", laid_internal_strconv_uint64pow10), ("unicode/utf8.acceptRanges", laid_unicode_utf8_acceptRanges), ("abacist/gen.kinds", laid_abacist_gen_kinds), ("unicode/utf8.first", laid_unicode_utf8_first)] }
def GenLinesSaid : Prop := genLinesRow.holds Tryd.pinned (OpenSpec.ofChange genLinesSpec)

/-- ITS FALSE NEIGHBOUR: 'it returns false'. Refute it at one input. -/
def genLinesWrong : ChangeSpec := { name := "genLines", fn := fun _ => fun
  | [d1, d2] => { results := [.lit (.bool false)], args := [d1, d2] }
  | _ => none }
def GenLinesWrongFalsely : Prop := genLinesRow.holds Tryd.pinned (OpenSpec.ofChange genLinesWrong)

/- THE SECOND FORM. 'bulk': how many values and letters a reading holds, each counted each time it is reached (what is shared counts as often as it is met; a slice's spare places count too). A statement '..UptoSaid' is the law's where the arguments, and the package variables that the reading takes, are together of bulk at most 1048576: NARROWER than '..Said'. Prove '..Said' where nothing that the law and all that it calls make is longer than what came in: it says more and counts as full. Else prove '..UptoSaid'. A law counts once. -/
mutual
def uptoBulk {H : Type} : DataW H → Nat
  | .lit (.string bytes) => bytes.length + 1
  | .lit _ => 1
  | .nil => 1
  | .ptr d => uptoBulk d + 1
  | .slice elems spare => uptoBulkAll elems + uptoBulkAll spare + 1
  | .agg parts => uptoBulkAll parts + 1
  | .iface _ d => uptoBulk d + 1
  | .map entries => uptoBulkEntries entries + 1
  | .held _ => 1
def uptoBulkAll {H : Type} : List (DataW H) → Nat
  | [] => 0
  | d :: r => uptoBulk d + uptoBulkAll r
def uptoBulkEntries {H : Type} : List (Lit × DataW H) → Nat
  | [] => 0
  | x :: r => uptoBulkEntry x + uptoBulkEntries r
def uptoBulkEntry {H : Type} : Lit × DataW H → Nat
  | (.string bytes, d) => bytes.length + uptoBulk d + 1
  | (_, d) => uptoBulk d + 1
 end
def uptoSmall : (H : Type) → List (DataW H) → Bool := fun _ ds => decide (uptoBulkAll ds ≤ 1048576)
def OpenSpec.upto (s : _root_.Go.ChangeSpec) : _root_.Go.OpenSpec := { _root_.Go.OpenSpec.ofChange s with cond := some uptoSmall }

/-- 'abacistlaw20.RecordForms', WHERE WHAT IT READS IS OF BULK AT MOST 1048576: true; the input reads as it did. -/
def recordFormsUptoRow : OpenClaim := { program := "ytbnhfcdagoigkaadoor", sum := "ec88deb5832c4cadae89bf3162b8c71648ca48101c4de25f652cc6c1dc71acd9", func := "abacist/abacistlaw20.RecordForms", spec := "recordForms", inPlace := ["internal/bytealg.IndexByteString", "internal/bytealg.IndexString"], named := ["abacist/record.names", "internal/strconv.uint64pow10", "math/bits.deBruijn32tab", "math/bits.deBruijn64tab", "unicode/utf8.first", "unicode/utf8.acceptRanges", "internal/bytealg.MaxLen"], apart := false, laid := [("math/bits.deBruijn32tab", laid_math_bits_deBruijn32tab), ("math/bits.deBruijn64tab", laid_math_bits_deBruijn64tab), ("internal/strconv.uint64pow10", laid_internal_strconv_uint64pow10), ("unicode/utf8.acceptRanges", laid_unicode_utf8_acceptRanges), ("abacist/record.names", laid_abacist_record_names), ("unicode/utf8.first", laid_unicode_utf8_first)], narrowed := true }
def RecordFormsUptoSaid : Prop := recordFormsUptoRow.holds Tryd.pinned (OpenSpec.upto recordFormsSpec)

/-- 'abacistlaw20.RecordTurned', WHERE WHAT IT READS IS OF BULK AT MOST 1048576: true; the input reads as it did. -/
def recordTurnedUptoRow : OpenClaim := { program := "ytbnhfcdagoigkaadoor", sum := "ec88deb5832c4cadae89bf3162b8c71648ca48101c4de25f652cc6c1dc71acd9", func := "abacist/abacistlaw20.RecordTurned", spec := "recordTurned", inPlace := ["internal/bytealg.IndexByteString", "internal/bytealg.IndexString"], named := ["abacist/record.names", "internal/strconv.uint64pow10", "math/bits.deBruijn32tab", "math/bits.deBruijn64tab", "unicode/utf8.first", "unicode/utf8.acceptRanges", "internal/bytealg.MaxLen"], apart := false, laid := [("math/bits.deBruijn32tab", laid_math_bits_deBruijn32tab), ("math/bits.deBruijn64tab", laid_math_bits_deBruijn64tab), ("internal/strconv.uint64pow10", laid_internal_strconv_uint64pow10), ("unicode/utf8.acceptRanges", laid_unicode_utf8_acceptRanges), ("abacist/record.names", laid_abacist_record_names), ("unicode/utf8.first", laid_unicode_utf8_first)], narrowed := true }
def RecordTurnedUptoSaid : Prop := recordTurnedUptoRow.holds Tryd.pinned (OpenSpec.upto recordTurnedSpec)

/-- 'abacistlaw23.PassBack', WHERE WHAT IT READS IS OF BULK AT MOST 1048576: true; the input reads as it did. -/
def passBackUptoRow : OpenClaim := { program := "ytbnhfcdagoigkaadoor", sum := "ec88deb5832c4cadae89bf3162b8c71648ca48101c4de25f652cc6c1dc71acd9", func := "abacist/abacistlaw23.PassBack", spec := "passBack", inPlace := ["math/bits.Add64"], unfollowed := true, recurses := true, named := ["math/bits.deBruijn64tab", "math/bits.deBruijn32tab"], apart := false, laid := [("math/bits.deBruijn32tab", laid_math_bits_deBruijn32tab), ("math/bits.deBruijn64tab", laid_math_bits_deBruijn64tab)], narrowed := true }
def PassBackUptoSaid : Prop := passBackUptoRow.holds Tryd.pinned (OpenSpec.upto passBackSpec)

/-- 'abacistlaw23.PassCosts', WHERE WHAT IT READS IS OF BULK AT MOST 1048576: true; the input reads as it did. -/
def passCostsUptoRow : OpenClaim := { program := "ytbnhfcdagoigkaadoor", sum := "ec88deb5832c4cadae89bf3162b8c71648ca48101c4de25f652cc6c1dc71acd9", func := "abacist/abacistlaw23.PassCosts", spec := "passCosts", inPlace := ["math/bits.Add64"], unfollowed := true, recurses := true, named := ["math/bits.deBruijn64tab", "math/bits.deBruijn32tab"], apart := false, laid := [("math/bits.deBruijn32tab", laid_math_bits_deBruijn32tab), ("math/bits.deBruijn64tab", laid_math_bits_deBruijn64tab)], narrowed := true }
def PassCostsUptoSaid : Prop := passCostsUptoRow.holds Tryd.pinned (OpenSpec.upto passCostsSpec)

/-- 'abacistlaw04.CodecTexts', WHERE WHAT IT READS IS OF BULK AT MOST 1048576: true; the input reads as it did. -/
def codecTextsUptoRow : OpenClaim := { program := "ytbnhfcdagoigkaadoor", sum := "ec88deb5832c4cadae89bf3162b8c71648ca48101c4de25f652cc6c1dc71acd9", func := "abacist/abacistlaw04.CodecTexts", spec := "codecTexts", inPlace := ["internal/bytealg.CountString", "internal/bytealg.IndexByteString", "internal/bytealg.IndexString", "math/bits.Add64", "internal/abi.NoEscape", "internal/bytealg.MakeNoZero"], unfollowed := true, recurses := true, named := ["unicode/utf8.first", "unicode/utf8.acceptRanges", "internal/bytealg.MaxLen", "internal/strconv.uint64pow10", "math/bits.deBruijn32tab", "math/bits.deBruijn64tab"], apart := false, laid := [("math/bits.deBruijn32tab", laid_math_bits_deBruijn32tab), ("math/bits.deBruijn64tab", laid_math_bits_deBruijn64tab), ("internal/strconv.uint64pow10", laid_internal_strconv_uint64pow10), ("unicode/utf8.acceptRanges", laid_unicode_utf8_acceptRanges), ("unicode/utf8.first", laid_unicode_utf8_first)], narrowed := true }
def CodecTextsUptoSaid : Prop := codecTextsUptoRow.holds Tryd.pinned (OpenSpec.upto codecTextsSpec)

/-- 'abacistlaw20.RecordLines', WHERE WHAT IT READS IS OF BULK AT MOST 1048576: true; the input reads as it did. -/
def recordLinesUptoRow : OpenClaim := { program := "ytbnhfcdagoigkaadoor", sum := "ec88deb5832c4cadae89bf3162b8c71648ca48101c4de25f652cc6c1dc71acd9", func := "abacist/abacistlaw20.RecordLines", spec := "recordLines", inPlace := ["internal/bytealg.CountString", "internal/bytealg.IndexByteString", "internal/bytealg.IndexString"], named := ["abacist/record.names", "internal/strconv.uint64pow10", "math/bits.deBruijn32tab", "math/bits.deBruijn64tab", "unicode/utf8.first", "unicode/utf8.acceptRanges", "internal/bytealg.MaxLen", "strconv.ErrSyntax", "strconv.ErrRange"], apart := false, laid := [("math/bits.deBruijn32tab", laid_math_bits_deBruijn32tab), ("math/bits.deBruijn64tab", laid_math_bits_deBruijn64tab), ("internal/strconv.uint64pow10", laid_internal_strconv_uint64pow10), ("unicode/utf8.acceptRanges", laid_unicode_utf8_acceptRanges), ("strconv.ErrRange", laid_strconv_ErrRange), ("strconv.ErrSyntax", laid_strconv_ErrSyntax), ("abacist/record.names", laid_abacist_record_names), ("unicode/utf8.first", laid_unicode_utf8_first)], narrowed := true }
def RecordLinesUptoSaid : Prop := recordLinesUptoRow.holds Tryd.pinned (OpenSpec.upto recordLinesSpec)

/-- 'abacistlaw04.CodecPlaces', WHERE WHAT IT READS IS OF BULK AT MOST 1048576: true; the input reads as it did. -/
def codecPlacesUptoRow : OpenClaim := { program := "ytbnhfcdagoigkaadoor", sum := "ec88deb5832c4cadae89bf3162b8c71648ca48101c4de25f652cc6c1dc71acd9", func := "abacist/abacistlaw04.CodecPlaces", spec := "codecPlaces", inPlace := ["internal/bytealg.CountString", "internal/bytealg.IndexByteString", "internal/bytealg.IndexString", "math/bits.Add64", "internal/abi.NoEscape", "internal/bytealg.MakeNoZero"], named := ["unicode/utf8.first", "unicode/utf8.acceptRanges", "internal/bytealg.MaxLen", "internal/strconv.uint64pow10", "math/bits.deBruijn32tab", "math/bits.deBruijn64tab"], apart := false, laid := [("math/bits.deBruijn32tab", laid_math_bits_deBruijn32tab), ("math/bits.deBruijn64tab", laid_math_bits_deBruijn64tab), ("internal/strconv.uint64pow10", laid_internal_strconv_uint64pow10), ("unicode/utf8.acceptRanges", laid_unicode_utf8_acceptRanges), ("unicode/utf8.first", laid_unicode_utf8_first)], narrowed := true }
def CodecPlacesUptoSaid : Prop := codecPlacesUptoRow.holds Tryd.pinned (OpenSpec.upto codecPlacesSpec)

/-- 'abacistlaw04.CodecForms', WHERE WHAT IT READS IS OF BULK AT MOST 1048576: true; the input reads as it did. -/
def codecFormsUptoRow : OpenClaim := { program := "ytbnhfcdagoigkaadoor", sum := "ec88deb5832c4cadae89bf3162b8c71648ca48101c4de25f652cc6c1dc71acd9", func := "abacist/abacistlaw04.CodecForms", spec := "codecForms", inPlace := ["internal/bytealg.CountString", "internal/bytealg.IndexByteString", "internal/bytealg.IndexString", "math/bits.Add64", "internal/abi.NoEscape", "internal/bytealg.MakeNoZero"], unfollowed := true, recurses := true, named := ["unicode/utf8.first", "unicode/utf8.acceptRanges", "internal/bytealg.MaxLen", "internal/strconv.uint64pow10", "math/bits.deBruijn32tab", "math/bits.deBruijn64tab"], apart := false, laid := [("math/bits.deBruijn32tab", laid_math_bits_deBruijn32tab), ("math/bits.deBruijn64tab", laid_math_bits_deBruijn64tab), ("internal/strconv.uint64pow10", laid_internal_strconv_uint64pow10), ("unicode/utf8.acceptRanges", laid_unicode_utf8_acceptRanges), ("unicode/utf8.first", laid_unicode_utf8_first)], narrowed := true }
def CodecFormsUptoSaid : Prop := codecFormsUptoRow.holds Tryd.pinned (OpenSpec.upto codecFormsSpec)

/-- 'abacistlaw38.GenLines', WHERE WHAT IT READS IS OF BULK AT MOST 1048576: true; the input reads as it did. -/
def genLinesUptoRow : OpenClaim := { program := "ytbnhfcdagoigkaadoor", sum := "ec88deb5832c4cadae89bf3162b8c71648ca48101c4de25f652cc6c1dc71acd9", func := "abacist/abacistlaw38.GenLines", spec := "genLines", inPlace := ["math/bits.Add64", "internal/abi.NoEscape", "internal/bytealg.MakeNoZero", "internal/bytealg.IndexByteString", "internal/bytealg.IndexString", "internal/bytealg.CountString"], unfollowed := true, recurses := true, named := ["abacist/gen.kinds", "internal/strconv.uint64pow10", "math/bits.deBruijn32tab", "math/bits.deBruijn64tab", "internal/bytealg.MaxLen", "unicode/utf8.first", "unicode/utf8.acceptRanges"], apart := false, laid := [("math/bits.deBruijn32tab", laid_math_bits_deBruijn32tab), ("math/bits.deBruijn64tab", laid_math_bits_deBruijn64tab), ("internal/strconv.uint64pow10", laid_internal_strconv_uint64pow10), ("unicode/utf8.acceptRanges", laid_unicode_utf8_acceptRanges), ("abacist/gen.kinds", laid_abacist_gen_kinds), ("unicode/utf8.first", laid_unicode_utf8_first)], narrowed := true }
def GenLinesUptoSaid : Prop := genLinesUptoRow.holds Tryd.pinned (OpenSpec.upto genLinesSpec)

end Rows
end Go.Proofs.YtbnhfcdagoigkaaDoor
