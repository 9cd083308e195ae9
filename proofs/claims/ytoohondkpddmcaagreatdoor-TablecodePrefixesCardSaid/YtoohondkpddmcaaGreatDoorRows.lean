/-
  NARROWER THAN 'FOR EVERY INPUT', by the rows' own cells (each row's printed sentence says how): TokenOfPrograms: laid · TablecodeCompiles: laid · TablecodeRoundTrip: laid · TablecodeIsCanonical: laid · TablecodeDisassembles: laid · TablecodePrefixes: laid · TablecodeConcatenates: laid.
  DERIVED. THE GIVEN ROWS OF THIS SEAT. 7 by the template 'for every input the law returns true; each argument reads behind the call as it read before'; 0 by the template 'total and deterministic' (their statements: YtoohondkpddmcaaGreatDoorTotals.lean).
  GIVEN WITH THE SEED: the statements are not yours to turn. If you find one false, say at which input.
  Laid BY PROGRAM, IN A SANDBOX (cutbox-rows.mjs): the forced cells as the released guide's own fill.sh prints them over the translation 05d0aae6b6128321… (all of the seat's roots in one cut). By AI agents, Wed Nov 11 2026. No macro, syntax, notation, axiom, sorry.
-/
import Derived.Test.YtoohondkpddmcaaGreatDoorChecked
import GoSem.PinnedTables
import GoSem.Claim
import GoSem.ClaimJoined
import GoSem.ClaimMapViews
import Derived.JoinedTies
import Derived.KernelRfl
namespace Go.Proofs.YtoohondkpddmcaaGreatDoor
/- THE CELL 'sum', in the pinned program and in every row, IS THE sha256 OF THE DUMP (.gsa) THAT YtoohondkpddmcaaGreatDoorProg.lean LOADS. Nothing in Lean hashes anything: it is a label: what it is worth is what the hold of that sum in a sandbox is worth. -/
noncomputable def Tryz.pinned : Pinned := { name := "ytoohondkpddmcaagreatdoor", sum := "05d0aae6b61283219000d8bed8d90bd53de48e31e70bb6a0b06acff0a9b15d0f", checked := Tryz.checked }
namespace Rows
def none {H : Type} : Left H := { results := [], args := [] }

/- WHAT THE LISTED PACKAGE-LEVEL VARIABLES READ AS WHEN THE CALL BEGINS. Each datum BY PROGRAM (the guide's laid-datum.mjs) off the statement by which the dump's own 'gosem.cut.vars' lays the variable. In a bare row this is a premise. The card (YtoohondkpddmcaaGreatDoorCards.lean) ties it to the program's text. -/
def laid_math_bits_deBruijn32tab {H : Type} : DataW H := .agg [.lit (.int .u8 0), .lit (.int .u8 1), .lit (.int .u8 28), .lit (.int .u8 2), .lit (.int .u8 29), .lit (.int .u8 14), .lit (.int .u8 24), .lit (.int .u8 3), .lit (.int .u8 30), .lit (.int .u8 22), .lit (.int .u8 20), .lit (.int .u8 15), .lit (.int .u8 25), .lit (.int .u8 17), .lit (.int .u8 4), .lit (.int .u8 8), .lit (.int .u8 31), .lit (.int .u8 27), .lit (.int .u8 13), .lit (.int .u8 23), .lit (.int .u8 21), .lit (.int .u8 19), .lit (.int .u8 16), .lit (.int .u8 7), .lit (.int .u8 26), .lit (.int .u8 12), .lit (.int .u8 18), .lit (.int .u8 6), .lit (.int .u8 11), .lit (.int .u8 5), .lit (.int .u8 10), .lit (.int .u8 9)]
def laid_math_bits_deBruijn64tab {H : Type} : DataW H := .agg [.lit (.int .u8 0), .lit (.int .u8 1), .lit (.int .u8 56), .lit (.int .u8 2), .lit (.int .u8 57), .lit (.int .u8 49), .lit (.int .u8 28), .lit (.int .u8 3), .lit (.int .u8 61), .lit (.int .u8 58), .lit (.int .u8 42), .lit (.int .u8 50), .lit (.int .u8 38), .lit (.int .u8 29), .lit (.int .u8 17), .lit (.int .u8 4), .lit (.int .u8 62), .lit (.int .u8 47), .lit (.int .u8 59), .lit (.int .u8 36), .lit (.int .u8 45), .lit (.int .u8 43), .lit (.int .u8 51), .lit (.int .u8 22), .lit (.int .u8 53), .lit (.int .u8 39), .lit (.int .u8 33), .lit (.int .u8 30), .lit (.int .u8 24), .lit (.int .u8 18), .lit (.int .u8 12), .lit (.int .u8 5), .lit (.int .u8 63), .lit (.int .u8 55), .lit (.int .u8 48), .lit (.int .u8 27), .lit (.int .u8 60), .lit (.int .u8 41), .lit (.int .u8 37), .lit (.int .u8 16), .lit (.int .u8 46), .lit (.int .u8 35), .lit (.int .u8 44), .lit (.int .u8 21), .lit (.int .u8 52), .lit (.int .u8 32), .lit (.int .u8 23), .lit (.int .u8 11), .lit (.int .u8 54), .lit (.int .u8 26), .lit (.int .u8 40), .lit (.int .u8 15), .lit (.int .u8 34), .lit (.int .u8 20), .lit (.int .u8 31), .lit (.int .u8 10), .lit (.int .u8 25), .lit (.int .u8 14), .lit (.int .u8 19), .lit (.int .u8 9), .lit (.int .u8 13), .lit (.int .u8 8), .lit (.int .u8 7), .lit (.int .u8 6)]
def laid_internal_strconv_uint64pow10 {H : Type} : DataW H := .agg [.lit (.int .u64 1), .lit (.int .u64 10), .lit (.int .u64 100), .lit (.int .u64 1000), .lit (.int .u64 10000), .lit (.int .u64 100000), .lit (.int .u64 1000000), .lit (.int .u64 10000000), .lit (.int .u64 100000000), .lit (.int .u64 1000000000), .lit (.int .u64 10000000000), .lit (.int .u64 100000000000), .lit (.int .u64 1000000000000), .lit (.int .u64 10000000000000), .lit (.int .u64 100000000000000), .lit (.int .u64 1000000000000000), .lit (.int .u64 10000000000000000), .lit (.int .u64 100000000000000000), .lit (.int .u64 1000000000000000000), .lit (.int .u64 10000000000000000000)]
def laid_unicode_utf8_acceptRanges {H : Type} : DataW H := .agg [.agg [.lit (.int .u8 128), .lit (.int .u8 191)], .agg [.lit (.int .u8 160), .lit (.int .u8 191)], .agg [.lit (.int .u8 128), .lit (.int .u8 159)], .agg [.lit (.int .u8 144), .lit (.int .u8 191)], .agg [.lit (.int .u8 128), .lit (.int .u8 143)], .agg [.lit (.int .u8 0), .lit (.int .u8 0)], .agg [.lit (.int .u8 0), .lit (.int .u8 0)], .agg [.lit (.int .u8 0), .lit (.int .u8 0)], .agg [.lit (.int .u8 0), .lit (.int .u8 0)], .agg [.lit (.int .u8 0), .lit (.int .u8 0)], .agg [.lit (.int .u8 0), .lit (.int .u8 0)], .agg [.lit (.int .u8 0), .lit (.int .u8 0)], .agg [.lit (.int .u8 0), .lit (.int .u8 0)], .agg [.lit (.int .u8 0), .lit (.int .u8 0)], .agg [.lit (.int .u8 0), .lit (.int .u8 0)], .agg [.lit (.int .u8 0), .lit (.int .u8 0)]]
/-- One of Go's own tables, pinned by name: the form's constant. -/
def laid_unicode_CaseRanges : DataW Unit := Go.Pinned.caseRanges
/-- One of Go's own tables, pinned by name: the form's constant. -/
def laid_unicode_utf8_first : DataW Unit := Go.Pinned.utf8First
def laid_platformfw_syntax_declarationForms {H : Type} : DataW H := .agg [.agg [.lit (.string [83, 99, 111, 112, 101]), .lit (.string [110, 68])], .agg [.lit (.string [68, 101, 118, 105, 99, 101]), .lit (.string [115, 68])], .agg [.lit (.string [80, 111, 119, 101, 114, 82, 101, 115, 111, 117, 114, 99, 101]), .lit (.string [115, 105, 105, 68])], .agg [.lit (.string [78, 97, 109, 101]), .lit (.string [115, 100])], .agg [.lit (.string [77, 101, 116, 104, 111, 100]), .lit (.string [115, 105, 105, 105, 83])], .agg [.lit (.string [79, 112, 101, 114, 97, 116, 105, 111, 110, 82, 101, 103, 105, 111, 110]), .lit (.string [115, 105, 105, 105])], .agg [.lit (.string [70, 105, 101, 108, 100]), .lit (.string [110, 105, 105, 70])], .agg [.lit (.string [73, 110, 100, 101, 120, 70, 105, 101, 108, 100]), .lit (.string [110, 110, 105, 105, 70])], .agg [.lit (.string [85, 110, 105, 116]), .lit (.string [115, 105])], .agg [.lit (.string [83, 107, 105, 112]), .lit (.string [105])], .agg [.lit (.string [77, 117, 116, 101, 120]), .lit (.string [115, 105])], .agg [.lit (.string [69, 118, 101, 110, 116]), .lit (.string [115])]]
def laid_platformfw_syntax_statementForms {H : Type} : DataW H := .agg [.agg [.lit (.string [83, 116, 111, 114, 101]), .lit (.string [101, 116])], .agg [.lit (.string [73, 102]), .lit (.string [101, 83])], .agg [.lit (.string [87, 104, 105, 108, 101]), .lit (.string [101, 83])], .agg [.lit (.string [82, 101, 116, 117, 114, 110]), .lit (.string [])], .agg [.lit (.string [66, 114, 101, 97, 107]), .lit (.string [])], .agg [.lit (.string [67, 111, 110, 116, 105, 110, 117, 101]), .lit (.string [])], .agg [.lit (.string [82, 101, 108, 101, 97, 115, 101]), .lit (.string [110])], .agg [.lit (.string [83, 105, 103, 110, 97, 108]), .lit (.string [110])], .agg [.lit (.string [82, 101, 115, 101, 116]), .lit (.string [110])], .agg [.lit (.string [83, 108, 101, 101, 112]), .lit (.string [101])], .agg [.lit (.string [78, 111, 116, 105, 102, 121]), .lit (.string [110, 101])], .agg [.lit (.string [65, 99, 113, 117, 105, 114, 101]), .lit (.string [110, 105])], .agg [.lit (.string [87, 97, 105, 116]), .lit (.string [110, 101])]]
def laid_platformfw_syntax_expressionForms {H : Type} : DataW H := .agg [.agg [.lit (.string [65, 100, 100]), .lit (.string [101, 101])], .agg [.lit (.string [83, 117, 98, 116, 114, 97, 99, 116]), .lit (.string [101, 101])], .agg [.lit (.string [77, 117, 108, 116, 105, 112, 108, 121]), .lit (.string [101, 101])], .agg [.lit (.string [68, 105, 118, 105, 100, 101]), .lit (.string [101, 101])], .agg [.lit (.string [77, 111, 100]), .lit (.string [101, 101])], .agg [.lit (.string [65, 110, 100]), .lit (.string [101, 101])], .agg [.lit (.string [79, 114]), .lit (.string [101, 101])], .agg [.lit (.string [88, 111, 114]), .lit (.string [101, 101])], .agg [.lit (.string [83, 104, 105, 102, 116, 76, 101, 102, 116]), .lit (.string [101, 101])], .agg [.lit (.string [83, 104, 105, 102, 116, 82, 105, 103, 104, 116]), .lit (.string [101, 101])], .agg [.lit (.string [76, 65, 110, 100]), .lit (.string [101, 101])], .agg [.lit (.string [76, 79, 114]), .lit (.string [101, 101])], .agg [.lit (.string [76, 69, 113, 117, 97, 108]), .lit (.string [101, 101])], .agg [.lit (.string [76, 76, 101, 115, 115]), .lit (.string [101, 101])], .agg [.lit (.string [76, 71, 114, 101, 97, 116, 101, 114]), .lit (.string [101, 101])], .agg [.lit (.string [67, 111, 110, 99, 97, 116, 101, 110, 97, 116, 101]), .lit (.string [101, 101])], .agg [.lit (.string [73, 110, 100, 101, 120]), .lit (.string [101, 101])], .agg [.lit (.string [78, 111, 116]), .lit (.string [101])], .agg [.lit (.string [76, 78, 111, 116]), .lit (.string [101])], .agg [.lit (.string [83, 105, 122, 101, 79, 102]), .lit (.string [101])], .agg [.lit (.string [84, 111, 73, 110, 116, 101, 103, 101, 114]), .lit (.string [101])], .agg [.lit (.string [84, 111, 66, 117, 102, 102, 101, 114]), .lit (.string [101])], .agg [.lit (.string [84, 111, 72, 101, 120, 83, 116, 114, 105, 110, 103]), .lit (.string [101])], .agg [.lit (.string [84, 111, 68, 101, 99, 105, 109, 97, 108, 83, 116, 114, 105, 110, 103]), .lit (.string [101])], .agg [.lit (.string [68, 101, 114, 101, 102, 79, 102]), .lit (.string [101])], .agg [.lit (.string [82, 101, 102, 79, 102]), .lit (.string [116])], .agg [.lit (.string [67, 111, 110, 100, 82, 101, 102, 79, 102]), .lit (.string [110])], .agg [.lit (.string [79, 98, 106, 101, 99, 116, 84, 121, 112, 101]), .lit (.string [116])], .agg [.lit (.string [77, 105, 100]), .lit (.string [101, 101, 101])]]

/-- 'platformfwlaw01.TokenOfPrograms': WHATEVER THE INPUT: true; the input reads as it did. -/
def tokenOfProgramsSpec : ChangeSpec := { name := "tokenOfPrograms", fn := fun _ => fun
  | [d] => { results := [.lit (.bool true)], args := [d] }
  | _ => none }
def tokenOfProgramsRow : OpenClaim := { program := "ytoohondkpddmcaagreatdoor", sum := "05d0aae6b61283219000d8bed8d90bd53de48e31e70bb6a0b06acff0a9b15d0f", func := "platformfw/platformfwlaw01.TokenOfPrograms", spec := "tokenOfPrograms", inPlace := ["internal/bytealg.IndexByteString", "internal/bytealg.IndexString", "internal/abi.NoEscape", "internal/bytealg.MakeNoZero"], unfollowed := true, recurses := true, named := ["internal/bytealg.MaxLen", "internal/strconv.uint64pow10", "math/bits.deBruijn32tab", "math/bits.deBruijn64tab", "unicode/utf8.first", "unicode/utf8.acceptRanges", "unicode.CaseRanges"], apart := false, laid := [("math/bits.deBruijn32tab", laid_math_bits_deBruijn32tab), ("math/bits.deBruijn64tab", laid_math_bits_deBruijn64tab), ("internal/strconv.uint64pow10", laid_internal_strconv_uint64pow10), ("unicode/utf8.acceptRanges", laid_unicode_utf8_acceptRanges), ("unicode.CaseRanges", laid_unicode_CaseRanges), ("unicode/utf8.first", laid_unicode_utf8_first)] }
def TokenOfProgramsSaid : Prop := tokenOfProgramsRow.holds Tryz.pinned (OpenSpec.ofChange tokenOfProgramsSpec)

/-- ITS FALSE NEIGHBOUR: 'it returns false'. Refute it at one input. -/
def tokenOfProgramsWrong : ChangeSpec := { name := "tokenOfPrograms", fn := fun _ => fun
  | [d] => { results := [.lit (.bool false)], args := [d] }
  | _ => none }
def TokenOfProgramsWrongFalsely : Prop := tokenOfProgramsRow.holds Tryz.pinned (OpenSpec.ofChange tokenOfProgramsWrong)

/-- 'platformfwlaw06.TablecodeCompiles': WHATEVER THE INPUT: true; the input reads as it did. -/
def tablecodeCompilesSpec : ChangeSpec := { name := "tablecodeCompiles", fn := fun _ => fun
  | [d1, d2] => { results := [.lit (.bool true)], args := [d1, d2] }
  | _ => none }
def tablecodeCompilesRow : OpenClaim := { program := "ytoohondkpddmcaagreatdoor", sum := "05d0aae6b61283219000d8bed8d90bd53de48e31e70bb6a0b06acff0a9b15d0f", func := "platformfw/platformfwlaw06.TablecodeCompiles", spec := "tablecodeCompiles", inPlace := ["internal/bytealg.CountString", "internal/bytealg.IndexByteString", "internal/bytealg.IndexString", "internal/abi.NoEscape", "internal/bytealg.MakeNoZero"], recurses := true, named := ["internal/bytealg.MaxLen", "unicode/utf8.first", "unicode/utf8.acceptRanges", "platformfw/syntax.declarationForms", "platformfw/syntax.statementForms", "platformfw/syntax.expressionForms"], apart := false, laid := [("unicode/utf8.acceptRanges", laid_unicode_utf8_acceptRanges), ("platformfw/syntax.declarationForms", laid_platformfw_syntax_declarationForms), ("platformfw/syntax.statementForms", laid_platformfw_syntax_statementForms), ("platformfw/syntax.expressionForms", laid_platformfw_syntax_expressionForms), ("unicode/utf8.first", laid_unicode_utf8_first)] }
def TablecodeCompilesSaid : Prop := tablecodeCompilesRow.holds Tryz.pinned (OpenSpec.ofChange tablecodeCompilesSpec)

/-- ITS FALSE NEIGHBOUR: 'it returns false'. Refute it at one input. -/
def tablecodeCompilesWrong : ChangeSpec := { name := "tablecodeCompiles", fn := fun _ => fun
  | [d1, d2] => { results := [.lit (.bool false)], args := [d1, d2] }
  | _ => none }
def TablecodeCompilesWrongFalsely : Prop := tablecodeCompilesRow.holds Tryz.pinned (OpenSpec.ofChange tablecodeCompilesWrong)

/-- 'platformfwlaw06.TablecodeRoundTrip': WHATEVER THE INPUT: true; the input reads as it did. -/
def tablecodeRoundTripSpec : ChangeSpec := { name := "tablecodeRoundTrip", fn := fun _ => fun
  | [d] => { results := [.lit (.bool true)], args := [d] }
  | _ => none }
def tablecodeRoundTripRow : OpenClaim := { program := "ytoohondkpddmcaagreatdoor", sum := "05d0aae6b61283219000d8bed8d90bd53de48e31e70bb6a0b06acff0a9b15d0f", func := "platformfw/platformfwlaw06.TablecodeRoundTrip", spec := "tablecodeRoundTrip", inPlace := ["internal/bytealg.CountString", "internal/bytealg.IndexByteString", "internal/bytealg.IndexString", "internal/abi.NoEscape", "internal/bytealg.MakeNoZero"], recurses := true, named := ["internal/bytealg.MaxLen", "unicode/utf8.first", "unicode/utf8.acceptRanges", "platformfw/syntax.declarationForms", "platformfw/syntax.statementForms", "platformfw/syntax.expressionForms"], apart := false, laid := [("unicode/utf8.acceptRanges", laid_unicode_utf8_acceptRanges), ("platformfw/syntax.declarationForms", laid_platformfw_syntax_declarationForms), ("platformfw/syntax.statementForms", laid_platformfw_syntax_statementForms), ("platformfw/syntax.expressionForms", laid_platformfw_syntax_expressionForms), ("unicode/utf8.first", laid_unicode_utf8_first)] }
def TablecodeRoundTripSaid : Prop := tablecodeRoundTripRow.holds Tryz.pinned (OpenSpec.ofChange tablecodeRoundTripSpec)

/-- ITS FALSE NEIGHBOUR: 'it returns false'. Refute it at one input. -/
def tablecodeRoundTripWrong : ChangeSpec := { name := "tablecodeRoundTrip", fn := fun _ => fun
  | [d] => { results := [.lit (.bool false)], args := [d] }
  | _ => none }
def TablecodeRoundTripWrongFalsely : Prop := tablecodeRoundTripRow.holds Tryz.pinned (OpenSpec.ofChange tablecodeRoundTripWrong)

/-- 'platformfwlaw06.TablecodeIsCanonical': WHATEVER THE INPUT: true; the input reads as it did. -/
def tablecodeIsCanonicalSpec : ChangeSpec := { name := "tablecodeIsCanonical", fn := fun _ => fun
  | [d1, d2, d3, d4] => { results := [.lit (.bool true)], args := [d1, d2, d3, d4] }
  | _ => none }
def tablecodeIsCanonicalRow : OpenClaim := { program := "ytoohondkpddmcaagreatdoor", sum := "05d0aae6b61283219000d8bed8d90bd53de48e31e70bb6a0b06acff0a9b15d0f", func := "platformfw/platformfwlaw06.TablecodeIsCanonical", spec := "tablecodeIsCanonical", inPlace := ["internal/abi.NoEscape", "internal/bytealg.MakeNoZero", "internal/bytealg.CountString", "internal/bytealg.IndexByteString", "internal/bytealg.IndexString"], recurses := true, named := ["internal/bytealg.MaxLen", "unicode/utf8.first", "unicode/utf8.acceptRanges", "platformfw/syntax.declarationForms", "platformfw/syntax.statementForms", "platformfw/syntax.expressionForms"], apart := false, laid := [("unicode/utf8.acceptRanges", laid_unicode_utf8_acceptRanges), ("platformfw/syntax.declarationForms", laid_platformfw_syntax_declarationForms), ("platformfw/syntax.statementForms", laid_platformfw_syntax_statementForms), ("platformfw/syntax.expressionForms", laid_platformfw_syntax_expressionForms), ("unicode/utf8.first", laid_unicode_utf8_first)] }
def TablecodeIsCanonicalSaid : Prop := tablecodeIsCanonicalRow.holds Tryz.pinned (OpenSpec.ofChange tablecodeIsCanonicalSpec)

/-- ITS FALSE NEIGHBOUR: 'it returns false'. Refute it at one input. -/
def tablecodeIsCanonicalWrong : ChangeSpec := { name := "tablecodeIsCanonical", fn := fun _ => fun
  | [d1, d2, d3, d4] => { results := [.lit (.bool false)], args := [d1, d2, d3, d4] }
  | _ => none }
def TablecodeIsCanonicalWrongFalsely : Prop := tablecodeIsCanonicalRow.holds Tryz.pinned (OpenSpec.ofChange tablecodeIsCanonicalWrong)

/-- 'platformfwlaw06.TablecodeDisassembles': WHATEVER THE INPUT: true; the input reads as it did. -/
def tablecodeDisassemblesSpec : ChangeSpec := { name := "tablecodeDisassembles", fn := fun _ => fun
  | [d1, d2, d3, d4, d5] => { results := [.lit (.bool true)], args := [d1, d2, d3, d4, d5] }
  | _ => none }
def tablecodeDisassemblesRow : OpenClaim := { program := "ytoohondkpddmcaagreatdoor", sum := "05d0aae6b61283219000d8bed8d90bd53de48e31e70bb6a0b06acff0a9b15d0f", func := "platformfw/platformfwlaw06.TablecodeDisassembles", spec := "tablecodeDisassembles", inPlace := ["internal/bytealg.CountString", "internal/bytealg.IndexByteString", "internal/bytealg.IndexString", "internal/abi.NoEscape", "internal/bytealg.MakeNoZero"], recurses := true, named := ["internal/bytealg.MaxLen", "unicode/utf8.first", "unicode/utf8.acceptRanges", "platformfw/syntax.declarationForms", "platformfw/syntax.statementForms", "platformfw/syntax.expressionForms"], apart := false, laid := [("unicode/utf8.acceptRanges", laid_unicode_utf8_acceptRanges), ("platformfw/syntax.declarationForms", laid_platformfw_syntax_declarationForms), ("platformfw/syntax.statementForms", laid_platformfw_syntax_statementForms), ("platformfw/syntax.expressionForms", laid_platformfw_syntax_expressionForms), ("unicode/utf8.first", laid_unicode_utf8_first)] }
def TablecodeDisassemblesSaid : Prop := tablecodeDisassemblesRow.holds Tryz.pinned (OpenSpec.ofChange tablecodeDisassemblesSpec)

/-- ITS FALSE NEIGHBOUR: 'it returns false'. Refute it at one input. -/
def tablecodeDisassemblesWrong : ChangeSpec := { name := "tablecodeDisassembles", fn := fun _ => fun
  | [d1, d2, d3, d4, d5] => { results := [.lit (.bool false)], args := [d1, d2, d3, d4, d5] }
  | _ => none }
def TablecodeDisassemblesWrongFalsely : Prop := tablecodeDisassemblesRow.holds Tryz.pinned (OpenSpec.ofChange tablecodeDisassemblesWrong)

/-- 'platformfwlaw06.TablecodePrefixes': WHATEVER THE INPUT: true; the input reads as it did. -/
def tablecodePrefixesSpec : ChangeSpec := { name := "tablecodePrefixes", fn := fun _ => fun
  | [d1, d2] => { results := [.lit (.bool true)], args := [d1, d2] }
  | _ => none }
def tablecodePrefixesRow : OpenClaim := { program := "ytoohondkpddmcaagreatdoor", sum := "05d0aae6b61283219000d8bed8d90bd53de48e31e70bb6a0b06acff0a9b15d0f", func := "platformfw/platformfwlaw06.TablecodePrefixes", spec := "tablecodePrefixes", inPlace := ["internal/bytealg.CountString", "internal/bytealg.IndexByteString", "internal/bytealg.IndexString", "internal/abi.NoEscape", "internal/bytealg.MakeNoZero"], recurses := true, named := ["internal/bytealg.MaxLen", "unicode/utf8.first", "unicode/utf8.acceptRanges", "platformfw/syntax.declarationForms", "platformfw/syntax.statementForms", "platformfw/syntax.expressionForms"], apart := false, laid := [("unicode/utf8.acceptRanges", laid_unicode_utf8_acceptRanges), ("platformfw/syntax.declarationForms", laid_platformfw_syntax_declarationForms), ("platformfw/syntax.statementForms", laid_platformfw_syntax_statementForms), ("platformfw/syntax.expressionForms", laid_platformfw_syntax_expressionForms), ("unicode/utf8.first", laid_unicode_utf8_first)] }
def TablecodePrefixesSaid : Prop := tablecodePrefixesRow.holds Tryz.pinned (OpenSpec.ofChange tablecodePrefixesSpec)

/-- ITS FALSE NEIGHBOUR: 'it returns false'. Refute it at one input. -/
def tablecodePrefixesWrong : ChangeSpec := { name := "tablecodePrefixes", fn := fun _ => fun
  | [d1, d2] => { results := [.lit (.bool false)], args := [d1, d2] }
  | _ => none }
def TablecodePrefixesWrongFalsely : Prop := tablecodePrefixesRow.holds Tryz.pinned (OpenSpec.ofChange tablecodePrefixesWrong)

/-- 'platformfwlaw06.TablecodeConcatenates': WHATEVER THE INPUT: true; the input reads as it did. -/
def tablecodeConcatenatesSpec : ChangeSpec := { name := "tablecodeConcatenates", fn := fun _ => fun
  | [d1, d2] => { results := [.lit (.bool true)], args := [d1, d2] }
  | _ => none }
def tablecodeConcatenatesRow : OpenClaim := { program := "ytoohondkpddmcaagreatdoor", sum := "05d0aae6b61283219000d8bed8d90bd53de48e31e70bb6a0b06acff0a9b15d0f", func := "platformfw/platformfwlaw06.TablecodeConcatenates", spec := "tablecodeConcatenates", inPlace := ["internal/bytealg.CountString", "internal/bytealg.IndexByteString", "internal/bytealg.IndexString", "internal/abi.NoEscape", "internal/bytealg.MakeNoZero"], recurses := true, named := ["internal/bytealg.MaxLen", "unicode/utf8.first", "unicode/utf8.acceptRanges", "platformfw/syntax.declarationForms", "platformfw/syntax.statementForms", "platformfw/syntax.expressionForms"], apart := false, laid := [("unicode/utf8.acceptRanges", laid_unicode_utf8_acceptRanges), ("platformfw/syntax.declarationForms", laid_platformfw_syntax_declarationForms), ("platformfw/syntax.statementForms", laid_platformfw_syntax_statementForms), ("platformfw/syntax.expressionForms", laid_platformfw_syntax_expressionForms), ("unicode/utf8.first", laid_unicode_utf8_first)] }
def TablecodeConcatenatesSaid : Prop := tablecodeConcatenatesRow.holds Tryz.pinned (OpenSpec.ofChange tablecodeConcatenatesSpec)

/-- ITS FALSE NEIGHBOUR: 'it returns false'. Refute it at one input. -/
def tablecodeConcatenatesWrong : ChangeSpec := { name := "tablecodeConcatenates", fn := fun _ => fun
  | [d1, d2] => { results := [.lit (.bool false)], args := [d1, d2] }
  | _ => none }
def TablecodeConcatenatesWrongFalsely : Prop := tablecodeConcatenatesRow.holds Tryz.pinned (OpenSpec.ofChange tablecodeConcatenatesWrong)

/- THE SECOND FORM. 'bulk': how many values and letters a reading holds, each counted each time it is reached (what is shared counts as often as it is met; a slice's spare places count too). A statement '..UptoSaid' is the law's where the arguments, and the package variables that the reading takes, are together of bulk at most 1048576: NARROWER than '..Said'. Prove '..Said' where nothing that the law and all that it calls make is longer than what came in: it says more and counts as full. Else prove '..UptoSaid'. A law counts once. -/
mutual
def uptoBulk {H : Type} : DataW H → Nat
  | .lit (.string bytes) => bytes.length + 1
  | .lit _ => 1
  | .nil => 1
  | .ptr d => uptoBulk d + 1
  | .slice elems spare => uptoBulkAll elems + uptoBulkAll spare + 1
  | .agg parts => uptoBulkAll parts + 1
  | .iface _ d => uptoBulk d + 1
  | .map entries => uptoBulkEntries entries + 1
  | .held _ => 1
def uptoBulkAll {H : Type} : List (DataW H) → Nat
  | [] => 0
  | d :: r => uptoBulk d + uptoBulkAll r
def uptoBulkEntries {H : Type} : List (Lit × DataW H) → Nat
  | [] => 0
  | x :: r => uptoBulkEntry x + uptoBulkEntries r
def uptoBulkEntry {H : Type} : Lit × DataW H → Nat
  | (.string bytes, d) => bytes.length + uptoBulk d + 1
  | (_, d) => uptoBulk d + 1
 end
def uptoSmall : (H : Type) → List (DataW H) → Bool := fun _ ds => decide (uptoBulkAll ds ≤ 1048576)
def OpenSpec.upto (s : _root_.Go.ChangeSpec) : _root_.Go.OpenSpec := { _root_.Go.OpenSpec.ofChange s with cond := some uptoSmall }

/-- 'platformfwlaw01.TokenOfPrograms', WHERE WHAT IT READS IS OF BULK AT MOST 1048576: true; the input reads as it did. -/
def tokenOfProgramsUptoRow : OpenClaim := { program := "ytoohondkpddmcaagreatdoor", sum := "05d0aae6b61283219000d8bed8d90bd53de48e31e70bb6a0b06acff0a9b15d0f", func := "platformfw/platformfwlaw01.TokenOfPrograms", spec := "tokenOfPrograms", inPlace := ["internal/bytealg.IndexByteString", "internal/bytealg.IndexString", "internal/abi.NoEscape", "internal/bytealg.MakeNoZero"], unfollowed := true, recurses := true, named := ["internal/bytealg.MaxLen", "internal/strconv.uint64pow10", "math/bits.deBruijn32tab", "math/bits.deBruijn64tab", "unicode/utf8.first", "unicode/utf8.acceptRanges", "unicode.CaseRanges"], apart := false, laid := [("math/bits.deBruijn32tab", laid_math_bits_deBruijn32tab), ("math/bits.deBruijn64tab", laid_math_bits_deBruijn64tab), ("internal/strconv.uint64pow10", laid_internal_strconv_uint64pow10), ("unicode/utf8.acceptRanges", laid_unicode_utf8_acceptRanges), ("unicode.CaseRanges", laid_unicode_CaseRanges), ("unicode/utf8.first", laid_unicode_utf8_first)], narrowed := true }
def TokenOfProgramsUptoSaid : Prop := tokenOfProgramsUptoRow.holds Tryz.pinned (OpenSpec.upto tokenOfProgramsSpec)

/-- 'platformfwlaw06.TablecodeCompiles', WHERE WHAT IT READS IS OF BULK AT MOST 1048576: true; the input reads as it did. -/
def tablecodeCompilesUptoRow : OpenClaim := { program := "ytoohondkpddmcaagreatdoor", sum := "05d0aae6b61283219000d8bed8d90bd53de48e31e70bb6a0b06acff0a9b15d0f", func := "platformfw/platformfwlaw06.TablecodeCompiles", spec := "tablecodeCompiles", inPlace := ["internal/bytealg.CountString", "internal/bytealg.IndexByteString", "internal/bytealg.IndexString", "internal/abi.NoEscape", "internal/bytealg.MakeNoZero"], recurses := true, named := ["internal/bytealg.MaxLen", "unicode/utf8.first", "unicode/utf8.acceptRanges", "platformfw/syntax.declarationForms", "platformfw/syntax.statementForms", "platformfw/syntax.expressionForms"], apart := false, laid := [("unicode/utf8.acceptRanges", laid_unicode_utf8_acceptRanges), ("platformfw/syntax.declarationForms", laid_platformfw_syntax_declarationForms), ("platformfw/syntax.statementForms", laid_platformfw_syntax_statementForms), ("platformfw/syntax.expressionForms", laid_platformfw_syntax_expressionForms), ("unicode/utf8.first", laid_unicode_utf8_first)], narrowed := true }
def TablecodeCompilesUptoSaid : Prop := tablecodeCompilesUptoRow.holds Tryz.pinned (OpenSpec.upto tablecodeCompilesSpec)

/-- 'platformfwlaw06.TablecodeRoundTrip', WHERE WHAT IT READS IS OF BULK AT MOST 1048576: true; the input reads as it did. -/
def tablecodeRoundTripUptoRow : OpenClaim := { program := "ytoohondkpddmcaagreatdoor", sum := "05d0aae6b61283219000d8bed8d90bd53de48e31e70bb6a0b06acff0a9b15d0f", func := "platformfw/platformfwlaw06.TablecodeRoundTrip", spec := "tablecodeRoundTrip", inPlace := ["internal/bytealg.CountString", "internal/bytealg.IndexByteString", "internal/bytealg.IndexString", "internal/abi.NoEscape", "internal/bytealg.MakeNoZero"], recurses := true, named := ["internal/bytealg.MaxLen", "unicode/utf8.first", "unicode/utf8.acceptRanges", "platformfw/syntax.declarationForms", "platformfw/syntax.statementForms", "platformfw/syntax.expressionForms"], apart := false, laid := [("unicode/utf8.acceptRanges", laid_unicode_utf8_acceptRanges), ("platformfw/syntax.declarationForms", laid_platformfw_syntax_declarationForms), ("platformfw/syntax.statementForms", laid_platformfw_syntax_statementForms), ("platformfw/syntax.expressionForms", laid_platformfw_syntax_expressionForms), ("unicode/utf8.first", laid_unicode_utf8_first)], narrowed := true }
def TablecodeRoundTripUptoSaid : Prop := tablecodeRoundTripUptoRow.holds Tryz.pinned (OpenSpec.upto tablecodeRoundTripSpec)

/-- 'platformfwlaw06.TablecodeIsCanonical', WHERE WHAT IT READS IS OF BULK AT MOST 1048576: true; the input reads as it did. -/
def tablecodeIsCanonicalUptoRow : OpenClaim := { program := "ytoohondkpddmcaagreatdoor", sum := "05d0aae6b61283219000d8bed8d90bd53de48e31e70bb6a0b06acff0a9b15d0f", func := "platformfw/platformfwlaw06.TablecodeIsCanonical", spec := "tablecodeIsCanonical", inPlace := ["internal/abi.NoEscape", "internal/bytealg.MakeNoZero", "internal/bytealg.CountString", "internal/bytealg.IndexByteString", "internal/bytealg.IndexString"], recurses := true, named := ["internal/bytealg.MaxLen", "unicode/utf8.first", "unicode/utf8.acceptRanges", "platformfw/syntax.declarationForms", "platformfw/syntax.statementForms", "platformfw/syntax.expressionForms"], apart := false, laid := [("unicode/utf8.acceptRanges", laid_unicode_utf8_acceptRanges), ("platformfw/syntax.declarationForms", laid_platformfw_syntax_declarationForms), ("platformfw/syntax.statementForms", laid_platformfw_syntax_statementForms), ("platformfw/syntax.expressionForms", laid_platformfw_syntax_expressionForms), ("unicode/utf8.first", laid_unicode_utf8_first)], narrowed := true }
def TablecodeIsCanonicalUptoSaid : Prop := tablecodeIsCanonicalUptoRow.holds Tryz.pinned (OpenSpec.upto tablecodeIsCanonicalSpec)

/-- 'platformfwlaw06.TablecodeDisassembles', WHERE WHAT IT READS IS OF BULK AT MOST 1048576: true; the input reads as it did. -/
def tablecodeDisassemblesUptoRow : OpenClaim := { program := "ytoohondkpddmcaagreatdoor", sum := "05d0aae6b61283219000d8bed8d90bd53de48e31e70bb6a0b06acff0a9b15d0f", func := "platformfw/platformfwlaw06.TablecodeDisassembles", spec := "tablecodeDisassembles", inPlace := ["internal/bytealg.CountString", "internal/bytealg.IndexByteString", "internal/bytealg.IndexString", "internal/abi.NoEscape", "internal/bytealg.MakeNoZero"], recurses := true, named := ["internal/bytealg.MaxLen", "unicode/utf8.first", "unicode/utf8.acceptRanges", "platformfw/syntax.declarationForms", "platformfw/syntax.statementForms", "platformfw/syntax.expressionForms"], apart := false, laid := [("unicode/utf8.acceptRanges", laid_unicode_utf8_acceptRanges), ("platformfw/syntax.declarationForms", laid_platformfw_syntax_declarationForms), ("platformfw/syntax.statementForms", laid_platformfw_syntax_statementForms), ("platformfw/syntax.expressionForms", laid_platformfw_syntax_expressionForms), ("unicode/utf8.first", laid_unicode_utf8_first)], narrowed := true }
def TablecodeDisassemblesUptoSaid : Prop := tablecodeDisassemblesUptoRow.holds Tryz.pinned (OpenSpec.upto tablecodeDisassemblesSpec)

/-- 'platformfwlaw06.TablecodePrefixes', WHERE WHAT IT READS IS OF BULK AT MOST 1048576: true; the input reads as it did. -/
def tablecodePrefixesUptoRow : OpenClaim := { program := "ytoohondkpddmcaagreatdoor", sum := "05d0aae6b61283219000d8bed8d90bd53de48e31e70bb6a0b06acff0a9b15d0f", func := "platformfw/platformfwlaw06.TablecodePrefixes", spec := "tablecodePrefixes", inPlace := ["internal/bytealg.CountString", "internal/bytealg.IndexByteString", "internal/bytealg.IndexString", "internal/abi.NoEscape", "internal/bytealg.MakeNoZero"], recurses := true, named := ["internal/bytealg.MaxLen", "unicode/utf8.first", "unicode/utf8.acceptRanges", "platformfw/syntax.declarationForms", "platformfw/syntax.statementForms", "platformfw/syntax.expressionForms"], apart := false, laid := [("unicode/utf8.acceptRanges", laid_unicode_utf8_acceptRanges), ("platformfw/syntax.declarationForms", laid_platformfw_syntax_declarationForms), ("platformfw/syntax.statementForms", laid_platformfw_syntax_statementForms), ("platformfw/syntax.expressionForms", laid_platformfw_syntax_expressionForms), ("unicode/utf8.first", laid_unicode_utf8_first)], narrowed := true }
def TablecodePrefixesUptoSaid : Prop := tablecodePrefixesUptoRow.holds Tryz.pinned (OpenSpec.upto tablecodePrefixesSpec)

/-- 'platformfwlaw06.TablecodeConcatenates', WHERE WHAT IT READS IS OF BULK AT MOST 1048576: true; the input reads as it did. -/
def tablecodeConcatenatesUptoRow : OpenClaim := { program := "ytoohondkpddmcaagreatdoor", sum := "05d0aae6b61283219000d8bed8d90bd53de48e31e70bb6a0b06acff0a9b15d0f", func := "platformfw/platformfwlaw06.TablecodeConcatenates", spec := "tablecodeConcatenates", inPlace := ["internal/bytealg.CountString", "internal/bytealg.IndexByteString", "internal/bytealg.IndexString", "internal/abi.NoEscape", "internal/bytealg.MakeNoZero"], recurses := true, named := ["internal/bytealg.MaxLen", "unicode/utf8.first", "unicode/utf8.acceptRanges", "platformfw/syntax.declarationForms", "platformfw/syntax.statementForms", "platformfw/syntax.expressionForms"], apart := false, laid := [("unicode/utf8.acceptRanges", laid_unicode_utf8_acceptRanges), ("platformfw/syntax.declarationForms", laid_platformfw_syntax_declarationForms), ("platformfw/syntax.statementForms", laid_platformfw_syntax_statementForms), ("platformfw/syntax.expressionForms", laid_platformfw_syntax_expressionForms), ("unicode/utf8.first", laid_unicode_utf8_first)], narrowed := true }
def TablecodeConcatenatesUptoSaid : Prop := tablecodeConcatenatesUptoRow.holds Tryz.pinned (OpenSpec.upto tablecodeConcatenatesSpec)

end Rows
end Go.Proofs.YtoohondkpddmcaaGreatDoor
