/-
  NARROWER THAN 'FOR EVERY INPUT', by the rows' own cells (each row's printed sentence says how): SyntaxParsesExactly: laid · SyntaxMutations: laid · SyntaxValidates: laid · SyntaxSubtrees: laid · SyntaxRoundTrip: laid · SyntaxFormatPreservesTokens: laid.
  DERIVED. THE GIVEN ROWS OF THIS SEAT. 6 by the template 'for every input the law returns true; each argument reads behind the call as it read before'; 0 by the template 'total and deterministic' (their statements: YtnicnfchkdmieaaGreatDoorTotals.lean).
  GIVEN WITH THE SEED: the statements are not yours to turn. If you find one false, say at which input.
  Laid BY PROGRAM, IN A SANDBOX (cutbox-rows.mjs): the forced cells as the released guide's own fill.sh prints them over the translation 300a60a7ecd9dd85… (all of the seat's roots in one cut). By AI agents, Wed Nov 11 2026. No macro, syntax, notation, axiom, sorry.
-/
import Derived.Test.YtnicnfchkdmieaaGreatDoorChecked
import GoSem.PinnedTables
import GoSem.Claim
import GoSem.ClaimJoined
import GoSem.ClaimMapViews
import Derived.JoinedTies
import Derived.KernelRfl
namespace Go.Proofs.YtnicnfchkdmieaaGreatDoor
/- THE CELL 'sum', in the pinned program and in every row, IS THE sha256 OF THE DUMP (.gsa) THAT YtnicnfchkdmieaaGreatDoorProg.lean LOADS. Nothing in Lean hashes anything: it is a label: what it is worth is what the hold of that sum in a sandbox is worth. -/
noncomputable def Tryz.pinned : Pinned := { name := "ytnicnfchkdmieaagreatdoor", sum := "300a60a7ecd9dd85612c74339d69fb1cfa444b6ddef7143bcc6e32d830452c12", checked := Tryz.checked }
namespace Rows
def none {H : Type} : Left H := { results := [], args := [] }

/- WHAT THE LISTED PACKAGE-LEVEL VARIABLES READ AS WHEN THE CALL BEGINS. Each datum BY PROGRAM (the guide's laid-datum.mjs) off the statement by which the dump's own 'gosem.cut.vars' lays the variable. In a bare row this is a premise. The card (YtnicnfchkdmieaaGreatDoorCards.lean) ties it to the program's text. -/
def laid_unicode_utf8_acceptRanges {H : Type} : DataW H := .agg [.agg [.lit (.int .u8 128), .lit (.int .u8 191)], .agg [.lit (.int .u8 160), .lit (.int .u8 191)], .agg [.lit (.int .u8 128), .lit (.int .u8 159)], .agg [.lit (.int .u8 144), .lit (.int .u8 191)], .agg [.lit (.int .u8 128), .lit (.int .u8 143)], .agg [.lit (.int .u8 0), .lit (.int .u8 0)], .agg [.lit (.int .u8 0), .lit (.int .u8 0)], .agg [.lit (.int .u8 0), .lit (.int .u8 0)], .agg [.lit (.int .u8 0), .lit (.int .u8 0)], .agg [.lit (.int .u8 0), .lit (.int .u8 0)], .agg [.lit (.int .u8 0), .lit (.int .u8 0)], .agg [.lit (.int .u8 0), .lit (.int .u8 0)], .agg [.lit (.int .u8 0), .lit (.int .u8 0)], .agg [.lit (.int .u8 0), .lit (.int .u8 0)], .agg [.lit (.int .u8 0), .lit (.int .u8 0)], .agg [.lit (.int .u8 0), .lit (.int .u8 0)]]
def laid_platformfw_syntax_declarationForms {H : Type} : DataW H := .agg [.agg [.lit (.string [83, 99, 111, 112, 101]), .lit (.string [110, 68])], .agg [.lit (.string [68, 101, 118, 105, 99, 101]), .lit (.string [115, 68])], .agg [.lit (.string [80, 111, 119, 101, 114, 82, 101, 115, 111, 117, 114, 99, 101]), .lit (.string [115, 105, 105, 68])], .agg [.lit (.string [78, 97, 109, 101]), .lit (.string [115, 100])], .agg [.lit (.string [77, 101, 116, 104, 111, 100]), .lit (.string [115, 105, 105, 105, 83])], .agg [.lit (.string [79, 112, 101, 114, 97, 116, 105, 111, 110, 82, 101, 103, 105, 111, 110]), .lit (.string [115, 105, 105, 105])], .agg [.lit (.string [70, 105, 101, 108, 100]), .lit (.string [110, 105, 105, 70])], .agg [.lit (.string [73, 110, 100, 101, 120, 70, 105, 101, 108, 100]), .lit (.string [110, 110, 105, 105, 70])], .agg [.lit (.string [85, 110, 105, 116]), .lit (.string [115, 105])], .agg [.lit (.string [83, 107, 105, 112]), .lit (.string [105])], .agg [.lit (.string [77, 117, 116, 101, 120]), .lit (.string [115, 105])], .agg [.lit (.string [69, 118, 101, 110, 116]), .lit (.string [115])]]
def laid_platformfw_syntax_statementForms {H : Type} : DataW H := .agg [.agg [.lit (.string [83, 116, 111, 114, 101]), .lit (.string [101, 116])], .agg [.lit (.string [73, 102]), .lit (.string [101, 83])], .agg [.lit (.string [87, 104, 105, 108, 101]), .lit (.string [101, 83])], .agg [.lit (.string [82, 101, 116, 117, 114, 110]), .lit (.string [])], .agg [.lit (.string [66, 114, 101, 97, 107]), .lit (.string [])], .agg [.lit (.string [67, 111, 110, 116, 105, 110, 117, 101]), .lit (.string [])], .agg [.lit (.string [82, 101, 108, 101, 97, 115, 101]), .lit (.string [110])], .agg [.lit (.string [83, 105, 103, 110, 97, 108]), .lit (.string [110])], .agg [.lit (.string [82, 101, 115, 101, 116]), .lit (.string [110])], .agg [.lit (.string [83, 108, 101, 101, 112]), .lit (.string [101])], .agg [.lit (.string [78, 111, 116, 105, 102, 121]), .lit (.string [110, 101])], .agg [.lit (.string [65, 99, 113, 117, 105, 114, 101]), .lit (.string [110, 105])], .agg [.lit (.string [87, 97, 105, 116]), .lit (.string [110, 101])]]
def laid_platformfw_syntax_expressionForms {H : Type} : DataW H := .agg [.agg [.lit (.string [65, 100, 100]), .lit (.string [101, 101])], .agg [.lit (.string [83, 117, 98, 116, 114, 97, 99, 116]), .lit (.string [101, 101])], .agg [.lit (.string [77, 117, 108, 116, 105, 112, 108, 121]), .lit (.string [101, 101])], .agg [.lit (.string [68, 105, 118, 105, 100, 101]), .lit (.string [101, 101])], .agg [.lit (.string [77, 111, 100]), .lit (.string [101, 101])], .agg [.lit (.string [65, 110, 100]), .lit (.string [101, 101])], .agg [.lit (.string [79, 114]), .lit (.string [101, 101])], .agg [.lit (.string [88, 111, 114]), .lit (.string [101, 101])], .agg [.lit (.string [83, 104, 105, 102, 116, 76, 101, 102, 116]), .lit (.string [101, 101])], .agg [.lit (.string [83, 104, 105, 102, 116, 82, 105, 103, 104, 116]), .lit (.string [101, 101])], .agg [.lit (.string [76, 65, 110, 100]), .lit (.string [101, 101])], .agg [.lit (.string [76, 79, 114]), .lit (.string [101, 101])], .agg [.lit (.string [76, 69, 113, 117, 97, 108]), .lit (.string [101, 101])], .agg [.lit (.string [76, 76, 101, 115, 115]), .lit (.string [101, 101])], .agg [.lit (.string [76, 71, 114, 101, 97, 116, 101, 114]), .lit (.string [101, 101])], .agg [.lit (.string [67, 111, 110, 99, 97, 116, 101, 110, 97, 116, 101]), .lit (.string [101, 101])], .agg [.lit (.string [73, 110, 100, 101, 120]), .lit (.string [101, 101])], .agg [.lit (.string [78, 111, 116]), .lit (.string [101])], .agg [.lit (.string [76, 78, 111, 116]), .lit (.string [101])], .agg [.lit (.string [83, 105, 122, 101, 79, 102]), .lit (.string [101])], .agg [.lit (.string [84, 111, 73, 110, 116, 101, 103, 101, 114]), .lit (.string [101])], .agg [.lit (.string [84, 111, 66, 117, 102, 102, 101, 114]), .lit (.string [101])], .agg [.lit (.string [84, 111, 72, 101, 120, 83, 116, 114, 105, 110, 103]), .lit (.string [101])], .agg [.lit (.string [84, 111, 68, 101, 99, 105, 109, 97, 108, 83, 116, 114, 105, 110, 103]), .lit (.string [101])], .agg [.lit (.string [68, 101, 114, 101, 102, 79, 102]), .lit (.string [101])], .agg [.lit (.string [82, 101, 102, 79, 102]), .lit (.string [116])], .agg [.lit (.string [67, 111, 110, 100, 82, 101, 102, 79, 102]), .lit (.string [110])], .agg [.lit (.string [79, 98, 106, 101, 99, 116, 84, 121, 112, 101]), .lit (.string [116])], .agg [.lit (.string [77, 105, 100]), .lit (.string [101, 101, 101])]]
/-- One of Go's own tables, pinned by name: the form's constant. -/
def laid_unicode_utf8_first : DataW Unit := Go.Pinned.utf8First
def laid_math_bits_deBruijn32tab {H : Type} : DataW H := .agg [.lit (.int .u8 0), .lit (.int .u8 1), .lit (.int .u8 28), .lit (.int .u8 2), .lit (.int .u8 29), .lit (.int .u8 14), .lit (.int .u8 24), .lit (.int .u8 3), .lit (.int .u8 30), .lit (.int .u8 22), .lit (.int .u8 20), .lit (.int .u8 15), .lit (.int .u8 25), .lit (.int .u8 17), .lit (.int .u8 4), .lit (.int .u8 8), .lit (.int .u8 31), .lit (.int .u8 27), .lit (.int .u8 13), .lit (.int .u8 23), .lit (.int .u8 21), .lit (.int .u8 19), .lit (.int .u8 16), .lit (.int .u8 7), .lit (.int .u8 26), .lit (.int .u8 12), .lit (.int .u8 18), .lit (.int .u8 6), .lit (.int .u8 11), .lit (.int .u8 5), .lit (.int .u8 10), .lit (.int .u8 9)]
def laid_math_bits_deBruijn64tab {H : Type} : DataW H := .agg [.lit (.int .u8 0), .lit (.int .u8 1), .lit (.int .u8 56), .lit (.int .u8 2), .lit (.int .u8 57), .lit (.int .u8 49), .lit (.int .u8 28), .lit (.int .u8 3), .lit (.int .u8 61), .lit (.int .u8 58), .lit (.int .u8 42), .lit (.int .u8 50), .lit (.int .u8 38), .lit (.int .u8 29), .lit (.int .u8 17), .lit (.int .u8 4), .lit (.int .u8 62), .lit (.int .u8 47), .lit (.int .u8 59), .lit (.int .u8 36), .lit (.int .u8 45), .lit (.int .u8 43), .lit (.int .u8 51), .lit (.int .u8 22), .lit (.int .u8 53), .lit (.int .u8 39), .lit (.int .u8 33), .lit (.int .u8 30), .lit (.int .u8 24), .lit (.int .u8 18), .lit (.int .u8 12), .lit (.int .u8 5), .lit (.int .u8 63), .lit (.int .u8 55), .lit (.int .u8 48), .lit (.int .u8 27), .lit (.int .u8 60), .lit (.int .u8 41), .lit (.int .u8 37), .lit (.int .u8 16), .lit (.int .u8 46), .lit (.int .u8 35), .lit (.int .u8 44), .lit (.int .u8 21), .lit (.int .u8 52), .lit (.int .u8 32), .lit (.int .u8 23), .lit (.int .u8 11), .lit (.int .u8 54), .lit (.int .u8 26), .lit (.int .u8 40), .lit (.int .u8 15), .lit (.int .u8 34), .lit (.int .u8 20), .lit (.int .u8 31), .lit (.int .u8 10), .lit (.int .u8 25), .lit (.int .u8 14), .lit (.int .u8 19), .lit (.int .u8 9), .lit (.int .u8 13), .lit (.int .u8 8), .lit (.int .u8 7), .lit (.int .u8 6)]
def laid_internal_strconv_uint64pow10 {H : Type} : DataW H := .agg [.lit (.int .u64 1), .lit (.int .u64 10), .lit (.int .u64 100), .lit (.int .u64 1000), .lit (.int .u64 10000), .lit (.int .u64 100000), .lit (.int .u64 1000000), .lit (.int .u64 10000000), .lit (.int .u64 100000000), .lit (.int .u64 1000000000), .lit (.int .u64 10000000000), .lit (.int .u64 100000000000), .lit (.int .u64 1000000000000), .lit (.int .u64 10000000000000), .lit (.int .u64 100000000000000), .lit (.int .u64 1000000000000000), .lit (.int .u64 10000000000000000), .lit (.int .u64 100000000000000000), .lit (.int .u64 1000000000000000000), .lit (.int .u64 10000000000000000000)]
/-- One of Go's own tables, pinned by name: the form's constant. -/
def laid_unicode_CaseRanges : DataW Unit := Go.Pinned.caseRanges

/-- 'platformfwlaw03.SyntaxParsesExactly': WHATEVER THE INPUT: true; the input reads as it did. -/
def syntaxParsesExactlySpec : ChangeSpec := { name := "syntaxParsesExactly", fn := fun _ => fun
  | [d1, d2] => { results := [.lit (.bool true)], args := [d1, d2] }
  | _ => none }
def syntaxParsesExactlyRow : OpenClaim := { program := "ytnicnfchkdmieaagreatdoor", sum := "300a60a7ecd9dd85612c74339d69fb1cfa444b6ddef7143bcc6e32d830452c12", func := "platformfw/platformfwlaw03.SyntaxParsesExactly", spec := "syntaxParsesExactly", inPlace := ["internal/bytealg.IndexByteString", "internal/bytealg.IndexString", "internal/bytealg.CountString"], recurses := true, named := ["internal/bytealg.MaxLen", "unicode/utf8.first", "unicode/utf8.acceptRanges", "platformfw/syntax.expressionForms", "platformfw/syntax.statementForms", "platformfw/syntax.declarationForms"], apart := false, laid := [("unicode/utf8.acceptRanges", laid_unicode_utf8_acceptRanges), ("platformfw/syntax.declarationForms", laid_platformfw_syntax_declarationForms), ("platformfw/syntax.statementForms", laid_platformfw_syntax_statementForms), ("platformfw/syntax.expressionForms", laid_platformfw_syntax_expressionForms), ("unicode/utf8.first", laid_unicode_utf8_first)] }
def SyntaxParsesExactlySaid : Prop := syntaxParsesExactlyRow.holds Tryz.pinned (OpenSpec.ofChange syntaxParsesExactlySpec)

/-- ITS FALSE NEIGHBOUR: 'it returns false'. Refute it at one input. -/
def syntaxParsesExactlyWrong : ChangeSpec := { name := "syntaxParsesExactly", fn := fun _ => fun
  | [d1, d2] => { results := [.lit (.bool false)], args := [d1, d2] }
  | _ => none }
def SyntaxParsesExactlyWrongFalsely : Prop := syntaxParsesExactlyRow.holds Tryz.pinned (OpenSpec.ofChange syntaxParsesExactlyWrong)

/-- 'platformfwlaw03.SyntaxMutations': WHATEVER THE INPUT: true; the input reads as it did. -/
def syntaxMutationsSpec : ChangeSpec := { name := "syntaxMutations", fn := fun _ => fun
  | [d1, d2, d3, d4] => { results := [.lit (.bool true)], args := [d1, d2, d3, d4] }
  | _ => none }
def syntaxMutationsRow : OpenClaim := { program := "ytnicnfchkdmieaagreatdoor", sum := "300a60a7ecd9dd85612c74339d69fb1cfa444b6ddef7143bcc6e32d830452c12", func := "platformfw/platformfwlaw03.SyntaxMutations", spec := "syntaxMutations", inPlace := ["internal/bytealg.IndexByteString", "internal/bytealg.IndexString", "internal/bytealg.CountString"], recurses := true, named := ["internal/bytealg.MaxLen", "unicode/utf8.first", "unicode/utf8.acceptRanges", "platformfw/syntax.expressionForms", "platformfw/syntax.statementForms", "platformfw/syntax.declarationForms"], apart := false, laid := [("unicode/utf8.acceptRanges", laid_unicode_utf8_acceptRanges), ("platformfw/syntax.declarationForms", laid_platformfw_syntax_declarationForms), ("platformfw/syntax.statementForms", laid_platformfw_syntax_statementForms), ("platformfw/syntax.expressionForms", laid_platformfw_syntax_expressionForms), ("unicode/utf8.first", laid_unicode_utf8_first)] }
def SyntaxMutationsSaid : Prop := syntaxMutationsRow.holds Tryz.pinned (OpenSpec.ofChange syntaxMutationsSpec)

/-- ITS FALSE NEIGHBOUR: 'it returns false'. Refute it at one input. -/
def syntaxMutationsWrong : ChangeSpec := { name := "syntaxMutations", fn := fun _ => fun
  | [d1, d2, d3, d4] => { results := [.lit (.bool false)], args := [d1, d2, d3, d4] }
  | _ => none }
def SyntaxMutationsWrongFalsely : Prop := syntaxMutationsRow.holds Tryz.pinned (OpenSpec.ofChange syntaxMutationsWrong)

/-- 'platformfwlaw03.SyntaxValidates': WHATEVER THE INPUT: true; the input reads as it did. -/
def syntaxValidatesSpec : ChangeSpec := { name := "syntaxValidates", fn := fun _ => fun
  | [d1, d2, d3, d4, d5] => { results := [.lit (.bool true)], args := [d1, d2, d3, d4, d5] }
  | _ => none }
def syntaxValidatesRow : OpenClaim := { program := "ytnicnfchkdmieaagreatdoor", sum := "300a60a7ecd9dd85612c74339d69fb1cfa444b6ddef7143bcc6e32d830452c12", func := "platformfw/platformfwlaw03.SyntaxValidates", spec := "syntaxValidates", inPlace := ["internal/bytealg.IndexByteString", "internal/bytealg.IndexString", "internal/bytealg.CountString"], recurses := true, named := ["internal/bytealg.MaxLen", "unicode/utf8.first", "unicode/utf8.acceptRanges", "platformfw/syntax.expressionForms", "platformfw/syntax.statementForms", "platformfw/syntax.declarationForms"], apart := false, laid := [("unicode/utf8.acceptRanges", laid_unicode_utf8_acceptRanges), ("platformfw/syntax.declarationForms", laid_platformfw_syntax_declarationForms), ("platformfw/syntax.statementForms", laid_platformfw_syntax_statementForms), ("platformfw/syntax.expressionForms", laid_platformfw_syntax_expressionForms), ("unicode/utf8.first", laid_unicode_utf8_first)] }
def SyntaxValidatesSaid : Prop := syntaxValidatesRow.holds Tryz.pinned (OpenSpec.ofChange syntaxValidatesSpec)

/-- ITS FALSE NEIGHBOUR: 'it returns false'. Refute it at one input. -/
def syntaxValidatesWrong : ChangeSpec := { name := "syntaxValidates", fn := fun _ => fun
  | [d1, d2, d3, d4, d5] => { results := [.lit (.bool false)], args := [d1, d2, d3, d4, d5] }
  | _ => none }
def SyntaxValidatesWrongFalsely : Prop := syntaxValidatesRow.holds Tryz.pinned (OpenSpec.ofChange syntaxValidatesWrong)

/-- 'platformfwlaw03.SyntaxSubtrees': WHATEVER THE INPUT: true; the input reads as it did. -/
def syntaxSubtreesSpec : ChangeSpec := { name := "syntaxSubtrees", fn := fun _ => fun
  | [d1, d2, d3] => { results := [.lit (.bool true)], args := [d1, d2, d3] }
  | _ => none }
def syntaxSubtreesRow : OpenClaim := { program := "ytnicnfchkdmieaagreatdoor", sum := "300a60a7ecd9dd85612c74339d69fb1cfa444b6ddef7143bcc6e32d830452c12", func := "platformfw/platformfwlaw03.SyntaxSubtrees", spec := "syntaxSubtrees", inPlace := ["internal/bytealg.IndexByteString", "internal/bytealg.IndexString", "internal/bytealg.CountString"], recurses := true, named := ["internal/bytealg.MaxLen", "unicode/utf8.first", "unicode/utf8.acceptRanges", "platformfw/syntax.expressionForms", "platformfw/syntax.statementForms", "platformfw/syntax.declarationForms"], apart := false, laid := [("unicode/utf8.acceptRanges", laid_unicode_utf8_acceptRanges), ("platformfw/syntax.declarationForms", laid_platformfw_syntax_declarationForms), ("platformfw/syntax.statementForms", laid_platformfw_syntax_statementForms), ("platformfw/syntax.expressionForms", laid_platformfw_syntax_expressionForms), ("unicode/utf8.first", laid_unicode_utf8_first)] }
def SyntaxSubtreesSaid : Prop := syntaxSubtreesRow.holds Tryz.pinned (OpenSpec.ofChange syntaxSubtreesSpec)

/-- ITS FALSE NEIGHBOUR: 'it returns false'. Refute it at one input. -/
def syntaxSubtreesWrong : ChangeSpec := { name := "syntaxSubtrees", fn := fun _ => fun
  | [d1, d2, d3] => { results := [.lit (.bool false)], args := [d1, d2, d3] }
  | _ => none }
def SyntaxSubtreesWrongFalsely : Prop := syntaxSubtreesRow.holds Tryz.pinned (OpenSpec.ofChange syntaxSubtreesWrong)

/-- 'platformfwlaw03.SyntaxRoundTrip': WHATEVER THE INPUT: true; the input reads as it did. -/
def syntaxRoundTripSpec : ChangeSpec := { name := "syntaxRoundTrip", fn := fun _ => fun
  | [d] => { results := [.lit (.bool true)], args := [d] }
  | _ => none }
def syntaxRoundTripRow : OpenClaim := { program := "ytnicnfchkdmieaagreatdoor", sum := "300a60a7ecd9dd85612c74339d69fb1cfa444b6ddef7143bcc6e32d830452c12", func := "platformfw/platformfwlaw03.SyntaxRoundTrip", spec := "syntaxRoundTrip", inPlace := ["internal/bytealg.CountString", "internal/bytealg.IndexByteString", "internal/bytealg.IndexString", "internal/abi.NoEscape", "internal/bytealg.MakeNoZero"], unfollowed := true, recurses := true, named := ["internal/bytealg.MaxLen", "unicode/utf8.first", "unicode/utf8.acceptRanges", "platformfw/syntax.declarationForms", "platformfw/syntax.statementForms", "platformfw/syntax.expressionForms", "internal/strconv.uint64pow10", "math/bits.deBruijn32tab", "math/bits.deBruijn64tab", "unicode.CaseRanges"], apart := false, laid := [("math/bits.deBruijn32tab", laid_math_bits_deBruijn32tab), ("math/bits.deBruijn64tab", laid_math_bits_deBruijn64tab), ("internal/strconv.uint64pow10", laid_internal_strconv_uint64pow10), ("unicode/utf8.acceptRanges", laid_unicode_utf8_acceptRanges), ("platformfw/syntax.declarationForms", laid_platformfw_syntax_declarationForms), ("platformfw/syntax.statementForms", laid_platformfw_syntax_statementForms), ("platformfw/syntax.expressionForms", laid_platformfw_syntax_expressionForms), ("unicode.CaseRanges", laid_unicode_CaseRanges), ("unicode/utf8.first", laid_unicode_utf8_first)] }
def SyntaxRoundTripSaid : Prop := syntaxRoundTripRow.holds Tryz.pinned (OpenSpec.ofChange syntaxRoundTripSpec)

/-- ITS FALSE NEIGHBOUR: 'it returns false'. Refute it at one input. -/
def syntaxRoundTripWrong : ChangeSpec := { name := "syntaxRoundTrip", fn := fun _ => fun
  | [d] => { results := [.lit (.bool false)], args := [d] }
  | _ => none }
def SyntaxRoundTripWrongFalsely : Prop := syntaxRoundTripRow.holds Tryz.pinned (OpenSpec.ofChange syntaxRoundTripWrong)

/-- 'platformfwlaw03.SyntaxFormatPreservesTokens': WHATEVER THE INPUT: true; the input reads as it did. -/
def syntaxFormatPreservesTokensSpec : ChangeSpec := { name := "syntaxFormatPreservesTokens", fn := fun _ => fun
  | [d1, d2] => { results := [.lit (.bool true)], args := [d1, d2] }
  | _ => none }
def syntaxFormatPreservesTokensRow : OpenClaim := { program := "ytnicnfchkdmieaagreatdoor", sum := "300a60a7ecd9dd85612c74339d69fb1cfa444b6ddef7143bcc6e32d830452c12", func := "platformfw/platformfwlaw03.SyntaxFormatPreservesTokens", spec := "syntaxFormatPreservesTokens", inPlace := ["internal/bytealg.IndexByteString", "internal/bytealg.IndexString", "internal/bytealg.CountString", "internal/abi.NoEscape", "internal/bytealg.MakeNoZero"], unfollowed := true, recurses := true, named := ["internal/bytealg.MaxLen", "unicode/utf8.first", "unicode/utf8.acceptRanges", "platformfw/syntax.expressionForms", "platformfw/syntax.statementForms", "platformfw/syntax.declarationForms", "internal/strconv.uint64pow10", "math/bits.deBruijn32tab", "math/bits.deBruijn64tab", "unicode.CaseRanges"], apart := false, laid := [("math/bits.deBruijn32tab", laid_math_bits_deBruijn32tab), ("math/bits.deBruijn64tab", laid_math_bits_deBruijn64tab), ("internal/strconv.uint64pow10", laid_internal_strconv_uint64pow10), ("unicode/utf8.acceptRanges", laid_unicode_utf8_acceptRanges), ("platformfw/syntax.declarationForms", laid_platformfw_syntax_declarationForms), ("platformfw/syntax.statementForms", laid_platformfw_syntax_statementForms), ("platformfw/syntax.expressionForms", laid_platformfw_syntax_expressionForms), ("unicode.CaseRanges", laid_unicode_CaseRanges), ("unicode/utf8.first", laid_unicode_utf8_first)] }
def SyntaxFormatPreservesTokensSaid : Prop := syntaxFormatPreservesTokensRow.holds Tryz.pinned (OpenSpec.ofChange syntaxFormatPreservesTokensSpec)

/-- ITS FALSE NEIGHBOUR: 'it returns false'. Refute it at one input. -/
def syntaxFormatPreservesTokensWrong : ChangeSpec := { name := "syntaxFormatPreservesTokens", fn := fun _ => fun
  | [d1, d2] => { results := [.lit (.bool false)], args := [d1, d2] }
  | _ => none }
def SyntaxFormatPreservesTokensWrongFalsely : Prop := syntaxFormatPreservesTokensRow.holds Tryz.pinned (OpenSpec.ofChange syntaxFormatPreservesTokensWrong)

/- THE SECOND FORM. 'bulk': how many values and letters a reading holds, each counted each time it is reached (what is shared counts as often as it is met; a slice's spare places count too). A statement '..UptoSaid' is the law's where the arguments, and the package variables that the reading takes, are together of bulk at most 1048576: NARROWER than '..Said'. Prove '..Said' where nothing that the law and all that it calls make is longer than what came in: it says more and counts as full. Else prove '..UptoSaid'. A law counts once. -/
mutual
def uptoBulk {H : Type} : DataW H → Nat
  | .lit (.string bytes) => bytes.length + 1
  | .lit _ => 1
  | .nil => 1
  | .ptr d => uptoBulk d + 1
  | .slice elems spare => uptoBulkAll elems + uptoBulkAll spare + 1
  | .agg parts => uptoBulkAll parts + 1
  | .iface _ d => uptoBulk d + 1
  | .map entries => uptoBulkEntries entries + 1
  | .held _ => 1
def uptoBulkAll {H : Type} : List (DataW H) → Nat
  | [] => 0
  | d :: r => uptoBulk d + uptoBulkAll r
def uptoBulkEntries {H : Type} : List (Lit × DataW H) → Nat
  | [] => 0
  | x :: r => uptoBulkEntry x + uptoBulkEntries r
def uptoBulkEntry {H : Type} : Lit × DataW H → Nat
  | (.string bytes, d) => bytes.length + uptoBulk d + 1
  | (_, d) => uptoBulk d + 1
 end
def uptoSmall : (H : Type) → List (DataW H) → Bool := fun _ ds => decide (uptoBulkAll ds ≤ 1048576)
def OpenSpec.upto (s : _root_.Go.ChangeSpec) : _root_.Go.OpenSpec := { _root_.Go.OpenSpec.ofChange s with cond := some uptoSmall }

/-- 'platformfwlaw03.SyntaxParsesExactly', WHERE WHAT IT READS IS OF BULK AT MOST 1048576: true; the input reads as it did. -/
def syntaxParsesExactlyUptoRow : OpenClaim := { program := "ytnicnfchkdmieaagreatdoor", sum := "300a60a7ecd9dd85612c74339d69fb1cfa444b6ddef7143bcc6e32d830452c12", func := "platformfw/platformfwlaw03.SyntaxParsesExactly", spec := "syntaxParsesExactly", inPlace := ["internal/bytealg.IndexByteString", "internal/bytealg.IndexString", "internal/bytealg.CountString"], recurses := true, named := ["internal/bytealg.MaxLen", "unicode/utf8.first", "unicode/utf8.acceptRanges", "platformfw/syntax.expressionForms", "platformfw/syntax.statementForms", "platformfw/syntax.declarationForms"], apart := false, laid := [("unicode/utf8.acceptRanges", laid_unicode_utf8_acceptRanges), ("platformfw/syntax.declarationForms", laid_platformfw_syntax_declarationForms), ("platformfw/syntax.statementForms", laid_platformfw_syntax_statementForms), ("platformfw/syntax.expressionForms", laid_platformfw_syntax_expressionForms), ("unicode/utf8.first", laid_unicode_utf8_first)], narrowed := true }
def SyntaxParsesExactlyUptoSaid : Prop := syntaxParsesExactlyUptoRow.holds Tryz.pinned (OpenSpec.upto syntaxParsesExactlySpec)

/-- 'platformfwlaw03.SyntaxMutations', WHERE WHAT IT READS IS OF BULK AT MOST 1048576: true; the input reads as it did. -/
def syntaxMutationsUptoRow : OpenClaim := { program := "ytnicnfchkdmieaagreatdoor", sum := "300a60a7ecd9dd85612c74339d69fb1cfa444b6ddef7143bcc6e32d830452c12", func := "platformfw/platformfwlaw03.SyntaxMutations", spec := "syntaxMutations", inPlace := ["internal/bytealg.IndexByteString", "internal/bytealg.IndexString", "internal/bytealg.CountString"], recurses := true, named := ["internal/bytealg.MaxLen", "unicode/utf8.first", "unicode/utf8.acceptRanges", "platformfw/syntax.expressionForms", "platformfw/syntax.statementForms", "platformfw/syntax.declarationForms"], apart := false, laid := [("unicode/utf8.acceptRanges", laid_unicode_utf8_acceptRanges), ("platformfw/syntax.declarationForms", laid_platformfw_syntax_declarationForms), ("platformfw/syntax.statementForms", laid_platformfw_syntax_statementForms), ("platformfw/syntax.expressionForms", laid_platformfw_syntax_expressionForms), ("unicode/utf8.first", laid_unicode_utf8_first)], narrowed := true }
def SyntaxMutationsUptoSaid : Prop := syntaxMutationsUptoRow.holds Tryz.pinned (OpenSpec.upto syntaxMutationsSpec)

/-- 'platformfwlaw03.SyntaxValidates', WHERE WHAT IT READS IS OF BULK AT MOST 1048576: true; the input reads as it did. -/
def syntaxValidatesUptoRow : OpenClaim := { program := "ytnicnfchkdmieaagreatdoor", sum := "300a60a7ecd9dd85612c74339d69fb1cfa444b6ddef7143bcc6e32d830452c12", func := "platformfw/platformfwlaw03.SyntaxValidates", spec := "syntaxValidates", inPlace := ["internal/bytealg.IndexByteString", "internal/bytealg.IndexString", "internal/bytealg.CountString"], recurses := true, named := ["internal/bytealg.MaxLen", "unicode/utf8.first", "unicode/utf8.acceptRanges", "platformfw/syntax.expressionForms", "platformfw/syntax.statementForms", "platformfw/syntax.declarationForms"], apart := false, laid := [("unicode/utf8.acceptRanges", laid_unicode_utf8_acceptRanges), ("platformfw/syntax.declarationForms", laid_platformfw_syntax_declarationForms), ("platformfw/syntax.statementForms", laid_platformfw_syntax_statementForms), ("platformfw/syntax.expressionForms", laid_platformfw_syntax_expressionForms), ("unicode/utf8.first", laid_unicode_utf8_first)], narrowed := true }
def SyntaxValidatesUptoSaid : Prop := syntaxValidatesUptoRow.holds Tryz.pinned (OpenSpec.upto syntaxValidatesSpec)

/-- 'platformfwlaw03.SyntaxSubtrees', WHERE WHAT IT READS IS OF BULK AT MOST 1048576: true; the input reads as it did. -/
def syntaxSubtreesUptoRow : OpenClaim := { program := "ytnicnfchkdmieaagreatdoor", sum := "300a60a7ecd9dd85612c74339d69fb1cfa444b6ddef7143bcc6e32d830452c12", func := "platformfw/platformfwlaw03.SyntaxSubtrees", spec := "syntaxSubtrees", inPlace := ["internal/bytealg.IndexByteString", "internal/bytealg.IndexString", "internal/bytealg.CountString"], recurses := true, named := ["internal/bytealg.MaxLen", "unicode/utf8.first", "unicode/utf8.acceptRanges", "platformfw/syntax.expressionForms", "platformfw/syntax.statementForms", "platformfw/syntax.declarationForms"], apart := false, laid := [("unicode/utf8.acceptRanges", laid_unicode_utf8_acceptRanges), ("platformfw/syntax.declarationForms", laid_platformfw_syntax_declarationForms), ("platformfw/syntax.statementForms", laid_platformfw_syntax_statementForms), ("platformfw/syntax.expressionForms", laid_platformfw_syntax_expressionForms), ("unicode/utf8.first", laid_unicode_utf8_first)], narrowed := true }
def SyntaxSubtreesUptoSaid : Prop := syntaxSubtreesUptoRow.holds Tryz.pinned (OpenSpec.upto syntaxSubtreesSpec)

/-- 'platformfwlaw03.SyntaxRoundTrip', WHERE WHAT IT READS IS OF BULK AT MOST 1048576: true; the input reads as it did. -/
def syntaxRoundTripUptoRow : OpenClaim := { program := "ytnicnfchkdmieaagreatdoor", sum := "300a60a7ecd9dd85612c74339d69fb1cfa444b6ddef7143bcc6e32d830452c12", func := "platformfw/platformfwlaw03.SyntaxRoundTrip", spec := "syntaxRoundTrip", inPlace := ["internal/bytealg.CountString", "internal/bytealg.IndexByteString", "internal/bytealg.IndexString", "internal/abi.NoEscape", "internal/bytealg.MakeNoZero"], unfollowed := true, recurses := true, named := ["internal/bytealg.MaxLen", "unicode/utf8.first", "unicode/utf8.acceptRanges", "platformfw/syntax.declarationForms", "platformfw/syntax.statementForms", "platformfw/syntax.expressionForms", "internal/strconv.uint64pow10", "math/bits.deBruijn32tab", "math/bits.deBruijn64tab", "unicode.CaseRanges"], apart := false, laid := [("math/bits.deBruijn32tab", laid_math_bits_deBruijn32tab), ("math/bits.deBruijn64tab", laid_math_bits_deBruijn64tab), ("internal/strconv.uint64pow10", laid_internal_strconv_uint64pow10), ("unicode/utf8.acceptRanges", laid_unicode_utf8_acceptRanges), ("platformfw/syntax.declarationForms", laid_platformfw_syntax_declarationForms), ("platformfw/syntax.statementForms", laid_platformfw_syntax_statementForms), ("platformfw/syntax.expressionForms", laid_platformfw_syntax_expressionForms), ("unicode.CaseRanges", laid_unicode_CaseRanges), ("unicode/utf8.first", laid_unicode_utf8_first)], narrowed := true }
def SyntaxRoundTripUptoSaid : Prop := syntaxRoundTripUptoRow.holds Tryz.pinned (OpenSpec.upto syntaxRoundTripSpec)

/-- 'platformfwlaw03.SyntaxFormatPreservesTokens', WHERE WHAT IT READS IS OF BULK AT MOST 1048576: true; the input reads as it did. -/
def syntaxFormatPreservesTokensUptoRow : OpenClaim := { program := "ytnicnfchkdmieaagreatdoor", sum := "300a60a7ecd9dd85612c74339d69fb1cfa444b6ddef7143bcc6e32d830452c12", func := "platformfw/platformfwlaw03.SyntaxFormatPreservesTokens", spec := "syntaxFormatPreservesTokens", inPlace := ["internal/bytealg.IndexByteString", "internal/bytealg.IndexString", "internal/bytealg.CountString", "internal/abi.NoEscape", "internal/bytealg.MakeNoZero"], unfollowed := true, recurses := true, named := ["internal/bytealg.MaxLen", "unicode/utf8.first", "unicode/utf8.acceptRanges", "platformfw/syntax.expressionForms", "platformfw/syntax.statementForms", "platformfw/syntax.declarationForms", "internal/strconv.uint64pow10", "math/bits.deBruijn32tab", "math/bits.deBruijn64tab", "unicode.CaseRanges"], apart := false, laid := [("math/bits.deBruijn32tab", laid_math_bits_deBruijn32tab), ("math/bits.deBruijn64tab", laid_math_bits_deBruijn64tab), ("internal/strconv.uint64pow10", laid_internal_strconv_uint64pow10), ("unicode/utf8.acceptRanges", laid_unicode_utf8_acceptRanges), ("platformfw/syntax.declarationForms", laid_platformfw_syntax_declarationForms), ("platformfw/syntax.statementForms", laid_platformfw_syntax_statementForms), ("platformfw/syntax.expressionForms", laid_platformfw_syntax_expressionForms), ("unicode.CaseRanges", laid_unicode_CaseRanges), ("unicode/utf8.first", laid_unicode_utf8_first)], narrowed := true }
def SyntaxFormatPreservesTokensUptoSaid : Prop := syntaxFormatPreservesTokensUptoRow.holds Tryz.pinned (OpenSpec.upto syntaxFormatPreservesTokensSpec)

end Rows
end Go.Proofs.YtnicnfchkdmieaaGreatDoor
