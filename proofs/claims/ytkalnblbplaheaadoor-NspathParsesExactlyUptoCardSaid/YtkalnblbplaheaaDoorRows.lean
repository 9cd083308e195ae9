/-
  NARROWER THAN 'FOR EVERY INPUT', by the rows' own cells (each row's printed sentence says how): NspathFormats: laid · NspathParsesExactly: laid · NspathRoundTrip: laid · NspathJoins: laid · NspathJoinIsRelative: laid · NspathSearchOrder: laid · NspathOrder: laid · NspathDoesNotAlias: laid.
  DERIVED. THE GIVEN ROWS OF THIS SEAT. 8 by the template 'for every input the law returns true; each argument reads behind the call as it read before'; 0 by the template 'total and deterministic' (their statements: YtkalnblbplaheaaDoorTotals.lean).
  GIVEN WITH THE SEED: the statements are not yours to turn. If you find one false, say at which input.
  Laid BY PROGRAM, IN A SANDBOX (cutbox-rows.mjs): the forced cells as the released guide's own fill.sh prints them over the translation 4082a6859595cb6c… (all of the seat's roots in one cut). By AI agents, Wed Nov 11 2026. No macro, syntax, notation, axiom, sorry.
-/
import Derived.Test.YtkalnblbplaheaaDoorChecked
import GoSem.PinnedTables
import GoSem.Claim
import GoSem.ClaimJoined
import GoSem.ClaimMapViews
import Derived.JoinedTies
import Derived.KernelRfl
namespace Go.Proofs.YtkalnblbplaheaaDoor
/- THE CELL 'sum', in the pinned program and in every row, IS THE sha256 OF THE DUMP (.gsa) THAT YtkalnblbplaheaaDoorProg.lean LOADS. Nothing in Lean hashes anything: it is a label: what it is worth is what the hold of that sum in a sandbox is worth. -/
noncomputable def Tryd.pinned : Pinned := { name := "ytkalnblbplaheaadoor", sum := "4082a6859595cb6c452add460e8725cebaaba391200749e1a2849c3ed8883a61", checked := Tryd.checked }
namespace Rows
def none {H : Type} : Left H := { results := [], args := [] }

/- WHAT THE LISTED PACKAGE-LEVEL VARIABLES READ AS WHEN THE CALL BEGINS. Each datum BY PROGRAM (the guide's laid-datum.mjs) off the statement by which the dump's own 'gosem.cut.vars' lays the variable. In a bare row this is a premise. The card (YtkalnblbplaheaaDoorCards.lean) ties it to the program's text. -/
def laid_unicode_utf8_acceptRanges {H : Type} : DataW H := .agg [.agg [.lit (.int .u8 128), .lit (.int .u8 191)], .agg [.lit (.int .u8 160), .lit (.int .u8 191)], .agg [.lit (.int .u8 128), .lit (.int .u8 159)], .agg [.lit (.int .u8 144), .lit (.int .u8 191)], .agg [.lit (.int .u8 128), .lit (.int .u8 143)], .agg [.lit (.int .u8 0), .lit (.int .u8 0)], .agg [.lit (.int .u8 0), .lit (.int .u8 0)], .agg [.lit (.int .u8 0), .lit (.int .u8 0)], .agg [.lit (.int .u8 0), .lit (.int .u8 0)], .agg [.lit (.int .u8 0), .lit (.int .u8 0)], .agg [.lit (.int .u8 0), .lit (.int .u8 0)], .agg [.lit (.int .u8 0), .lit (.int .u8 0)], .agg [.lit (.int .u8 0), .lit (.int .u8 0)], .agg [.lit (.int .u8 0), .lit (.int .u8 0)], .agg [.lit (.int .u8 0), .lit (.int .u8 0)], .agg [.lit (.int .u8 0), .lit (.int .u8 0)]]
/-- One of Go's own tables, pinned by name: the form's constant. -/
def laid_unicode_utf8_first : DataW Unit := Go.Pinned.utf8First

/-- 'platformfwlaw02.NspathFormats': WHATEVER THE INPUT: true; the input reads as it did. -/
def nspathFormatsSpec : ChangeSpec := { name := "nspathFormats", fn := fun _ => fun
  | [d] => { results := [.lit (.bool true)], args := [d] }
  | _ => none }
def nspathFormatsRow : OpenClaim := { program := "ytkalnblbplaheaadoor", sum := "4082a6859595cb6c452add460e8725cebaaba391200749e1a2849c3ed8883a61", func := "platformfw/platformfwlaw02.NspathFormats", spec := "nspathFormats", inPlace := ["internal/bytealg.CountString", "internal/bytealg.IndexByteString", "internal/bytealg.IndexString", "internal/abi.NoEscape", "internal/bytealg.MakeNoZero"], named := ["internal/bytealg.MaxLen", "unicode/utf8.first", "unicode/utf8.acceptRanges"], apart := false, laid := [("unicode/utf8.acceptRanges", laid_unicode_utf8_acceptRanges), ("unicode/utf8.first", laid_unicode_utf8_first)] }
def NspathFormatsSaid : Prop := nspathFormatsRow.holds Tryd.pinned (OpenSpec.ofChange nspathFormatsSpec)

/-- ITS FALSE NEIGHBOUR: 'it returns false'. Refute it at one input. -/
def nspathFormatsWrong : ChangeSpec := { name := "nspathFormats", fn := fun _ => fun
  | [d] => { results := [.lit (.bool false)], args := [d] }
  | _ => none }
def NspathFormatsWrongFalsely : Prop := nspathFormatsRow.holds Tryd.pinned (OpenSpec.ofChange nspathFormatsWrong)

/-- 'platformfwlaw02.NspathParsesExactly': WHATEVER THE INPUT: true; the input reads as it did. -/
def nspathParsesExactlySpec : ChangeSpec := { name := "nspathParsesExactly", fn := fun _ => fun
  | [d1, d2] => { results := [.lit (.bool true)], args := [d1, d2] }
  | _ => none }
def nspathParsesExactlyRow : OpenClaim := { program := "ytkalnblbplaheaadoor", sum := "4082a6859595cb6c452add460e8725cebaaba391200749e1a2849c3ed8883a61", func := "platformfw/platformfwlaw02.NspathParsesExactly", spec := "nspathParsesExactly", inPlace := ["internal/bytealg.CountString", "internal/bytealg.IndexByteString", "internal/bytealg.IndexString", "internal/abi.NoEscape", "internal/bytealg.MakeNoZero"], named := ["internal/bytealg.MaxLen", "unicode/utf8.first", "unicode/utf8.acceptRanges"], apart := false, laid := [("unicode/utf8.acceptRanges", laid_unicode_utf8_acceptRanges), ("unicode/utf8.first", laid_unicode_utf8_first)] }
def NspathParsesExactlySaid : Prop := nspathParsesExactlyRow.holds Tryd.pinned (OpenSpec.ofChange nspathParsesExactlySpec)

/-- ITS FALSE NEIGHBOUR: 'it returns false'. Refute it at one input. -/
def nspathParsesExactlyWrong : ChangeSpec := { name := "nspathParsesExactly", fn := fun _ => fun
  | [d1, d2] => { results := [.lit (.bool false)], args := [d1, d2] }
  | _ => none }
def NspathParsesExactlyWrongFalsely : Prop := nspathParsesExactlyRow.holds Tryd.pinned (OpenSpec.ofChange nspathParsesExactlyWrong)

/-- 'platformfwlaw02.NspathRoundTrip': WHATEVER THE INPUT: true; the input reads as it did. -/
def nspathRoundTripSpec : ChangeSpec := { name := "nspathRoundTrip", fn := fun _ => fun
  | [d] => { results := [.lit (.bool true)], args := [d] }
  | _ => none }
def nspathRoundTripRow : OpenClaim := { program := "ytkalnblbplaheaadoor", sum := "4082a6859595cb6c452add460e8725cebaaba391200749e1a2849c3ed8883a61", func := "platformfw/platformfwlaw02.NspathRoundTrip", spec := "nspathRoundTrip", inPlace := ["internal/bytealg.CountString", "internal/bytealg.IndexByteString", "internal/bytealg.IndexString", "internal/abi.NoEscape", "internal/bytealg.MakeNoZero"], named := ["internal/bytealg.MaxLen", "unicode/utf8.first", "unicode/utf8.acceptRanges"], apart := false, laid := [("unicode/utf8.acceptRanges", laid_unicode_utf8_acceptRanges), ("unicode/utf8.first", laid_unicode_utf8_first)] }
def NspathRoundTripSaid : Prop := nspathRoundTripRow.holds Tryd.pinned (OpenSpec.ofChange nspathRoundTripSpec)

/-- ITS FALSE NEIGHBOUR: 'it returns false'. Refute it at one input. -/
def nspathRoundTripWrong : ChangeSpec := { name := "nspathRoundTrip", fn := fun _ => fun
  | [d] => { results := [.lit (.bool false)], args := [d] }
  | _ => none }
def NspathRoundTripWrongFalsely : Prop := nspathRoundTripRow.holds Tryd.pinned (OpenSpec.ofChange nspathRoundTripWrong)

/-- 'platformfwlaw02.NspathJoins': WHATEVER THE INPUT: true; the input reads as it did. -/
def nspathJoinsSpec : ChangeSpec := { name := "nspathJoins", fn := fun _ => fun
  | [d1, d2] => { results := [.lit (.bool true)], args := [d1, d2] }
  | _ => none }
def nspathJoinsRow : OpenClaim := { program := "ytkalnblbplaheaadoor", sum := "4082a6859595cb6c452add460e8725cebaaba391200749e1a2849c3ed8883a61", func := "platformfw/platformfwlaw02.NspathJoins", spec := "nspathJoins", inPlace := ["internal/bytealg.CountString", "internal/bytealg.IndexByteString", "internal/bytealg.IndexString", "internal/abi.NoEscape", "internal/bytealg.MakeNoZero"], unfollowed := true, recurses := true, named := ["internal/bytealg.MaxLen", "unicode/utf8.first", "unicode/utf8.acceptRanges"], apart := false, laid := [("unicode/utf8.acceptRanges", laid_unicode_utf8_acceptRanges), ("unicode/utf8.first", laid_unicode_utf8_first)] }
def NspathJoinsSaid : Prop := nspathJoinsRow.holds Tryd.pinned (OpenSpec.ofChange nspathJoinsSpec)

/-- ITS FALSE NEIGHBOUR: 'it returns false'. Refute it at one input. -/
def nspathJoinsWrong : ChangeSpec := { name := "nspathJoins", fn := fun _ => fun
  | [d1, d2] => { results := [.lit (.bool false)], args := [d1, d2] }
  | _ => none }
def NspathJoinsWrongFalsely : Prop := nspathJoinsRow.holds Tryd.pinned (OpenSpec.ofChange nspathJoinsWrong)

/-- 'platformfwlaw02.NspathJoinIsRelative': WHATEVER THE INPUT: true; the input reads as it did. -/
def nspathJoinIsRelativeSpec : ChangeSpec := { name := "nspathJoinIsRelative", fn := fun _ => fun
  | [d1, d2, d3] => { results := [.lit (.bool true)], args := [d1, d2, d3] }
  | _ => none }
def nspathJoinIsRelativeRow : OpenClaim := { program := "ytkalnblbplaheaadoor", sum := "4082a6859595cb6c452add460e8725cebaaba391200749e1a2849c3ed8883a61", func := "platformfw/platformfwlaw02.NspathJoinIsRelative", spec := "nspathJoinIsRelative", inPlace := ["internal/bytealg.CountString", "internal/bytealg.IndexByteString", "internal/bytealg.IndexString", "internal/abi.NoEscape", "internal/bytealg.MakeNoZero"], named := ["internal/bytealg.MaxLen", "unicode/utf8.first", "unicode/utf8.acceptRanges"], apart := false, laid := [("unicode/utf8.acceptRanges", laid_unicode_utf8_acceptRanges), ("unicode/utf8.first", laid_unicode_utf8_first)] }
def NspathJoinIsRelativeSaid : Prop := nspathJoinIsRelativeRow.holds Tryd.pinned (OpenSpec.ofChange nspathJoinIsRelativeSpec)

/-- ITS FALSE NEIGHBOUR: 'it returns false'. Refute it at one input. -/
def nspathJoinIsRelativeWrong : ChangeSpec := { name := "nspathJoinIsRelative", fn := fun _ => fun
  | [d1, d2, d3] => { results := [.lit (.bool false)], args := [d1, d2, d3] }
  | _ => none }
def NspathJoinIsRelativeWrongFalsely : Prop := nspathJoinIsRelativeRow.holds Tryd.pinned (OpenSpec.ofChange nspathJoinIsRelativeWrong)

/-- 'platformfwlaw02.NspathSearchOrder': WHATEVER THE INPUT: true; the input reads as it did. -/
def nspathSearchOrderSpec : ChangeSpec := { name := "nspathSearchOrder", fn := fun _ => fun
  | [d1, d2] => { results := [.lit (.bool true)], args := [d1, d2] }
  | _ => none }
def nspathSearchOrderRow : OpenClaim := { program := "ytkalnblbplaheaadoor", sum := "4082a6859595cb6c452add460e8725cebaaba391200749e1a2849c3ed8883a61", func := "platformfw/platformfwlaw02.NspathSearchOrder", spec := "nspathSearchOrder", inPlace := ["internal/bytealg.CountString", "internal/bytealg.IndexByteString", "internal/bytealg.IndexString", "internal/abi.NoEscape", "internal/bytealg.MakeNoZero"], named := ["internal/bytealg.MaxLen", "unicode/utf8.first", "unicode/utf8.acceptRanges"], apart := false, laid := [("unicode/utf8.acceptRanges", laid_unicode_utf8_acceptRanges), ("unicode/utf8.first", laid_unicode_utf8_first)] }
def NspathSearchOrderSaid : Prop := nspathSearchOrderRow.holds Tryd.pinned (OpenSpec.ofChange nspathSearchOrderSpec)

/-- ITS FALSE NEIGHBOUR: 'it returns false'. Refute it at one input. -/
def nspathSearchOrderWrong : ChangeSpec := { name := "nspathSearchOrder", fn := fun _ => fun
  | [d1, d2] => { results := [.lit (.bool false)], args := [d1, d2] }
  | _ => none }
def NspathSearchOrderWrongFalsely : Prop := nspathSearchOrderRow.holds Tryd.pinned (OpenSpec.ofChange nspathSearchOrderWrong)

/-- 'platformfwlaw02.NspathOrder': WHATEVER THE INPUT: true; the input reads as it did. -/
def nspathOrderSpec : ChangeSpec := { name := "nspathOrder", fn := fun _ => fun
  | [d1, d2, d3] => { results := [.lit (.bool true)], args := [d1, d2, d3] }
  | _ => none }
def nspathOrderRow : OpenClaim := { program := "ytkalnblbplaheaadoor", sum := "4082a6859595cb6c452add460e8725cebaaba391200749e1a2849c3ed8883a61", func := "platformfw/platformfwlaw02.NspathOrder", spec := "nspathOrder", inPlace := ["internal/bytealg.CountString", "internal/bytealg.IndexByteString", "internal/bytealg.IndexString", "internal/abi.NoEscape", "internal/bytealg.MakeNoZero"], named := ["internal/bytealg.MaxLen", "unicode/utf8.first", "unicode/utf8.acceptRanges"], apart := false, laid := [("unicode/utf8.acceptRanges", laid_unicode_utf8_acceptRanges), ("unicode/utf8.first", laid_unicode_utf8_first)] }
def NspathOrderSaid : Prop := nspathOrderRow.holds Tryd.pinned (OpenSpec.ofChange nspathOrderSpec)

/-- ITS FALSE NEIGHBOUR: 'it returns false'. Refute it at one input. -/
def nspathOrderWrong : ChangeSpec := { name := "nspathOrder", fn := fun _ => fun
  | [d1, d2, d3] => { results := [.lit (.bool false)], args := [d1, d2, d3] }
  | _ => none }
def NspathOrderWrongFalsely : Prop := nspathOrderRow.holds Tryd.pinned (OpenSpec.ofChange nspathOrderWrong)

/-- 'platformfwlaw02.NspathDoesNotAlias': WHATEVER THE INPUT: true; the input reads as it did. -/
def nspathDoesNotAliasSpec : ChangeSpec := { name := "nspathDoesNotAlias", fn := fun _ => fun
  | [d1, d2] => { results := [.lit (.bool true)], args := [d1, d2] }
  | _ => none }
def nspathDoesNotAliasRow : OpenClaim := { program := "ytkalnblbplaheaadoor", sum := "4082a6859595cb6c452add460e8725cebaaba391200749e1a2849c3ed8883a61", func := "platformfw/platformfwlaw02.NspathDoesNotAlias", spec := "nspathDoesNotAlias", inPlace := ["internal/abi.NoEscape", "internal/bytealg.MakeNoZero", "internal/bytealg.CountString", "internal/bytealg.IndexByteString", "internal/bytealg.IndexString"], named := ["internal/bytealg.MaxLen", "unicode/utf8.first", "unicode/utf8.acceptRanges"], apart := false, laid := [("unicode/utf8.acceptRanges", laid_unicode_utf8_acceptRanges), ("unicode/utf8.first", laid_unicode_utf8_first)] }
def NspathDoesNotAliasSaid : Prop := nspathDoesNotAliasRow.holds Tryd.pinned (OpenSpec.ofChange nspathDoesNotAliasSpec)

/-- ITS FALSE NEIGHBOUR: 'it returns false'. Refute it at one input. -/
def nspathDoesNotAliasWrong : ChangeSpec := { name := "nspathDoesNotAlias", fn := fun _ => fun
  | [d1, d2] => { results := [.lit (.bool false)], args := [d1, d2] }
  | _ => none }
def NspathDoesNotAliasWrongFalsely : Prop := nspathDoesNotAliasRow.holds Tryd.pinned (OpenSpec.ofChange nspathDoesNotAliasWrong)

/- THE SECOND FORM. 'bulk': how many values and letters a reading holds, each counted each time it is reached (what is shared counts as often as it is met; a slice's spare places count too). A statement '..UptoSaid' is the law's where the arguments, and the package variables that the reading takes, are together of bulk at most 1048576: NARROWER than '..Said'. Prove '..Said' where nothing that the law and all that it calls make is longer than what came in: it says more and counts as full. Else prove '..UptoSaid'. A law counts once. -/
mutual
def uptoBulk {H : Type} : DataW H → Nat
  | .lit (.string bytes) => bytes.length + 1
  | .lit _ => 1
  | .nil => 1
  | .ptr d => uptoBulk d + 1
  | .slice elems spare => uptoBulkAll elems + uptoBulkAll spare + 1
  | .agg parts => uptoBulkAll parts + 1
  | .iface _ d => uptoBulk d + 1
  | .map entries => uptoBulkEntries entries + 1
  | .held _ => 1
def uptoBulkAll {H : Type} : List (DataW H) → Nat
  | [] => 0
  | d :: r => uptoBulk d + uptoBulkAll r
def uptoBulkEntries {H : Type} : List (Lit × DataW H) → Nat
  | [] => 0
  | x :: r => uptoBulkEntry x + uptoBulkEntries r
def uptoBulkEntry {H : Type} : Lit × DataW H → Nat
  | (.string bytes, d) => bytes.length + uptoBulk d + 1
  | (_, d) => uptoBulk d + 1
 end
def uptoSmall : (H : Type) → List (DataW H) → Bool := fun _ ds => decide (uptoBulkAll ds ≤ 1048576)
def OpenSpec.upto (s : _root_.Go.ChangeSpec) : _root_.Go.OpenSpec := { _root_.Go.OpenSpec.ofChange s with cond := some uptoSmall }

/-- 'platformfwlaw02.NspathFormats', WHERE WHAT IT READS IS OF BULK AT MOST 1048576: true; the input reads as it did. -/
def nspathFormatsUptoRow : OpenClaim := { program := "ytkalnblbplaheaadoor", sum := "4082a6859595cb6c452add460e8725cebaaba391200749e1a2849c3ed8883a61", func := "platformfw/platformfwlaw02.NspathFormats", spec := "nspathFormats", inPlace := ["internal/bytealg.CountString", "internal/bytealg.IndexByteString", "internal/bytealg.IndexString", "internal/abi.NoEscape", "internal/bytealg.MakeNoZero"], named := ["internal/bytealg.MaxLen", "unicode/utf8.first", "unicode/utf8.acceptRanges"], apart := false, laid := [("unicode/utf8.acceptRanges", laid_unicode_utf8_acceptRanges), ("unicode/utf8.first", laid_unicode_utf8_first)], narrowed := true }
def NspathFormatsUptoSaid : Prop := nspathFormatsUptoRow.holds Tryd.pinned (OpenSpec.upto nspathFormatsSpec)

/-- 'platformfwlaw02.NspathParsesExactly', WHERE WHAT IT READS IS OF BULK AT MOST 1048576: true; the input reads as it did. -/
def nspathParsesExactlyUptoRow : OpenClaim := { program := "ytkalnblbplaheaadoor", sum := "4082a6859595cb6c452add460e8725cebaaba391200749e1a2849c3ed8883a61", func := "platformfw/platformfwlaw02.NspathParsesExactly", spec := "nspathParsesExactly", inPlace := ["internal/bytealg.CountString", "internal/bytealg.IndexByteString", "internal/bytealg.IndexString", "internal/abi.NoEscape", "internal/bytealg.MakeNoZero"], named := ["internal/bytealg.MaxLen", "unicode/utf8.first", "unicode/utf8.acceptRanges"], apart := false, laid := [("unicode/utf8.acceptRanges", laid_unicode_utf8_acceptRanges), ("unicode/utf8.first", laid_unicode_utf8_first)], narrowed := true }
def NspathParsesExactlyUptoSaid : Prop := nspathParsesExactlyUptoRow.holds Tryd.pinned (OpenSpec.upto nspathParsesExactlySpec)

/-- 'platformfwlaw02.NspathRoundTrip', WHERE WHAT IT READS IS OF BULK AT MOST 1048576: true; the input reads as it did. -/
def nspathRoundTripUptoRow : OpenClaim := { program := "ytkalnblbplaheaadoor", sum := "4082a6859595cb6c452add460e8725cebaaba391200749e1a2849c3ed8883a61", func := "platformfw/platformfwlaw02.NspathRoundTrip", spec := "nspathRoundTrip", inPlace := ["internal/bytealg.CountString", "internal/bytealg.IndexByteString", "internal/bytealg.IndexString", "internal/abi.NoEscape", "internal/bytealg.MakeNoZero"], named := ["internal/bytealg.MaxLen", "unicode/utf8.first", "unicode/utf8.acceptRanges"], apart := false, laid := [("unicode/utf8.acceptRanges", laid_unicode_utf8_acceptRanges), ("unicode/utf8.first", laid_unicode_utf8_first)], narrowed := true }
def NspathRoundTripUptoSaid : Prop := nspathRoundTripUptoRow.holds Tryd.pinned (OpenSpec.upto nspathRoundTripSpec)

/-- 'platformfwlaw02.NspathJoins', WHERE WHAT IT READS IS OF BULK AT MOST 1048576: true; the input reads as it did. -/
def nspathJoinsUptoRow : OpenClaim := { program := "ytkalnblbplaheaadoor", sum := "4082a6859595cb6c452add460e8725cebaaba391200749e1a2849c3ed8883a61", func := "platformfw/platformfwlaw02.NspathJoins", spec := "nspathJoins", inPlace := ["internal/bytealg.CountString", "internal/bytealg.IndexByteString", "internal/bytealg.IndexString", "internal/abi.NoEscape", "internal/bytealg.MakeNoZero"], unfollowed := true, recurses := true, named := ["internal/bytealg.MaxLen", "unicode/utf8.first", "unicode/utf8.acceptRanges"], apart := false, laid := [("unicode/utf8.acceptRanges", laid_unicode_utf8_acceptRanges), ("unicode/utf8.first", laid_unicode_utf8_first)], narrowed := true }
def NspathJoinsUptoSaid : Prop := nspathJoinsUptoRow.holds Tryd.pinned (OpenSpec.upto nspathJoinsSpec)

/-- 'platformfwlaw02.NspathJoinIsRelative', WHERE WHAT IT READS IS OF BULK AT MOST 1048576: true; the input reads as it did. -/
def nspathJoinIsRelativeUptoRow : OpenClaim := { program := "ytkalnblbplaheaadoor", sum := "4082a6859595cb6c452add460e8725cebaaba391200749e1a2849c3ed8883a61", func := "platformfw/platformfwlaw02.NspathJoinIsRelative", spec := "nspathJoinIsRelative", inPlace := ["internal/bytealg.CountString", "internal/bytealg.IndexByteString", "internal/bytealg.IndexString", "internal/abi.NoEscape", "internal/bytealg.MakeNoZero"], named := ["internal/bytealg.MaxLen", "unicode/utf8.first", "unicode/utf8.acceptRanges"], apart := false, laid := [("unicode/utf8.acceptRanges", laid_unicode_utf8_acceptRanges), ("unicode/utf8.first", laid_unicode_utf8_first)], narrowed := true }
def NspathJoinIsRelativeUptoSaid : Prop := nspathJoinIsRelativeUptoRow.holds Tryd.pinned (OpenSpec.upto nspathJoinIsRelativeSpec)

/-- 'platformfwlaw02.NspathSearchOrder', WHERE WHAT IT READS IS OF BULK AT MOST 1048576: true; the input reads as it did. -/
def nspathSearchOrderUptoRow : OpenClaim := { program := "ytkalnblbplaheaadoor", sum := "4082a6859595cb6c452add460e8725cebaaba391200749e1a2849c3ed8883a61", func := "platformfw/platformfwlaw02.NspathSearchOrder", spec := "nspathSearchOrder", inPlace := ["internal/bytealg.CountString", "internal/bytealg.IndexByteString", "internal/bytealg.IndexString", "internal/abi.NoEscape", "internal/bytealg.MakeNoZero"], named := ["internal/bytealg.MaxLen", "unicode/utf8.first", "unicode/utf8.acceptRanges"], apart := false, laid := [("unicode/utf8.acceptRanges", laid_unicode_utf8_acceptRanges), ("unicode/utf8.first", laid_unicode_utf8_first)], narrowed := true }
def NspathSearchOrderUptoSaid : Prop := nspathSearchOrderUptoRow.holds Tryd.pinned (OpenSpec.upto nspathSearchOrderSpec)

/-- 'platformfwlaw02.NspathOrder', WHERE WHAT IT READS IS OF BULK AT MOST 1048576: true; the input reads as it did. -/
def nspathOrderUptoRow : OpenClaim := { program := "ytkalnblbplaheaadoor", sum := "4082a6859595cb6c452add460e8725cebaaba391200749e1a2849c3ed8883a61", func := "platformfw/platformfwlaw02.NspathOrder", spec := "nspathOrder", inPlace := ["internal/bytealg.CountString", "internal/bytealg.IndexByteString", "internal/bytealg.IndexString", "internal/abi.NoEscape", "internal/bytealg.MakeNoZero"], named := ["internal/bytealg.MaxLen", "unicode/utf8.first", "unicode/utf8.acceptRanges"], apart := false, laid := [("unicode/utf8.acceptRanges", laid_unicode_utf8_acceptRanges), ("unicode/utf8.first", laid_unicode_utf8_first)], narrowed := true }
def NspathOrderUptoSaid : Prop := nspathOrderUptoRow.holds Tryd.pinned (OpenSpec.upto nspathOrderSpec)

/-- 'platformfwlaw02.NspathDoesNotAlias', WHERE WHAT IT READS IS OF BULK AT MOST 1048576: true; the input reads as it did. -/
def nspathDoesNotAliasUptoRow : OpenClaim := { program := "ytkalnblbplaheaadoor", sum := "4082a6859595cb6c452add460e8725cebaaba391200749e1a2849c3ed8883a61", func := "platformfw/platformfwlaw02.NspathDoesNotAlias", spec := "nspathDoesNotAlias", inPlace := ["internal/abi.NoEscape", "internal/bytealg.MakeNoZero", "internal/bytealg.CountString", "internal/bytealg.IndexByteString", "internal/bytealg.IndexString"], named := ["internal/bytealg.MaxLen", "unicode/utf8.first", "unicode/utf8.acceptRanges"], apart := false, laid := [("unicode/utf8.acceptRanges", laid_unicode_utf8_acceptRanges), ("unicode/utf8.first", laid_unicode_utf8_first)], narrowed := true }
def NspathDoesNotAliasUptoSaid : Prop := nspathDoesNotAliasUptoRow.holds Tryd.pinned (OpenSpec.upto nspathDoesNotAliasSpec)

end Rows
end Go.Proofs.YtkalnblbplaheaaDoor
