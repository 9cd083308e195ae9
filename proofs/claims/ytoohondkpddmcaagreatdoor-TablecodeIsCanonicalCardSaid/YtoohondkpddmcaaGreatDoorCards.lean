/-
  DERIVED. GIVEN WITH THE SEED: THE CARDS: each row of YtoohondkpddmcaaGreatDoorRows.lean that lists a variable, with what it lists TIED to the program's text (the seventh form; the later family's looks); each row that meets fmt, with fmt's text TOLD by the authors' own Lean function (tested against real Go, not proved from fmt's source: count such statements apart). THE CARD IS WHAT COUNTS. Prove the row's statement (the work); the ties are given (YtoohondkpddmcaaGreatDoorTie.lean); close each card by the builder's one call (the guide's Derived/Test/ToyasCard.lean, 'card_holds'). Laid BY PROGRAM, IN A SANDBOX (cutbox-door.mjs). By AI agents, Wed Nov 11 2026. No macro, syntax, notation, axiom, sorry.
-/
import Derived.Test.YtoohondkpddmcaaGreatDoorRows
import GoSem.ClaimSeven
namespace Go.Proofs.YtoohondkpddmcaaGreatDoor
namespace Rows

/-- THE TIED CARD OF 'platformfwlaw01.TokenOfPrograms'. -/
def tokenOfProgramsCard : Claim7 := { stood := { row := tokenOfProgramsRow, standIns := [], harness := (true, "d3e9e670ccfe7e437fbbd52a1fd6b4a9d8c97af4c4e9092d3507e4f9d9024568"), looks := false }, kinds := [], alts := [], laidByText := true, laidKinds := [.data, .data, .data, .data, .pinned, .pinned], laidTests := true, laidLooks := .later }
def TokenOfProgramsCardSaid : Prop := Claim7.holds Tryz.pinned (.plain (OpenSpec.ofChange tokenOfProgramsSpec)) tokenOfProgramsCard

/-- THE TIED CARD OF 'platformfwlaw06.TablecodeCompiles'. -/
def tablecodeCompilesCard : Claim7 := { stood := { row := tablecodeCompilesRow, standIns := [], harness := (true, "d3e9e670ccfe7e437fbbd52a1fd6b4a9d8c97af4c4e9092d3507e4f9d9024568"), looks := false }, kinds := [], alts := [], laidByText := true, laidKinds := [.data, .data, .data, .data, .pinned], laidTests := true, laidLooks := .later }
def TablecodeCompilesCardSaid : Prop := Claim7.holds Tryz.pinned (.plain (OpenSpec.ofChange tablecodeCompilesSpec)) tablecodeCompilesCard

/-- THE TIED CARD OF 'platformfwlaw06.TablecodeRoundTrip'. -/
def tablecodeRoundTripCard : Claim7 := { stood := { row := tablecodeRoundTripRow, standIns := [], harness := (true, "d3e9e670ccfe7e437fbbd52a1fd6b4a9d8c97af4c4e9092d3507e4f9d9024568"), looks := false }, kinds := [], alts := [], laidByText := true, laidKinds := [.data, .data, .data, .data, .pinned], laidTests := true, laidLooks := .later }
def TablecodeRoundTripCardSaid : Prop := Claim7.holds Tryz.pinned (.plain (OpenSpec.ofChange tablecodeRoundTripSpec)) tablecodeRoundTripCard

/-- THE TIED CARD OF 'platformfwlaw06.TablecodeIsCanonical'. -/
def tablecodeIsCanonicalCard : Claim7 := { stood := { row := tablecodeIsCanonicalRow, standIns := [], harness := (true, "d3e9e670ccfe7e437fbbd52a1fd6b4a9d8c97af4c4e9092d3507e4f9d9024568"), looks := false }, kinds := [], alts := [], laidByText := true, laidKinds := [.data, .data, .data, .data, .pinned], laidTests := true, laidLooks := .later }
def TablecodeIsCanonicalCardSaid : Prop := Claim7.holds Tryz.pinned (.plain (OpenSpec.ofChange tablecodeIsCanonicalSpec)) tablecodeIsCanonicalCard

/-- THE TIED CARD OF 'platformfwlaw06.TablecodeDisassembles'. -/
def tablecodeDisassemblesCard : Claim7 := { stood := { row := tablecodeDisassemblesRow, standIns := [], harness := (true, "d3e9e670ccfe7e437fbbd52a1fd6b4a9d8c97af4c4e9092d3507e4f9d9024568"), looks := false }, kinds := [], alts := [], laidByText := true, laidKinds := [.data, .data, .data, .data, .pinned], laidTests := true, laidLooks := .later }
def TablecodeDisassemblesCardSaid : Prop := Claim7.holds Tryz.pinned (.plain (OpenSpec.ofChange tablecodeDisassemblesSpec)) tablecodeDisassemblesCard

/-- THE TIED CARD OF 'platformfwlaw06.TablecodePrefixes'. -/
def tablecodePrefixesCard : Claim7 := { stood := { row := tablecodePrefixesRow, standIns := [], harness := (true, "d3e9e670ccfe7e437fbbd52a1fd6b4a9d8c97af4c4e9092d3507e4f9d9024568"), looks := false }, kinds := [], alts := [], laidByText := true, laidKinds := [.data, .data, .data, .data, .pinned], laidTests := true, laidLooks := .later }
def TablecodePrefixesCardSaid : Prop := Claim7.holds Tryz.pinned (.plain (OpenSpec.ofChange tablecodePrefixesSpec)) tablecodePrefixesCard

/-- THE TIED CARD OF 'platformfwlaw06.TablecodeConcatenates'. -/
def tablecodeConcatenatesCard : Claim7 := { stood := { row := tablecodeConcatenatesRow, standIns := [], harness := (true, "d3e9e670ccfe7e437fbbd52a1fd6b4a9d8c97af4c4e9092d3507e4f9d9024568"), looks := false }, kinds := [], alts := [], laidByText := true, laidKinds := [.data, .data, .data, .data, .pinned], laidTests := true, laidLooks := .later }
def TablecodeConcatenatesCardSaid : Prop := Claim7.holds Tryz.pinned (.plain (OpenSpec.ofChange tablecodeConcatenatesSpec)) tablecodeConcatenatesCard

/-- THE SECOND FORM's CARD OF 'platformfwlaw01.TokenOfPrograms'. -/
def tokenOfProgramsUptoCard : Claim7 := { stood := { row := tokenOfProgramsUptoRow, standIns := [], harness := (true, "d3e9e670ccfe7e437fbbd52a1fd6b4a9d8c97af4c4e9092d3507e4f9d9024568"), looks := false }, kinds := [], alts := [], laidByText := true, laidKinds := [.data, .data, .data, .data, .pinned, .pinned], laidTests := true, laidLooks := .later }
def TokenOfProgramsUptoCardSaid : Prop := Claim7.holds Tryz.pinned (.plain (OpenSpec.upto tokenOfProgramsSpec)) tokenOfProgramsUptoCard

/-- THE SECOND FORM's CARD OF 'platformfwlaw06.TablecodeCompiles'. -/
def tablecodeCompilesUptoCard : Claim7 := { stood := { row := tablecodeCompilesUptoRow, standIns := [], harness := (true, "d3e9e670ccfe7e437fbbd52a1fd6b4a9d8c97af4c4e9092d3507e4f9d9024568"), looks := false }, kinds := [], alts := [], laidByText := true, laidKinds := [.data, .data, .data, .data, .pinned], laidTests := true, laidLooks := .later }
def TablecodeCompilesUptoCardSaid : Prop := Claim7.holds Tryz.pinned (.plain (OpenSpec.upto tablecodeCompilesSpec)) tablecodeCompilesUptoCard

/-- THE SECOND FORM's CARD OF 'platformfwlaw06.TablecodeRoundTrip'. -/
def tablecodeRoundTripUptoCard : Claim7 := { stood := { row := tablecodeRoundTripUptoRow, standIns := [], harness := (true, "d3e9e670ccfe7e437fbbd52a1fd6b4a9d8c97af4c4e9092d3507e4f9d9024568"), looks := false }, kinds := [], alts := [], laidByText := true, laidKinds := [.data, .data, .data, .data, .pinned], laidTests := true, laidLooks := .later }
def TablecodeRoundTripUptoCardSaid : Prop := Claim7.holds Tryz.pinned (.plain (OpenSpec.upto tablecodeRoundTripSpec)) tablecodeRoundTripUptoCard

/-- THE SECOND FORM's CARD OF 'platformfwlaw06.TablecodeIsCanonical'. -/
def tablecodeIsCanonicalUptoCard : Claim7 := { stood := { row := tablecodeIsCanonicalUptoRow, standIns := [], harness := (true, "d3e9e670ccfe7e437fbbd52a1fd6b4a9d8c97af4c4e9092d3507e4f9d9024568"), looks := false }, kinds := [], alts := [], laidByText := true, laidKinds := [.data, .data, .data, .data, .pinned], laidTests := true, laidLooks := .later }
def TablecodeIsCanonicalUptoCardSaid : Prop := Claim7.holds Tryz.pinned (.plain (OpenSpec.upto tablecodeIsCanonicalSpec)) tablecodeIsCanonicalUptoCard

/-- THE SECOND FORM's CARD OF 'platformfwlaw06.TablecodeDisassembles'. -/
def tablecodeDisassemblesUptoCard : Claim7 := { stood := { row := tablecodeDisassemblesUptoRow, standIns := [], harness := (true, "d3e9e670ccfe7e437fbbd52a1fd6b4a9d8c97af4c4e9092d3507e4f9d9024568"), looks := false }, kinds := [], alts := [], laidByText := true, laidKinds := [.data, .data, .data, .data, .pinned], laidTests := true, laidLooks := .later }
def TablecodeDisassemblesUptoCardSaid : Prop := Claim7.holds Tryz.pinned (.plain (OpenSpec.upto tablecodeDisassemblesSpec)) tablecodeDisassemblesUptoCard

/-- THE SECOND FORM's CARD OF 'platformfwlaw06.TablecodePrefixes'. -/
def tablecodePrefixesUptoCard : Claim7 := { stood := { row := tablecodePrefixesUptoRow, standIns := [], harness := (true, "d3e9e670ccfe7e437fbbd52a1fd6b4a9d8c97af4c4e9092d3507e4f9d9024568"), looks := false }, kinds := [], alts := [], laidByText := true, laidKinds := [.data, .data, .data, .data, .pinned], laidTests := true, laidLooks := .later }
def TablecodePrefixesUptoCardSaid : Prop := Claim7.holds Tryz.pinned (.plain (OpenSpec.upto tablecodePrefixesSpec)) tablecodePrefixesUptoCard

/-- THE SECOND FORM's CARD OF 'platformfwlaw06.TablecodeConcatenates'. -/
def tablecodeConcatenatesUptoCard : Claim7 := { stood := { row := tablecodeConcatenatesUptoRow, standIns := [], harness := (true, "d3e9e670ccfe7e437fbbd52a1fd6b4a9d8c97af4c4e9092d3507e4f9d9024568"), looks := false }, kinds := [], alts := [], laidByText := true, laidKinds := [.data, .data, .data, .data, .pinned], laidTests := true, laidLooks := .later }
def TablecodeConcatenatesUptoCardSaid : Prop := Claim7.holds Tryz.pinned (.plain (OpenSpec.upto tablecodeConcatenatesSpec)) tablecodeConcatenatesUptoCard
end Rows
end Go.Proofs.YtoohondkpddmcaaGreatDoor
