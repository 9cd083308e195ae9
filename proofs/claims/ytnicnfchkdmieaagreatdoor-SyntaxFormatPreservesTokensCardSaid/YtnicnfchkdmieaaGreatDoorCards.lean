/-
  DERIVED. GIVEN WITH THE SEED: THE CARDS: each row of YtnicnfchkdmieaaGreatDoorRows.lean that lists a variable, with what it lists TIED to the program's text (the seventh form; the later family's looks); each row that meets fmt, with fmt's text TOLD by the authors' own Lean function (tested against real Go, not proved from fmt's source: count such statements apart). THE CARD IS WHAT COUNTS. Prove the row's statement (the work); the ties are given (YtnicnfchkdmieaaGreatDoorTie.lean); close each card by the builder's one call (the guide's Derived/Test/ToyasCard.lean, 'card_holds'). Laid BY PROGRAM, IN A SANDBOX (cutbox-door.mjs). By AI agents, Wed Nov 11 2026. No macro, syntax, notation, axiom, sorry.
-/
import Derived.Test.YtnicnfchkdmieaaGreatDoorRows
import GoSem.ClaimSeven
namespace Go.Proofs.YtnicnfchkdmieaaGreatDoor
namespace Rows

/-- THE TIED CARD OF 'platformfwlaw03.SyntaxParsesExactly'. -/
def syntaxParsesExactlyCard : Claim7 := { stood := { row := syntaxParsesExactlyRow, standIns := [], harness := (true, "21f0649b9660f0db68967e773500b20caa49ec353bb8629d3801a59bc981d682"), looks := false }, kinds := [], alts := [], laidByText := true, laidKinds := [.data, .data, .data, .data, .pinned], laidTests := true, laidLooks := .later }
def SyntaxParsesExactlyCardSaid : Prop := Claim7.holds Tryz.pinned (.plain (OpenSpec.ofChange syntaxParsesExactlySpec)) syntaxParsesExactlyCard

/-- THE TIED CARD OF 'platformfwlaw03.SyntaxMutations'. -/
def syntaxMutationsCard : Claim7 := { stood := { row := syntaxMutationsRow, standIns := [], harness := (true, "21f0649b9660f0db68967e773500b20caa49ec353bb8629d3801a59bc981d682"), looks := false }, kinds := [], alts := [], laidByText := true, laidKinds := [.data, .data, .data, .data, .pinned], laidTests := true, laidLooks := .later }
def SyntaxMutationsCardSaid : Prop := Claim7.holds Tryz.pinned (.plain (OpenSpec.ofChange syntaxMutationsSpec)) syntaxMutationsCard

/-- THE TIED CARD OF 'platformfwlaw03.SyntaxValidates'. -/
def syntaxValidatesCard : Claim7 := { stood := { row := syntaxValidatesRow, standIns := [], harness := (true, "21f0649b9660f0db68967e773500b20caa49ec353bb8629d3801a59bc981d682"), looks := false }, kinds := [], alts := [], laidByText := true, laidKinds := [.data, .data, .data, .data, .pinned], laidTests := true, laidLooks := .later }
def SyntaxValidatesCardSaid : Prop := Claim7.holds Tryz.pinned (.plain (OpenSpec.ofChange syntaxValidatesSpec)) syntaxValidatesCard

/-- THE TIED CARD OF 'platformfwlaw03.SyntaxSubtrees'. -/
def syntaxSubtreesCard : Claim7 := { stood := { row := syntaxSubtreesRow, standIns := [], harness := (true, "21f0649b9660f0db68967e773500b20caa49ec353bb8629d3801a59bc981d682"), looks := false }, kinds := [], alts := [], laidByText := true, laidKinds := [.data, .data, .data, .data, .pinned], laidTests := true, laidLooks := .later }
def SyntaxSubtreesCardSaid : Prop := Claim7.holds Tryz.pinned (.plain (OpenSpec.ofChange syntaxSubtreesSpec)) syntaxSubtreesCard

/-- THE TIED CARD OF 'platformfwlaw03.SyntaxRoundTrip'. -/
def syntaxRoundTripCard : Claim7 := { stood := { row := syntaxRoundTripRow, standIns := [], harness := (true, "21f0649b9660f0db68967e773500b20caa49ec353bb8629d3801a59bc981d682"), looks := false }, kinds := [], alts := [], laidByText := true, laidKinds := [.data, .data, .data, .data, .data, .data, .data, .pinned, .pinned], laidTests := true, laidLooks := .later }
def SyntaxRoundTripCardSaid : Prop := Claim7.holds Tryz.pinned (.plain (OpenSpec.ofChange syntaxRoundTripSpec)) syntaxRoundTripCard

/-- THE TIED CARD OF 'platformfwlaw03.SyntaxFormatPreservesTokens'. -/
def syntaxFormatPreservesTokensCard : Claim7 := { stood := { row := syntaxFormatPreservesTokensRow, standIns := [], harness := (true, "21f0649b9660f0db68967e773500b20caa49ec353bb8629d3801a59bc981d682"), looks := false }, kinds := [], alts := [], laidByText := true, laidKinds := [.data, .data, .data, .data, .data, .data, .data, .pinned, .pinned], laidTests := true, laidLooks := .later }
def SyntaxFormatPreservesTokensCardSaid : Prop := Claim7.holds Tryz.pinned (.plain (OpenSpec.ofChange syntaxFormatPreservesTokensSpec)) syntaxFormatPreservesTokensCard

/-- THE SECOND FORM's CARD OF 'platformfwlaw03.SyntaxParsesExactly'. -/
def syntaxParsesExactlyUptoCard : Claim7 := { stood := { row := syntaxParsesExactlyUptoRow, standIns := [], harness := (true, "21f0649b9660f0db68967e773500b20caa49ec353bb8629d3801a59bc981d682"), looks := false }, kinds := [], alts := [], laidByText := true, laidKinds := [.data, .data, .data, .data, .pinned], laidTests := true, laidLooks := .later }
def SyntaxParsesExactlyUptoCardSaid : Prop := Claim7.holds Tryz.pinned (.plain (OpenSpec.upto syntaxParsesExactlySpec)) syntaxParsesExactlyUptoCard

/-- THE SECOND FORM's CARD OF 'platformfwlaw03.SyntaxMutations'. -/
def syntaxMutationsUptoCard : Claim7 := { stood := { row := syntaxMutationsUptoRow, standIns := [], harness := (true, "21f0649b9660f0db68967e773500b20caa49ec353bb8629d3801a59bc981d682"), looks := false }, kinds := [], alts := [], laidByText := true, laidKinds := [.data, .data, .data, .data, .pinned], laidTests := true, laidLooks := .later }
def SyntaxMutationsUptoCardSaid : Prop := Claim7.holds Tryz.pinned (.plain (OpenSpec.upto syntaxMutationsSpec)) syntaxMutationsUptoCard

/-- THE SECOND FORM's CARD OF 'platformfwlaw03.SyntaxValidates'. -/
def syntaxValidatesUptoCard : Claim7 := { stood := { row := syntaxValidatesUptoRow, standIns := [], harness := (true, "21f0649b9660f0db68967e773500b20caa49ec353bb8629d3801a59bc981d682"), looks := false }, kinds := [], alts := [], laidByText := true, laidKinds := [.data, .data, .data, .data, .pinned], laidTests := true, laidLooks := .later }
def SyntaxValidatesUptoCardSaid : Prop := Claim7.holds Tryz.pinned (.plain (OpenSpec.upto syntaxValidatesSpec)) syntaxValidatesUptoCard

/-- THE SECOND FORM's CARD OF 'platformfwlaw03.SyntaxSubtrees'. -/
def syntaxSubtreesUptoCard : Claim7 := { stood := { row := syntaxSubtreesUptoRow, standIns := [], harness := (true, "21f0649b9660f0db68967e773500b20caa49ec353bb8629d3801a59bc981d682"), looks := false }, kinds := [], alts := [], laidByText := true, laidKinds := [.data, .data, .data, .data, .pinned], laidTests := true, laidLooks := .later }
def SyntaxSubtreesUptoCardSaid : Prop := Claim7.holds Tryz.pinned (.plain (OpenSpec.upto syntaxSubtreesSpec)) syntaxSubtreesUptoCard

/-- THE SECOND FORM's CARD OF 'platformfwlaw03.SyntaxRoundTrip'. -/
def syntaxRoundTripUptoCard : Claim7 := { stood := { row := syntaxRoundTripUptoRow, standIns := [], harness := (true, "21f0649b9660f0db68967e773500b20caa49ec353bb8629d3801a59bc981d682"), looks := false }, kinds := [], alts := [], laidByText := true, laidKinds := [.data, .data, .data, .data, .data, .data, .data, .pinned, .pinned], laidTests := true, laidLooks := .later }
def SyntaxRoundTripUptoCardSaid : Prop := Claim7.holds Tryz.pinned (.plain (OpenSpec.upto syntaxRoundTripSpec)) syntaxRoundTripUptoCard

/-- THE SECOND FORM's CARD OF 'platformfwlaw03.SyntaxFormatPreservesTokens'. -/
def syntaxFormatPreservesTokensUptoCard : Claim7 := { stood := { row := syntaxFormatPreservesTokensUptoRow, standIns := [], harness := (true, "21f0649b9660f0db68967e773500b20caa49ec353bb8629d3801a59bc981d682"), looks := false }, kinds := [], alts := [], laidByText := true, laidKinds := [.data, .data, .data, .data, .data, .data, .data, .pinned, .pinned], laidTests := true, laidLooks := .later }
def SyntaxFormatPreservesTokensUptoCardSaid : Prop := Claim7.holds Tryz.pinned (.plain (OpenSpec.upto syntaxFormatPreservesTokensSpec)) syntaxFormatPreservesTokensUptoCard
end Rows
end Go.Proofs.YtnicnfchkdmieaaGreatDoor
