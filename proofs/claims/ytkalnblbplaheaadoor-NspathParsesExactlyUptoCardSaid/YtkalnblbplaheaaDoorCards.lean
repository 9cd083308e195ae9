/-
  DERIVED. GIVEN WITH THE SEED: THE CARDS: each row of YtkalnblbplaheaaDoorRows.lean that lists a variable, with what it lists TIED to the program's text (the seventh form; the later family's looks); each row that meets fmt, with fmt's text TOLD by the authors' own Lean function (tested against real Go, not proved from fmt's source: count such statements apart). THE CARD IS WHAT COUNTS. Prove the row's statement (the work); the ties are given (YtkalnblbplaheaaDoorTie.lean); close each card by the builder's one call (the guide's Derived/Test/ToyasCard.lean, 'card_holds'). Laid BY PROGRAM, IN A SANDBOX (cutbox-door.mjs). By AI agents, Wed Nov 11 2026. No macro, syntax, notation, axiom, sorry.
-/
import Derived.Test.YtkalnblbplaheaaDoorRows
import GoSem.ClaimSeven
namespace Go.Proofs.YtkalnblbplaheaaDoor
namespace Rows

/-- THE TIED CARD OF 'platformfwlaw02.NspathFormats'. -/
def nspathFormatsCard : Claim7 := { stood := { row := nspathFormatsRow, standIns := [], harness := (true, "137dcc56c6c71b5ab9d2ad8a90d5422cc75acbe52c7e848c724c316dfdc8d379"), looks := false }, kinds := [], alts := [], laidByText := true, laidKinds := [.data, .pinned], laidTests := true, laidLooks := .later }
def NspathFormatsCardSaid : Prop := Claim7.holds Tryd.pinned (.plain (OpenSpec.ofChange nspathFormatsSpec)) nspathFormatsCard

/-- THE TIED CARD OF 'platformfwlaw02.NspathParsesExactly'. -/
def nspathParsesExactlyCard : Claim7 := { stood := { row := nspathParsesExactlyRow, standIns := [], harness := (true, "137dcc56c6c71b5ab9d2ad8a90d5422cc75acbe52c7e848c724c316dfdc8d379"), looks := false }, kinds := [], alts := [], laidByText := true, laidKinds := [.data, .pinned], laidTests := true, laidLooks := .later }
def NspathParsesExactlyCardSaid : Prop := Claim7.holds Tryd.pinned (.plain (OpenSpec.ofChange nspathParsesExactlySpec)) nspathParsesExactlyCard

/-- THE TIED CARD OF 'platformfwlaw02.NspathRoundTrip'. -/
def nspathRoundTripCard : Claim7 := { stood := { row := nspathRoundTripRow, standIns := [], harness := (true, "137dcc56c6c71b5ab9d2ad8a90d5422cc75acbe52c7e848c724c316dfdc8d379"), looks := false }, kinds := [], alts := [], laidByText := true, laidKinds := [.data, .pinned], laidTests := true, laidLooks := .later }
def NspathRoundTripCardSaid : Prop := Claim7.holds Tryd.pinned (.plain (OpenSpec.ofChange nspathRoundTripSpec)) nspathRoundTripCard

/-- THE TIED CARD OF 'platformfwlaw02.NspathJoins'. -/
def nspathJoinsCard : Claim7 := { stood := { row := nspathJoinsRow, standIns := [], harness := (true, "137dcc56c6c71b5ab9d2ad8a90d5422cc75acbe52c7e848c724c316dfdc8d379"), looks := false }, kinds := [], alts := [], laidByText := true, laidKinds := [.data, .pinned], laidTests := true, laidLooks := .later }
def NspathJoinsCardSaid : Prop := Claim7.holds Tryd.pinned (.plain (OpenSpec.ofChange nspathJoinsSpec)) nspathJoinsCard

/-- THE TIED CARD OF 'platformfwlaw02.NspathJoinIsRelative'. -/
def nspathJoinIsRelativeCard : Claim7 := { stood := { row := nspathJoinIsRelativeRow, standIns := [], harness := (true, "137dcc56c6c71b5ab9d2ad8a90d5422cc75acbe52c7e848c724c316dfdc8d379"), looks := false }, kinds := [], alts := [], laidByText := true, laidKinds := [.data, .pinned], laidTests := true, laidLooks := .later }
def NspathJoinIsRelativeCardSaid : Prop := Claim7.holds Tryd.pinned (.plain (OpenSpec.ofChange nspathJoinIsRelativeSpec)) nspathJoinIsRelativeCard

/-- THE TIED CARD OF 'platformfwlaw02.NspathSearchOrder'. -/
def nspathSearchOrderCard : Claim7 := { stood := { row := nspathSearchOrderRow, standIns := [], harness := (true, "137dcc56c6c71b5ab9d2ad8a90d5422cc75acbe52c7e848c724c316dfdc8d379"), looks := false }, kinds := [], alts := [], laidByText := true, laidKinds := [.data, .pinned], laidTests := true, laidLooks := .later }
def NspathSearchOrderCardSaid : Prop := Claim7.holds Tryd.pinned (.plain (OpenSpec.ofChange nspathSearchOrderSpec)) nspathSearchOrderCard

/-- THE TIED CARD OF 'platformfwlaw02.NspathOrder'. -/
def nspathOrderCard : Claim7 := { stood := { row := nspathOrderRow, standIns := [], harness := (true, "137dcc56c6c71b5ab9d2ad8a90d5422cc75acbe52c7e848c724c316dfdc8d379"), looks := false }, kinds := [], alts := [], laidByText := true, laidKinds := [.data, .pinned], laidTests := true, laidLooks := .later }
def NspathOrderCardSaid : Prop := Claim7.holds Tryd.pinned (.plain (OpenSpec.ofChange nspathOrderSpec)) nspathOrderCard

/-- THE TIED CARD OF 'platformfwlaw02.NspathDoesNotAlias'. -/
def nspathDoesNotAliasCard : Claim7 := { stood := { row := nspathDoesNotAliasRow, standIns := [], harness := (true, "137dcc56c6c71b5ab9d2ad8a90d5422cc75acbe52c7e848c724c316dfdc8d379"), looks := false }, kinds := [], alts := [], laidByText := true, laidKinds := [.data, .pinned], laidTests := true, laidLooks := .later }
def NspathDoesNotAliasCardSaid : Prop := Claim7.holds Tryd.pinned (.plain (OpenSpec.ofChange nspathDoesNotAliasSpec)) nspathDoesNotAliasCard

/-- THE SECOND FORM's CARD OF 'platformfwlaw02.NspathFormats'. -/
def nspathFormatsUptoCard : Claim7 := { stood := { row := nspathFormatsUptoRow, standIns := [], harness := (true, "137dcc56c6c71b5ab9d2ad8a90d5422cc75acbe52c7e848c724c316dfdc8d379"), looks := false }, kinds := [], alts := [], laidByText := true, laidKinds := [.data, .pinned], laidTests := true, laidLooks := .later }
def NspathFormatsUptoCardSaid : Prop := Claim7.holds Tryd.pinned (.plain (OpenSpec.upto nspathFormatsSpec)) nspathFormatsUptoCard

/-- THE SECOND FORM's CARD OF 'platformfwlaw02.NspathParsesExactly'. -/
def nspathParsesExactlyUptoCard : Claim7 := { stood := { row := nspathParsesExactlyUptoRow, standIns := [], harness := (true, "137dcc56c6c71b5ab9d2ad8a90d5422cc75acbe52c7e848c724c316dfdc8d379"), looks := false }, kinds := [], alts := [], laidByText := true, laidKinds := [.data, .pinned], laidTests := true, laidLooks := .later }
def NspathParsesExactlyUptoCardSaid : Prop := Claim7.holds Tryd.pinned (.plain (OpenSpec.upto nspathParsesExactlySpec)) nspathParsesExactlyUptoCard

/-- THE SECOND FORM's CARD OF 'platformfwlaw02.NspathRoundTrip'. -/
def nspathRoundTripUptoCard : Claim7 := { stood := { row := nspathRoundTripUptoRow, standIns := [], harness := (true, "137dcc56c6c71b5ab9d2ad8a90d5422cc75acbe52c7e848c724c316dfdc8d379"), looks := false }, kinds := [], alts := [], laidByText := true, laidKinds := [.data, .pinned], laidTests := true, laidLooks := .later }
def NspathRoundTripUptoCardSaid : Prop := Claim7.holds Tryd.pinned (.plain (OpenSpec.upto nspathRoundTripSpec)) nspathRoundTripUptoCard

/-- THE SECOND FORM's CARD OF 'platformfwlaw02.NspathJoins'. -/
def nspathJoinsUptoCard : Claim7 := { stood := { row := nspathJoinsUptoRow, standIns := [], harness := (true, "137dcc56c6c71b5ab9d2ad8a90d5422cc75acbe52c7e848c724c316dfdc8d379"), looks := false }, kinds := [], alts := [], laidByText := true, laidKinds := [.data, .pinned], laidTests := true, laidLooks := .later }
def NspathJoinsUptoCardSaid : Prop := Claim7.holds Tryd.pinned (.plain (OpenSpec.upto nspathJoinsSpec)) nspathJoinsUptoCard

/-- THE SECOND FORM's CARD OF 'platformfwlaw02.NspathJoinIsRelative'. -/
def nspathJoinIsRelativeUptoCard : Claim7 := { stood := { row := nspathJoinIsRelativeUptoRow, standIns := [], harness := (true, "137dcc56c6c71b5ab9d2ad8a90d5422cc75acbe52c7e848c724c316dfdc8d379"), looks := false }, kinds := [], alts := [], laidByText := true, laidKinds := [.data, .pinned], laidTests := true, laidLooks := .later }
def NspathJoinIsRelativeUptoCardSaid : Prop := Claim7.holds Tryd.pinned (.plain (OpenSpec.upto nspathJoinIsRelativeSpec)) nspathJoinIsRelativeUptoCard

/-- THE SECOND FORM's CARD OF 'platformfwlaw02.NspathSearchOrder'. -/
def nspathSearchOrderUptoCard : Claim7 := { stood := { row := nspathSearchOrderUptoRow, standIns := [], harness := (true, "137dcc56c6c71b5ab9d2ad8a90d5422cc75acbe52c7e848c724c316dfdc8d379"), looks := false }, kinds := [], alts := [], laidByText := true, laidKinds := [.data, .pinned], laidTests := true, laidLooks := .later }
def NspathSearchOrderUptoCardSaid : Prop := Claim7.holds Tryd.pinned (.plain (OpenSpec.upto nspathSearchOrderSpec)) nspathSearchOrderUptoCard

/-- THE SECOND FORM's CARD OF 'platformfwlaw02.NspathOrder'. -/
def nspathOrderUptoCard : Claim7 := { stood := { row := nspathOrderUptoRow, standIns := [], harness := (true, "137dcc56c6c71b5ab9d2ad8a90d5422cc75acbe52c7e848c724c316dfdc8d379"), looks := false }, kinds := [], alts := [], laidByText := true, laidKinds := [.data, .pinned], laidTests := true, laidLooks := .later }
def NspathOrderUptoCardSaid : Prop := Claim7.holds Tryd.pinned (.plain (OpenSpec.upto nspathOrderSpec)) nspathOrderUptoCard

/-- THE SECOND FORM's CARD OF 'platformfwlaw02.NspathDoesNotAlias'. -/
def nspathDoesNotAliasUptoCard : Claim7 := { stood := { row := nspathDoesNotAliasUptoRow, standIns := [], harness := (true, "137dcc56c6c71b5ab9d2ad8a90d5422cc75acbe52c7e848c724c316dfdc8d379"), looks := false }, kinds := [], alts := [], laidByText := true, laidKinds := [.data, .pinned], laidTests := true, laidLooks := .later }
def NspathDoesNotAliasUptoCardSaid : Prop := Claim7.holds Tryd.pinned (.plain (OpenSpec.upto nspathDoesNotAliasSpec)) nspathDoesNotAliasUptoCard
end Rows
end Go.Proofs.YtkalnblbplaheaaDoor
