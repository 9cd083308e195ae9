/-
  DERIVED. GIVEN WITH THE SEED: THE CARDS: each row of YtebmkalgdbkijaaDoorRows.lean that lists a variable, with what it lists TIED to the program's text (the seventh form; the later family's looks); each row that meets fmt, with fmt's text TOLD by the authors' own Lean function (tested against real Go, not proved from fmt's source: count such statements apart). THE CARD IS WHAT COUNTS. Prove the row's statement (the work); the ties are given (YtebmkalgdbkijaaDoorTie.lean); close each card by the builder's one call (the guide's Derived/Test/ToyasCard.lean, 'card_holds'). Laid BY PROGRAM, IN A SANDBOX (cutbox-door.mjs). By AI agents, Wed Nov 11 2026. No macro, syntax, notation, axiom, sorry.
-/
import Derived.Test.YtebmkalgdbkijaaDoorRows
import GoSem.ClaimSeven
namespace Go.Proofs.YtebmkalgdbkijaaDoor
namespace Rows

/-- THE TIED CARD OF 'platformfwlaw01.TokenRoundTrip'. -/
def tokenRoundTripCard : Claim7 := { stood := { row := tokenRoundTripRow, standIns := [], harness := (true, "f78775648d70497ed075ead84fc68c20840684e93131029f1d90afbbaaa82ebc"), looks := false }, kinds := [], alts := [], laidByText := true, laidKinds := [.data, .data, .data, .data, .pinned, .pinned], laidTests := true, laidLooks := .later }
def TokenRoundTripCardSaid : Prop := Claim7.holds Tryd.pinned (.plain (OpenSpec.ofChange tokenRoundTripSpec)) tokenRoundTripCard

/-- THE SECOND FORM's CARD OF 'platformfwlaw01.TokenRoundTrip'. -/
def tokenRoundTripUptoCard : Claim7 := { stood := { row := tokenRoundTripUptoRow, standIns := [], harness := (true, "f78775648d70497ed075ead84fc68c20840684e93131029f1d90afbbaaa82ebc"), looks := false }, kinds := [], alts := [], laidByText := true, laidKinds := [.data, .data, .data, .data, .pinned, .pinned], laidTests := true, laidLooks := .later }
def TokenRoundTripUptoCardSaid : Prop := Claim7.holds Tryd.pinned (.plain (OpenSpec.upto tokenRoundTripSpec)) tokenRoundTripUptoCard
end Rows
end Go.Proofs.YtebmkalgdbkijaaDoor
