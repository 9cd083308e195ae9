/-
  DERIVED. GIVEN WITH THE SEED: THE CARDS: each row of YteifmjhkedhomaaDoorRows.lean that lists a variable, with what it lists TIED to the program's text (the seventh form; the later family's looks); each row that meets fmt, with fmt's text TOLD by the authors' own Lean function (tested against real Go, not proved from fmt's source: count such statements apart). THE CARD IS WHAT COUNTS. Prove the row's statement (the work); the ties are given (YteifmjhkedhomaaDoorTie.lean); close each card by the builder's one call (the guide's Derived/Test/ToyasCard.lean, 'card_holds'). Laid BY PROGRAM, IN A SANDBOX (cutbox-door.mjs). By AI agents, Wed Nov 11 2026. No macro, syntax, notation, axiom, sorry.
-/
import Derived.Test.YteifmjhkedhomaaDoorRows
import GoSem.ClaimSeven
namespace Go.Proofs.YteifmjhkedhomaaDoor
namespace Rows

/-- THE TIED CARD OF 'platformfwlaw08.ValueUnary'. -/
def valueUnaryCard : Claim7 := { stood := { row := valueUnaryRow, standIns := [], harness := (true, "d05eecab9da794386d4dd0e55fd496e715228e997362d6c81142778d15aea42f"), looks := false }, kinds := [], alts := [], laidByText := true, laidKinds := [.data, .data, .data, .data, .pinned, .pinned], laidTests := true, laidLooks := .later }
def ValueUnaryCardSaid : Prop := Claim7.holds Tryd.pinned (.plain (OpenSpec.ofChange valueUnarySpec)) valueUnaryCard

/-- THE TIED CARD OF 'platformfwlaw08.ValueRoundTrip'. -/
def valueRoundTripCard : Claim7 := { stood := { row := valueRoundTripRow, standIns := [], harness := (true, "d05eecab9da794386d4dd0e55fd496e715228e997362d6c81142778d15aea42f"), looks := false }, kinds := [], alts := [], laidByText := true, laidKinds := [.data, .data, .data, .data, .pinned, .pinned], laidTests := true, laidLooks := .later }
def ValueRoundTripCardSaid : Prop := Claim7.holds Tryd.pinned (.plain (OpenSpec.ofChange valueRoundTripSpec)) valueRoundTripCard

/-- THE TIED CARD OF 'platformfwlaw08.ValueArithmetic'. -/
def valueArithmeticCard : Claim7 := { stood := { row := valueArithmeticRow, standIns := [], harness := (true, "d05eecab9da794386d4dd0e55fd496e715228e997362d6c81142778d15aea42f"), looks := false }, kinds := [], alts := [], laidByText := true, laidKinds := [.data, .data, .data, .data, .pinned, .pinned], laidTests := true, laidLooks := .later }
def ValueArithmeticCardSaid : Prop := Claim7.holds Tryd.pinned (.plain (OpenSpec.ofChange valueArithmeticSpec)) valueArithmeticCard

/-- THE SECOND FORM's CARD OF 'platformfwlaw08.ValueUnary'. -/
def valueUnaryUptoCard : Claim7 := { stood := { row := valueUnaryUptoRow, standIns := [], harness := (true, "d05eecab9da794386d4dd0e55fd496e715228e997362d6c81142778d15aea42f"), looks := false }, kinds := [], alts := [], laidByText := true, laidKinds := [.data, .data, .data, .data, .pinned, .pinned], laidTests := true, laidLooks := .later }
def ValueUnaryUptoCardSaid : Prop := Claim7.holds Tryd.pinned (.plain (OpenSpec.upto valueUnarySpec)) valueUnaryUptoCard

/-- THE SECOND FORM's CARD OF 'platformfwlaw08.ValueRoundTrip'. -/
def valueRoundTripUptoCard : Claim7 := { stood := { row := valueRoundTripUptoRow, standIns := [], harness := (true, "d05eecab9da794386d4dd0e55fd496e715228e997362d6c81142778d15aea42f"), looks := false }, kinds := [], alts := [], laidByText := true, laidKinds := [.data, .data, .data, .data, .pinned, .pinned], laidTests := true, laidLooks := .later }
def ValueRoundTripUptoCardSaid : Prop := Claim7.holds Tryd.pinned (.plain (OpenSpec.upto valueRoundTripSpec)) valueRoundTripUptoCard

/-- THE SECOND FORM's CARD OF 'platformfwlaw08.ValueArithmetic'. -/
def valueArithmeticUptoCard : Claim7 := { stood := { row := valueArithmeticUptoRow, standIns := [], harness := (true, "d05eecab9da794386d4dd0e55fd496e715228e997362d6c81142778d15aea42f"), looks := false }, kinds := [], alts := [], laidByText := true, laidKinds := [.data, .data, .data, .data, .pinned, .pinned], laidTests := true, laidLooks := .later }
def ValueArithmeticUptoCardSaid : Prop := Claim7.holds Tryd.pinned (.plain (OpenSpec.upto valueArithmeticSpec)) valueArithmeticUptoCard
end Rows
end Go.Proofs.YteifmjhkedhomaaDoor
