/-
  DERIVED. GIVEN WITH THE SEED: THE CARDS: each row of YtnicnfchkdmieaaDoorRows.lean that lists a variable, with what it lists TIED to the program's text (the seventh form; the later family's looks); each row that meets fmt, with fmt's text TOLD by the authors' own Lean function (tested against real Go, not proved from fmt's source: count such statements apart). THE CARD IS WHAT COUNTS. Prove the row's statement (the work); the ties are given (YtnicnfchkdmieaaDoorTie.lean); close each card by the builder's one call (the guide's Derived/Test/ToyasCard.lean, 'card_holds'). Laid BY PROGRAM, IN A SANDBOX (cutbox-door.mjs). By AI agents, Wed Nov 11 2026. No macro, syntax, notation, axiom, sorry.
-/
import Derived.Test.YtnicnfchkdmieaaDoorRows
import GoSem.ClaimSeven
namespace Go.Proofs.YtnicnfchkdmieaaDoor
namespace Rows

/-- THE TIED CARD OF 'platformfwlaw03.SyntaxDepthLimit'. -/
def syntaxDepthLimitCard : Claim7 := { stood := { row := syntaxDepthLimitRow, standIns := [], harness := (true, "c3976cf839003852d5860a4d37a591c223e14525d7a9eee90ee14fc310a7501d"), looks := false }, kinds := [], alts := [], laidByText := true, laidKinds := [.data, .data, .data, .data, .pinned], laidTests := true, laidLooks := .later }
def SyntaxDepthLimitCardSaid : Prop := Claim7.holds Tryd.pinned (.plain (OpenSpec.ofChange syntaxDepthLimitSpec)) syntaxDepthLimitCard

/-- THE SECOND FORM's CARD OF 'platformfwlaw03.SyntaxDepthLimit'. -/
def syntaxDepthLimitUptoCard : Claim7 := { stood := { row := syntaxDepthLimitUptoRow, standIns := [], harness := (true, "c3976cf839003852d5860a4d37a591c223e14525d7a9eee90ee14fc310a7501d"), looks := false }, kinds := [], alts := [], laidByText := true, laidKinds := [.data, .data, .data, .data, .pinned], laidTests := true, laidLooks := .later }
def SyntaxDepthLimitUptoCardSaid : Prop := Claim7.holds Tryd.pinned (.plain (OpenSpec.upto syntaxDepthLimitSpec)) syntaxDepthLimitUptoCard
end Rows
end Go.Proofs.YtnicnfchkdmieaaDoor
