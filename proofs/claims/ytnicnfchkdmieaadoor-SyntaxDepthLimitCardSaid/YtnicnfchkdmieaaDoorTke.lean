/- nameEnd of the reference: the walk. -/
import Derived.Test.YtnicnfchkdmieaaDoorTkd
namespace Go.Proofs.YtnicnfchkdmieaaDoor
open Go.RowKit
set_option linter.unusedVariables false
set_option linter.unusedSimpArgs false
attribute [local go_sem] ByteArray.mk_append_mk bs_get bs_cut bs_end

/-- The index behind a name at i, or -1. -/
def nameI (o : Option Nat) (i : Nat) : Int := match o with
  | some m => ((i + m : Nat) : Int)
  | none => -1
theorem idEnd_word (s : List UInt8) (j : Nat) : idEnd s j = j + wordN (s.drop j) := rfl
end Go.Proofs.YtnicnfchkdmieaaDoor
