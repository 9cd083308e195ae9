/- Sm -/
import Derived.Test.YtoohondkpddmcaaGreatDoorVav
set_option linter.unusedVariables false
set_option linter.unusedSimpArgs false
namespace Go.Proofs.YtoohondkpddmcaaGreatDoor
open Go.RowKit
attribute [local go_sem] ByteArray.mk_append_mk bs_get bs_cut bs_end run_kids
end Go.Proofs.YtoohondkpddmcaaGreatDoor
