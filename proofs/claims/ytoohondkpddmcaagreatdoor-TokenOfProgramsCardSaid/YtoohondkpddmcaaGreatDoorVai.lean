/- Tkk -/
import Derived.Test.YtoohondkpddmcaaGreatDoorVag
import Derived.Test.YtoohondkpddmcaaGreatDoorVah
set_option linter.unusedVariables false
set_option linter.unusedSimpArgs false
namespace Go.Proofs.YtoohondkpddmcaaGreatDoor
open Go.RowKit
attribute [local go_sem] ByteArray.mk_append_mk bs_get bs_cut bs_end by_conv1
theorem by_conv1d (w : World) (x : Int) : Sem.run Tryz.prog (convert 48 9 (.slice (some ⟨w.heap.size,0,none⟩) 1 1)) (w.alloc (.cells #[.int .u8 x] 5)).drew = .ok (.string ⟨[UInt8.ofNat x.toNat].toArray⟩) (w.alloc (.cells #[.int .u8 x] 5)).drew:=by
 rw [run_convert_bytes_string _ 48 9 5 _ _ _ Tryz.underlying48 Tryz.underlying5 Tryz.underlying9]
 rw [run_bytesToString _ _ 1 1 [x] (by simp [loadCells,go_sem])]
 rfl
attribute [local go_sem] by_conv1d
end Go.Proofs.YtoohondkpddmcaaGreatDoor
