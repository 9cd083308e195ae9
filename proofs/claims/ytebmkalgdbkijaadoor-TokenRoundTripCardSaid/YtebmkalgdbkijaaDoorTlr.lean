/- The table that math/bits reads, from the row's list. -/
import Derived.Test.YtebmkalgdbkijaaDoorTlq
import Derived.Test.YtebmkalgdbkijaaDoorRows
import Derived.LaidSub
import Derived.Lib.LaidTab
namespace Go.Proofs.YtebmkalgdbkijaaDoor
open Go.RowKit
set_option linter.unusedVariables false
set_option maxRecDepth 100000

theorem gTab : Tryd.prog.globalNamed "math/bits.deBruijn64tab" = some 6 := by kernel_rfl
theorem gTabType : (Tryd.prog.globals[6]?).map (·.type) = some 119 := by kernel_rfl
theorem cellsTab : Tryd.prog.cellsOf 119 = 64 := by kernel_rfl
theorem cellsT5' : Tryd.prog.cellsOf 5 = 1 := by kernel_rfl
def tab64 : List Int := [0, 1, 56, 2, 57, 49, 28, 3, 61, 58, 42, 50, 38, 29, 17, 4, 62, 47, 59, 36, 45, 43, 51, 22, 53, 39, 33, 30, 24, 18, 12, 5, 63, 55, 48, 27, 60, 41, 37, 16, 46, 35, 44, 21, 52, 32, 23, 11, 54, 26, 40, 15, 34, 20, 31, 10, 25, 14, 19, 9, 13, 8, 7, 6]
theorem laid_one : (Rows.tokenRoundTripRow.laid.filter fun x => x.1 == "math/bits.deBruijn64tab") = [("math/bits.deBruijn64tab", Lib.tabData .u8 tab64)] := by kernel_rfl
theorem laid_tz {W : World} (h : laidMetH Tryd.prog Rows.tokenRoundTripRow.laid W) : Tz16 W := by
  have h1 := h.filter fun x => x.1 == "math/bits.deBruijn64tab"
  rw [laid_one] at h1
  have h2 : Lib.TabIs Tryd.prog W "math/bits.deBruijn64tab" .u8 tab64 := Lib.tabIs_of_head (rest := []) gTab gTabType Tryd.underlying119 Tryd.underlying5 cellsT5' cellsTab h1
  exact h2.cell gTab 15 (by decide)
end Go.Proofs.YtebmkalgdbkijaaDoor
