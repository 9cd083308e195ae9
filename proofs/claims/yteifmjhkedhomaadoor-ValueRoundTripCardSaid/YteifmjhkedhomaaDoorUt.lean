/- The tables that math/bits and strconv read, from the rows' lists. -/
import Derived.Test.YteifmjhkedhomaaDoorUl
import Derived.Test.YteifmjhkedhomaaDoorRows
import Derived.LaidSub
import Derived.Lib.LaidTab
namespace Go.Proofs.YteifmjhkedhomaaDoor
open Go.RowKit
set_option linter.unusedVariables false
set_option maxRecDepth 100000

theorem gTab : Tryd.prog.globalNamed "math/bits.deBruijn64tab" = some 6 := by kernel_rfl
theorem gTabType : (Tryd.prog.globals[6]?).map (·.type) = some 122 := by kernel_rfl
theorem cellsTab : Tryd.prog.cellsOf 122 = 64 := by kernel_rfl
theorem cellsT5' : Tryd.prog.cellsOf 5 = 1 := by kernel_rfl
def tab64 : List Int := [0, 1, 56, 2, 57, 49, 28, 3, 61, 58, 42, 50, 38, 29, 17, 4, 62, 47, 59, 36, 45, 43, 51, 22, 53, 39, 33, 30, 24, 18, 12, 5, 63, 55, 48, 27, 60, 41, 37, 16, 46, 35, 44, 21, 52, 32, 23, 11, 54, 26, 40, 15, 34, 20, 31, 10, 25, 14, 19, 9, 13, 8, 7, 6]
theorem gPow : Tryd.prog.globalNamed "internal/strconv.uint64pow10" = some 1 := by kernel_rfl
theorem gPowType : (Tryd.prog.globals[1]?).map (·.type) = some 104 := by kernel_rfl
theorem cellsPow : Tryd.prog.cellsOf 104 = 20 := by kernel_rfl
theorem cellsT22' : Tryd.prog.cellsOf 22 = 1 := by kernel_rfl
theorem laid_u1 : (Rows.valueUnaryRow.laid.filter fun x => x.1 == "math/bits.deBruijn64tab") = [("math/bits.deBruijn64tab", Lib.tabData .u8 tab64)] := by kernel_rfl
theorem laid_u2 : (Rows.valueUnaryRow.laid.filter fun x => x.1 == "internal/strconv.uint64pow10") = [("internal/strconv.uint64pow10", Lib.tabData .u64 Lib.pow10Tab)] := by kernel_rfl
theorem laid_r1 : (Rows.valueRoundTripRow.laid.filter fun x => x.1 == "math/bits.deBruijn64tab") = [("math/bits.deBruijn64tab", Lib.tabData .u8 tab64)] := by kernel_rfl
theorem laid_r2 : (Rows.valueRoundTripRow.laid.filter fun x => x.1 == "internal/strconv.uint64pow10") = [("internal/strconv.uint64pow10", Lib.tabData .u64 Lib.pow10Tab)] := by kernel_rfl
theorem laid_unary {W : World} (h : laidMetH Tryd.prog Rows.valueUnaryRow.laid W) : TP W := by
  have h1 := h.filter fun x => x.1 == "math/bits.deBruijn64tab"
  rw [laid_u1] at h1
  have h2 : Lib.TabIs Tryd.prog W "math/bits.deBruijn64tab" .u8 tab64 := Lib.tabIs_of_head (rest := []) gTab gTabType Tryd.underlying122 Tryd.underlying5 cellsT5' cellsTab h1
  have h3 := h.filter fun x => x.1 == "internal/strconv.uint64pow10"
  rw [laid_u2] at h3
  have h4 : Lib.TabIs Tryd.prog W "internal/strconv.uint64pow10" .u64 Lib.pow10Tab := Lib.tabIs_of_head (rest := []) gPow gPowType Tryd.underlying104 Tryd.underlying22 cellsT22' cellsPow h3
  exact ⟨h2.cell gTab 15 (by decide), h4⟩
theorem laid_round {W : World} (h : laidMetH Tryd.prog Rows.valueRoundTripRow.laid W) : TP W := by
  have h1 := h.filter fun x => x.1 == "math/bits.deBruijn64tab"
  rw [laid_r1] at h1
  have h2 : Lib.TabIs Tryd.prog W "math/bits.deBruijn64tab" .u8 tab64 := Lib.tabIs_of_head (rest := []) gTab gTabType Tryd.underlying122 Tryd.underlying5 cellsT5' cellsTab h1
  have h3 := h.filter fun x => x.1 == "internal/strconv.uint64pow10"
  rw [laid_r2] at h3
  have h4 : Lib.TabIs Tryd.prog W "internal/strconv.uint64pow10" .u64 Lib.pow10Tab := Lib.tabIs_of_head (rest := []) gPow gPowType Tryd.underlying104 Tryd.underlying22 cellsT22' cellsPow h3
  exact ⟨h2.cell gTab 15 (by decide), h4⟩
end Go.Proofs.YteifmjhkedhomaaDoor
