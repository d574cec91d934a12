/- The table that HeadLengths rests upon. -/
import Derived.Test.YtdpoookgmckclaaDoorMHLenW
set_option linter.unusedVariables false
namespace Go.Proofs.YtdpoookgmckclaaDoor.M
open Go.RowKit Go.Maps
theorem tab_of {W : World} (h : laidMet Tryd.prog Rows.headLengthsRow.laid W) : Tab W := by
  have h2 := laidMet.tail (laidMet.tail h)
  exact Lib.tabIs_of_head (g := 0) (t := 91) (n := 20) (e := 79) tab_global (by kernel_rfl) (by kernel_rfl) (by kernel_rfl) (by kernel_rfl) (by kernel_rfl) h2
end Go.Proofs.YtdpoookgmckclaaDoor.M
