/- Data of the program; facts of its table of types. -/
import Derived.Test.YtappkgmbdoiocaaDoorTD4
set_option linter.unusedVariables false
set_option linter.unusedSimpArgs false
namespace Go.Proofs.YtappkgmbdoiocaaDoor
open Go.RowKit

theorem ci26 : callI Tryd.prog 26 = true := by kernel_rfl
theorem ci28 : callI Tryd.prog 28 = true := by kernel_rfl
theorem ci29 : callI Tryd.prog 29 = true := by kernel_rfl
theorem ci34 : callI Tryd.prog 34 = true := by kernel_rfl

end Go.Proofs.YtappkgmbdoiocaaDoor
