/- Data of the program; facts of its table of types. -/
import Derived.Test.YtjoilbmkcknnfaaDoorTE2
import Derived.Test.YtjoilbmkcknnfaaDoorGC
set_option linter.unusedVariables false
set_option linter.unusedSimpArgs false
namespace Go.Proofs.YtjoilbmkcknnfaaDoor
open Go.RowKit

theorem ci13 : callI Tryd.prog 13 = true := by kernel_rfl
theorem ci33 : callI Tryd.prog 33 = true := by kernel_rfl
theorem ci34 : callI Tryd.prog 34 = true := by kernel_rfl
theorem ci35 : callI Tryd.prog 35 = true := by kernel_rfl
theorem ci37 : callI Tryd.prog 37 = true := by kernel_rfl
theorem ci41 : callI Tryd.prog 41 = true := by kernel_rfl


end Go.Proofs.YtjoilbmkcknnfaaDoor
