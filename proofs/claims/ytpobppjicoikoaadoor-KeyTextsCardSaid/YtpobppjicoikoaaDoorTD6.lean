/- Data of the program; facts of its table of types. -/
import Derived.Test.YtpobppjicoikoaaDoorTD5
set_option linter.unusedVariables false
set_option linter.unusedSimpArgs false
namespace Go.Proofs.YtpobppjicoikoaaDoor
open Go.RowKit

theorem ci13 : callI Tryd.prog 13 = true := by kernel_rfl
theorem ci15 : callI Tryd.prog 15 = true := by kernel_rfl
theorem ci17 : callI Tryd.prog 17 = true := by kernel_rfl
theorem ci20 : callI Tryd.prog 20 = true := by kernel_rfl
theorem ci40 : callI Tryd.prog 40 = true := by kernel_rfl
theorem ci60 : callI Tryd.prog 60 = true := by kernel_rfl
theorem ci71 : callI Tryd.prog 71 = true := by kernel_rfl


end Go.Proofs.YtpobppjicoikoaaDoor
