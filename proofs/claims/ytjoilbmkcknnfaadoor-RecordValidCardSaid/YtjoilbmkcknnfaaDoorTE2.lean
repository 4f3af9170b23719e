/- Data of the program; facts of its table of types. -/
import Derived.Test.YtjoilbmkcknnfaaDoorTE1
import Derived.Test.YtjoilbmkcknnfaaDoorGC
set_option linter.unusedVariables false
set_option linter.unusedSimpArgs false
namespace Go.Proofs.YtjoilbmkcknnfaaDoor
open Go.RowKit

theorem ci30 : callI Tryd.prog 30 = true := by kernel_rfl
theorem ci36 : callI Tryd.prog 36 = true := by kernel_rfl
theorem ci38 : callI Tryd.prog 38 = true := by kernel_rfl
theorem ci39 : callI Tryd.prog 39 = true := by kernel_rfl
theorem ci40 : callI Tryd.prog 40 = true := by kernel_rfl
theorem ci44 : callI Tryd.prog 44 = true := by kernel_rfl
theorem ci45 : callI Tryd.prog 45 = true := by kernel_rfl
theorem ci47 : callI Tryd.prog 47 = true := by kernel_rfl
theorem ci53 : callI Tryd.prog 53 = true := by kernel_rfl
theorem ci58 : callI Tryd.prog 58 = true := by kernel_rfl
theorem ci60 : callI Tryd.prog 60 = true := by kernel_rfl
theorem ci79 : callI Tryd.prog 79 = true := by kernel_rfl
theorem el32 : elI Tryd.prog 32 = some (9, 1, 16) := by kernel_rfl
theorem ze9 : zeroI Tryd.prog 9 = some [.string (ByteArray.mk #[])] := by kernel_rfl


end Go.Proofs.YtjoilbmkcknnfaaDoor
