/- Data of the program; facts of its table of types. -/
import Derived.Test.YtpobppjicoikoaaDoorTD2
set_option linter.unusedVariables false
set_option linter.unusedSimpArgs false
namespace Go.Proofs.YtpobppjicoikoaaDoor
open Go.RowKit

theorem ci14 : callI Tryd.prog 14 = true := by kernel_rfl
theorem ci22 : callI Tryd.prog 22 = true := by kernel_rfl
theorem ci26 : callI Tryd.prog 26 = true := by kernel_rfl
theorem ci28 : callI Tryd.prog 28 = true := by kernel_rfl
theorem ci30 : callI Tryd.prog 30 = true := by kernel_rfl
theorem ci31 : callI Tryd.prog 31 = true := by kernel_rfl
theorem ci32 : callI Tryd.prog 32 = true := by kernel_rfl
theorem el22 : elI Tryd.prog 22 = some (28, 2, 24) := by kernel_rfl
theorem el23 : elI Tryd.prog 23 = some (3, 1, 8) := by kernel_rfl
theorem el32 : elI Tryd.prog 32 = some (9, 1, 16) := by kernel_rfl
theorem sl22 : isSl Tryd.prog 22 = some 28 := by kernel_rfl
theorem ze3 : zeroI Tryd.prog 3 = some [.int .i64 0] := by kernel_rfl
theorem ze9 : zeroI Tryd.prog 9 = some [.string (ByteArray.mk #[])] := by kernel_rfl


end Go.Proofs.YtpobppjicoikoaaDoor
