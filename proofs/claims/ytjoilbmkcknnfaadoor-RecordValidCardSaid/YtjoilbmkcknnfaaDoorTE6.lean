/- Data of the program; facts of its table of types. -/
import Derived.Test.YtjoilbmkcknnfaaDoorTE5
import Derived.Test.YtjoilbmkcknnfaaDoorGD
set_option linter.unusedVariables false
set_option linter.unusedSimpArgs false
namespace Go.Proofs.YtjoilbmkcknnfaaDoor
open Go.RowKit

theorem ci22 : callI Tryd.prog 22 = true := by kernel_rfl
theorem ci26 : callI Tryd.prog 26 = true := by kernel_rfl
theorem ci28 : callI Tryd.prog 28 = true := by kernel_rfl
theorem ci49 : callI Tryd.prog 49 = true := by kernel_rfl
theorem ci50 : callI Tryd.prog 50 = true := by kernel_rfl
theorem ci51 : callI Tryd.prog 51 = true := by kernel_rfl
theorem ci52 : callI Tryd.prog 52 = true := by kernel_rfl
theorem ci54 : callI Tryd.prog 54 = true := by kernel_rfl
theorem ci87 : callI Tryd.prog 87 = true := by kernel_rfl
theorem el70 : elI Tryd.prog 70 = some (51, 1, 24) := by kernel_rfl
theorem sl70 : isSl Tryd.prog 70 = some 51 := by kernel_rfl
theorem ty51 : tyI Tryd.prog 51 = some (false, 1) := by kernel_rfl
theorem ze51 : zeroI Tryd.prog 51 = some [.slice none 0 0] := by kernel_rfl


end Go.Proofs.YtjoilbmkcknnfaaDoor
