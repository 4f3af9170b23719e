/- Facts of the row, by the kernel. -/
import Derived.Test.YtllbbcgnnoonoaaGreatDoorRows
import Derived.JoinedOf
import Derived.ProofKit
set_option linter.unusedVariables false
set_option maxRecDepth 100000
namespace Go.Proofs.YtllbbcgnnoonoaaGreatDoor.cacheWhole
open Go Go.RowKit
theorem j3 : (Tryz.f4.params.all (Tryz.pinned.checked.prog.readableRec ·)) = true := by kernel_rfl
theorem j9 : ((Rows.cacheWholeRow.inPlace == Tryz.pinned.checked.prog.inPlace 4)) = true := by kernel_rfl
theorem j15 : ((Rows.cacheWholeRow.mapsOut == Tryz.pinned.checked.prog.mapsAmong Tryz.f4.resultTypes.toList)) = true := by kernel_rfl
theorem j21 : ((Rows.cacheWholeRow.loopsOut == Tryz.f4.resultTypes.toList.any (Tryz.pinned.checked.prog.loopsFrom ·))) = true := by kernel_rfl
theorem j27 : ((Tryz.pinned.checked.prog.make == some Rows.cacheWholeRow.make)) = true := by kernel_rfl
end Go.Proofs.YtllbbcgnnoonoaaGreatDoor.cacheWhole
