/- Facts of the row, by the kernel. -/
import Derived.Test.YtllbbcgnnoonoaaGreatDoorRows
import Derived.JoinedOf
import Derived.ProofKit
set_option linter.unusedVariables false
set_option maxRecDepth 100000
namespace Go.Proofs.YtllbbcgnnoonoaaGreatDoor.cacheWhole
open Go Go.RowKit
theorem j2 : (mapsRowed Tryz.pinned.checked.prog) = true := by kernel_rfl
theorem j8 : ((Tryz.pinned.checked.prog.stopKnobs == [])) = true := by kernel_rfl
theorem j14 : ((Rows.cacheWholeRow.ifaces == (Tryz.f4.params.toList ++ Rows.cacheWholeSpec.plain.varTypes Tryz.pinned.checked.prog).any (Tryz.pinned.checked.prog.ifacesRec ·))) = true := by kernel_rfl
theorem j20 : ((Rows.cacheWholeRow.ifacesOut == Tryz.f4.resultTypes.toList.any (Tryz.pinned.checked.prog.ifacesRec ·))) = true := by kernel_rfl
theorem j26 : ((Rows.cacheWholeRow.lifted == Tryz.pinned.checked.prog.liftsFinal)) = true := by kernel_rfl
end Go.Proofs.YtllbbcgnnoonoaaGreatDoor.cacheWhole
