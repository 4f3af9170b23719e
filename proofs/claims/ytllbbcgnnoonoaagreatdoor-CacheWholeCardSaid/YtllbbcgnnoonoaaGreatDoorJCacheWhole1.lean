/- Facts of the row, by the kernel. -/
import Derived.Test.YtllbbcgnnoonoaaGreatDoorRows
import Derived.JoinedOf
import Derived.ProofKit
set_option linter.unusedVariables false
set_option maxRecDepth 100000
namespace Go.Proofs.YtllbbcgnnoonoaaGreatDoor.cacheWhole
open Go Go.RowKit
theorem j1 : (laidOutB Tryz.pinned.checked.prog) = true := by kernel_rfl
theorem j7 : ((Rows.cacheWholeRow.knobs == [])) = true := by kernel_rfl
theorem j13 : ((Rows.cacheWholeRow.maps == (Tryz.f4.params.toList ++ Rows.cacheWholeSpec.plain.varTypes Tryz.pinned.checked.prog).any (Tryz.pinned.checked.prog.mapsRec ·))) = true := by kernel_rfl
theorem j19 : (Tryz.f4.resultTypes.all (fun t => Tryz.pinned.checked.prog.readableRec t && decide (t < Tryz.pinned.checked.prog.types.size))) = true := by kernel_rfl
theorem j25 : (Tryz.pinned.checked.prog.mayEnter) = true := by kernel_rfl
theorem j31 : (Rows.cacheWholeRow.veiledFits Tryz.pinned.checked.prog Tryz.f4.params.toList (Tryz.f4.params.toList ++ Rows.cacheWholeSpec.plain.varTypes Tryz.pinned.checked.prog ++ Tryz.f4.resultTypes.toList)) = true := by kernel_rfl
end Go.Proofs.YtllbbcgnnoonoaaGreatDoor.cacheWhole
