/- Facts of the row, by the kernel. -/
import Derived.Test.YtllbbcgnnoonoaaGreatDoorRows
import Derived.JoinedOf
import Derived.ProofKit
set_option linter.unusedVariables false
set_option maxRecDepth 100000
namespace Go.Proofs.YtllbbcgnnoonoaaGreatDoor.cacheWhole
open Go Go.RowKit
theorem j0 : (Rows.cacheWholeRow.wf (OpenSpec.ofChange Rows.cacheWholeSpec)) = true := by kernel_rfl
theorem j6 : ((Tryz.pinned.checked.prog.stops == [])) = true := by kernel_rfl
theorem j18 : (Rows.cacheWholeSpec.vars.all (Tryz.pinned.checked.prog.varReadable ·)) = true := by kernel_rfl
theorem j24 : (Tryz.pinned.checked.prog.stopsHeard) = true := by kernel_rfl
theorem j30 : ((Rows.cacheWholeRow.veiled == (Tryz.f4.params.toList ++ Rows.cacheWholeSpec.plain.varTypes Tryz.pinned.checked.prog ++ Tryz.f4.resultTypes.toList).any (Tryz.pinned.checked.prog.veiledRec ·))) = true := by kernel_rfl
end Go.Proofs.YtllbbcgnnoonoaaGreatDoor.cacheWhole
