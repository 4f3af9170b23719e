/- Facts of the row, by the kernel. -/
import Derived.Test.YtllbbcgnnoonoaaGreatDoorRows
import Derived.JoinedOf
import Derived.ProofKit
set_option linter.unusedVariables false
set_option maxRecDepth 100000
namespace Go.Proofs.YtllbbcgnnoonoaaGreatDoor.cacheWhole
open Go Go.RowKit
theorem j5 : ((Rows.cacheWholeRow.stops == [])) = true := by kernel_rfl
theorem j11 : ((Rows.cacheWholeRow.recurses == Tryz.pinned.checked.prog.recurses 4)) = true := by kernel_rfl
theorem j17 : ((Rows.cacheWholeRow.wideKeys == (Tryz.f4.params.toList ++ Rows.cacheWholeSpec.plain.varTypes Tryz.pinned.checked.prog ++ Tryz.f4.resultTypes.toList).any (Tryz.pinned.checked.prog.wideKeysFrom ·))) = true := by kernel_rfl
theorem j23 : (Rows.cacheWholeRow.shortTexts.isNone) = true := by kernel_rfl
theorem j29 : ((Rows.cacheWholeRow.pinned == Rows.cacheWholeRow.pinnedBy)) = true := by kernel_rfl
end Go.Proofs.YtllbbcgnnoonoaaGreatDoor.cacheWhole
