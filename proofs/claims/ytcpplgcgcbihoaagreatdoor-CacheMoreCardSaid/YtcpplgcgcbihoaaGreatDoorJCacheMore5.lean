/- Facts of the row, by the kernel. -/
import Derived.Test.YtcpplgcgcbihoaaGreatDoorRows
import Derived.JoinedOf
import Derived.ProofKit
set_option linter.unusedVariables false
set_option maxRecDepth 100000
namespace Go.Proofs.YtcpplgcgcbihoaaGreatDoor.cacheMore
open Go Go.RowKit
theorem j5 : ((Rows.cacheMoreRow.stops == [])) = true := by kernel_rfl
theorem j11 : ((Rows.cacheMoreRow.recurses == Tryz.pinned.checked.prog.recurses 8)) = true := by kernel_rfl
theorem j17 : ((Rows.cacheMoreRow.wideKeys == (Tryz.f8.params.toList ++ Rows.cacheMoreSpec.plain.varTypes Tryz.pinned.checked.prog ++ Tryz.f8.resultTypes.toList).any (Tryz.pinned.checked.prog.wideKeysFrom ·))) = true := by kernel_rfl
theorem j23 : (Rows.cacheMoreRow.shortTexts.isNone) = true := by kernel_rfl
theorem j29 : ((Rows.cacheMoreRow.pinned == Rows.cacheMoreRow.pinnedBy)) = true := by kernel_rfl
end Go.Proofs.YtcpplgcgcbihoaaGreatDoor.cacheMore
