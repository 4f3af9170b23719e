/- Facts of the row, by the kernel. -/
import Derived.Test.YtcpplgcgcbihoaaGreatDoorRows
import Derived.JoinedOf
import Derived.ProofKit
set_option linter.unusedVariables false
set_option maxRecDepth 100000
namespace Go.Proofs.YtcpplgcgcbihoaaGreatDoor.cacheRight
open Go Go.RowKit
theorem j5 : ((Rows.cacheRightRow.stops == [])) = true := by kernel_rfl
theorem j11 : ((Rows.cacheRightRow.recurses == Tryz.pinned.checked.prog.recurses 7)) = true := by kernel_rfl
theorem j17 : ((Rows.cacheRightRow.wideKeys == (Tryz.f7.params.toList ++ Rows.cacheRightSpec.plain.varTypes Tryz.pinned.checked.prog ++ Tryz.f7.resultTypes.toList).any (Tryz.pinned.checked.prog.wideKeysFrom ·))) = true := by kernel_rfl
theorem j23 : (Rows.cacheRightRow.shortTexts.isNone) = true := by kernel_rfl
theorem j29 : ((Rows.cacheRightRow.pinned == Rows.cacheRightRow.pinnedBy)) = true := by kernel_rfl
end Go.Proofs.YtcpplgcgcbihoaaGreatDoor.cacheRight
