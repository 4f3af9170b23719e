/- Facts of the row, by the kernel. -/
import Derived.Test.YtcpplgcgcbihoaaGreatDoorRows
import Derived.JoinedOf
import Derived.ProofKit
set_option linter.unusedVariables false
set_option maxRecDepth 100000
namespace Go.Proofs.YtcpplgcgcbihoaaGreatDoor.encodeBack
open Go Go.RowKit
theorem j5 : ((Rows.encodeBackRow.stops == [])) = true := by kernel_rfl
theorem j11 : ((Rows.encodeBackRow.recurses == Tryz.pinned.checked.prog.recurses 5)) = true := by kernel_rfl
theorem j17 : ((Rows.encodeBackRow.wideKeys == (Tryz.f5.params.toList ++ Rows.encodeBackSpec.plain.varTypes Tryz.pinned.checked.prog ++ Tryz.f5.resultTypes.toList).any (Tryz.pinned.checked.prog.wideKeysFrom ·))) = true := by kernel_rfl
theorem j23 : (Rows.encodeBackRow.shortTexts.isNone) = true := by kernel_rfl
theorem j29 : ((Rows.encodeBackRow.pinned == Rows.encodeBackRow.pinnedBy)) = true := by kernel_rfl
end Go.Proofs.YtcpplgcgcbihoaaGreatDoor.encodeBack
