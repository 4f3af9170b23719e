/- Facts of the row, by the kernel. -/
import Derived.Test.YtcpplgcgcbihoaaGreatDoorRows
import Derived.JoinedOf
import Derived.ProofKit
set_option linter.unusedVariables false
set_option maxRecDepth 100000
namespace Go.Proofs.YtcpplgcgcbihoaaGreatDoor.encodeBases
open Go Go.RowKit
theorem j5 : ((Rows.encodeBasesRow.stops == [])) = true := by kernel_rfl
theorem j11 : ((Rows.encodeBasesRow.recurses == Tryz.pinned.checked.prog.recurses 3)) = true := by kernel_rfl
theorem j17 : ((Rows.encodeBasesRow.wideKeys == (Tryz.f3.params.toList ++ Rows.encodeBasesSpec.plain.varTypes Tryz.pinned.checked.prog ++ Tryz.f3.resultTypes.toList).any (Tryz.pinned.checked.prog.wideKeysFrom ·))) = true := by kernel_rfl
theorem j23 : (Rows.encodeBasesRow.shortTexts.isNone) = true := by kernel_rfl
theorem j29 : ((Rows.encodeBasesRow.pinned == Rows.encodeBasesRow.pinnedBy)) = true := by kernel_rfl
end Go.Proofs.YtcpplgcgcbihoaaGreatDoor.encodeBases
