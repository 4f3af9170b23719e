/- Facts of the row, by the kernel. -/
import Derived.Test.YtcpplgcgcbihoaaGreatDoorRows
import Derived.JoinedOf
import Derived.ProofKit
set_option linter.unusedVariables false
set_option maxRecDepth 100000
namespace Go.Proofs.YtcpplgcgcbihoaaGreatDoor.encodeArtifacts
open Go Go.RowKit
theorem j5 : ((Rows.encodeArtifactsRow.stops == [])) = true := by kernel_rfl
theorem j11 : ((Rows.encodeArtifactsRow.recurses == Tryz.pinned.checked.prog.recurses 4)) = true := by kernel_rfl
theorem j17 : ((Rows.encodeArtifactsRow.wideKeys == (Tryz.f4.params.toList ++ Rows.encodeArtifactsSpec.plain.varTypes Tryz.pinned.checked.prog ++ Tryz.f4.resultTypes.toList).any (Tryz.pinned.checked.prog.wideKeysFrom ·))) = true := by kernel_rfl
theorem j23 : (Rows.encodeArtifactsRow.shortTexts.isNone) = true := by kernel_rfl
theorem j29 : ((Rows.encodeArtifactsRow.pinned == Rows.encodeArtifactsRow.pinnedBy)) = true := by kernel_rfl
end Go.Proofs.YtcpplgcgcbihoaaGreatDoor.encodeArtifacts
