/- Facts of the row, by the kernel. -/
import Derived.Test.YtcpplgcgcbihoaaGreatDoorRows
import Derived.JoinedOf
import Derived.ProofKit
set_option linter.unusedVariables false
set_option maxRecDepth 100000
namespace Go.Proofs.YtcpplgcgcbihoaaGreatDoor.encodeArtifacts
open Go Go.RowKit
theorem j0 : (Rows.encodeArtifactsRow.wf (OpenSpec.ofChange Rows.encodeArtifactsSpec)) = true := by kernel_rfl
theorem j6 : ((Tryz.pinned.checked.prog.stops == [])) = true := by kernel_rfl
theorem j12 : ((Rows.encodeArtifactsRow.named == Tryz.pinned.checked.prog.varsNamed 4)) = true := by kernel_rfl
theorem j18 : (Rows.encodeArtifactsSpec.vars.all (Tryz.pinned.checked.prog.varReadable ·)) = true := by kernel_rfl
theorem j24 : (Tryz.pinned.checked.prog.stopsHeard) = true := by kernel_rfl
theorem j30 : ((Rows.encodeArtifactsRow.veiled == (Tryz.f4.params.toList ++ Rows.encodeArtifactsSpec.plain.varTypes Tryz.pinned.checked.prog ++ Tryz.f4.resultTypes.toList).any (Tryz.pinned.checked.prog.veiledRec ·))) = true := by kernel_rfl
end Go.Proofs.YtcpplgcgcbihoaaGreatDoor.encodeArtifacts
