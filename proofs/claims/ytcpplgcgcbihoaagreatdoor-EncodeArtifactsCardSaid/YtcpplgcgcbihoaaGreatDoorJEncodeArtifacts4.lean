/- Facts of the row, by the kernel. -/
import Derived.Test.YtcpplgcgcbihoaaGreatDoorRows
import Derived.JoinedOf
import Derived.ProofKit
set_option linter.unusedVariables false
set_option maxRecDepth 100000
namespace Go.Proofs.YtcpplgcgcbihoaaGreatDoor.encodeArtifacts
open Go Go.RowKit
theorem j4 : (namedTie Tryz.pinned.checked.prog Rows.encodeArtifactsRow.named Rows.encodeArtifactsSpec.vars) = true := by kernel_rfl
theorem j10 : ((Rows.encodeArtifactsRow.unfollowed == Tryz.pinned.checked.prog.unfollowed 4)) = true := by kernel_rfl
theorem j16 : ((Rows.encodeArtifactsRow.loops == (Tryz.f4.params.toList ++ Rows.encodeArtifactsSpec.plain.varTypes Tryz.pinned.checked.prog).any (Tryz.pinned.checked.prog.loopsFrom ·))) = true := by kernel_rfl
theorem j22 : ((Rows.encodeArtifactsRow.plainKeys == Tryz.pinned.checked.prog.plainKeys)) = true := by kernel_rfl
theorem j28 : ((Rows.encodeArtifactsRow.kinds == (if Rows.encodeArtifactsRow.domain.isEmpty then [] else Tryz.f4.params.toList.map fun t => match Tryz.pinned.checked.prog.underlying t with | some (.int k) => some k | _ => none))) = true := by kernel_rfl
end Go.Proofs.YtcpplgcgcbihoaaGreatDoor.encodeArtifacts
