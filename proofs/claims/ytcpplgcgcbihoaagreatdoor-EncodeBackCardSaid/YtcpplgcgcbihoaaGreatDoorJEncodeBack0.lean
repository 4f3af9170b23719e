/- Facts of the row, by the kernel. -/
import Derived.Test.YtcpplgcgcbihoaaGreatDoorRows
import Derived.JoinedOf
import Derived.ProofKit
set_option linter.unusedVariables false
set_option maxRecDepth 100000
namespace Go.Proofs.YtcpplgcgcbihoaaGreatDoor.encodeBack
open Go Go.RowKit
theorem j0 : (Rows.encodeBackRow.wf (OpenSpec.ofChange Rows.encodeBackSpec)) = true := by kernel_rfl
theorem j6 : ((Tryz.pinned.checked.prog.stops == [])) = true := by kernel_rfl
theorem j12 : ((Rows.encodeBackRow.named == Tryz.pinned.checked.prog.varsNamed 5)) = true := by kernel_rfl
theorem j18 : (Rows.encodeBackSpec.vars.all (Tryz.pinned.checked.prog.varReadable ·)) = true := by kernel_rfl
theorem j24 : (Tryz.pinned.checked.prog.stopsHeard) = true := by kernel_rfl
theorem j30 : ((Rows.encodeBackRow.veiled == (Tryz.f5.params.toList ++ Rows.encodeBackSpec.plain.varTypes Tryz.pinned.checked.prog ++ Tryz.f5.resultTypes.toList).any (Tryz.pinned.checked.prog.veiledRec ·))) = true := by kernel_rfl
end Go.Proofs.YtcpplgcgcbihoaaGreatDoor.encodeBack
