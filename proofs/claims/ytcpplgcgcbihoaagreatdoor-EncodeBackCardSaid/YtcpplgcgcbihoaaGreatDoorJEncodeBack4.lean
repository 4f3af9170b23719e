/- Facts of the row, by the kernel. -/
import Derived.Test.YtcpplgcgcbihoaaGreatDoorRows
import Derived.JoinedOf
import Derived.ProofKit
set_option linter.unusedVariables false
set_option maxRecDepth 100000
namespace Go.Proofs.YtcpplgcgcbihoaaGreatDoor.encodeBack
open Go Go.RowKit
theorem j4 : (namedTie Tryz.pinned.checked.prog Rows.encodeBackRow.named Rows.encodeBackSpec.vars) = true := by kernel_rfl
theorem j10 : ((Rows.encodeBackRow.unfollowed == Tryz.pinned.checked.prog.unfollowed 5)) = true := by kernel_rfl
theorem j16 : ((Rows.encodeBackRow.loops == (Tryz.f5.params.toList ++ Rows.encodeBackSpec.plain.varTypes Tryz.pinned.checked.prog).any (Tryz.pinned.checked.prog.loopsFrom ·))) = true := by kernel_rfl
theorem j22 : ((Rows.encodeBackRow.plainKeys == Tryz.pinned.checked.prog.plainKeys)) = true := by kernel_rfl
theorem j28 : ((Rows.encodeBackRow.kinds == (if Rows.encodeBackRow.domain.isEmpty then [] else Tryz.f5.params.toList.map fun t => match Tryz.pinned.checked.prog.underlying t with | some (.int k) => some k | _ => none))) = true := by kernel_rfl
end Go.Proofs.YtcpplgcgcbihoaaGreatDoor.encodeBack
