/- Facts of the row, by the kernel. -/
import Derived.Test.YtcpplgcgcbihoaaGreatDoorRows
import Derived.JoinedOf
import Derived.ProofKit
set_option linter.unusedVariables false
set_option maxRecDepth 100000
namespace Go.Proofs.YtcpplgcgcbihoaaGreatDoor.encodeBases
open Go Go.RowKit
theorem j4 : (namedTie Tryz.pinned.checked.prog Rows.encodeBasesRow.named Rows.encodeBasesSpec.vars) = true := by kernel_rfl
theorem j10 : ((Rows.encodeBasesRow.unfollowed == Tryz.pinned.checked.prog.unfollowed 3)) = true := by kernel_rfl
theorem j16 : ((Rows.encodeBasesRow.loops == (Tryz.f3.params.toList ++ Rows.encodeBasesSpec.plain.varTypes Tryz.pinned.checked.prog).any (Tryz.pinned.checked.prog.loopsFrom ·))) = true := by kernel_rfl
theorem j22 : ((Rows.encodeBasesRow.plainKeys == Tryz.pinned.checked.prog.plainKeys)) = true := by kernel_rfl
theorem j28 : ((Rows.encodeBasesRow.kinds == (if Rows.encodeBasesRow.domain.isEmpty then [] else Tryz.f3.params.toList.map fun t => match Tryz.pinned.checked.prog.underlying t with | some (.int k) => some k | _ => none))) = true := by kernel_rfl
end Go.Proofs.YtcpplgcgcbihoaaGreatDoor.encodeBases
