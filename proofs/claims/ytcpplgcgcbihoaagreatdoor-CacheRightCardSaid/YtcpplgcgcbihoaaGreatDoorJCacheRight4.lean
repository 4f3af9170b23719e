/- Facts of the row, by the kernel. -/
import Derived.Test.YtcpplgcgcbihoaaGreatDoorRows
import Derived.JoinedOf
import Derived.ProofKit
set_option linter.unusedVariables false
set_option maxRecDepth 100000
namespace Go.Proofs.YtcpplgcgcbihoaaGreatDoor.cacheRight
open Go Go.RowKit
theorem j4 : (namedTie Tryz.pinned.checked.prog Rows.cacheRightRow.named Rows.cacheRightSpec.vars) = true := by kernel_rfl
theorem j10 : ((Rows.cacheRightRow.unfollowed == Tryz.pinned.checked.prog.unfollowed 7)) = true := by kernel_rfl
theorem j16 : ((Rows.cacheRightRow.loops == (Tryz.f7.params.toList ++ Rows.cacheRightSpec.plain.varTypes Tryz.pinned.checked.prog).any (Tryz.pinned.checked.prog.loopsFrom ·))) = true := by kernel_rfl
theorem j22 : ((Rows.cacheRightRow.plainKeys == Tryz.pinned.checked.prog.plainKeys)) = true := by kernel_rfl
theorem j28 : ((Rows.cacheRightRow.kinds == (if Rows.cacheRightRow.domain.isEmpty then [] else Tryz.f7.params.toList.map fun t => match Tryz.pinned.checked.prog.underlying t with | some (.int k) => some k | _ => none))) = true := by kernel_rfl
end Go.Proofs.YtcpplgcgcbihoaaGreatDoor.cacheRight
