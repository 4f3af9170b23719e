/- Facts of the row, by the kernel. -/
import Derived.Test.YtcpplgcgcbihoaaGreatDoorRows
import Derived.JoinedOf
import Derived.ProofKit
set_option linter.unusedVariables false
set_option maxRecDepth 100000
namespace Go.Proofs.YtcpplgcgcbihoaaGreatDoor.cacheMore
open Go Go.RowKit
theorem j4 : (namedTie Tryz.pinned.checked.prog Rows.cacheMoreRow.named Rows.cacheMoreSpec.vars) = true := by kernel_rfl
theorem j10 : ((Rows.cacheMoreRow.unfollowed == Tryz.pinned.checked.prog.unfollowed 8)) = true := by kernel_rfl
theorem j16 : ((Rows.cacheMoreRow.loops == (Tryz.f8.params.toList ++ Rows.cacheMoreSpec.plain.varTypes Tryz.pinned.checked.prog).any (Tryz.pinned.checked.prog.loopsFrom ·))) = true := by kernel_rfl
theorem j22 : ((Rows.cacheMoreRow.plainKeys == Tryz.pinned.checked.prog.plainKeys)) = true := by kernel_rfl
theorem j28 : ((Rows.cacheMoreRow.kinds == (if Rows.cacheMoreRow.domain.isEmpty then [] else Tryz.f8.params.toList.map fun t => match Tryz.pinned.checked.prog.underlying t with | some (.int k) => some k | _ => none))) = true := by kernel_rfl
end Go.Proofs.YtcpplgcgcbihoaaGreatDoor.cacheMore
