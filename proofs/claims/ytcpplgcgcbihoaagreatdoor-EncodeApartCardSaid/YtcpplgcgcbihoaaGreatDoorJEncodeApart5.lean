/- Facts of the row, by the kernel. -/
import Derived.Test.YtcpplgcgcbihoaaGreatDoorRows
import Derived.JoinedOf
import Derived.ProofKit
set_option linter.unusedVariables false
set_option maxRecDepth 100000
namespace Go.Proofs.YtcpplgcgcbihoaaGreatDoor.encodeApart
open Go Go.RowKit
theorem j5 : ((Rows.encodeApartRow.stops == [])) = true := by kernel_rfl
theorem j11 : ((Rows.encodeApartRow.recurses == Tryz.pinned.checked.prog.recurses 6)) = true := by kernel_rfl
theorem j17 : ((Rows.encodeApartRow.wideKeys == (Tryz.f6.params.toList ++ Rows.encodeApartSpec.plain.varTypes Tryz.pinned.checked.prog ++ Tryz.f6.resultTypes.toList).any (Tryz.pinned.checked.prog.wideKeysFrom ·))) = true := by kernel_rfl
theorem j23 : (Rows.encodeApartRow.shortTexts.isNone) = true := by kernel_rfl
theorem j29 : ((Rows.encodeApartRow.pinned == Rows.encodeApartRow.pinnedBy)) = true := by kernel_rfl
end Go.Proofs.YtcpplgcgcbihoaaGreatDoor.encodeApart
