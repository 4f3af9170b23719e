/- Facts of the row, by the kernel. -/
import Derived.Test.YtcpplgcgcbihoaaGreatDoorRows
import Derived.JoinedOf
import Derived.ProofKit
set_option linter.unusedVariables false
set_option maxRecDepth 100000
namespace Go.Proofs.YtcpplgcgcbihoaaGreatDoor.encodeApart
open Go Go.RowKit
theorem j3 : (Tryz.f6.params.all (Tryz.pinned.checked.prog.readableRec ·)) = true := by kernel_rfl
theorem j9 : ((Rows.encodeApartRow.inPlace == Tryz.pinned.checked.prog.inPlace 6)) = true := by kernel_rfl
theorem j15 : ((Rows.encodeApartRow.mapsOut == Tryz.pinned.checked.prog.mapsAmong Tryz.f6.resultTypes.toList)) = true := by kernel_rfl
theorem j21 : ((Rows.encodeApartRow.loopsOut == Tryz.f6.resultTypes.toList.any (Tryz.pinned.checked.prog.loopsFrom ·))) = true := by kernel_rfl
theorem j27 : ((Tryz.pinned.checked.prog.make == some Rows.encodeApartRow.make)) = true := by kernel_rfl
end Go.Proofs.YtcpplgcgcbihoaaGreatDoor.encodeApart
