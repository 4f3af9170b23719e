/- A part of the proof. -/
import Derived.Test.YtdcojaccpnabkaaGreatDoorRows
import Derived.JoinedOf
import Derived.ProofKit
set_option linter.unusedVariables false
set_option maxRecDepth 100000
namespace Go.Proofs.YtdcojaccpnabkaaGreatDoor.evictKeeps
open Go Go.RowKit
theorem j5:((Rows.evictKeepsRow.stops==[]))=true:=by kernel_rfl
theorem j11:((Rows.evictKeepsRow.recurses==Tryz.pinned.checked.prog.recurses 6))=true:=by kernel_rfl
theorem j17:((Rows.evictKeepsRow.wideKeys==(Tryz.f6.params.toList++Rows.evictKeepsSpec.plain.varTypes Tryz.pinned.checked.prog++Tryz.f6.resultTypes.toList).any (Tryz.pinned.checked.prog.wideKeysFrom ·)))=true:=by kernel_rfl
theorem j23:(Rows.evictKeepsRow.shortTexts.isNone)=true:=by kernel_rfl
theorem j29:((Rows.evictKeepsRow.pinned==Rows.evictKeepsRow.pinnedBy))=true:=by kernel_rfl
end Go.Proofs.YtdcojaccpnabkaaGreatDoor.evictKeeps
