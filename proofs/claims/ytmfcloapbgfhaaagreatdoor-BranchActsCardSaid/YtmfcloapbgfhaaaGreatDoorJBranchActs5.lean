/- A part of the proof. -/
import Derived.Test.YtmfcloapbgfhaaaGreatDoorRows
import Derived.JoinedOf
import Derived.ProofKit
set_option linter.unusedVariables false
set_option maxRecDepth 100000
namespace Go.Proofs.YtmfcloapbgfhaaaGreatDoor.branchActs
open Go Go.RowKit
theorem j5:((Rows.branchActsRow.stops==[]))=true:=by kernel_rfl
theorem j11:((Rows.branchActsRow.recurses==Tryz.pinned.checked.prog.recurses 4))=true:=by kernel_rfl
theorem j17:((Rows.branchActsRow.wideKeys==(Tryz.f4.params.toList++Rows.branchActsSpec.plain.varTypes Tryz.pinned.checked.prog++Tryz.f4.resultTypes.toList).any (Tryz.pinned.checked.prog.wideKeysFrom ·)))=true:=by kernel_rfl
theorem j23:(Rows.branchActsRow.shortTexts.isNone)=true:=by kernel_rfl
theorem j29:((Rows.branchActsRow.pinned==Rows.branchActsRow.pinnedBy))=true:=by kernel_rfl
end Go.Proofs.YtmfcloapbgfhaaaGreatDoor.branchActs
