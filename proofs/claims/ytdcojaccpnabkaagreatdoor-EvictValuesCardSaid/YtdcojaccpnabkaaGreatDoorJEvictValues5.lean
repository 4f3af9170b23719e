/- A part of the proof. -/
import Derived.Test.YtdcojaccpnabkaaGreatDoorRows
import Derived.JoinedOf
import Derived.ProofKit
set_option linter.unusedVariables false
set_option maxRecDepth 100000
namespace Go.Proofs.YtdcojaccpnabkaaGreatDoor.evictValues
open Go Go.RowKit
theorem j5:((Rows.evictValuesRow.stops==[]))=true:=by kernel_rfl
theorem j11:((Rows.evictValuesRow.recurses==Tryz.pinned.checked.prog.recurses 5))=true:=by kernel_rfl
theorem j17:((Rows.evictValuesRow.wideKeys==(Tryz.f5.params.toList++Rows.evictValuesSpec.plain.varTypes Tryz.pinned.checked.prog++Tryz.f5.resultTypes.toList).any (Tryz.pinned.checked.prog.wideKeysFrom ·)))=true:=by kernel_rfl
theorem j23:(Rows.evictValuesRow.shortTexts.isNone)=true:=by kernel_rfl
theorem j29:((Rows.evictValuesRow.pinned==Rows.evictValuesRow.pinnedBy))=true:=by kernel_rfl
end Go.Proofs.YtdcojaccpnabkaaGreatDoor.evictValues
