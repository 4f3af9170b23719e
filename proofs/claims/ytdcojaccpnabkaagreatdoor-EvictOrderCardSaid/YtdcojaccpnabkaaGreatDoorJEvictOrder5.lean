/- A part of the proof. -/
import Derived.Test.YtdcojaccpnabkaaGreatDoorRows
import Derived.JoinedOf
import Derived.ProofKit
set_option linter.unusedVariables false
set_option maxRecDepth 100000
namespace Go.Proofs.YtdcojaccpnabkaaGreatDoor.evictOrder
open Go Go.RowKit
theorem j5:((Rows.evictOrderRow.stops==[]))=true:=by kernel_rfl
theorem j11:((Rows.evictOrderRow.recurses==Tryz.pinned.checked.prog.recurses 7))=true:=by kernel_rfl
theorem j17:((Rows.evictOrderRow.wideKeys==(Tryz.f7.params.toList++Rows.evictOrderSpec.plain.varTypes Tryz.pinned.checked.prog++Tryz.f7.resultTypes.toList).any (Tryz.pinned.checked.prog.wideKeysFrom ·)))=true:=by kernel_rfl
theorem j23:(Rows.evictOrderRow.shortTexts.isNone)=true:=by kernel_rfl
theorem j29:((Rows.evictOrderRow.pinned==Rows.evictOrderRow.pinnedBy))=true:=by kernel_rfl
end Go.Proofs.YtdcojaccpnabkaaGreatDoor.evictOrder
