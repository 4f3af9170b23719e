/- A part of the proof. -/
import Derived.Test.YtdcojaccpnabkaaGreatDoorRows
import Derived.JoinedOf
import Derived.ProofKit
set_option linter.unusedVariables false
set_option maxRecDepth 100000
namespace Go.Proofs.YtdcojaccpnabkaaGreatDoor.evictDrops
open Go Go.RowKit
theorem j5:((Rows.evictDropsRow.stops==[]))=true:=by kernel_rfl
theorem j11:((Rows.evictDropsRow.recurses==Tryz.pinned.checked.prog.recurses 3))=true:=by kernel_rfl
theorem j17:((Rows.evictDropsRow.wideKeys==(Tryz.f3.params.toList++Rows.evictDropsSpec.plain.varTypes Tryz.pinned.checked.prog++Tryz.f3.resultTypes.toList).any (Tryz.pinned.checked.prog.wideKeysFrom ·)))=true:=by kernel_rfl
theorem j23:(Rows.evictDropsRow.shortTexts.isNone)=true:=by kernel_rfl
theorem j29:((Rows.evictDropsRow.pinned==Rows.evictDropsRow.pinnedBy))=true:=by kernel_rfl
end Go.Proofs.YtdcojaccpnabkaaGreatDoor.evictDrops
