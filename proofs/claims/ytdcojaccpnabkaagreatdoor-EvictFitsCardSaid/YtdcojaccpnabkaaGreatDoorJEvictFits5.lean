/- A part of the proof. -/
import Derived.Test.YtdcojaccpnabkaaGreatDoorRows
import Derived.JoinedOf
import Derived.ProofKit
set_option linter.unusedVariables false
set_option maxRecDepth 100000
namespace Go.Proofs.YtdcojaccpnabkaaGreatDoor.evictFits
open Go Go.RowKit
theorem j5:((Rows.evictFitsRow.stops==[]))=true:=by kernel_rfl
theorem j11:((Rows.evictFitsRow.recurses==Tryz.pinned.checked.prog.recurses 4))=true:=by kernel_rfl
theorem j17:((Rows.evictFitsRow.wideKeys==(Tryz.f4.params.toList++Rows.evictFitsSpec.plain.varTypes Tryz.pinned.checked.prog++Tryz.f4.resultTypes.toList).any (Tryz.pinned.checked.prog.wideKeysFrom ·)))=true:=by kernel_rfl
theorem j23:(Rows.evictFitsRow.shortTexts.isNone)=true:=by kernel_rfl
theorem j29:((Rows.evictFitsRow.pinned==Rows.evictFitsRow.pinnedBy))=true:=by kernel_rfl
end Go.Proofs.YtdcojaccpnabkaaGreatDoor.evictFits
