/- A part of the proof. -/
import Derived.Test.YtmfcloapbgfhaaaGreatDoorRows
import Derived.JoinedOf
import Derived.ProofKit
set_option linter.unusedVariables false
set_option maxRecDepth 100000
namespace Go.Proofs.YtmfcloapbgfhaaaGreatDoor.branchSwitches
open Go Go.RowKit
theorem j5:((Rows.branchSwitchesRow.stops == []))=true:=by kernel_rfl
theorem j11:((Rows.branchSwitchesRow.recurses == Tryz.pinned.checked.prog.recurses 3))=true:=by kernel_rfl
theorem j17:((Rows.branchSwitchesRow.wideKeys == (Tryz.f3.params.toList ++ Rows.branchSwitchesSpec.plain.varTypes Tryz.pinned.checked.prog ++ Tryz.f3.resultTypes.toList).any (Tryz.pinned.checked.prog.wideKeysFrom ·)))=true:=by kernel_rfl
theorem j23:(Rows.branchSwitchesRow.shortTexts.isNone)=true:=by kernel_rfl
theorem j29:((Rows.branchSwitchesRow.pinned == Rows.branchSwitchesRow.pinnedBy))=true:=by kernel_rfl
end Go.Proofs.YtmfcloapbgfhaaaGreatDoor.branchSwitches
