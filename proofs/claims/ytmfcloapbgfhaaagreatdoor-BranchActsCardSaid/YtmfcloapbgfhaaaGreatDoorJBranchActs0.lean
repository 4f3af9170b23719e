/- A part of the proof. -/
import Derived.Test.YtmfcloapbgfhaaaGreatDoorRows
import Derived.JoinedOf
import Derived.ProofKit
set_option linter.unusedVariables false
set_option maxRecDepth 100000
namespace Go.Proofs.YtmfcloapbgfhaaaGreatDoor.branchActs
open Go Go.RowKit
theorem j0:(Rows.branchActsRow.wf (OpenSpec.ofChange Rows.branchActsSpec))=true:=by kernel_rfl
theorem j6:((Tryz.pinned.checked.prog.stops==[]))=true:=by kernel_rfl
theorem j12:((Rows.branchActsRow.named==Tryz.pinned.checked.prog.varsNamed 4))=true:=by kernel_rfl
theorem j18:(Rows.branchActsSpec.vars.all (Tryz.pinned.checked.prog.varReadable ·))=true:=by kernel_rfl
theorem j24:(Tryz.pinned.checked.prog.stopsHeard)=true:=by kernel_rfl
theorem j30:((Rows.branchActsRow.veiled==(Tryz.f4.params.toList++Rows.branchActsSpec.plain.varTypes Tryz.pinned.checked.prog++Tryz.f4.resultTypes.toList).any (Tryz.pinned.checked.prog.veiledRec ·)))=true:=by kernel_rfl
end Go.Proofs.YtmfcloapbgfhaaaGreatDoor.branchActs
