/- A part of the proof. -/
import Derived.Test.YtdcojaccpnabkaaGreatDoorRows
import Derived.JoinedOf
import Derived.ProofKit
set_option linter.unusedVariables false
set_option maxRecDepth 100000
namespace Go.Proofs.YtdcojaccpnabkaaGreatDoor.evictKeeps
open Go Go.RowKit
theorem j0:(Rows.evictKeepsRow.wf (OpenSpec.ofChange Rows.evictKeepsSpec))=true:=by kernel_rfl
theorem j6:((Tryz.pinned.checked.prog.stops==[]))=true:=by kernel_rfl
theorem j12:((Rows.evictKeepsRow.named==Tryz.pinned.checked.prog.varsNamed 6))=true:=by kernel_rfl
theorem j18:(Rows.evictKeepsSpec.vars.all (Tryz.pinned.checked.prog.varReadable ·))=true:=by kernel_rfl
theorem j24:(Tryz.pinned.checked.prog.stopsHeard)=true:=by kernel_rfl
theorem j30:((Rows.evictKeepsRow.veiled==(Tryz.f6.params.toList++Rows.evictKeepsSpec.plain.varTypes Tryz.pinned.checked.prog++Tryz.f6.resultTypes.toList).any (Tryz.pinned.checked.prog.veiledRec ·)))=true:=by kernel_rfl
end Go.Proofs.YtdcojaccpnabkaaGreatDoor.evictKeeps
