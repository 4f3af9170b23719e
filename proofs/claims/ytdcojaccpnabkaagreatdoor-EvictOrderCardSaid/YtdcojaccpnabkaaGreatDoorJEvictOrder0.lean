/- A part of the proof. -/
import Derived.Test.YtdcojaccpnabkaaGreatDoorRows
import Derived.JoinedOf
import Derived.ProofKit
set_option linter.unusedVariables false
set_option maxRecDepth 100000
namespace Go.Proofs.YtdcojaccpnabkaaGreatDoor.evictOrder
open Go Go.RowKit
theorem j0:(Rows.evictOrderRow.wf (OpenSpec.ofChange Rows.evictOrderSpec))=true:=by kernel_rfl
theorem j6:((Tryz.pinned.checked.prog.stops==[]))=true:=by kernel_rfl
theorem j12:((Rows.evictOrderRow.named==Tryz.pinned.checked.prog.varsNamed 7))=true:=by kernel_rfl
theorem j18:(Rows.evictOrderSpec.vars.all (Tryz.pinned.checked.prog.varReadable ·))=true:=by kernel_rfl
theorem j24:(Tryz.pinned.checked.prog.stopsHeard)=true:=by kernel_rfl
theorem j30:((Rows.evictOrderRow.veiled==(Tryz.f7.params.toList++Rows.evictOrderSpec.plain.varTypes Tryz.pinned.checked.prog++Tryz.f7.resultTypes.toList).any (Tryz.pinned.checked.prog.veiledRec ·)))=true:=by kernel_rfl
end Go.Proofs.YtdcojaccpnabkaaGreatDoor.evictOrder
