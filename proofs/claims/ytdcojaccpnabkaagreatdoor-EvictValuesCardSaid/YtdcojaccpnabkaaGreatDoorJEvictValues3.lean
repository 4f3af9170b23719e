/- A part of the proof. -/
import Derived.Test.YtdcojaccpnabkaaGreatDoorRows
import Derived.JoinedOf
import Derived.ProofKit
set_option linter.unusedVariables false
set_option maxRecDepth 100000
namespace Go.Proofs.YtdcojaccpnabkaaGreatDoor.evictValues
open Go Go.RowKit
theorem j3:(Tryz.f5.params.all (Tryz.pinned.checked.prog.readableRec ·))=true:=by kernel_rfl
theorem j9:((Rows.evictValuesRow.inPlace==Tryz.pinned.checked.prog.inPlace 5))=true:=by kernel_rfl
theorem j15:((Rows.evictValuesRow.mapsOut==Tryz.pinned.checked.prog.mapsAmong Tryz.f5.resultTypes.toList))=true:=by kernel_rfl
theorem j21:((Rows.evictValuesRow.loopsOut==Tryz.f5.resultTypes.toList.any (Tryz.pinned.checked.prog.loopsFrom ·)))=true:=by kernel_rfl
theorem j27:((Tryz.pinned.checked.prog.make==some Rows.evictValuesRow.make))=true:=by kernel_rfl
end Go.Proofs.YtdcojaccpnabkaaGreatDoor.evictValues
