/- A part of the proof. -/
import Derived.Test.YthefmilamdchiaaGreatDoorRows
import Derived.Test.YthefmilamdchiaaGreatDoorTie
import Derived.JoinedOf
import Derived.ProofKit
set_option linter.unusedVariables false
set_option maxRecDepth 100000
namespace Go.Proofs.YthefmilamdchiaaGreatDoor.revisionSteps
open Go Go.RowKit
theorem j0:(Rows.revisionStepsRow.wf (OpenSpec.ofChange Rows.revisionStepsSpec))=true:=by kernel_rfl
theorem j6:((Tryz.pinned.checked.prog.stops == []))=true:=by kernel_rfl
theorem j12:((Rows.revisionStepsRow.named == Tryz.pinned.checked.prog.varsNamed 5))=true:=by kernel_rfl
theorem j18:(Rows.revisionStepsSpec.vars.all (Tryz.pinned.checked.prog.varReadable ·))=true:=by kernel_rfl
theorem j24:(Tryz.pinned.checked.prog.stopsHeard)=true:=by kernel_rfl
theorem j30:((Rows.revisionStepsRow.veiled == (Tryz.f5.params.toList ++ Rows.revisionStepsSpec.plain.varTypes Tryz.pinned.checked.prog ++ Tryz.f5.resultTypes.toList).any (Tryz.pinned.checked.prog.veiledRec ·)))=true:=by kernel_rfl
end Go.Proofs.YthefmilamdchiaaGreatDoor.revisionSteps
