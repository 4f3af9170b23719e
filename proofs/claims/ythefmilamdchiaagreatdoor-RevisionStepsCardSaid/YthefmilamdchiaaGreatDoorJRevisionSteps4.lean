/- A part of the proof. -/
import Derived.Test.YthefmilamdchiaaGreatDoorRows
import Derived.Test.YthefmilamdchiaaGreatDoorTie
import Derived.JoinedOf
import Derived.ProofKit
set_option linter.unusedVariables false
set_option maxRecDepth 100000
namespace Go.Proofs.YthefmilamdchiaaGreatDoor.revisionSteps
open Go Go.RowKit
theorem j4:(namedTie Tryz.pinned.checked.prog Rows.revisionStepsRow.named Rows.revisionStepsSpec.vars)=true:=by kernel_rfl
theorem j10:((Rows.revisionStepsRow.unfollowed == Tryz.pinned.checked.prog.unfollowed 5))=true:=by kernel_rfl
theorem j16:((Rows.revisionStepsRow.loops == (Tryz.f5.params.toList ++ Rows.revisionStepsSpec.plain.varTypes Tryz.pinned.checked.prog).any (Tryz.pinned.checked.prog.loopsFrom ·)))=true:=by kernel_rfl
theorem j22:((Rows.revisionStepsRow.plainKeys == Tryz.pinned.checked.prog.plainKeys))=true:=by kernel_rfl
theorem j28:((Rows.revisionStepsRow.kinds == (if Rows.revisionStepsRow.domain.isEmpty then [] else Tryz.f5.params.toList.map fun t=>match Tryz.pinned.checked.prog.underlying t with | some (.int k)=>some k | _=>none)))=true:=by kernel_rfl
end Go.Proofs.YthefmilamdchiaaGreatDoor.revisionSteps
