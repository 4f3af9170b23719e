/- A part of the proof. -/
import Derived.Test.YthefmilamdchiaaGreatDoorRows
import Derived.Test.YthefmilamdchiaaGreatDoorTie
import Derived.JoinedOf
import Derived.ProofKit
set_option linter.unusedVariables false
set_option maxRecDepth 100000
namespace Go.Proofs.YthefmilamdchiaaGreatDoor.revisionSteps
open Go Go.RowKit
theorem j5:((Rows.revisionStepsRow.stops == []))=true:=by kernel_rfl
theorem j11:((Rows.revisionStepsRow.recurses == Tryz.pinned.checked.prog.recurses 5))=true:=by kernel_rfl
theorem j17:((Rows.revisionStepsRow.wideKeys == (Tryz.f5.params.toList ++ Rows.revisionStepsSpec.plain.varTypes Tryz.pinned.checked.prog ++ Tryz.f5.resultTypes.toList).any (Tryz.pinned.checked.prog.wideKeysFrom ·)))=true:=by kernel_rfl
theorem j23:(Rows.revisionStepsRow.shortTexts.isNone)=true:=by kernel_rfl
theorem j29:((Rows.revisionStepsRow.pinned == Rows.revisionStepsRow.pinnedBy))=true:=by kernel_rfl
end Go.Proofs.YthefmilamdchiaaGreatDoor.revisionSteps
