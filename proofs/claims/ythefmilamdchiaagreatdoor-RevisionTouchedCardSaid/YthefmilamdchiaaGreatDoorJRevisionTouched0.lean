/- A part of the proof. -/
import Derived.Test.YthefmilamdchiaaGreatDoorRows
import Derived.Test.YthefmilamdchiaaGreatDoorTie
import Derived.JoinedOf
import Derived.ProofKit
set_option linter.unusedVariables false
set_option maxRecDepth 100000
namespace Go.Proofs.YthefmilamdchiaaGreatDoor.revisionTouched
open Go Go.RowKit
theorem j0:(Rows.revisionTouchedRow.wf (OpenSpec.ofChange Rows.revisionTouchedSpec))=true:=by kernel_rfl
theorem j6:((Tryz.pinned.checked.prog.stops == []))=true:=by kernel_rfl
theorem j12:((Rows.revisionTouchedRow.named == Tryz.pinned.checked.prog.varsNamed 6))=true:=by kernel_rfl
theorem j18:(Rows.revisionTouchedSpec.vars.all (Tryz.pinned.checked.prog.varReadable ·))=true:=by kernel_rfl
theorem j24:(Tryz.pinned.checked.prog.stopsHeard)=true:=by kernel_rfl
theorem j30:((Rows.revisionTouchedRow.veiled == (Tryz.f6.params.toList ++ Rows.revisionTouchedSpec.plain.varTypes Tryz.pinned.checked.prog ++ Tryz.f6.resultTypes.toList).any (Tryz.pinned.checked.prog.veiledRec ·)))=true:=by kernel_rfl
end Go.Proofs.YthefmilamdchiaaGreatDoor.revisionTouched
