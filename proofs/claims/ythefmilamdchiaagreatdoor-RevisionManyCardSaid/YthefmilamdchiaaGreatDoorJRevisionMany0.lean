/- A part of the proof. -/
import Derived.Test.YthefmilamdchiaaGreatDoorRows
import Derived.Test.YthefmilamdchiaaGreatDoorTie
import Derived.JoinedOf
import Derived.ProofKit
set_option linter.unusedVariables false
set_option maxRecDepth 100000
namespace Go.Proofs.YthefmilamdchiaaGreatDoor.revisionMany
open Go Go.RowKit
theorem j0:(Rows.revisionManyRow.wf (OpenSpec.ofChange Rows.revisionManySpec))=true:=by kernel_rfl
theorem j6:((Tryz.pinned.checked.prog.stops == []))=true:=by kernel_rfl
theorem j12:((Rows.revisionManyRow.named == Tryz.pinned.checked.prog.varsNamed 4))=true:=by kernel_rfl
theorem j18:(Rows.revisionManySpec.vars.all (Tryz.pinned.checked.prog.varReadable ·))=true:=by kernel_rfl
theorem j24:(Tryz.pinned.checked.prog.stopsHeard)=true:=by kernel_rfl
theorem j30:((Rows.revisionManyRow.veiled == (Tryz.f4.params.toList ++ Rows.revisionManySpec.plain.varTypes Tryz.pinned.checked.prog ++ Tryz.f4.resultTypes.toList).any (Tryz.pinned.checked.prog.veiledRec ·)))=true:=by kernel_rfl
end Go.Proofs.YthefmilamdchiaaGreatDoor.revisionMany
