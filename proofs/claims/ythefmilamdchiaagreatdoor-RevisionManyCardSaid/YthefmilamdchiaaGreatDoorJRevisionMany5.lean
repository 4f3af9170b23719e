/- A part of the proof. -/
import Derived.Test.YthefmilamdchiaaGreatDoorRows
import Derived.Test.YthefmilamdchiaaGreatDoorTie
import Derived.JoinedOf
import Derived.ProofKit
set_option linter.unusedVariables false
set_option maxRecDepth 100000
namespace Go.Proofs.YthefmilamdchiaaGreatDoor.revisionMany
open Go Go.RowKit
theorem j5:((Rows.revisionManyRow.stops == []))=true:=by kernel_rfl
theorem j11:((Rows.revisionManyRow.recurses == Tryz.pinned.checked.prog.recurses 4))=true:=by kernel_rfl
theorem j17:((Rows.revisionManyRow.wideKeys == (Tryz.f4.params.toList ++ Rows.revisionManySpec.plain.varTypes Tryz.pinned.checked.prog ++ Tryz.f4.resultTypes.toList).any (Tryz.pinned.checked.prog.wideKeysFrom ·)))=true:=by kernel_rfl
theorem j23:(Rows.revisionManyRow.shortTexts.isNone)=true:=by kernel_rfl
theorem j29:((Rows.revisionManyRow.pinned == Rows.revisionManyRow.pinnedBy))=true:=by kernel_rfl
end Go.Proofs.YthefmilamdchiaaGreatDoor.revisionMany
