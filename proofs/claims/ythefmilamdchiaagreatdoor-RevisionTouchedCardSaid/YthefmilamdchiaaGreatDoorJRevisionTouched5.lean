/- A part of the proof. -/
import Derived.Test.YthefmilamdchiaaGreatDoorRows
import Derived.Test.YthefmilamdchiaaGreatDoorTie
import Derived.JoinedOf
import Derived.ProofKit
set_option linter.unusedVariables false
set_option maxRecDepth 100000
namespace Go.Proofs.YthefmilamdchiaaGreatDoor.revisionTouched
open Go Go.RowKit
theorem j5:((Rows.revisionTouchedRow.stops == []))=true:=by kernel_rfl
theorem j11:((Rows.revisionTouchedRow.recurses == Tryz.pinned.checked.prog.recurses 6))=true:=by kernel_rfl
theorem j17:((Rows.revisionTouchedRow.wideKeys == (Tryz.f6.params.toList ++ Rows.revisionTouchedSpec.plain.varTypes Tryz.pinned.checked.prog ++ Tryz.f6.resultTypes.toList).any (Tryz.pinned.checked.prog.wideKeysFrom ·)))=true:=by kernel_rfl
theorem j23:(Rows.revisionTouchedRow.shortTexts.isNone)=true:=by kernel_rfl
theorem j29:((Rows.revisionTouchedRow.pinned == Rows.revisionTouchedRow.pinnedBy))=true:=by kernel_rfl
end Go.Proofs.YthefmilamdchiaaGreatDoor.revisionTouched
