/- A part of the proof. -/
import Derived.Test.YthefmilamdchiaaGreatDoorRows
import Derived.Test.YthefmilamdchiaaGreatDoorTie
import Derived.JoinedOf
import Derived.ProofKit
set_option linter.unusedVariables false
set_option maxRecDepth 100000
namespace Go.Proofs.YthefmilamdchiaaGreatDoor.revisionBack
open Go Go.RowKit
theorem j5:((Rows.revisionBackRow.stops == []))=true:=by kernel_rfl
theorem j11:((Rows.revisionBackRow.recurses == Tryz.pinned.checked.prog.recurses 3))=true:=by kernel_rfl
theorem j17:((Rows.revisionBackRow.wideKeys == (Tryz.f3.params.toList ++ Rows.revisionBackSpec.plain.varTypes Tryz.pinned.checked.prog ++ Tryz.f3.resultTypes.toList).any (Tryz.pinned.checked.prog.wideKeysFrom ·)))=true:=by kernel_rfl
theorem j23:(Rows.revisionBackRow.shortTexts.isNone)=true:=by kernel_rfl
theorem j29:((Rows.revisionBackRow.pinned == Rows.revisionBackRow.pinnedBy))=true:=by kernel_rfl
end Go.Proofs.YthefmilamdchiaaGreatDoor.revisionBack
