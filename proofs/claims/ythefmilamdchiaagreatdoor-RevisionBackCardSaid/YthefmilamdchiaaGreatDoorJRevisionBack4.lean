/- A part of the proof. -/
import Derived.Test.YthefmilamdchiaaGreatDoorRows
import Derived.Test.YthefmilamdchiaaGreatDoorTie
import Derived.JoinedOf
import Derived.ProofKit
set_option linter.unusedVariables false
set_option maxRecDepth 100000
namespace Go.Proofs.YthefmilamdchiaaGreatDoor.revisionBack
open Go Go.RowKit
theorem j4:(namedTie Tryz.pinned.checked.prog Rows.revisionBackRow.named Rows.revisionBackSpec.vars)=true:=by kernel_rfl
theorem j10:((Rows.revisionBackRow.unfollowed == Tryz.pinned.checked.prog.unfollowed 3))=true:=by kernel_rfl
theorem j16:((Rows.revisionBackRow.loops == (Tryz.f3.params.toList ++ Rows.revisionBackSpec.plain.varTypes Tryz.pinned.checked.prog).any (Tryz.pinned.checked.prog.loopsFrom ·)))=true:=by kernel_rfl
theorem j22:((Rows.revisionBackRow.plainKeys == Tryz.pinned.checked.prog.plainKeys))=true:=by kernel_rfl
theorem j28:((Rows.revisionBackRow.kinds == (if Rows.revisionBackRow.domain.isEmpty then [] else Tryz.f3.params.toList.map fun t=>match Tryz.pinned.checked.prog.underlying t with | some (.int k)=>some k | _=>none)))=true:=by kernel_rfl
end Go.Proofs.YthefmilamdchiaaGreatDoor.revisionBack
