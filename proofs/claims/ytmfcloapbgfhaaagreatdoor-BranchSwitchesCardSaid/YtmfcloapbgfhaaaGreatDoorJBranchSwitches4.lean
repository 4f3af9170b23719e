/- A part of the proof. -/
import Derived.Test.YtmfcloapbgfhaaaGreatDoorRows
import Derived.JoinedOf
import Derived.ProofKit
set_option linter.unusedVariables false
set_option maxRecDepth 100000
namespace Go.Proofs.YtmfcloapbgfhaaaGreatDoor.branchSwitches
open Go Go.RowKit
theorem j4:(namedTie Tryz.pinned.checked.prog Rows.branchSwitchesRow.named Rows.branchSwitchesSpec.vars)=true:=by kernel_rfl
theorem j10:((Rows.branchSwitchesRow.unfollowed == Tryz.pinned.checked.prog.unfollowed 3))=true:=by kernel_rfl
theorem j16:((Rows.branchSwitchesRow.loops == (Tryz.f3.params.toList ++ Rows.branchSwitchesSpec.plain.varTypes Tryz.pinned.checked.prog).any (Tryz.pinned.checked.prog.loopsFrom ·)))=true:=by kernel_rfl
theorem j22:((Rows.branchSwitchesRow.plainKeys == Tryz.pinned.checked.prog.plainKeys))=true:=by kernel_rfl
theorem j28:((Rows.branchSwitchesRow.kinds == (if Rows.branchSwitchesRow.domain.isEmpty then [] else Tryz.f3.params.toList.map fun t=>match Tryz.pinned.checked.prog.underlying t with | some (.int k)=>some k | _=>none)))=true:=by kernel_rfl
end Go.Proofs.YtmfcloapbgfhaaaGreatDoor.branchSwitches
