/- A part of the proof. -/
import Derived.Test.YtdcojaccpnabkaaGreatDoorRows
import Derived.JoinedOf
import Derived.ProofKit
set_option linter.unusedVariables false
set_option maxRecDepth 100000
namespace Go.Proofs.YtdcojaccpnabkaaGreatDoor.evictValues
open Go Go.RowKit
theorem j4:(namedTie Tryz.pinned.checked.prog Rows.evictValuesRow.named Rows.evictValuesSpec.vars)=true:=by kernel_rfl
theorem j10:((Rows.evictValuesRow.unfollowed==Tryz.pinned.checked.prog.unfollowed 5))=true:=by kernel_rfl
theorem j16:((Rows.evictValuesRow.loops==(Tryz.f5.params.toList++Rows.evictValuesSpec.plain.varTypes Tryz.pinned.checked.prog).any (Tryz.pinned.checked.prog.loopsFrom ·)))=true:=by kernel_rfl
theorem j22:((Rows.evictValuesRow.plainKeys==Tryz.pinned.checked.prog.plainKeys))=true:=by kernel_rfl
theorem j28:((Rows.evictValuesRow.kinds==(if Rows.evictValuesRow.domain.isEmpty then [] else Tryz.f5.params.toList.map fun t=>match Tryz.pinned.checked.prog.underlying t with | some (.int k)=>some k | _=>none)))=true:=by kernel_rfl
end Go.Proofs.YtdcojaccpnabkaaGreatDoor.evictValues
