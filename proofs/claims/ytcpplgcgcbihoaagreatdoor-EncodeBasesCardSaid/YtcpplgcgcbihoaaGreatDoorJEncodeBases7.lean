import Derived.Test.YtcpplgcgcbihoaaGreatDoorRows
import Derived.SevenTiedAt
import Derived.JoinedOf
import Derived.ProofKit
set_option maxRecDepth 100000
namespace Go.Proofs.YtcpplgcgcbihoaaGreatDoor.encodeBases
open Go Go.RowKit
theorem c1:Rows.encodeBasesRow.wfByText (OpenSpec.ofChange Rows.encodeBasesSpec) = true:=by kernel_rfl
theorem c2:Tryz.pinned.checked.prog.mainIs = some (true, "2008240e243505ca503005505f79c37f27477d5a698571b9b02cb9b1a9c48875".toList):=by kernel_rfl
theorem c3:Tryz.prog.funcNamed "recompile/recompilelaw35.EncodeBases" = some 3:=by kernel_rfl
end Go.Proofs.YtcpplgcgcbihoaaGreatDoor.encodeBases
