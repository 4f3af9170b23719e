import Derived.Test.YtllbbcgnnoonoaaGreatDoorRows
import Derived.SevenTiedAt
import Derived.JoinedOf
import Derived.ProofKit
set_option maxRecDepth 100000
namespace Go.Proofs.YtllbbcgnnoonoaaGreatDoor.cacheWhole
open Go Go.RowKit
theorem c1:Rows.cacheWholeRow.wfByText (OpenSpec.ofChange Rows.cacheWholeSpec) = true:=by kernel_rfl
theorem c2:Tryz.pinned.checked.prog.mainIs = some (true, "b6a588a893dd20c63dee1587cc351f7d042c980ac0b2f1ef4de1ecc73978d993".toList):=by kernel_rfl
theorem c3:Tryz.prog.funcNamed "recompile/recompilelaw38.CacheWhole" = some 4:=by kernel_rfl
end Go.Proofs.YtllbbcgnnoonoaaGreatDoor.cacheWhole
