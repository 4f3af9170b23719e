import Derived.Test.YtllbbcgnnoonoaaGreatDoorRows
import Derived.SevenTiedAt
import Derived.JoinedOf
import Derived.ProofKit
set_option maxRecDepth 100000
namespace Go.Proofs.YtllbbcgnnoonoaaGreatDoor.cacheWhole
open Go Go.RowKit
theorem c4:true = Tryz.pinned.checked.prog.looks []:=by kernel_rfl
theorem c5:([23].all fun u=>!Tryz.prog.wantsStandIn u)=true:=by kernel_rfl
theorem c6:Tryz.pinned.checked.prog.funcs.any Func.goes=false:=by kernel_rfl
end Go.Proofs.YtllbbcgnnoonoaaGreatDoor.cacheWhole
