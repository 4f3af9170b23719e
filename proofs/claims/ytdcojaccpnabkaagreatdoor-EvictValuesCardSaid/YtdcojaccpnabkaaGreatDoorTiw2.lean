/- A part of the proof. -/
import Derived.Test.YtdcojaccpnabkaaGreatDoorRows
import Derived.LaidByTextLater
import Derived.SevenTiedAt
namespace Go.Proofs.YtdcojaccpnabkaaGreatDoor.TieO
open Go
theorem ti_w2:Tryz.prog.worded (varsWordLater !true)=false:=by kernel_rfl
end Go.Proofs.YtdcojaccpnabkaaGreatDoor.TieO
