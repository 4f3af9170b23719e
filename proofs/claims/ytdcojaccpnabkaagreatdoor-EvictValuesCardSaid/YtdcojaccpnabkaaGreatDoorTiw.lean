/- A part of the proof. -/
import Derived.Test.YtdcojaccpnabkaaGreatDoorRows
import Derived.LaidByTextLater
import Derived.SevenTiedAt
namespace Go.Proofs.YtdcojaccpnabkaaGreatDoor.TieO
open Go
theorem ti_w:Tryz.prog.worded (varsWordLater true)=true:=by kernel_rfl
end Go.Proofs.YtdcojaccpnabkaaGreatDoor.TieO
