/- A part of the proof. -/
import Derived.Test.YtdcojaccpnabkaaGreatDoorRows
import Derived.LaidByTextLater
import Derived.SevenTiedAt
namespace Go.Proofs.YtdcojaccpnabkaaGreatDoor.TieO
open Go
theorem ti_root:Tryz.prog.worded rootWordLater=true:=by kernel_rfl
end Go.Proofs.YtdcojaccpnabkaaGreatDoor.TieO
