/- A part of the proof. -/
import Derived.Test.YtmfcloapbgfhaaaGreatDoorRows
import Derived.LaidByTextLater
import Derived.SevenTiedAt
namespace Go.Proofs.YtmfcloapbgfhaaaGreatDoor.TieO
open Go
theorem ti_root:Tryz.prog.worded rootWordLater=true:=by kernel_rfl
end Go.Proofs.YtmfcloapbgfhaaaGreatDoor.TieO
