/- A part of the proof. -/
import Derived.Test.YtmfcloapbgfhaaaGreatDoorRows
import Derived.LaidByTextLater
import Derived.SevenTiedAt
namespace Go.Proofs.YtmfcloapbgfhaaaGreatDoor.TieO
open Go
theorem ti_own : Tryz.pinned.checked.prog.headLifts.contains "ownunsafe" = false := by kernel_rfl
end Go.Proofs.YtmfcloapbgfhaaaGreatDoor.TieO
