/- A fact of the tie, by the kernel. -/
import Derived.Test.YtllbbcgnnoonoaaGreatDoorRows
import Derived.LaidByTextLater
import Derived.SevenTiedAt
namespace Go.Proofs.YtllbbcgnnoonoaaGreatDoor.TieO
open Go
theorem ti_own : Tryz.pinned.checked.prog.headLifts.contains "ownunsafe" = false := by kernel_rfl
end Go.Proofs.YtllbbcgnnoonoaaGreatDoor.TieO
