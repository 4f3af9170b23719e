/- A fact of the tie, by the kernel. -/
import Derived.Test.YtllbbcgnnoonoaaGreatDoorRows
import Derived.LaidByTextLater
import Derived.SevenTiedAt
namespace Go.Proofs.YtllbbcgnnoonoaaGreatDoor.TieO
open Go
theorem ti_w : Tryz.prog.worded (varsWordLater true) = true := by kernel_rfl
end Go.Proofs.YtllbbcgnnoonoaaGreatDoor.TieO
