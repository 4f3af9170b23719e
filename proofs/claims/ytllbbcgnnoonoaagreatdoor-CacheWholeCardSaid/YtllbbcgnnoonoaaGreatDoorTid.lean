/- A fact of the tie, by the kernel. -/
import Derived.Test.YtllbbcgnnoonoaaGreatDoorRows
import Derived.LaidByTextLater
import Derived.SevenTiedAt
namespace Go.Proofs.YtllbbcgnnoonoaaGreatDoor.TieO
open Go
theorem ti_d : ∀ os tape, varsDone Tryz.prog 400 (varsId Tryz.prog) os tape = true := fun _ _ => by kernel_rfl
end Go.Proofs.YtllbbcgnnoonoaaGreatDoor.TieO
