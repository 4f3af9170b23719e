/- Facts of the row, joined. -/
import Derived.Test.YtllbbcgnnoonoaaGreatDoorJCacheWhole0
import Derived.Test.YtllbbcgnnoonoaaGreatDoorJCacheWhole1
import Derived.Test.YtllbbcgnnoonoaaGreatDoorJCacheWhole2
import Derived.Test.YtllbbcgnnoonoaaGreatDoorJCacheWhole3
import Derived.Test.YtllbbcgnnoonoaaGreatDoorJCacheWhole4
import Derived.Test.YtllbbcgnnoonoaaGreatDoorJCacheWhole5
import Derived.Test.YtllbbcgnnoonoaaGreatDoorJCacheWhole6
set_option linter.unusedVariables false
set_option maxRecDepth 100000
namespace Go.Proofs.YtllbbcgnnoonoaaGreatDoor.cacheWhole
open Go Go.RowKit
theorem band {a b : Bool} (h : a = true) (k : b = true) : (a && b) = true := by rw [h, k]; rfl
theorem closed : joinedFacts Tryz.pinned.checked.prog 4 Tryz.f4 Rows.cacheWholeSpec Rows.cacheWholeRow = true := by
  unfold joinedFacts
  exact (band (band (band (band (band (band (band (band (band (band (band (band (band (band (band (band (band (band (band (band (band (band (band (band (band (band (band (band (band (band (band j0 j1) j2) j3) j4) j5) j6) j7) j8) j9) j10) j11) j12) j13) j14) j15) j16) j17) j18) j19) j20) j21) j22) j23) j24) j25) j26) j27) j28) j29) j30) j31)
end Go.Proofs.YtllbbcgnnoonoaaGreatDoor.cacheWhole
