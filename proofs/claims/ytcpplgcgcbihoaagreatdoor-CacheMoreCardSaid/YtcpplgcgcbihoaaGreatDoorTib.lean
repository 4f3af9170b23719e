/- The tie, out of its facts. -/
import Derived.Test.YtcpplgcgcbihoaaGreatDoorRows
import Derived.LaidByTextLater
import Derived.SevenTiedAt
import Derived.Test.YtcpplgcgcbihoaaGreatDoorTibown
import Derived.Test.YtcpplgcgcbihoaaGreatDoorTibw
import Derived.Test.YtcpplgcgcbihoaaGreatDoorTibw2
import Derived.Test.YtcpplgcgcbihoaaGreatDoorTibroot
import Derived.Test.YtcpplgcgcbihoaaGreatDoorTibk
import Derived.Test.YtcpplgcgcbihoaaGreatDoorTibg
import Derived.Test.YtcpplgcgcbihoaaGreatDoorTibn
import Derived.Test.YtcpplgcgcbihoaaGreatDoorTibd
import Derived.Test.YtcpplgcgcbihoaaGreatDoorTibh1
import Derived.Test.YtcpplgcgcbihoaaGreatDoorTibh2
namespace Go.Proofs.YtcpplgcgcbihoaaGreatDoor.TieO
open Go
theorem tie : Tryz.prog.laidByTextLater [("internal/strconv.uint64pow10", Rows.laid_internal_strconv_uint64pow10), ("math/bits.deBruijn32tab", Rows.laid_math_bits_deBruijn32tab), ("math/bits.deBruijn64tab", Rows.laid_math_bits_deBruijn64tab), ("strconv.ErrSyntax", Rows.laid_strconv_ErrSyntax), ("strconv.ErrRange", Rows.laid_strconv_ErrRange)] [.data, .data, .data, .sentinel, .sentinel] true :=
  Program.laidByTextLater_by_run 400 8 ti_w ti_w2 ti_root ti_k ti_g ti_n ti_d ti_h1 ti_h2
theorem cacheRight_row_tie : Rows.cacheRightRow.laidByTextAt .later Tryz.pinned [.data, .data, .data, .sentinel, .sentinel] true :=
  OpenClaim.laidByTextAt_later rfl rfl tie ti_own
theorem cacheMore_row_tie : Rows.cacheMoreRow.laidByTextAt .later Tryz.pinned [.data, .data, .data, .sentinel, .sentinel] true :=
  OpenClaim.laidByTextAt_later rfl rfl tie ti_own
end Go.Proofs.YtcpplgcgcbihoaaGreatDoor.TieO
