/- The tie, out of its facts. -/
import Derived.Test.YtcpplgcgcbihoaaGreatDoorRows
import Derived.LaidByTextLater
import Derived.SevenTiedAt
import Derived.Test.YtcpplgcgcbihoaaGreatDoorTiown
import Derived.Test.YtcpplgcgcbihoaaGreatDoorTiw
import Derived.Test.YtcpplgcgcbihoaaGreatDoorTiw2
import Derived.Test.YtcpplgcgcbihoaaGreatDoorTiroot
import Derived.Test.YtcpplgcgcbihoaaGreatDoorTik
import Derived.Test.YtcpplgcgcbihoaaGreatDoorTig
import Derived.Test.YtcpplgcgcbihoaaGreatDoorTin
import Derived.Test.YtcpplgcgcbihoaaGreatDoorTid
import Derived.Test.YtcpplgcgcbihoaaGreatDoorTih1
import Derived.Test.YtcpplgcgcbihoaaGreatDoorTih2
namespace Go.Proofs.YtcpplgcgcbihoaaGreatDoor.TieO
open Go
theorem tie : Tryz.prog.laidByTextLater [("strconv.ErrSyntax", Rows.laid_strconv_ErrSyntax), ("strconv.ErrRange", Rows.laid_strconv_ErrRange), ("internal/strconv.uint64pow10", Rows.laid_internal_strconv_uint64pow10), ("math/bits.deBruijn32tab", Rows.laid_math_bits_deBruijn32tab), ("math/bits.deBruijn64tab", Rows.laid_math_bits_deBruijn64tab)] [.sentinel, .sentinel, .data, .data, .data] true :=
  Program.laidByTextLater_by_run 400 8 ti_w ti_w2 ti_root ti_k ti_g ti_n ti_d ti_h1 ti_h2
theorem encodeBases_row_tie : Rows.encodeBasesRow.laidByTextAt .later Tryz.pinned [.sentinel, .sentinel, .data, .data, .data] true :=
  OpenClaim.laidByTextAt_later rfl rfl tie ti_own
theorem encodeArtifacts_row_tie : Rows.encodeArtifactsRow.laidByTextAt .later Tryz.pinned [.sentinel, .sentinel, .data, .data, .data] true :=
  OpenClaim.laidByTextAt_later rfl rfl tie ti_own
theorem encodeBack_row_tie : Rows.encodeBackRow.laidByTextAt .later Tryz.pinned [.sentinel, .sentinel, .data, .data, .data] true :=
  OpenClaim.laidByTextAt_later rfl rfl tie ti_own
theorem encodeApart_row_tie : Rows.encodeApartRow.laidByTextAt .later Tryz.pinned [.sentinel, .sentinel, .data, .data, .data] true :=
  OpenClaim.laidByTextAt_later rfl rfl tie ti_own
end Go.Proofs.YtcpplgcgcbihoaaGreatDoor.TieO
