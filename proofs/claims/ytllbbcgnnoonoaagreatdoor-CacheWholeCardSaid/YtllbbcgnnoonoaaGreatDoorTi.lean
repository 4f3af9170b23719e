/- The tie, out of its facts. -/
import Derived.Test.YtllbbcgnnoonoaaGreatDoorRows
import Derived.LaidByTextLater
import Derived.SevenTiedAt
import Derived.Test.YtllbbcgnnoonoaaGreatDoorTiown
import Derived.Test.YtllbbcgnnoonoaaGreatDoorTiw
import Derived.Test.YtllbbcgnnoonoaaGreatDoorTiw2
import Derived.Test.YtllbbcgnnoonoaaGreatDoorTiroot
import Derived.Test.YtllbbcgnnoonoaaGreatDoorTik
import Derived.Test.YtllbbcgnnoonoaaGreatDoorTig
import Derived.Test.YtllbbcgnnoonoaaGreatDoorTin
import Derived.Test.YtllbbcgnnoonoaaGreatDoorTid
import Derived.Test.YtllbbcgnnoonoaaGreatDoorTih1
import Derived.Test.YtllbbcgnnoonoaaGreatDoorTih2
namespace Go.Proofs.YtllbbcgnnoonoaaGreatDoor.TieO
open Go
theorem tie : Tryz.prog.laidByTextLater [("internal/strconv.uint64pow10", Rows.laid_internal_strconv_uint64pow10), ("math/bits.deBruijn32tab", Rows.laid_math_bits_deBruijn32tab), ("math/bits.deBruijn64tab", Rows.laid_math_bits_deBruijn64tab), ("strconv.ErrSyntax", Rows.laid_strconv_ErrSyntax), ("strconv.ErrRange", Rows.laid_strconv_ErrRange)] [.data, .data, .data, .sentinel, .sentinel] true :=
  Program.laidByTextLater_by_run 400 8 ti_w ti_w2 ti_root ti_k ti_g ti_n ti_d ti_h1 ti_h2
theorem cacheWhole_row_tie : Rows.cacheWholeRow.laidByTextAt .later Tryz.pinned [.data, .data, .data, .sentinel, .sentinel] true :=
  OpenClaim.laidByTextAt_later rfl rfl tie ti_own
end Go.Proofs.YtllbbcgnnoonoaaGreatDoor.TieO
