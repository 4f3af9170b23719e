/- A part of the proof. -/
import Derived.Test.YtdcojaccpnabkaaGreatDoorRows
import Derived.LaidByTextLater
import Derived.SevenTiedAt
import Derived.Test.YtdcojaccpnabkaaGreatDoorTiown
import Derived.Test.YtdcojaccpnabkaaGreatDoorTiw
import Derived.Test.YtdcojaccpnabkaaGreatDoorTiw2
import Derived.Test.YtdcojaccpnabkaaGreatDoorTiroot
import Derived.Test.YtdcojaccpnabkaaGreatDoorTik
import Derived.Test.YtdcojaccpnabkaaGreatDoorTig
import Derived.Test.YtdcojaccpnabkaaGreatDoorTin
import Derived.Test.YtdcojaccpnabkaaGreatDoorTid
import Derived.Test.YtdcojaccpnabkaaGreatDoorTih1
import Derived.Test.YtdcojaccpnabkaaGreatDoorTih2
namespace Go.Proofs.YtdcojaccpnabkaaGreatDoor.TieO
open Go
theorem tie : Tryz.prog.laidByTextLater [("math/bits.deBruijn32tab", Rows.laid_math_bits_deBruijn32tab), ("math/bits.deBruijn64tab", Rows.laid_math_bits_deBruijn64tab), ("internal/strconv.uint64pow10", Rows.laid_internal_strconv_uint64pow10), ("strconv.ErrRange", Rows.laid_strconv_ErrRange), ("strconv.ErrSyntax", Rows.laid_strconv_ErrSyntax)] [.data, .data, .data, .sentinel, .sentinel] true :=
  Program.laidByTextLater_by_run 400 8 ti_w ti_w2 ti_root ti_k ti_g ti_n ti_d ti_h1 ti_h2
theorem evictValues_row_tie:Rows.evictValuesRow.laidByTextAt .later Tryz.pinned [.data,.data,.data,.sentinel,.sentinel] true :=
  OpenClaim.laidByTextAt_later rfl rfl tie ti_own
end Go.Proofs.YtdcojaccpnabkaaGreatDoor.TieO
