/- A part of the proof. -/
import Derived.Test.YtmfcloapbgfhaaaGreatDoorRows
import Derived.LaidByTextLater
import Derived.SevenTiedAt
import Derived.Test.YtmfcloapbgfhaaaGreatDoorTiown
import Derived.Test.YtmfcloapbgfhaaaGreatDoorTiw
import Derived.Test.YtmfcloapbgfhaaaGreatDoorTiw2
import Derived.Test.YtmfcloapbgfhaaaGreatDoorTiroot
import Derived.Test.YtmfcloapbgfhaaaGreatDoorTik
import Derived.Test.YtmfcloapbgfhaaaGreatDoorTig
import Derived.Test.YtmfcloapbgfhaaaGreatDoorTin
import Derived.Test.YtmfcloapbgfhaaaGreatDoorTid
import Derived.Test.YtmfcloapbgfhaaaGreatDoorTih1
import Derived.Test.YtmfcloapbgfhaaaGreatDoorTih2
namespace Go.Proofs.YtmfcloapbgfhaaaGreatDoor.TieO
open Go
theorem tie : Tryz.prog.laidByTextLater [("internal/strconv.uint64pow10", Rows.laid_internal_strconv_uint64pow10), ("math/bits.deBruijn32tab", Rows.laid_math_bits_deBruijn32tab), ("math/bits.deBruijn64tab", Rows.laid_math_bits_deBruijn64tab), ("strconv.ErrSyntax", Rows.laid_strconv_ErrSyntax), ("strconv.ErrRange", Rows.laid_strconv_ErrRange)] [.data, .data, .data, .sentinel, .sentinel] true :=
  Program.laidByTextLater_by_run 400 8 ti_w ti_w2 ti_root ti_k ti_g ti_n ti_d ti_h1 ti_h2
theorem branchSwitches_row_tie:Rows.branchSwitchesRow.laidByTextAt .later Tryz.pinned [.data,.data,.data,.sentinel,.sentinel] true :=
  OpenClaim.laidByTextAt_later rfl rfl tie ti_own
theorem branchActs_row_tie:Rows.branchActsRow.laidByTextAt .later Tryz.pinned [.data,.data,.data,.sentinel,.sentinel] true :=
  OpenClaim.laidByTextAt_later rfl rfl tie ti_own
end Go.Proofs.YtmfcloapbgfhaaaGreatDoor.TieO
