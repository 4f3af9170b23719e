/- The library, in the frame's words: nothing of it is needed. -/
import Derived.Test.YtpbbnkpplcnaoaaGreatDoorMB
import Derived.Lib.AppendIntMem
import Derived.Lib.SmallJoins
import Derived.Lib.Agree
namespace Go.Proofs.YtpbbnkpplcnaoaaGreatDoor
end Go.Proofs.YtpbbnkpplcnaoaaGreatDoor
