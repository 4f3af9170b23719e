/- Data of the program; facts of its table of types. -/
import Derived.Test.YtpobppjicoikoaaDoorTD4
set_option linter.unusedVariables false
set_option linter.unusedSimpArgs false
namespace Go.Proofs.YtpobppjicoikoaaDoor
open Go.RowKit




end Go.Proofs.YtpobppjicoikoaaDoor
