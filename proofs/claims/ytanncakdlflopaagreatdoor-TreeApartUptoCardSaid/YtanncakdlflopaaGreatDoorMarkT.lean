/- The reference of mark: attr. (short) -/
import Derived.Test.YtanncakdlflopaaGreatDoorMarkRS
import Derived.Test.YtanncakdlflopaaGreatDoorEscRefY
namespace Go.Proofs.YtanncakdlflopaaGreatDoor
open Go.RowKit
set_option linter.unusedVariables false
set_option linter.unusedSimpArgs false
set_option maxRecDepth 100000

end Go.Proofs.YtanncakdlflopaaGreatDoor
