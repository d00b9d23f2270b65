/- The reference's Bytes and named. (short) The reference's named. (short) The reference's DocUnescape. (short) -/
import Derived.Test.YtanncakdlflopaaGreatDoorEscRefX
import Derived.Test.YtanncakdlflopaaGreatDoorMeantB
import Derived.Lib.SlBytesConst
import Derived.Test.YtanncakdlflopaaGreatDoorUnescA
namespace Go.Proofs.YtanncakdlflopaaGreatDoor
open Go.RowKit
set_option linter.unusedVariables false
set_option linter.unusedSimpArgs false
set_option maxRecDepth 100000

end Go.Proofs.YtanncakdlflopaaGreatDoor

namespace Go.Proofs.YtanncakdlflopaaGreatDoor
open Go.RowKit
set_option linter.unusedVariables false
set_option linter.unusedSimpArgs false
set_option maxRecDepth 100000

end Go.Proofs.YtanncakdlflopaaGreatDoor

namespace Go.Proofs.YtanncakdlflopaaGreatDoor
open Go.RowKit
set_option linter.unusedVariables false
set_option linter.unusedSimpArgs false
set_option maxRecDepth 100000

end Go.Proofs.YtanncakdlflopaaGreatDoor
