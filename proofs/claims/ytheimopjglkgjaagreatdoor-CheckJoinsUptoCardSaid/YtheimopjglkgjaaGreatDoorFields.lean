/- The reference's fields. -/
import Derived.Test.YtheimopjglkgjaaGreatDoorPlainA
import Derived.RegionTactic
import Derived.ChangeAlike
namespace Go.Proofs.YtheimopjglkgjaaGreatDoor
open Go.RowKit
set_option linter.unusedVariables false
set_option linter.unusedSimpArgs false
set_option maxRecDepth 100000

end Go.Proofs.YtheimopjglkgjaaGreatDoor
