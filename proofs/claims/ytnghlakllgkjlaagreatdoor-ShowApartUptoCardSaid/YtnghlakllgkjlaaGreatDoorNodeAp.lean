/- Nodes put behind a row of nodes. -/
import Derived.Test.YtnghlakllgkjlaaGreatDoorPlainA
import Derived.Test.YtnghlakllgkjlaaGreatDoorSepA
namespace Go.Proofs.YtnghlakllgkjlaaGreatDoor
open Go.RowKit
set_option linter.unusedVariables false
section
variable {P:Program} {ops:Array Oper} {Q:Exit→Act→World→Prop} {a:Act} {W w0:World} {rest:List Oper} {L:List Res}
variable {dst:Option Tmp} {ty0:TypeId} {pos:String} {after:Array Edge} {gd:Option (Nat × Bool)}
end
end Go.Proofs.YtnghlakllgkjlaaGreatDoor
