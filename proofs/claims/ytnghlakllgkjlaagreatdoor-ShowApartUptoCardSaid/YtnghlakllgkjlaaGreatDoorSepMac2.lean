/- What a callee leaves (cM, cB), told once more: its post may be a name that unfolds. -/
import Derived.Test.YtnghlakllgkjlaaGreatDoorSepA
namespace Go.Proofs.YtnghlakllgkjlaaGreatDoor
open Go.RowKit
set_option linter.unusedVariables false
section
variable {W w0:World} {L:List Res} {v:Ending} {K:Ending→World→Prop}
theorem cM1 (h:∀ W',Hid (Mem w0 W' L)→K v W'):∀ e W',(e=v∧Mem w0 W' L)→K e W':=fun _ W' ⟨he,hm⟩=>he▸h W' (Lib.hid hm)
theorem cB1 (HM:Hid (Mem w0 W L)) (h:∀ W',Hid (Mem w0 W' L)→K v W'):∀ e W',(e=v∧RowKit.Below W.heap.size W W')→K e W':=fun _ W' ⟨he,hb⟩=>he▸h W' (Lib.hid (HM.out.next hb))
end
end Go.Proofs.YtnghlakllgkjlaaGreatDoor
