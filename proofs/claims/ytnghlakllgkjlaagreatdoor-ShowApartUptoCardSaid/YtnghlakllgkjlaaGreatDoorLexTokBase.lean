/- What the reader's token leaves. (fast) -/
import Derived.Test.YtnghlakllgkjlaaGreatDoorLexW
import Derived.Test.YtnghlakllgkjlaaGreatDoorSepA
import Derived.Test.YtnghlakllgkjlaaGreatDoorDateA
namespace Go.Proofs.YtnghlakllgkjlaaGreatDoor
open Go.RowKit
set_option linter.unusedVariables false
set_option linter.unusedSimpArgs false
set_option maxRecDepth 100000
theorem decT_err (ds fs:List UInt8):(decT ds fs).2=0∨(decT ds fs).2=3∨(decT ds fs).2=5:=by
 unfold decT
 split
 ·exact Or.inr (Or.inr rfl)
 ·split
  ·exact Or.inl rfl
  ·split
   ·exact Or.inr (Or.inl rfl)
   ·exact Or.inl rfl
def TPost (o:TokD × Nat × Int) (w0:World) (R:Nat) (T:List Res) (s:ByteArray) (acc:List TokD) (bo bf:Bool) (e:Ending) (w' : World):Prop:=
 if o.2.2=5 then e = .returned (.bool false)∧Below w0.heap.size w0 w'
 else ∃ (op' : Option Addr) (oc' : Nat),e = .returned (.bool true)∧Mem w0 w' (.box R 265 [.string s,.int .i64 o.2.1,.slice op' (acc.length + 1) oc',.bool (bo || decide (o.2.2=3)),.bool (bf || decide (o.2.2=17))] :: .row op' oc' 297 8 (acc.length + 1) ((acc++[o.1]).flatMap TokD.cs) :: T)
theorem acc_flat (acc:List TokD) (t:TokD):acc.flatMap TokD.cs++t.cs=(acc++[t]).flatMap TokD.cs:=by rw [List.flatMap_append];simp
theorem acc_take (acc:List TokD):(acc.flatMap TokD.cs).take (acc.length * 8)=acc.flatMap TokD.cs:=List.take_of_length_le (by rw [flat_len TokD.cs 8 TokD.cs_len];exact Nat.le_refl _)
theorem decB_no {c:UInt8} (h:dg c=false) (w:World):Calls Tryz.prog 253 #[.int .u8 c.toNat] w fun e w'=>e = .returned (.bool false)∧Below w.heap.size w w':=h▸lDgB c w
theorem lLt (c:UInt8) (w:World):Calls Tryz.prog 256 #[.int .u8 c.toNat] w fun e w'=>e = .returned (.bool (lt1 c))∧w=w':=lLetter_any c.toNat w
theorem byte_eq {c b:UInt8} (h:c≠b):((c.toNat:Int) == (b.toNat:Int))=false:=by simpa using fun e:(c.toNat:Int)=(b.toNat:Int)=>h (UInt8.toNat_inj.1 (by omega))
theorem parse_err (l:List UInt8):Cal.parseE l=0∨Cal.parseE l=5∨Cal.parseE l=17:=by
 unfold Cal.parseE
 split
 ·split
  ·exact Or.inl rfl
  ·exact Or.inr (Or.inr rfl)
 ·exact Or.inr (Or.inl rfl)
end Go.Proofs.YtnghlakllgkjlaaGreatDoor
