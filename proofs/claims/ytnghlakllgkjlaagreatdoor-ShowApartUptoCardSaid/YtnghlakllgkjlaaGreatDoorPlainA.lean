/- The functions of a node's operation alone: arity, kids, sortOf, sort, wanted, wants. expr.plain. Nodes as plain data; expr.fits, expr.unlike, the reference's fields, twice. What checking nodes comes to, in plain words: a stack of things. -/
import Derived.Test.YtnghlakllgkjlaaGreatDoorShelf
import Derived.Test.YtnghlakllgkjlaaGreatDoorSepA
import Derived.BigQuiet
import Derived.Deep.QuietTactic
import Derived.IntWalk
import Derived.Laws.BitsAllLaws
import Derived.Test.YtnghlakllgkjlaaGreatDoorTypes
import Derived.Test.YtnghlakllgkjlaaGreatDoorWideA
import Derived.Test.YtnghlakllgkjlaaGreatDoorCharsA
namespace Go.Proofs.YtnghlakllgkjlaaGreatDoor
open Go.RowKit
set_option linter.unusedVariables false
set_option maxRecDepth 100000
theorem op_cases (op:Int):op=1∨op=2∨op=3∨op=4∨op=5∨op=6∨op=7∨op=8∨op=9∨op=10∨op=11∨op=12∨op=13∨op=14∨op=15∨op=16∨op=17∨op=18∨op=19∨op=20∨op=21∨op=22∨op=23∨op=24∨op=25∨op=26∨op=27∨op=28∨op=29∨op=30∨op=31∨op=32∨op=33∨op=34∨op=35∨op=36∨op=37∨(op < 1∨37 < op):=by omega
def arI (op:Int):Int × Int:=
 if (1≤op∧op≤7)∨op=29 then (0,0)
 else if op=8∨op=24∨op=28∨(30≤op∧op≤34)∨op=37 then (1,1)
 else if (9≤op∧op≤20)∨op=23∨op=35 then (2,2)
 else if op=21∨op=22 then (3,3)
 else if op=25 then (0,8)
 else if op=26∨op=27 then (0,-1)
 else if op=36 then (1,-1)
 else (0,-2)
theorem arI_none {op:Int} (h:op < 1∨37 < op):arI op=(0,-2):=by
 unfold arI
 rw [if_neg (by omega),if_neg (by omega),if_neg (by omega),if_neg (by omega),if_neg (by omega),if_neg (by omega),if_neg (by omega)]
def kidsB (op n:Int):Bool:=decide ((arI op).2≠-2∧(arI op).1≤n∧((arI op).2 = -1∨n≤(arI op).2))
theorem kidsB_none {op n:Int} (h:op < 1∨37 < op):kidsB op n=false:=by unfold kidsB;rw [arI_none h];exact decide_eq_false (fun x=>x.1 rfl)
theorem kidsB_op {op n:Int} (h:kidsB op n=true):1≤op∧op≤37:=by
 by_cases h1:op < 1∨37 < op
 ·rw [kidsB_none h1] at h;cases h
 ·omega
def sortI (op:Int):Int:=if op≤27 then 1 else if op=28 then 2 else if 30≤op∧op≤35 then 3 else if op=36 then 4 else 5
def wantI (op i:Int):Int:=if op=27 then 2 else if op=36 then 3 else if op=37∨op=23∧i=1 then 4 else 1
theorem pair_eq {p:Int × Int} {a b:Int} (h:p=(a,b)):Ending.returned (.tuple #[.int .i64 a,.int .i64 b]) = .returned (.tuple #[.int .i64 p.1,.int .i64 p.2]):=by subst h;rfl
set_option maxHeartbeats 8000000 in
theorem arity_any (op:Int) (w:World) :
  Calls Tryz.prog 135 #[.int .i64 op] w fun e w'=>e = .returned (.tuple #[.int .i64 (arI op).1,.int .i64 (arI op).2])∧w=w':=by
 rcases op_cases op with rfl|rfl|rfl|rfl|rfl|rfl|rfl|rfl|rfl|rfl|rfl|rfl|rfl|rfl|rfl|rfl|rfl|rfl|rfl|rfl|rfl|rfl|rfl|rfl|rfl|rfl|rfl|rfl|rfl|rfl|rfl|rfl|rfl|rfl|rfl|rfl|rfl|h
 all_goals first
  |(go_enter Tryz.func135,Tryz.ntmps135
    go_wp2
    go_ret2
    exact ⟨pair_eq rfl,rfl⟩)
  |(have HN:=Lib.hid (arI_none h)
    rcases h with h|h <;>
    (go_enter Tryz.func135,Tryz.ntmps135
     go_wp2
     go_ret2
     exact ⟨pair_eq HN.out,rfl⟩))
set_option maxHeartbeats 16000000 in
theorem kids_any (op n:Int) (w:World) :
  Calls Tryz.prog 130 #[.int .i64 op,.int .i64 n] w fun e w'=>e = .returned (.bool (kidsB op n))∧w=w':=by
 have HK:=Lib.hid (show ∀ op:Int,kidsB op n=decide ((arI op).2≠-2∧(arI op).1≤n∧((arI op).2 = -1∨n≤(arI op).2)) from fun _=>rfl)
 rcases op_cases op with rfl|rfl|rfl|rfl|rfl|rfl|rfl|rfl|rfl|rfl|rfl|rfl|rfl|rfl|rfl|rfl|rfl|rfl|rfl|rfl|rfl|rfl|rfl|rfl|rfl|rfl|rfl|rfl|rfl|rfl|rfl|rfl|rfl|rfl|rfl|rfl|rfl|h
 all_goals first
  |(go_enter Tryz.func130,Tryz.ntmps130
    go_wp2
    go_ret
    refine ⟨ret_bool ?_,rfl⟩
    rw [HK.out,Bool.eq_iff_iff]
    simp only [decide_eq_true_eq,beq_iff_eq,arI]
    first|omega|(simp;done)|(simp;omega)
    done)
  |(have HN:=Lib.hid (kidsB_none (n:=n) h)
    have hb:(decide (1≤op)=false∧decide (28≤op)=false∧decide (9≤op)=false)∨(decide (1≤op)=true∧decide (28≤op)=true∧decide (9≤op)=true∧decide (op≤7)=false∧decide (op≤34)=false∧decide (op≤20)=false):=by
     simp only [decide_eq_true_eq,decide_eq_false_iff_not];omega
    have e8:(op == 8)=false:=beq_false_of_ne (by omega)
    have e24:(op == 24)=false:=beq_false_of_ne (by omega)
    have e29:(op == 29)=false:=beq_false_of_ne (by omega)
    have e37:(op == 37)=false:=beq_false_of_ne (by omega)
    have e23:(op == 23)=false:=beq_false_of_ne (by omega)
    have e35:(op == 35)=false:=beq_false_of_ne (by omega)
    have e21:(op == 21)=false:=beq_false_of_ne (by omega)
    have e22:(op == 22)=false:=beq_false_of_ne (by omega)
    have e25:(op == 25)=false:=beq_false_of_ne (by omega)
    have e26:(op == 26)=false:=beq_false_of_ne (by omega)
    have e27:(op == 27)=false:=beq_false_of_ne (by omega)
    have e36:(op == 36)=false:=beq_false_of_ne (by omega)
    clear h
    rcases hb with ⟨b1,b2,b3⟩ | ⟨b1,b2,b3,b4,b5,b6⟩ <;>
    (go_enter Tryz.func130,Tryz.ntmps130
     go_wp2
     go_ret
     exact ⟨ret_bool HN.out.symm,rfl⟩))
  |(have hb:(decide (0≤n)=false∧kidsB 25 n=false)∨(decide (0≤n)=true∧∃ b,decide (n≤8)=b∧kidsB 25 n=b):=by
      by_cases h0:0≤n
      ·right
       refine ⟨decide_eq_true h0,_,rfl,?_⟩
       simp [kidsB,arI,h0]
      ·left
       refine ⟨decide_eq_false h0,?_⟩
       simp [kidsB,arI,h0]
    rcases hb with ⟨b1,hv⟩ | ⟨b1,b,b2,hv⟩ <;>
    (have HV:=Lib.hid hv
     clear hv
     go_enter Tryz.func130,Tryz.ntmps130
     go_wp2
     go_ret
     exact ⟨ret_bool HV.out.symm,rfl⟩))
set_option maxHeartbeats 8000000 in
theorem sortOf_any (op:Int) (w:World) (h1:1≤op) (h2:op≤37) :
  Calls Tryz.prog 80 #[.int .i64 op] w fun e w'=>e = .returned (.int .i64 (sortI op))∧w=w':=by
 rcases op_cases op with rfl|rfl|rfl|rfl|rfl|rfl|rfl|rfl|rfl|rfl|rfl|rfl|rfl|rfl|rfl|rfl|rfl|rfl|rfl|rfl|rfl|rfl|rfl|rfl|rfl|rfl|rfl|rfl|rfl|rfl|rfl|rfl|rfl|rfl|rfl|rfl|rfl|h
 all_goals first
  | omega
  |(clear h1 h2
    go_enter Tryz.func80,Tryz.ntmps80
    go_wp2
    go_ret
    exact ⟨rfl,rfl⟩)
set_option maxHeartbeats 8000000 in
theorem rsort_any (op:Int) (w:World) (h1:1≤op) (h2:op≤37) :
  Calls Tryz.prog 69 #[.int .i64 op] w fun e w'=>e = .returned (.int .i64 (sortI op))∧w=w':=by
 rcases op_cases op with rfl|rfl|rfl|rfl|rfl|rfl|rfl|rfl|rfl|rfl|rfl|rfl|rfl|rfl|rfl|rfl|rfl|rfl|rfl|rfl|rfl|rfl|rfl|rfl|rfl|rfl|rfl|rfl|rfl|rfl|rfl|rfl|rfl|rfl|rfl|rfl|rfl|h
 all_goals first
  | omega
  |(clear h1 h2
    go_enter Tryz.func69,Tryz.ntmps69
    go_wp2
    go_ret
    exact ⟨rfl,rfl⟩)
set_option maxHeartbeats 8000000 in
theorem wanted_any (op i:Int) (w:World) (h1:1≤op) (h2:op≤37) :
  Calls Tryz.prog 78 #[.int .i64 op,.int .i64 i] w fun e w'=>e = .returned (.int .i64 (wantI op i))∧w=w':=by
 have hi:i=1∨(i == 1)=false:=by by_cases h:i=1;exact Or.inl h;exact Or.inr (beq_false_of_ne h)
 rcases op_cases op with rfl|rfl|rfl|rfl|rfl|rfl|rfl|rfl|rfl|rfl|rfl|rfl|rfl|rfl|rfl|rfl|rfl|rfl|rfl|rfl|rfl|rfl|rfl|rfl|rfl|rfl|rfl|rfl|rfl|rfl|rfl|rfl|rfl|rfl|rfl|rfl|rfl|h
 all_goals first
  | omega
  |(clear h1 h2
    rcases hi with rfl|hi <;>
    (go_enter Tryz.func78,Tryz.ntmps78
     go_wp2
     go_ret
     refine ⟨ret_i64 ?_,rfl⟩
     first|rfl|(have:=ne_of_beq_false hi;simp [wantI];done)|(have:=ne_of_beq_false hi;simp [wantI,this])))
set_option maxHeartbeats 8000000 in
theorem wants_any (op i:Int) (w:World) (h1:1≤op) (h2:op≤37) :
  Calls Tryz.prog 70 #[.int .i64 op,.int .i64 i] w fun e w'=>e = .returned (.int .i64 (wantI op i))∧w=w':=by
 have hi:i=1∨(i == 1)=false:=by by_cases h:i=1;exact Or.inl h;exact Or.inr (beq_false_of_ne h)
 rcases op_cases op with rfl|rfl|rfl|rfl|rfl|rfl|rfl|rfl|rfl|rfl|rfl|rfl|rfl|rfl|rfl|rfl|rfl|rfl|rfl|rfl|rfl|rfl|rfl|rfl|rfl|rfl|rfl|rfl|rfl|rfl|rfl|rfl|rfl|rfl|rfl|rfl|rfl|h
 all_goals first
  | omega
  |(clear h1 h2
    rcases hi with rfl|hi <;>
    (go_enter Tryz.func70,Tryz.ntmps70
     go_wp2
     go_ret
     refine ⟨ret_i64 ?_,rfl⟩
     first|rfl|(have:=ne_of_beq_false hi;simp [wantI];done)|(have:=ne_of_beq_false hi;simp [wantI,this])))
set_option linter.unusedSimpArgs false
def namedOp (op:Int):Bool:=decide (op=7∨op=24∨op=25∨op=28)
def spanB (t:ByteArray):Bool:=decide (t.toList=[91,93]∨t.toList=[91,41]∨t.toList=[40,93]∨t.toList=[40,41])
def nodeV (op kids:Int) (text:ByteArray) (neg:Bool) (hi lo:Nat) (sc day:Int):Value:=.agg #[.int .i64 op,.int .i64 kids,.string text,.bool neg,.int .u64 hi,.int .u64 lo,.int .i64 sc,.int .i64 day]
def clrV (op kids:Int) (text:ByteArray) (neg:Bool) (hi lo:Nat) (sc day:Int):Value:=
 if op=4 then nodeV op kids text false 0 0 0 day else if op=6 then nodeV op kids text neg hi lo sc 0
 else if op=5∨op=35∨namedOp op=true then nodeV op kids ⟨#[]⟩ neg hi lo sc day else nodeV op kids text neg hi lo sc day
def okB (op:Int) (text:ByteArray) (neg:Bool) (n:Nat) (sc day:Int):Bool:=
 if op=4 then dcmB neg n sc && !neg else if op=5 then decide (text.size≤1000) && textB text else if op=6 then decide (1≤day) && decide (day≤3652059)
 else if op=35 then spanB text else if namedOp op=true then nameB text else true
def PlainPost (op kids:Int) (text:ByteArray) (neg:Bool) (hi lo:Nat) (sc day:Int) (n:Nat) (w:World) (e:Ending) (w' : World):Prop:=
 e = .returned (.tuple #[clrV op kids text neg hi lo sc day,.bool (okB op text neg n sc day)])∧Below w.heap.size w w'
set_option maxHeartbeats 2000000 in
theorem plain_num (kids:Int) (text:ByteArray) (neg:Bool) (hi lo:Nat) (sc day:Int) (n:Nat) (w:World) (h:W2 n hi lo) :
  Calls Tryz.prog 76 #[nodeV 4 kids text neg hi lo sc day] w (PlainPost 4 kids text neg hi lo sc day n w):=by
 have HM:=Lib.hid (Mem.start w)
 unfold nodeV
 have HW:=Lib.hid h
 clear h
 go_enter Tryz.func76,Tryz.ntmps76
 go_wp2_with (first|refine mP ?_|(refine mS ?_;clear HM;intro W1 HM)|(refine hal HM rfl ?_;clear HM;intro g1 W1 HM)|(refine hbxA HM rfl rfl ?_;clear HM;intro g1 W1 HM)|(go_at_call 133;(with_reducible refine cB HM (form_any neg n hi lo sc _ HW.out) ?_);clear HM;intro W1 HM))
 all_goals refine bodyPost_ret (res_box_tmp rfl HM.out 0 rfl rfl rfl rfl) rfl ⟨?_,HM.out.below⟩
 ·have hd:dcmB neg n sc=true:=by assumption
  exact by simp [okB,hd,clrV,nodeV]
 ·have hd:¬ dcmB neg n sc=true:=by assumption
  exact by simp [okB,hd,clrV,nodeV]
set_option maxHeartbeats 2000000 in
theorem plain_text (kids:Int) (text:ByteArray) (neg:Bool) (hi lo:Nat) (sc day:Int) (n:Nat) (w:World) (hs:text.size≤9223372036854775807) (hT:U8 w) :
  Calls Tryz.prog 76 #[nodeV 5 kids text neg hi lo sc day] w (PlainPost 5 kids text neg hi lo sc day n w):=by
 have HM:=Lib.hid (Mem.start w)
 unfold nodeV
 have HT:=Lib.hid hT
 clear hT
 go_enter Tryz.func76,Tryz.ntmps76
 go_wp2_with (first|refine mP ?_|(refine mS ?_;clear HM;intro W1 HM)|(refine hal HM rfl ?_;clear HM;intro g1 W1 HM)|(refine hbxA HM rfl rfl ?_;clear HM;intro g1 W1 HM)|(go_at_call 105;(with_reducible refine cB HM (valid_any text _ hs (U8.below HT.out HM.out.below)) ?_);clear HM;intro W1 HM))
 all_goals refine bodyPost_ret (res_box_tmp rfl HM.out 0 rfl rfl rfl rfl) rfl ⟨?_,HM.out.below⟩
 ·have hd:(text.size:Int)≤1000:=by assumption
  exact by simp [okB,show text.size≤1000 by omega,clrV,nodeV]
 ·have hd:1000 < (text.size:Int):=by assumption
  exact by simp [okB,show ¬ text.size≤1000 by omega,clrV,nodeV]
set_option maxHeartbeats 2000000 in
theorem plain_date (kids:Int) (text:ByteArray) (neg:Bool) (hi lo:Nat) (sc day:Int) (n:Nat) (w:World) :
  Calls Tryz.prog 76 #[nodeV 6 kids text neg hi lo sc day] w (PlainPost 6 kids text neg hi lo sc day n w):=by
 have HM:=Lib.hid (Mem.start w)
 unfold nodeV
 go_enter Tryz.func76,Tryz.ntmps76
 go_wp2_with (first|refine mP ?_|(refine mS ?_;clear HM;intro W1 HM)|(refine hal HM rfl ?_;clear HM;intro g1 W1 HM)|(refine hbxA HM rfl rfl ?_;clear HM;intro g1 W1 HM))
 all_goals refine bodyPost_ret (res_box_tmp rfl HM.out 0 rfl rfl rfl rfl) rfl ⟨?_,HM.out.below⟩
 ·have hd:1≤day:=by assumption
  exact by simp [okB,hd,clrV,nodeV]
 ·have hd:day < 1:=by assumption
  exact by simp [okB,show ¬ 1≤day by omega,clrV,nodeV]
set_option maxHeartbeats 2000000 in
theorem plain_name (op:Int) (h:op=7∨op=24∨op=25∨op=28) (kids:Int) (text:ByteArray) (neg:Bool) (hi lo:Nat) (sc day:Int) (n:Nat) (w:World) :
  Calls Tryz.prog 76 #[nodeV op kids text neg hi lo sc day] w (PlainPost op kids text neg hi lo sc day n w):=by
 have HM:=Lib.hid (Mem.start w)
 unfold nodeV
 rcases h with rfl|rfl|rfl|rfl
 all_goals
  go_enter Tryz.func76,Tryz.ntmps76
  go_wp2_with (first|refine mP ?_|(refine mS ?_;clear HM;intro W1 HM)|(refine hal HM rfl ?_;clear HM;intro g1 W1 HM)|(refine hbxA HM rfl rfl ?_;clear HM;intro g1 W1 HM)|(go_at_call 134;(with_reducible refine (name_any text _).mono ?_);rintro e W2 ⟨rfl,rfl⟩))
  exact bodyPost_ret (res_box_tmp rfl HM.out 0 rfl rfl rfl rfl) rfl ⟨by simp [okB,clrV,nodeV,namedOp],HM.out.below⟩
set_option maxHeartbeats 2000000 in
theorem plain_span (kids:Int) (text:ByteArray) (neg:Bool) (hi lo:Nat) (sc day:Int) (n:Nat) (w:World) :
  Calls Tryz.prog 76 #[nodeV 35 kids text neg hi lo sc day] w (PlainPost 35 kids text neg hi lo sc day n w):=by
 have HM:=Lib.hid (Mem.start w)
 unfold nodeV
 go_enter Tryz.func76,Tryz.ntmps76
 go_wp2_with (first|refine mP ?_|(refine mS ?_;clear HM;intro W1 HM)|(refine hal HM rfl ?_;clear HM;intro g1 W1 HM)|(refine hbxA HM rfl rfl ?_;clear HM;intro g1 W1 HM))
 all_goals refine bodyPost_ret (res_box_tmp rfl HM.out 0 rfl rfl rfl rfl) rfl ⟨?_,HM.out.below⟩
 all_goals first
  |(have hd:text.toList=[91,93]:=(by assumption);exact (by simp [okB,spanB,hd,clrV,nodeV]))
  |(have hd:text.toList=[91,41]:=(by assumption);exact (by simp [okB,spanB,hd,clrV,nodeV]))
  |(have hd:text.toList=[40,93]:=(by assumption);exact (by simp [okB,spanB,hd,clrV,nodeV]))
  |(have h1:¬ text.toList=[91,93]:=(by assumption);have h2:¬ text.toList=[91,41]:=(by assumption);have h3:¬ text.toList=[40,93]:=(by assumption);exact (by simp [okB,spanB,h1,h2,h3,clrV,nodeV];rw [Bool.eq_iff_iff];simp [h1,h2,h3]))
set_option maxHeartbeats 2000000 in
theorem plain_rest (op:Int) (h4:op≠4) (h5:op≠5) (h6:op≠6) (h35:op≠35) (hn:namedOp op=false) (kids:Int) (text:ByteArray) (neg:Bool) (hi lo:Nat) (sc day:Int) (n:Nat) (w:World) :
  Calls Tryz.prog 76 #[nodeV op kids text neg hi lo sc day] w (PlainPost op kids text neg hi lo sc day n w):=by
 have HM:=Lib.hid (Mem.start w)
 have hR:=Lib.hid (show clrV op kids text neg hi lo sc day=nodeV op kids text neg hi lo sc day∧okB op text neg n sc day=true by simp [clrV,okB,h4,h5,h6,h35,hn])
 unfold nodeV
 have hn' : ¬ (op=7∨op=24∨op=25∨op=28):=of_decide_eq_false hn
 have b4:(op == 4)=false:=beq_false_of_ne h4
 have b5:(op == 5)=false:=beq_false_of_ne h5
 have b6:(op == 6)=false:=beq_false_of_ne h6
 have b35:(op == 35)=false:=beq_false_of_ne h35
 have b7:(op == 7)=false:=beq_false_of_ne (by omega)
 have b24:(op == 24)=false:=beq_false_of_ne (by omega)
 have b25:(op == 25)=false:=beq_false_of_ne (by omega)
 have b28:(op == 28)=false:=beq_false_of_ne (by omega)
 clear h4 h5 h6 h35 hn hn'
 go_enter Tryz.func76,Tryz.ntmps76
 go_wp2_with (first|refine mP ?_|(refine mS ?_;clear HM;intro W1 HM)|(refine hal HM rfl ?_;clear HM;intro g1 W1 HM)|(refine hbxA HM rfl rfl ?_;clear HM;intro g1 W1 HM))
 exact bodyPost_ret (res_box_tmp rfl HM.out 0 rfl rfl rfl rfl) rfl ⟨by rw [hR.out.1,hR.out.2];rfl,HM.out.below⟩
theorem plain_any (op kids:Int) (text:ByteArray) (neg:Bool) (hi lo:Nat) (sc day:Int) (n:Nat) (w:World) (h:W2 n hi lo) (hs:text.size≤9223372036854775807) (hT:U8 w) :
  Calls Tryz.prog 76 #[nodeV op kids text neg hi lo sc day] w (PlainPost op kids text neg hi lo sc day n w):=by
 by_cases h4:op=4
 ·subst h4;exact plain_num kids text neg hi lo sc day n w h
 by_cases h5:op=5
 ·subst h5;exact plain_text kids text neg hi lo sc day n w hs hT
 by_cases h6:op=6
 ·subst h6;exact plain_date kids text neg hi lo sc day n w
 by_cases h35:op=35
 ·subst h35;exact plain_span kids text neg hi lo sc day n w
 cases hn:namedOp op
 ·exact plain_rest op h4 h5 h6 h35 hn kids text neg hi lo sc day n w
 ·exact plain_name op (of_decide_eq_true hn) kids text neg hi lo sc day n w
structure NodeD where
 op:Int
 kids:Int
 text:ByteArray
 neg:Bool
 hi:Nat
 lo:Nat
 sc:Int
 day:Int
def NodeD.cs (n:NodeD):List Value:=[.int .i64 n.op,.int .i64 n.kids,.string n.text,.bool n.neg,.int .u64 n.hi,.int .u64 n.lo,.int .i64 n.sc,.int .i64 n.day]
def NodeD.val (n:NodeD):Value:=nodeV n.op n.kids n.text n.neg n.hi n.lo n.sc n.day
def NodeD.num (n:NodeD):Nat:=n.hi * 2 ^ 64 + n.lo
structure NodeD.wf (n:NodeD):Prop where
 hi:n.hi < 2 ^ 64
 lo:n.lo < 2 ^ 64
 text:n.text.size≤1099511627776
 kids : -9223372036854775808≤n.kids∧n.kids≤9223372036854775807
theorem NodeD.cs_len (n:NodeD):n.cs.length=8:=rfl
theorem NodeD.w2 {n:NodeD} (h:n.wf):W2 n.num n.hi n.lo:=⟨rfl,h.lo,h.hi⟩
def usesText (op:Int):Bool:=decide (op=5∨op=35) || namedOp op
def leftT (op:Int) (t:ByteArray):ByteArray:=if usesText op then ⟨#[]⟩ else t
def leftB (op:Int) (b:Bool):Bool:=if op=4 then false else b
def leftN (op:Int) (n:Nat):Nat:=if op=4 then 0 else n
def leftS (op:Int) (s:Int):Int:=if op=4 then 0 else s
def leftD (op:Int) (d:Int):Int:=if op=6 then 0 else d
theorem clrV_eq (op kids:Int) (text:ByteArray) (neg:Bool) (hi lo:Nat) (sc day:Int):clrV op kids text neg hi lo sc day=nodeV op kids (leftT op text) (leftB op neg) (leftN op hi) (leftN op lo) (leftS op sc) (leftD op day):=by
 unfold clrV leftT leftB leftN leftS leftD usesText
 by_cases h4:op=4
 ·subst h4;simp [namedOp]
 by_cases h6:op=6
 ·subst h6;simp [namedOp]
 by_cases h5:op=5∨op=35∨namedOp op=true
 ·rcases h5 with h5|h5|h5 <;> simp [h4,h6,h5]
 ·have:=not_or.1 h5
  have:=not_or.1 this.2
  simp [h4,h6,h5,this,(not_or.1 h5).1]
def fieldsB (n:NodeD):Bool:=
 okB n.op n.text n.neg n.num n.sc n.day && (decide (n.op=4) || (!n.neg && decide (n.hi=0∧n.lo=0∧n.sc=0))) && (usesText n.op || decide (n.text.toList=[])) && (decide (n.op=6) || decide (n.day=0))
theorem kids_int (op n:Int):kidsB op n=decide ((arI op).2≠-2∧(arI op).1≤n∧((arI op).2 = -1∨n≤(arI op).2)):=rfl
set_option maxHeartbeats 2000000 in
theorem fits_node (n:NodeD) (w:World) :
  Calls Tryz.prog 77 #[n.val] w fun e w'=>e = .returned (.bool (kidsB n.op n.kids))∧Below w.heap.size w w':=by
 have HM:=Lib.hid (Mem.start w)
 have HA:=Lib.hid (fun W=>arity_any n.op W)
 have HK:=Lib.hid (kids_int n.op n.kids)
 unfold NodeD.val nodeV
 generalize arI n.op=ar at HK HA
 obtain ⟨lo,hi⟩:=ar
 go_enter Tryz.func77,Tryz.ntmps77
 go_wp2_with (first|refine mP ?_|(refine hbxA HM rfl rfl ?_;clear HM;intro g1 W1 HM)|(go_at_call 135;(with_reducible refine (HA.out _).mono ?_);rintro e W2 ⟨rfl,rfl⟩))
 all_goals go_ret
 all_goals refine ⟨?_,HM.out.below⟩
 all_goals (rw [HK.out];refine ret_bool ?_;rw [Bool.eq_iff_iff,decide_eq_true_eq])
 all_goals (simp;omega)
structure ThingD where
 sort:Int
 depth:Int
 at_:Nat
def ThingD.cs (t:ThingD):List Value:=[.int .i64 t.sort,.int .i64 t.depth,.int .i64 t.at_]
theorem ThingD.cs_len (t:ThingD):t.cs.length=3:=rfl
def textAt (ns:List NodeD) (i:Nat):List UInt8:=match ns[i]? with|some n=>n.text.toList|none=>[]
theorem textAt_of {ns:List NodeD} {i:Nat} {n:NodeD} (h:ns[i]? = some n):textAt ns i=n.text.toList:=by unfold textAt;rw [h]
def unlikeB (l:List (List UInt8)):Bool:=decide (∀ i,i < l.length→∀ j,j < i→l[i]?≠l[j]?)
theorem unlikeB_no {l:List (List UInt8)} {i j:Nat} (hi:i < l.length) (hj:j < i) (h:l[i]? = l[j]?):unlikeB l=false:=decide_eq_false fun H=>H i hi j hj h
theorem unlikeB_yes {l:List (List UInt8)} (h:∀ i,i < l.length→∀ j,j < i→l[i]?≠l[j]?):unlikeB l=true:=decide_eq_true h
set_option maxHeartbeats 4000000 in
theorem unlike_any (p:Option Addr) (c:Nat) (ns:List NodeD) (q:Option Addr) (c' : Nat) (ts:List ThingD) (w:World) (hN:Sl w p (ns.flatMap NodeD.cs)) (hT:Sl w q (ts.flatMap ThingD.cs)) (hc:ts.length≤c') (hat:∀ (i:Nat) (t:ThingD),ts[i]? = some t→t.at_ < ns.length) (hl:ns.length≤4611686018427387904) (hl' : ts.length≤4611686018427387904) :
  Calls Tryz.prog 79 #[.slice p ns.length c,.slice q ts.length c'] w fun e w'=>e = .returned (.bool (unlikeB (ts.map fun t=>textAt ns t.at_)))∧Below w.heap.size w w':=by
 have HM:=Lib.hid (Mem.start w)
 obtain ⟨r,hr⟩:∃ r,unlikeB (ts.map fun t=>textAt ns t.at_)=r:=⟨_,rfl⟩
 rw [hr]
 have HR:=Lib.hid hr
 have HN:=Lib.hid hN
 have HT:=Lib.hid hT
 have HA:=Lib.hid hat
 clear hr hN hT hat
 go_enter Tryz.func79,Tryz.ntmps79
 go_wp2_with fail
 go_loopw [11] (fun iv wr=>∃ i:Nat,iv = .int .i64 i∧i≤ts.length∧Hid (∀ x,x < i→∀ y,y < x→(ts.map fun t=>textAt ns t.at_)[x]?≠(ts.map fun t=>textAt ns t.at_)[y]?)∧Hid (Mem w wr [])) (fun iv _=>ts.length - (intOf iv).toNat)
 case atStart=>exact ⟨0,rfl,by omega,Lib.hid (fun x hx=>by omega),HM⟩
 case round=>
  clear HM
  obtain ⟨i,rfl,hi,HI,HM⟩:=hrel
  by_cases hlt:i < ts.length
  ·obtain ⟨b,rfl,hb⟩:=HT.out.some_at ThingD.cs_len (by decide) hlt
   have Hb:=Lib.hid hb
   obtain ⟨ti,hti⟩:∃ t,ts[i]? = some t:=⟨_,List.getElem?_eq_getElem hlt⟩
   have Hti:=Lib.hid hti
   have hai:=HA.out i ti hti
   have hne:0 < ns.length:=by omega
   obtain ⟨b2,rfl,hb2⟩:=HN.out.some_at NodeD.cs_len (by decide) hne
   have Hb2:=Lib.hid hb2
   obtain ⟨ni,hni⟩:∃ n,ns[ti.at_]? = some n:=⟨_,List.getElem?_eq_getElem hai⟩
   have Hni:=Lib.hid hni
   have E1:=Lib.hid (hb.elem ThingD.cs 3 ThingD.cs_len hti)
   have E2:=Lib.hid (hb2.elem NodeD.cs 8 NodeD.cs_len hni)
   have HTi:=Lib.hid (show (ts.map fun t=>textAt ns t.at_)[i]? = some ni.text.toList by rw [List.getElem?_map,hti,Option.map_some,textAt_of hni])
   clear hb hti hb2 hni
   have d1:decide ((i:Int) < ts.length)=true:=decide_eq_true (by omega)
   go_wp2_with (first|refine mP ?_|(refine mS ?_;clear HM;intro W1 HM)|(refine hal (dst:=some 6) HM rfl ?_;clear HM;intro g6 W1 HM)|(refine hal (dst:=some 8) HM rfl ?_;clear HM;intro g8 W1 HM)|(refine ixa rfl rfl rfl hlt ?_)|(refine ldxW (HM.out.olds E1.out) rfl rfl ?_)|(refine sltx rfl rfl rfl (by omega) ?_))
   go_loopw [20] (fun jv wr=>∃ j:Nat,jv = .int .i64 j∧j≤i∧Hid (∀ y,y < j→(ts.map fun t=>textAt ns t.at_)[i]?≠(ts.map fun t=>textAt ns t.at_)[y]?)∧Hid (Mem w wr [.box g6 119 ti.cs])) (fun jv _=>i - (intOf jv).toNat)
   case atStart=>exact ⟨0,rfl,by omega,Lib.hid (fun y hy=>by omega),HM⟩
   case round=>
    clear HM
    obtain ⟨j,rfl,hj,HJ,HM⟩:=hrel
    by_cases hlj:j < i
    ·obtain ⟨tj,htj⟩:∃ t,ts[j]? = some t:=⟨_,List.getElem?_eq_getElem (by omega)⟩
     have haj:=HA.out j tj htj
     obtain ⟨nj,hnj⟩:∃ n,ns[tj.at_]? = some n:=⟨_,List.getElem?_eq_getElem haj⟩
     have F1:=Lib.hid (Hb.out.elem ThingD.cs 3 ThingD.cs_len htj)
     have F2:=Lib.hid (Hb2.out.elem NodeD.cs 8 NodeD.cs_len hnj)
     have HTj:=Lib.hid (show (ts.map fun t=>textAt ns t.at_)[j]? = some nj.text.toList by rw [List.getElem?_map,htj,Option.map_some,textAt_of hnj])
     clear htj hnj
     have d2:decide ((j:Int) < i)=true:=decide_eq_true (by omega)
     by_cases heq:ni.text.toList=nj.text.toList
     ·have b1:(ni.text.toList == nj.text.toList)=true:=beq_iff_eq.2 heq
      have HD:=Lib.hid (show r=false by rw [← HR.out];exact unlikeB_no (by simpa using hlt) hlj (by rw [HTi.out,HTj.out,heq]))
      clear heq
      go_wp2_with (first|refine mP ?_|(refine mS ?_;clear HM;intro W1 HM)|(refine hal (dst:=some 8) HM rfl ?_;clear HM;intro g8 W1 HM)|(refine hal HM rfl ?_;clear HM;intro g1 W1 HM)|(refine ixa rfl rfl rfl hlj ?_)|(refine ldxW (HM.out.olds F1.out) rfl rfl ?_))
      refine wp_region_mem (by kernel_rfl) (by kernel_rfl) HM.out ?_;intro hNE;(repeat (any_goals (first|refine mQ ?_|(refine qixa rfl rfl rfl hai ?_)|(refine qixa rfl rfl rfl haj ?_)|(refine qdxf E2.out rfl rfl rfl ?_)|(refine qdxf F2.out rfl rfl rfl ?_)|go_big_quiet_step (fail)|quiet_step (fail))));clear hNE;refine wpQuiet_nil ?_;intro W1 HM1;replace HM:=Lib.hid HM1;clear HM1
      go_wp2
      go_ret
      exact ⟨by rw [HD.out];rfl,HM.out.below⟩
     ·have b1:(ni.text.toList == nj.text.toList)=false:=beq_false_of_ne heq
      have HD:=Lib.hid (show ∀ y,y < j + 1→(ts.map fun t=>textAt ns t.at_)[i]?≠(ts.map fun t=>textAt ns t.at_)[y]? from fun y hy=>by
       by_cases e:y=j
       ·subst e;rw [HTi.out,HTj.out];exact fun h=>heq (Option.some.inj h)
       ·exact HJ.out y (by omega))
      clear heq
      go_wp2_with (first|refine mP ?_|(refine mS ?_;clear HM;intro W1 HM)|(refine hal (dst:=some 8) HM rfl ?_;clear HM;intro g8 W1 HM)|(refine hal HM rfl ?_;clear HM;intro g1 W1 HM)|(refine ixa rfl rfl rfl hlj ?_)|(refine ldxW (HM.out.olds F1.out) rfl rfl ?_))
      refine wp_region_mem (by kernel_rfl) (by kernel_rfl) HM.out ?_;intro hNE;(repeat (any_goals (first|refine mQ ?_|(refine qixa rfl rfl rfl hai ?_)|(refine qixa rfl rfl rfl haj ?_)|(refine qdxf E2.out rfl rfl rfl ?_)|(refine qdxf F2.out rfl rfl rfl ?_)|go_big_quiet_step (fail)|quiet_step (fail))));clear hNE;refine wpQuiet_nil ?_;intro W1 HM1;replace HM:=Lib.hid HM1;clear HM1
      go_wp2
      go_roundw
      case rel=>exact ⟨j + 1,by go_num,by omega,HD,Lib.hid (HM.out.sub (List.sublist_cons_self _ _))⟩
      case measure=>simp [intOf];omega
    ·obtain rfl:j=i:=by omega
     have d2:decide ((j:Int) < j)=false:=by simp
     have HD:=Lib.hid (show ∀ x,x < j + 1→∀ y,y < x→(ts.map fun t=>textAt ns t.at_)[x]?≠(ts.map fun t=>textAt ns t.at_)[y]? from fun x hx y hy=>by
      by_cases e:x=j
      ·subst e;exact HJ.out y hy
      ·exact HI.out x (by omega) y hy)
     go_wp2
     go_roundw
     case rel=>exact ⟨j + 1,by go_num,by omega,HD,Lib.hid (HM.out.sub (List.sublist_cons_self _ _))⟩
     case measure=>simp [intOf];omega
  ·obtain rfl:i=ts.length:=by omega
   have d1:decide ((ts.length:Int) < ts.length)=false:=by simp
   have HD:=Lib.hid (show r=true by rw [← HR.out];exact unlikeB_yes (fun x hx=>HI.out x (by simpa using hx)))
   go_wp2
   go_ret
   exact ⟨by rw [HD.out];rfl,HM.out.below⟩
theorem kidsB_nonneg {op n:Int} (h:kidsB op n=true):0≤n:=by
 unfold kidsB at h
 have h1:=(of_decide_eq_true h).2.1
 have h2:0≤(arI op).1:=by
  rcases op_cases op with rfl|rfl|rfl|rfl|rfl|rfl|rfl|rfl|rfl|rfl|rfl|rfl|rfl|rfl|rfl|rfl|rfl|rfl|rfl|rfl|rfl|rfl|rfl|rfl|rfl|rfl|rfl|rfl|rfl|rfl|rfl|rfl|rfl|rfl|rfl|rfl|rfl|h
  all_goals first|decide|(rw [arI_none h];decide)
 omega
theorem drop_atC {α:Type} {l:List α} {k:Nat} {t:α} (h:l[k]? = some t):l.drop k=t :: l.drop (k + 1):=by
 obtain ⟨hk,he⟩:=List.getElem?_eq_some_iff.1 h
 rw [List.drop_eq_getElem_cons hk,he]
def partsF (op:Int):Nat→Int→List ThingD→Option Int
 | _,d,[]=>some d
 | k,d,t :: l=>if t.sort=wantI op k then partsF op (k + 1) (max d t.depth) l else none
def textsOf (ns:List NodeD) (ts:List ThingD):List (List UInt8):=ts.map fun t=>textAt ns t.at_
def stepC (ns:List NodeD) (st:List ThingD) (i:Nat) (n:NodeD):Option (List ThingD × Int):=
 if fieldsB n && kidsB n.op n.kids && decide (n.kids≤st.length) then
  match partsF n.op 0 0 (st.drop (st.length - n.kids.toNat)) with
  | none=>none
  | some d=>if n.op=27∧unlikeB (textsOf ns (st.drop (st.length - n.kids.toNat)))=false then none else some (st.take (st.length - n.kids.toNat)++[⟨sortI n.op,d + 1,i⟩],d + 1)
 else none
def endC (tests:Bool) (st:List ThingD) (deep:Int):Int:=
 match st with
 | [t]=>if (if tests then t.sort=4∨t.sort=5 else t.sort=1) then (if 40 < deep then 7 else 0) else 2
 | _=>2
def runC (ns:List NodeD) (tests:Bool):List NodeD→Nat→List ThingD→Int→Int
 | [],_,st,deep=>endC tests st deep
 | n :: rest,i,st,deep=>(stepC ns st i n).elim 2 fun x=>runC ns tests rest (i + 1) x.1 (max deep x.2)
def checkC (ns:List NodeD) (tests:Bool):Int:=if 300 < ns.length then 6 else runC ns tests ns 0 [] 0
theorem partsF_cons (op:Int) (k:Nat) (d:Int) (t:ThingD) (l:List ThingD):partsF op k d (t :: l)=if t.sort=wantI op k then partsF op (k + 1) (max d t.depth) l else none:=rfl
theorem runC_cons (ns:List NodeD) (tests:Bool) (n:NodeD) (rest:List NodeD) (i:Nat) (st:List ThingD) (deep:Int):runC ns tests (n :: rest) i st deep=(stepC ns st i n).elim 2 fun x=>runC ns tests rest (i + 1) x.1 (max deep x.2):=rfl
structure StackOk (i:Nat) (st:List ThingD):Prop where
 len:st.length≤i
 at_:∀ (j:Nat) (t:ThingD),st[j]? = some t→t.at_ < i∧0≤t.depth∧t.depth≤i
theorem StackOk.push {i:Nat} {st:List ThingD} (h:StackOk i st) (m:Nat) (hm:m≤st.length) {s d:Int} (h0:0≤d) (h1:d≤i + 1):StackOk (i + 1) (st.take m++[⟨s,d,i⟩]):=by
 refine ⟨by rw [List.length_append,List.length_take];have:=h.len;simp;omega,fun j t hj=>?_⟩
 rw [List.getElem?_append] at hj
 split at hj
 ·rw [List.getElem?_take] at hj
  split at hj
  ·have:=h.at_ j t hj
   omega
  ·cases hj
 ·rw [List.getElem?_singleton] at hj
  split at hj
  ·cases hj
   exact ⟨by simp,h0,by simpa using h1⟩
  ·cases hj
theorem fieldsB_eq (n:NodeD):fieldsB n=(okB n.op n.text n.neg n.num n.sc n.day && decide ((leftT n.op n.text).toList=[]∧leftB n.op n.neg=false∧leftN n.op n.hi=0∧leftN n.op n.lo=0∧leftS n.op n.sc=0∧leftD n.op n.day=0)):=by
 have e0:(⟨#[]⟩:ByteArray).toList=[]:=by decide +kernel
 unfold fieldsB leftT leftB leftN leftS leftD
 generalize okB n.op n.text n.neg n.num n.sc n.day=a
 rw [Bool.eq_iff_iff]
 by_cases h4:n.op=4
 ·cases hu:usesText n.op <;> simp [h4,hu,e0,and_assoc] <;> (constructor <;> intro h <;> simp_all)
 by_cases h6:n.op=6
 ·cases hu:usesText n.op <;> simp [h6,hu,e0] <;> (constructor <;> intro h <;> simp_all)
 cases hu:usesText n.op <;> simp [h4,h6,hu,e0] <;> (intros;constructor <;> intros <;> simp_all)
end Go.Proofs.YtnghlakllgkjlaaGreatDoor
