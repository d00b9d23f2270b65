/- The walk over CheckJoins. (short) -/
import Derived.Test.YtheimopjglkgjaaGreatDoorBrA
import Derived.Test.YtheimopjglkgjaaGreatDoorChkE
import Derived.Test.YtheimopjglkgjaaGreatDoorAllA
namespace Go.Proofs.YtheimopjglkgjaaGreatDoor
open Go.RowKit
set_option linter.unusedVariables false
set_option linter.unusedSimpArgs false
set_option maxRecDepth 100000

set_option maxHeartbeats 16000000 in
theorem checkJoins_walk (s t:ByteArray) (q:Option Addr) (c2:Nat) (l:List SymD) (w:World) (hL:Sl w q (l.flatMap SymD.cs)) (hl2:l.length≤1048576) (hT:U8 w) :
  Calls Tryz.prog 4 #[.string s,.string t,.slice q l.length c2] w fun e w'=>e = .returned (.bool true)∧Below w.heap.size w w':=by
 have HM:=Lib.hid (Mem.start w)
 have HT:=Lib.hid hT
 have HL:=Lib.hid hL
 by_cases h1:300 < s.size
 ·have d1:decide ((300:Int) < s.size)=true:=decide_eq_true (by omega)
  as_aux_lemma=>
  go_enter Tryz.func4,Tryz.ntmps4
  go_wp2_with (first|(go_at_call 14;(with_reducible refine cB HM (known_any _ (U8.below HT.out HM.out.below)) ?_);clear HM;intro W1 HM))
  go_ret
  exact ⟨rfl,HM.out.below⟩
 have d1:decide ((300:Int) < s.size)=false:=decide_eq_false (by omega)
 by_cases h2:300 < t.size
 ·have d2:decide ((300:Int) < t.size)=true:=decide_eq_true (by omega)
  as_aux_lemma=>
  go_enter Tryz.func4,Tryz.ntmps4
  go_wp2_with (first|(go_at_call 14;(with_reducible refine cB HM (known_any _ (U8.below HT.out HM.out.below)) ?_);clear HM;intro W1 HM))
  go_ret
  exact ⟨rfl,HM.out.below⟩
 have d2:decide ((300:Int) < t.size)=false:=decide_eq_false (by omega)
 have HA:=Lib.hid (fun W h=>xParse_any s W h)
 have HB:=Lib.hid (fun W h=>xParse_any t W h)
 unfold NPost at HA HB
 have hoa:=parseF_ok s false
 have hob:=parseF_ok t false
 obtain ⟨⟨a,e1⟩,ha⟩:∃ x,parseF s false=x:=⟨_,rfl⟩
 obtain ⟨⟨b,e2⟩,hb⟩:∃ x,parseF t false=x:=⟨_,rfl⟩
 obtain ⟨⟨⟨xk,xo⟩,e3⟩,hx⟩:∃ x,exprF a l=x:=⟨_,rfl⟩
 simp only [ha] at HA hoa
 simp only [hb] at HB hob
 have HX:=Lib.hid (fun (p:Option Addr) (c:Nat) W h1 h2 h3=>cExpr_any p c a q c2 l W h1 (jn_wf hoa.2) (by have:=hoa.1;omega) h2 (by omega) h3)
 unfold resV at HX
 rw [hx] at HX
 have hla:=hoa.1
 have hlb:=hob.1
 dsimp only at HX hla hlb
 obtain ⟨⟨⟨yk,yo⟩,e4⟩,hy⟩:∃ x,exprF b l=x:=⟨_,rfl⟩
 have HY:=Lib.hid (fun (p:Option Addr) (c:Nat) W h1 h2 h3=>cExpr_any p c b q c2 l W h1 (jn_wf hob.2) (by have:=hob.1;omega) h2 (by omega) h3)
 unfold resV at HY
 rw [hy] at HY
 dsimp only at HY
 clear hoa hob hL
 by_cases qe1:¬ e1=0
 ·have be1:(e1 != 0)=true:=by simpa using qe1
  clear ha hb hx hy h1 h2
  as_aux_lemma=>
  go_enter Tryz.func4,Tryz.ntmps4
  go_wp2_with (first|(go_at_call 14;(with_reducible refine cB HM (known_any _ (U8.below HT.out HM.out.below)) ?_);clear HM;intro W1 HM)|(go_at_call 12;(with_reducible refine (HA.out _ (U8.below HT.out HM.out.below)).mono ?_);rintro e W2 ⟨pa1,pa2,rfl,hM2⟩;have HM1:=Lib.hid (HM.out.comp2 hM2);clear HM hM2;(try clear W1);rename World=>W1;have HM:=HM1;clear HM1;simp only [List.cons_append,List.nil_append] at HM)|(go_at_call 12;(with_reducible refine (HB.out _ (U8.below HT.out HM.out.below)).mono ?_);rintro e W2 ⟨pb1,pb2,rfl,hM2⟩;have HM1:=Lib.hid (HM.out.comp2 hM2);clear HM hM2;(try clear W1);rename World=>W1;have HM:=HM1;clear HM1;simp only [List.cons_append,List.nil_append] at HM)|(go_at_call 15;have HS:Sl W1 _ (List.flatMap NodeD.cs a):=sl_row (l:=a) NodeD.cs 8 NodeD.cs_len (HM.out.get (k:=1) rfl);(with_reducible refine cB HM (HX.out _ _ _ HS (HM.out.sl HL.out) (U8.below HT.out HM.out.below)) ?_);clear HS;clear HM;intro W1 HM)|(go_at_call 15;have HS:Sl W1 _ (List.flatMap NodeD.cs b):=sl_row (l:=b) NodeD.cs 8 NodeD.cs_len (HM.out.get (k:=1) rfl);(with_reducible refine cB HM (HY.out _ _ _ HS (HM.out.sl HL.out) (U8.below HT.out HM.out.below)) ?_);clear HS;clear HM;intro W1 HM)|((with_reducible refine skip_op ?_ ?_);exact rfl)|refine mP ?_|(refine mS ?_;clear HM;intro W1 HM)|(refine hal (dst:=some 11) HM rfl ?_;clear HM;intro g11 W1 HM)|(refine hal (dst:=some 13) HM rfl ?_;clear HM;intro g13 W1 HM)|(refine hal (dst:=some 17) HM rfl ?_;clear HM;intro g17 W1 HM)|(refine hal (dst:=some 19) HM rfl ?_;clear HM;intro g19 W1 HM)|(refine hal (dst:=some 22) HM rfl ?_;clear HM;intro g22 W1 HM))
  go_ret
  exact ⟨rfl,HM.out.below⟩
 obtain rfl:=Classical.not_not.1 qe1
 by_cases qe2:¬ e2=0
 ·have be2:(e2 != 0)=true:=by simpa using qe2
  clear ha hb hx hy h1 h2
  as_aux_lemma=>
  go_enter Tryz.func4,Tryz.ntmps4
  go_wp2_with (first|(go_at_call 14;(with_reducible refine cB HM (known_any _ (U8.below HT.out HM.out.below)) ?_);clear HM;intro W1 HM)|(go_at_call 12;(with_reducible refine (HA.out _ (U8.below HT.out HM.out.below)).mono ?_);rintro e W2 ⟨pa1,pa2,rfl,hM2⟩;have HM1:=Lib.hid (HM.out.comp2 hM2);clear HM hM2;(try clear W1);rename World=>W1;have HM:=HM1;clear HM1;simp only [List.cons_append,List.nil_append] at HM)|(go_at_call 12;(with_reducible refine (HB.out _ (U8.below HT.out HM.out.below)).mono ?_);rintro e W2 ⟨pb1,pb2,rfl,hM2⟩;have HM1:=Lib.hid (HM.out.comp2 hM2);clear HM hM2;(try clear W1);rename World=>W1;have HM:=HM1;clear HM1;simp only [List.cons_append,List.nil_append] at HM)|(go_at_call 15;have HS:Sl W1 _ (List.flatMap NodeD.cs a):=sl_row (l:=a) NodeD.cs 8 NodeD.cs_len (HM.out.get (k:=1) rfl);(with_reducible refine cB HM (HX.out _ _ _ HS (HM.out.sl HL.out) (U8.below HT.out HM.out.below)) ?_);clear HS;clear HM;intro W1 HM)|(go_at_call 15;have HS:Sl W1 _ (List.flatMap NodeD.cs b):=sl_row (l:=b) NodeD.cs 8 NodeD.cs_len (HM.out.get (k:=1) rfl);(with_reducible refine cB HM (HY.out _ _ _ HS (HM.out.sl HL.out) (U8.below HT.out HM.out.below)) ?_);clear HS;clear HM;intro W1 HM)|((with_reducible refine skip_op ?_ ?_);exact rfl)|refine mP ?_|(refine mS ?_;clear HM;intro W1 HM)|(refine hal (dst:=some 11) HM rfl ?_;clear HM;intro g11 W1 HM)|(refine hal (dst:=some 13) HM rfl ?_;clear HM;intro g13 W1 HM)|(refine hal (dst:=some 17) HM rfl ?_;clear HM;intro g17 W1 HM)|(refine hal (dst:=some 19) HM rfl ?_;clear HM;intro g19 W1 HM)|(refine hal (dst:=some 22) HM rfl ?_;clear HM;intro g22 W1 HM))
  go_ret
  exact ⟨rfl,HM.out.below⟩
 obtain rfl:=Classical.not_not.1 qe2
 by_cases qe3:¬ e3=0
 ·have be3:(e3 != 0)=true:=by simpa using qe3
  clear ha hb hx hy h1 h2
  as_aux_lemma=>
  go_enter Tryz.func4,Tryz.ntmps4
  go_wp2_with (first|(go_at_call 14;(with_reducible refine cB HM (known_any _ (U8.below HT.out HM.out.below)) ?_);clear HM;intro W1 HM)|(go_at_call 12;(with_reducible refine (HA.out _ (U8.below HT.out HM.out.below)).mono ?_);rintro e W2 ⟨pa1,pa2,rfl,hM2⟩;have HM1:=Lib.hid (HM.out.comp2 hM2);clear HM hM2;(try clear W1);rename World=>W1;have HM:=HM1;clear HM1;simp only [List.cons_append,List.nil_append] at HM)|(go_at_call 12;(with_reducible refine (HB.out _ (U8.below HT.out HM.out.below)).mono ?_);rintro e W2 ⟨pb1,pb2,rfl,hM2⟩;have HM1:=Lib.hid (HM.out.comp2 hM2);clear HM hM2;(try clear W1);rename World=>W1;have HM:=HM1;clear HM1;simp only [List.cons_append,List.nil_append] at HM)|(go_at_call 15;have HS:Sl W1 _ (List.flatMap NodeD.cs a):=sl_row (l:=a) NodeD.cs 8 NodeD.cs_len (HM.out.get (k:=1) rfl);(with_reducible refine cB HM (HX.out _ _ _ HS (HM.out.sl HL.out) (U8.below HT.out HM.out.below)) ?_);clear HS;clear HM;intro W1 HM)|(go_at_call 15;have HS:Sl W1 _ (List.flatMap NodeD.cs b):=sl_row (l:=b) NodeD.cs 8 NodeD.cs_len (HM.out.get (k:=1) rfl);(with_reducible refine cB HM (HY.out _ _ _ HS (HM.out.sl HL.out) (U8.below HT.out HM.out.below)) ?_);clear HS;clear HM;intro W1 HM)|((with_reducible refine skip_op ?_ ?_);exact rfl)|refine mP ?_|(refine mS ?_;clear HM;intro W1 HM)|(refine hal (dst:=some 11) HM rfl ?_;clear HM;intro g11 W1 HM)|(refine hal (dst:=some 13) HM rfl ?_;clear HM;intro g13 W1 HM)|(refine hal (dst:=some 17) HM rfl ?_;clear HM;intro g17 W1 HM)|(refine hal (dst:=some 19) HM rfl ?_;clear HM;intro g19 W1 HM)|(refine hal (dst:=some 22) HM rfl ?_;clear HM;intro g22 W1 HM))
  go_ret
  exact ⟨rfl,HM.out.below⟩
 obtain rfl:=Classical.not_not.1 qe3
 by_cases qe4:¬ e4=0
 ·have be4:(e4 != 0)=true:=by simpa using qe4
  clear ha hb hx hy h1 h2
  as_aux_lemma=>
  go_enter Tryz.func4,Tryz.ntmps4
  go_wp2_with (first|(go_at_call 14;(with_reducible refine cB HM (known_any _ (U8.below HT.out HM.out.below)) ?_);clear HM;intro W1 HM)|(go_at_call 12;(with_reducible refine (HA.out _ (U8.below HT.out HM.out.below)).mono ?_);rintro e W2 ⟨pa1,pa2,rfl,hM2⟩;have HM1:=Lib.hid (HM.out.comp2 hM2);clear HM hM2;(try clear W1);rename World=>W1;have HM:=HM1;clear HM1;simp only [List.cons_append,List.nil_append] at HM)|(go_at_call 12;(with_reducible refine (HB.out _ (U8.below HT.out HM.out.below)).mono ?_);rintro e W2 ⟨pb1,pb2,rfl,hM2⟩;have HM1:=Lib.hid (HM.out.comp2 hM2);clear HM hM2;(try clear W1);rename World=>W1;have HM:=HM1;clear HM1;simp only [List.cons_append,List.nil_append] at HM)|(go_at_call 15;have HS:Sl W1 _ (List.flatMap NodeD.cs a):=sl_row (l:=a) NodeD.cs 8 NodeD.cs_len (HM.out.get (k:=1) rfl);(with_reducible refine cB HM (HX.out _ _ _ HS (HM.out.sl HL.out) (U8.below HT.out HM.out.below)) ?_);clear HS;clear HM;intro W1 HM)|(go_at_call 15;have HS:Sl W1 _ (List.flatMap NodeD.cs b):=sl_row (l:=b) NodeD.cs 8 NodeD.cs_len (HM.out.get (k:=1) rfl);(with_reducible refine cB HM (HY.out _ _ _ HS (HM.out.sl HL.out) (U8.below HT.out HM.out.below)) ?_);clear HS;clear HM;intro W1 HM)|((with_reducible refine skip_op ?_ ?_);exact rfl)|refine mP ?_|(refine mS ?_;clear HM;intro W1 HM)|(refine hal (dst:=some 11) HM rfl ?_;clear HM;intro g11 W1 HM)|(refine hal (dst:=some 13) HM rfl ?_;clear HM;intro g13 W1 HM)|(refine hal (dst:=some 17) HM rfl ?_;clear HM;intro g17 W1 HM)|(refine hal (dst:=some 19) HM rfl ?_;clear HM;intro g19 W1 HM)|(refine hal (dst:=some 22) HM rfl ?_;clear HM;intro g22 W1 HM))
  go_ret
  exact ⟨rfl,HM.out.below⟩
 obtain rfl:=Classical.not_not.1 qe4
 by_cases hab:200 < a.length + b.length
 ·have d3:decide ((200:Int) < (a.length:Int) + b.length)=true:=decide_eq_true (by omega)
  clear ha hb hx hy h1 h2
  as_aux_lemma=>
  go_enter Tryz.func4,Tryz.ntmps4
  go_wp2_with (first|(go_at_call 14;(with_reducible refine cB HM (known_any _ (U8.below HT.out HM.out.below)) ?_);clear HM;intro W1 HM)|(go_at_call 12;(with_reducible refine (HA.out _ (U8.below HT.out HM.out.below)).mono ?_);rintro e W2 ⟨pa1,pa2,rfl,hM2⟩;have HM1:=Lib.hid (HM.out.comp2 hM2);clear HM hM2;(try clear W1);rename World=>W1;have HM:=HM1;clear HM1;simp only [List.cons_append,List.nil_append] at HM)|(go_at_call 12;(with_reducible refine (HB.out _ (U8.below HT.out HM.out.below)).mono ?_);rintro e W2 ⟨pb1,pb2,rfl,hM2⟩;have HM1:=Lib.hid (HM.out.comp2 hM2);clear HM hM2;(try clear W1);rename World=>W1;have HM:=HM1;clear HM1;simp only [List.cons_append,List.nil_append] at HM)|(go_at_call 15;have HS:Sl W1 _ (List.flatMap NodeD.cs a):=sl_row (l:=a) NodeD.cs 8 NodeD.cs_len (HM.out.get (k:=1) rfl);(with_reducible refine cB HM (HX.out _ _ _ HS (HM.out.sl HL.out) (U8.below HT.out HM.out.below)) ?_);clear HS;clear HM;intro W1 HM)|(go_at_call 15;have HS:Sl W1 _ (List.flatMap NodeD.cs b):=sl_row (l:=b) NodeD.cs 8 NodeD.cs_len (HM.out.get (k:=1) rfl);(with_reducible refine cB HM (HY.out _ _ _ HS (HM.out.sl HL.out) (U8.below HT.out HM.out.below)) ?_);clear HS;clear HM;intro W1 HM)|((with_reducible refine skip_op ?_ ?_);exact rfl)|refine mP ?_|(refine mS ?_;clear HM;intro W1 HM)|(refine hal (dst:=some 11) HM rfl ?_;clear HM;intro g11 W1 HM)|(refine hal (dst:=some 13) HM rfl ?_;clear HM;intro g13 W1 HM)|(refine hal (dst:=some 17) HM rfl ?_;clear HM;intro g17 W1 HM)|(refine hal (dst:=some 19) HM rfl ?_;clear HM;intro g19 W1 HM)|(refine hal (dst:=some 22) HM rfl ?_;clear HM;intro g22 W1 HM))
  go_ret
  exact ⟨rfl,HM.out.below⟩
 have d3:decide ((200:Int) < (a.length:Int) + b.length)=false:=decide_eq_false (by omega)
 obtain ⟨d,ala,hd,hd0⟩:=two_alone ha
 obtain ⟨e,alb,he,he0⟩:=two_alone hb
 have hI:=join_if ha hb (by omega) (by omega) (by omega) ala alb (uIf_list s t)
 have HC:=Lib.hid (fun W h=>xParse_any (((((⟨#[105,102,32,116,114,117,101,32,116,104,101,110,32,40]⟩:ByteArray)++s)++⟨#[41,32,101,108,115,101,32,40]⟩)++t)++⟨#[41]⟩) W h)
 have hoc:=parseF_ok (((((⟨#[105,102,32,116,114,117,101,32,116,104,101,110,32,40]⟩:ByteArray)++s)++⟨#[41,32,101,108,115,101,32,40]⟩)++t)++⟨#[41]⟩) false
 unfold NPost at HC
 by_cases h40:40 < max (max 1 d) e + 1
 ·rw [if_pos h40] at hI
  rw [hI] at HC
  clear hI hoc ha hb hx hy ala alb h40 hd hd0 he he0
  as_aux_lemma=>
  go_enter Tryz.func4,Tryz.ntmps4
  go_wp2_with (first|(go_at_call 14;(with_reducible refine cB HM (known_any _ (U8.below HT.out HM.out.below)) ?_);clear HM;intro W1 HM)|(go_at_call 12;(with_reducible refine (HA.out _ (U8.below HT.out HM.out.below)).mono ?_);rintro e W2 ⟨pa1,pa2,rfl,hM2⟩;have HM1:=Lib.hid (HM.out.comp2 hM2);clear HM hM2;(try clear W1);rename World=>W1;have HM:=HM1;clear HM1;simp only [List.cons_append,List.nil_append] at HM)|(go_at_call 12;(with_reducible refine (HB.out _ (U8.below HT.out HM.out.below)).mono ?_);rintro e W2 ⟨pb1,pb2,rfl,hM2⟩;have HM1:=Lib.hid (HM.out.comp2 hM2);clear HM hM2;(try clear W1);rename World=>W1;have HM:=HM1;clear HM1;simp only [List.cons_append,List.nil_append] at HM)|(go_at_call 15;have HS:Sl W1 _ (List.flatMap NodeD.cs a):=sl_row (l:=a) NodeD.cs 8 NodeD.cs_len (HM.out.get (k:=1) rfl);(with_reducible refine cB HM (HX.out _ _ _ HS (HM.out.sl HL.out) (U8.below HT.out HM.out.below)) ?_);clear HS;clear HM;intro W1 HM)|(go_at_call 15;have HS:Sl W1 _ (List.flatMap NodeD.cs b):=sl_row (l:=b) NodeD.cs 8 NodeD.cs_len (HM.out.get (k:=1) rfl);(with_reducible refine cB HM (HY.out _ _ _ HS (HM.out.sl HL.out) (U8.below HT.out HM.out.below)) ?_);clear HS;clear HM;intro W1 HM)|(go_at_call 15;have HS:Sl W1 _ (List.flatMap NodeD.cs c):=sl_row (l:=c) NodeD.cs 8 NodeD.cs_len (HM.out.get (k:=0) rfl);(with_reducible refine cB HM (HZ.out _ _ _ HS (HM.out.sl HL.out) (U8.below HT.out HM.out.below)) ?_);clear HS;clear HM;intro W1 HM)|(go_at_call 15;have HS:Sl W1 _ (List.flatMap NodeD.cs g):=sl_row (l:=g) NodeD.cs 8 NodeD.cs_len (HM.out.get (k:=0) rfl);(with_reducible refine cB HM (HV.out _ _ _ HS (HM.out.sl HL.out) (U8.below HT.out HM.out.below)) ?_);clear HS;clear HM;intro W1 HM)|((with_reducible refine skip_op ?_ ?_);exact rfl)|refine mP ?_|(refine mS ?_;clear HM;intro W1 HM)|(refine hal (dst:=some 11) HM rfl ?_;clear HM;intro g11 W1 HM)|(refine hal (dst:=some 13) HM rfl ?_;clear HM;intro g13 W1 HM)|(refine hal (dst:=some 17) HM rfl ?_;clear HM;intro g17 W1 HM)|(refine hal (dst:=some 19) HM rfl ?_;clear HM;intro g19 W1 HM)|(refine hal (dst:=some 22) HM rfl ?_;clear HM;intro g22 W1 HM)|(go_at_call 12;(with_reducible refine (HC.out _ (U8.below HT.out HM.out.below)).mono ?_);rintro e W2 ⟨pc1,pc2,rfl,hM2⟩;have HM1:=Lib.hid (HM.out.comp2 hM2);clear HM hM2;(try clear W1);rename World=>W1;have HM:=HM1;clear HM1;simp only [List.cons_append,List.nil_append] at HM))
  go_ret
  exact ⟨rfl,HM.out.below⟩
 rw [if_neg h40] at hI
 obtain ⟨n1,-,-,hcc⟩:=parse_ok hI
 have hE:=join_eq ha hb (by omega) (by omega) (by omega) ala alb (uEq_list s t)
 rw [if_neg (by omega)] at hE
 obtain ⟨n2,-,-,hdc⟩:=parse_ok hE
 have HD:=Lib.hid (fun W h=>xParse_any (((((⟨#[40]⟩:ByteArray)++s)++⟨#[41,32,61,32,40]⟩)++t)++⟨#[41]⟩) W h)
 have hod:=parseF_ok (((((⟨#[40]⟩:ByteArray)++s)++⟨#[41,32,61,32,40]⟩)++t)++⟨#[41]⟩) false
 unfold NPost at HD
 have hz:=expr_if ala alb hx hy hcc
 have hv:=expr_eq ala alb hx hy hdc
 obtain ⟨hn,tx,r1,t1⟩:=exprF_ok ala hx
 obtain ⟨-,ty,r2,t2⟩:=exprF_ok alb hy
 have f1:=form_of hn r1
 have f2:=form_of hn r2
 rw [t1] at f1
 rw [t2] at f2
 have HJ:=Lib.hid (fun W=>kJoin_any xk xo yk yo W f1 f2)
 have HU1:=Lib.hid (fun W=>kUnder_any xk xo yk yo W)
 have HU2:=Lib.hid (fun W=>kUnder_any yk yo xk xo W)
 rw [underR_yes (by rw [f1,f2];rfl)] at HU1
 rw [underR_yes (by rw [f1,f2];rfl)] at HU2
 rw [hI] at HC hoc
 rw [hE] at HD hod
 obtain ⟨c,hc⟩:∃ c,[nOp 2 0]++a++b++[nOp 21 3]=c:=⟨_,rfl⟩
 obtain ⟨g,hg⟩:∃ g,a++b++[nOp 13 2]=g:=⟨_,rfl⟩
 rw [hc] at HC hoc hz
 rw [hg] at HD hod hv
 have hlc:c.length≤1002:=hoc.1
 have hlg:g.length≤1002:=hod.1
 have HZ:=Lib.hid (fun (p:Option Addr) (cc:Nat) W h1 h2 h3=>cExpr_any p cc c q c2 l W h1 (jn_wf hoc.2) (by omega) h2 (by omega) h3)
 have HV:=Lib.hid (fun (p:Option Addr) (cc:Nat) W h1 h2 h3=>cExpr_any p cc g q c2 l W h1 (jn_wf hod.2) (by omega) h2 (by omega) h3)
 unfold resV at HZ HV
 rw [hz] at HZ
 rw [hv] at HV
 unfold meetB at HV
 dsimp only at HZ HV
 generalize joinT xk xo yk yo=j at HJ HZ
 obtain ⟨jk,jo⟩:=j
 dsimp only at HJ HZ
 generalize underB xk xo yk yo=u1 at HU1 HV
 generalize underB yk yo xk xo=u2 at HU2 HV
 have j1:(jk == jk)=true:=by simp
 have j2:(jo == jo)=true:=by simp
 have j3:(jk != jk)=false:=by simp
 have j4:(jo != jo)=false:=by simp
 clear hI hE hoc hod hz hv hn r1 t1 r2 t2 f1 f2 hcc hdc ha hb hx hy ala alb h40 hd hd0 he he0 hc hg
 cases u1 <;> cases u2
 all_goals
  simp only [Bool.or_true,Bool.or_false,Bool.false_or,Bool.true_or,if_true,Bool.false_eq_true,if_false] at HV
  as_aux_lemma=>
  go_enter Tryz.func4,Tryz.ntmps4
  go_wp2_with (first|(go_at_call 14;(with_reducible refine cB HM (known_any _ (U8.below HT.out HM.out.below)) ?_);clear HM;intro W1 HM)|(go_at_call 12;(with_reducible refine (HA.out _ (U8.below HT.out HM.out.below)).mono ?_);rintro e W2 ⟨pa1,pa2,rfl,hM2⟩;have HM1:=Lib.hid (HM.out.comp2 hM2);clear HM hM2;(try clear W1);rename World=>W1;have HM:=HM1;clear HM1;simp only [List.cons_append,List.nil_append] at HM)|(go_at_call 12;(with_reducible refine (HB.out _ (U8.below HT.out HM.out.below)).mono ?_);rintro e W2 ⟨pb1,pb2,rfl,hM2⟩;have HM1:=Lib.hid (HM.out.comp2 hM2);clear HM hM2;(try clear W1);rename World=>W1;have HM:=HM1;clear HM1;simp only [List.cons_append,List.nil_append] at HM)|(go_at_call 15;have HS:Sl W1 _ (List.flatMap NodeD.cs a):=sl_row (l:=a) NodeD.cs 8 NodeD.cs_len (HM.out.get (k:=1) rfl);(with_reducible refine cB HM (HX.out _ _ _ HS (HM.out.sl HL.out) (U8.below HT.out HM.out.below)) ?_);clear HS;clear HM;intro W1 HM)|(go_at_call 15;have HS:Sl W1 _ (List.flatMap NodeD.cs b):=sl_row (l:=b) NodeD.cs 8 NodeD.cs_len (HM.out.get (k:=1) rfl);(with_reducible refine cB HM (HY.out _ _ _ HS (HM.out.sl HL.out) (U8.below HT.out HM.out.below)) ?_);clear HS;clear HM;intro W1 HM)|(go_at_call 15;have HS:Sl W1 _ (List.flatMap NodeD.cs c):=sl_row (l:=c) NodeD.cs 8 NodeD.cs_len (HM.out.get (k:=0) rfl);(with_reducible refine cB HM (HZ.out _ _ _ HS (HM.out.sl HL.out) (U8.below HT.out HM.out.below)) ?_);clear HS;clear HM;intro W1 HM)|(go_at_call 15;have HS:Sl W1 _ (List.flatMap NodeD.cs g):=sl_row (l:=g) NodeD.cs 8 NodeD.cs_len (HM.out.get (k:=0) rfl);(with_reducible refine cB HM (HV.out _ _ _ HS (HM.out.sl HL.out) (U8.below HT.out HM.out.below)) ?_);clear HS;clear HM;intro W1 HM)|((with_reducible refine skip_op ?_ ?_);exact rfl)|refine mP ?_|(refine mS ?_;clear HM;intro W1 HM)|(refine hal (dst:=some 11) HM rfl ?_;clear HM;intro g11 W1 HM)|(refine hal (dst:=some 13) HM rfl ?_;clear HM;intro g13 W1 HM)|(refine hal (dst:=some 17) HM rfl ?_;clear HM;intro g17 W1 HM)|(refine hal (dst:=some 19) HM rfl ?_;clear HM;intro g19 W1 HM)|(refine hal (dst:=some 22) HM rfl ?_;clear HM;intro g22 W1 HM)|(go_at_call 12;(with_reducible refine (HC.out _ (U8.below HT.out HM.out.below)).mono ?_);rintro e W2 ⟨pc1,pc2,rfl,hM2⟩;have HM1:=Lib.hid (HM.out.comp2 hM2);clear HM hM2;(try clear W1);rename World=>W1;have HM:=HM1;clear HM1;simp only [List.cons_append,List.nil_append] at HM)|(go_at_call 12;(with_reducible refine (HD.out _ (U8.below HT.out HM.out.below)).mono ?_);rintro e W2 ⟨pd1,pd2,rfl,hM2⟩;have HM1:=Lib.hid (HM.out.comp2 hM2);clear HM hM2;(try clear W1);rename World=>W1;have HM:=HM1;clear HM1;simp only [List.cons_append,List.nil_append] at HM)|(go_at_call 16;(with_reducible refine cB HM (HJ.out _) ?_);clear HM;intro W1 HM)|(go_at_call 17;(with_reducible refine cB HM (HU1.out _) ?_);clear HM;intro W1 HM)|(go_at_call 17;(with_reducible refine cB HM (HU2.out _) ?_);clear HM;intro W1 HM))
  go_ret
  exact ⟨rfl,HM.out.below⟩
end Go.Proofs.YtheimopjglkgjaaGreatDoor
