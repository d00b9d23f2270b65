/- The walk over CheckIns. (short) -/
import Derived.Test.YtheimopjglkgjaaGreatDoorBrA
import Derived.Test.YtheimopjglkgjaaGreatDoorChkE
import Derived.Test.YtheimopjglkgjaaGreatDoorAllA
namespace Go.Proofs.YtheimopjglkgjaaGreatDoor
open Go.RowKit
set_option linter.unusedVariables false
set_option linter.unusedSimpArgs false
set_option maxRecDepth 100000

set_option maxHeartbeats 16000000 in
theorem checkIns_walk (s t:ByteArray) (q:Option Addr) (c2:Nat) (l:List SymD) (w:World) (hL:Sl w q (l.flatMap SymD.cs)) (hl2:l.length≤1048576) (hT:U8 w) :
  Calls Tryz.prog 5 #[.string s,.string t,.slice q l.length c2] w fun e w'=>e = .returned (.bool true)∧Below w.heap.size w w':=by
 have HM:=Lib.hid (Mem.start w)
 have HT:=Lib.hid hT
 have HL:=Lib.hid hL
 by_cases h1:300 < s.size
 ·have d1:decide ((300:Int) < s.size)=true:=decide_eq_true (by omega)
  as_aux_lemma=>
  go_enter Tryz.func5,Tryz.ntmps5
  go_wp2_with (first|(go_at_call 14;(with_reducible refine cB HM (known_any _ (U8.below HT.out HM.out.below)) ?_);clear HM;intro W1 HM))
  go_ret
  exact ⟨rfl,HM.out.below⟩
 have d1:decide ((300:Int) < s.size)=false:=decide_eq_false (by omega)
 by_cases h2:300 < t.size
 ·have d2:decide ((300:Int) < t.size)=true:=decide_eq_true (by omega)
  as_aux_lemma=>
  go_enter Tryz.func5,Tryz.ntmps5
  go_wp2_with (first|(go_at_call 14;(with_reducible refine cB HM (known_any _ (U8.below HT.out HM.out.below)) ?_);clear HM;intro W1 HM))
  go_ret
  exact ⟨rfl,HM.out.below⟩
 have d2:decide ((300:Int) < t.size)=false:=decide_eq_false (by omega)
 have HA:=Lib.hid (fun W h=>xParse_any s W h)
 have HB:=Lib.hid (fun W h=>xTests_any t W h)
 unfold NPost at HA HB
 have hoa:=parseF_ok s false
 have hob:=parseF_ok t true
 obtain ⟨⟨a,e1⟩,ha⟩:∃ x,parseF s false=x:=⟨_,rfl⟩
 obtain ⟨⟨b,e2⟩,hb⟩:∃ x,parseF t true=x:=⟨_,rfl⟩
 obtain ⟨⟨⟨xk,xo⟩,e3⟩,hx⟩:∃ x,exprF a l=x:=⟨_,rfl⟩
 simp only [ha] at HA hoa
 simp only [hb] at HB hob
 have HX:=Lib.hid (fun (p:Option Addr) (c:Nat) W h1 h2 h3=>cExpr_any p c a q c2 l W h1 (jn_wf hoa.2) (by have:=hoa.1;omega) h2 (by omega) h3)
 unfold resV at HX
 rw [hx] at HX
 have hla:=hoa.1
 have hlb:=hob.1
 dsimp only at HX hla hlb
 clear hL
 by_cases qe1:¬ e1=0
 ·have be1:(e1 != 0)=true:=by simpa using qe1
  clear ha hb hx h1 h2
  as_aux_lemma=>
  go_enter Tryz.func5,Tryz.ntmps5
  go_wp2_with (first|(go_at_call 14;(with_reducible refine cB HM (known_any _ (U8.below HT.out HM.out.below)) ?_);clear HM;intro W1 HM)|(go_at_call 12;(with_reducible refine (HA.out _ (U8.below HT.out HM.out.below)).mono ?_);rintro e W2 ⟨pa1,pa2,rfl,hM2⟩;have HM1:=Lib.hid (HM.out.comp2 hM2);clear HM hM2;(try clear W1);rename World=>W1;have HM:=HM1;clear HM1;simp only [List.cons_append,List.nil_append] at HM)|(go_at_call 18;(with_reducible refine (HB.out _ (U8.below HT.out HM.out.below)).mono ?_);rintro e W2 ⟨pb1,pb2,rfl,hM2⟩;have HM1:=Lib.hid (HM.out.comp2 hM2);clear HM hM2;(try clear W1);rename World=>W1;have HM:=HM1;clear HM1;simp only [List.cons_append,List.nil_append] at HM)|(go_at_call 15;have HS:Sl W1 _ (List.flatMap NodeD.cs a):=sl_row (l:=a) NodeD.cs 8 NodeD.cs_len (HM.out.get (k:=1) rfl);(with_reducible refine cB HM (HX.out _ _ _ HS (HM.out.sl HL.out) (U8.below HT.out HM.out.below)) ?_);clear HS;clear HM;intro W1 HM)|((with_reducible refine skip_op ?_ ?_);exact rfl)|refine mP ?_|(refine mS ?_;clear HM;intro W1 HM)|(refine hal (dst:=some 11) HM rfl ?_;clear HM;intro g11 W1 HM)|(refine hal (dst:=some 15) HM rfl ?_;clear HM;intro g15 W1 HM))
  go_ret
  exact ⟨rfl,HM.out.below⟩
 obtain rfl:=Classical.not_not.1 qe1
 by_cases qe2:¬ e2=0
 ·have be2:(e2 != 0)=true:=by simpa using qe2
  clear ha hb hx h1 h2
  as_aux_lemma=>
  go_enter Tryz.func5,Tryz.ntmps5
  go_wp2_with (first|(go_at_call 14;(with_reducible refine cB HM (known_any _ (U8.below HT.out HM.out.below)) ?_);clear HM;intro W1 HM)|(go_at_call 12;(with_reducible refine (HA.out _ (U8.below HT.out HM.out.below)).mono ?_);rintro e W2 ⟨pa1,pa2,rfl,hM2⟩;have HM1:=Lib.hid (HM.out.comp2 hM2);clear HM hM2;(try clear W1);rename World=>W1;have HM:=HM1;clear HM1;simp only [List.cons_append,List.nil_append] at HM)|(go_at_call 18;(with_reducible refine (HB.out _ (U8.below HT.out HM.out.below)).mono ?_);rintro e W2 ⟨pb1,pb2,rfl,hM2⟩;have HM1:=Lib.hid (HM.out.comp2 hM2);clear HM hM2;(try clear W1);rename World=>W1;have HM:=HM1;clear HM1;simp only [List.cons_append,List.nil_append] at HM)|(go_at_call 15;have HS:Sl W1 _ (List.flatMap NodeD.cs a):=sl_row (l:=a) NodeD.cs 8 NodeD.cs_len (HM.out.get (k:=1) rfl);(with_reducible refine cB HM (HX.out _ _ _ HS (HM.out.sl HL.out) (U8.below HT.out HM.out.below)) ?_);clear HS;clear HM;intro W1 HM)|((with_reducible refine skip_op ?_ ?_);exact rfl)|refine mP ?_|(refine mS ?_;clear HM;intro W1 HM)|(refine hal (dst:=some 11) HM rfl ?_;clear HM;intro g11 W1 HM)|(refine hal (dst:=some 15) HM rfl ?_;clear HM;intro g15 W1 HM))
  go_ret
  exact ⟨rfl,HM.out.below⟩
 obtain rfl:=Classical.not_not.1 qe2
 by_cases qe3:¬ e3=0
 ·have be3:(e3 != 0)=true:=by simpa using qe3
  clear ha hb hx h1 h2
  as_aux_lemma=>
  go_enter Tryz.func5,Tryz.ntmps5
  go_wp2_with (first|(go_at_call 14;(with_reducible refine cB HM (known_any _ (U8.below HT.out HM.out.below)) ?_);clear HM;intro W1 HM)|(go_at_call 12;(with_reducible refine (HA.out _ (U8.below HT.out HM.out.below)).mono ?_);rintro e W2 ⟨pa1,pa2,rfl,hM2⟩;have HM1:=Lib.hid (HM.out.comp2 hM2);clear HM hM2;(try clear W1);rename World=>W1;have HM:=HM1;clear HM1;simp only [List.cons_append,List.nil_append] at HM)|(go_at_call 18;(with_reducible refine (HB.out _ (U8.below HT.out HM.out.below)).mono ?_);rintro e W2 ⟨pb1,pb2,rfl,hM2⟩;have HM1:=Lib.hid (HM.out.comp2 hM2);clear HM hM2;(try clear W1);rename World=>W1;have HM:=HM1;clear HM1;simp only [List.cons_append,List.nil_append] at HM)|(go_at_call 15;have HS:Sl W1 _ (List.flatMap NodeD.cs a):=sl_row (l:=a) NodeD.cs 8 NodeD.cs_len (HM.out.get (k:=1) rfl);(with_reducible refine cB HM (HX.out _ _ _ HS (HM.out.sl HL.out) (U8.below HT.out HM.out.below)) ?_);clear HS;clear HM;intro W1 HM)|((with_reducible refine skip_op ?_ ?_);exact rfl)|refine mP ?_|(refine mS ?_;clear HM;intro W1 HM)|(refine hal (dst:=some 11) HM rfl ?_;clear HM;intro g11 W1 HM)|(refine hal (dst:=some 15) HM rfl ?_;clear HM;intro g15 W1 HM))
  go_ret
  exact ⟨rfl,HM.out.below⟩
 obtain rfl:=Classical.not_not.1 qe3
 by_cases hab:200 < a.length + b.length
 ·have d3:decide ((200:Int) < (a.length:Int) + b.length)=true:=decide_eq_true (by omega)
  clear ha hb hx h1 h2
  as_aux_lemma=>
  go_enter Tryz.func5,Tryz.ntmps5
  go_wp2_with (first|(go_at_call 14;(with_reducible refine cB HM (known_any _ (U8.below HT.out HM.out.below)) ?_);clear HM;intro W1 HM)|(go_at_call 12;(with_reducible refine (HA.out _ (U8.below HT.out HM.out.below)).mono ?_);rintro e W2 ⟨pa1,pa2,rfl,hM2⟩;have HM1:=Lib.hid (HM.out.comp2 hM2);clear HM hM2;(try clear W1);rename World=>W1;have HM:=HM1;clear HM1;simp only [List.cons_append,List.nil_append] at HM)|(go_at_call 18;(with_reducible refine (HB.out _ (U8.below HT.out HM.out.below)).mono ?_);rintro e W2 ⟨pb1,pb2,rfl,hM2⟩;have HM1:=Lib.hid (HM.out.comp2 hM2);clear HM hM2;(try clear W1);rename World=>W1;have HM:=HM1;clear HM1;simp only [List.cons_append,List.nil_append] at HM)|(go_at_call 15;have HS:Sl W1 _ (List.flatMap NodeD.cs a):=sl_row (l:=a) NodeD.cs 8 NodeD.cs_len (HM.out.get (k:=1) rfl);(with_reducible refine cB HM (HX.out _ _ _ HS (HM.out.sl HL.out) (U8.below HT.out HM.out.below)) ?_);clear HS;clear HM;intro W1 HM)|((with_reducible refine skip_op ?_ ?_);exact rfl)|refine mP ?_|(refine mS ?_;clear HM;intro W1 HM)|(refine hal (dst:=some 11) HM rfl ?_;clear HM;intro g11 W1 HM)|(refine hal (dst:=some 15) HM rfl ?_;clear HM;intro g15 W1 HM))
  go_ret
  exact ⟨rfl,HM.out.below⟩
 have d3:decide ((200:Int) < (a.length:Int) + b.length)=false:=decide_eq_false (by omega)
 obtain ⟨d,ala,hd,hd0⟩:=two_alone ha
 obtain ⟨n0,-,-,hbc⟩:=parse_ok hb
 obtain ⟨s',e,alb,hs',he,he0,-,hbn⟩:=check_zero hbc
 obtain ⟨p,x,hbx⟩:∃ p x,b=p++[x]:=⟨b.dropLast,b.getLast hbn,(List.dropLast_concat_getLast hbn).symm⟩
 have hbl:b.length=p.length + 1:=by rw [hbx];simp
 have hgx:b[p.length]? = some x:=by rw [hbx];simp
 have HGx:=Lib.hid hgx
 have hbl1:p.length + 1≤b.length:=by omega
 have hbl2:b.length≤p.length + 1:=by omega
 by_cases h36:¬ x.op=36
 ·have b36:(x.op != 36)=true:=by simpa using h36
  clear ha hb hx ala alb hd hd0 hbc hs' he he0 hbn hbx hbl hgx hoa hob h1 h2 h36
  as_aux_lemma=>
  go_enter Tryz.func5,Tryz.ntmps5
  go_wp2_with (first|(go_at_call 14;(with_reducible refine cB HM (known_any _ (U8.below HT.out HM.out.below)) ?_);clear HM;intro W1 HM)|(go_at_call 12;(with_reducible refine (HA.out _ (U8.below HT.out HM.out.below)).mono ?_);rintro e W2 ⟨pa1,pa2,rfl,hM2⟩;have HM1:=Lib.hid (HM.out.comp2 hM2);clear HM hM2;(try clear W1);rename World=>W1;have HM:=HM1;clear HM1;simp only [List.cons_append,List.nil_append] at HM)|(go_at_call 18;(with_reducible refine (HB.out _ (U8.below HT.out HM.out.below)).mono ?_);rintro e W2 ⟨pb1,pb2,rfl,hM2⟩;have HM1:=Lib.hid (HM.out.comp2 hM2);clear HM hM2;(try clear W1);rename World=>W1;have HM:=HM1;clear HM1;simp only [List.cons_append,List.nil_append] at HM;obtain ⟨bb,rfl⟩:=jn_has (HM.out.get (k:=0) rfl) (by omega))|(go_at_call 15;have HS:Sl W1 _ (List.flatMap NodeD.cs a):=sl_row (l:=a) NodeD.cs 8 NodeD.cs_len (HM.out.get (k:=1) rfl);(with_reducible refine cB HM (HX.out _ _ _ HS (HM.out.sl HL.out) (U8.below HT.out HM.out.below)) ?_);clear HS;clear HM;intro W1 HM)|(go_at_call 15;have HS:Sl W1 _ (List.flatMap NodeD.cs c):=sl_row (l:=c) NodeD.cs 8 NodeD.cs_len (HM.out.get (k:=0) rfl);(with_reducible refine cB HM (HZ.out _ _ _ HS (HM.out.sl HL.out) (U8.below HT.out HM.out.below)) ?_);clear HS;clear HM;intro W1 HM)|((with_reducible refine skip_op ?_ ?_);exact rfl)|refine mP ?_|(refine mS ?_;clear HM;intro W1 HM)|(refine hal (dst:=some 11) HM rfl ?_;clear HM;intro g11 W1 HM)|(refine hal (dst:=some 15) HM rfl ?_;clear HM;intro g15 W1 HM)|((with_reducible refine iat 70 ?_);(refine ixa (i:=p.length) rfl rfl (by omega) (by omega) ?_))|((with_reducible refine iat 72 ?_);(refine ldx0 (jn_el (HM.out.get (k:=1) rfl) HGx.out) rfl rfl ?_)))
  go_ret
  exact ⟨rfl,HM.out.below⟩
 have h36:=Classical.not_not.1 h36
 have b36:(x.op != 36)=false:=by rw [h36];rfl
 have hs4:s' = 4:=by
  rw [hbx] at alb
  rw [alone_sort alb,h36];rfl
 subst hs4
 have hI:=join_in ha hb hbx h36 (by omega) (by omega) (by omega) ala alb (uIn_list s t)
 have HC:=Lib.hid (fun W h=>xParse_any (((((⟨#[40]⟩:ByteArray)++s)++⟨#[41,32,105,110,32,40]⟩)++t)++⟨#[41]⟩) W h)
 have hoc:=parseF_ok (((((⟨#[40]⟩:ByteArray)++s)++⟨#[41,32,105,110,32,40]⟩)++t)++⟨#[41]⟩) false
 unfold NPost at HC
 by_cases h40:40 < max d e + 1
 ·rw [if_pos h40] at hI
  rw [hI] at HC
  clear hI hoc ha hb hx ala alb h40 hd hd0 he he0 hbc hs' hbn hbx hbl hgx hoa hob h36
  as_aux_lemma=>
  go_enter Tryz.func5,Tryz.ntmps5
  go_wp2_with (first|(go_at_call 14;(with_reducible refine cB HM (known_any _ (U8.below HT.out HM.out.below)) ?_);clear HM;intro W1 HM)|(go_at_call 12;(with_reducible refine (HA.out _ (U8.below HT.out HM.out.below)).mono ?_);rintro e W2 ⟨pa1,pa2,rfl,hM2⟩;have HM1:=Lib.hid (HM.out.comp2 hM2);clear HM hM2;(try clear W1);rename World=>W1;have HM:=HM1;clear HM1;simp only [List.cons_append,List.nil_append] at HM)|(go_at_call 18;(with_reducible refine (HB.out _ (U8.below HT.out HM.out.below)).mono ?_);rintro e W2 ⟨pb1,pb2,rfl,hM2⟩;have HM1:=Lib.hid (HM.out.comp2 hM2);clear HM hM2;(try clear W1);rename World=>W1;have HM:=HM1;clear HM1;simp only [List.cons_append,List.nil_append] at HM;obtain ⟨bb,rfl⟩:=jn_has (HM.out.get (k:=0) rfl) (by omega))|(go_at_call 15;have HS:Sl W1 _ (List.flatMap NodeD.cs a):=sl_row (l:=a) NodeD.cs 8 NodeD.cs_len (HM.out.get (k:=1) rfl);(with_reducible refine cB HM (HX.out _ _ _ HS (HM.out.sl HL.out) (U8.below HT.out HM.out.below)) ?_);clear HS;clear HM;intro W1 HM)|(go_at_call 15;have HS:Sl W1 _ (List.flatMap NodeD.cs c):=sl_row (l:=c) NodeD.cs 8 NodeD.cs_len (HM.out.get (k:=0) rfl);(with_reducible refine cB HM (HZ.out _ _ _ HS (HM.out.sl HL.out) (U8.below HT.out HM.out.below)) ?_);clear HS;clear HM;intro W1 HM)|((with_reducible refine skip_op ?_ ?_);exact rfl)|refine mP ?_|(refine mS ?_;clear HM;intro W1 HM)|(refine hal (dst:=some 11) HM rfl ?_;clear HM;intro g11 W1 HM)|(refine hal (dst:=some 15) HM rfl ?_;clear HM;intro g15 W1 HM)|((with_reducible refine iat 70 ?_);(refine ixa (i:=p.length) rfl rfl (by omega) (by omega) ?_))|((with_reducible refine iat 72 ?_);(refine ldx0 (jn_el (HM.out.get (k:=1) rfl) HGx.out) rfl rfl ?_))|(go_at_call 12;(with_reducible refine (HC.out _ (U8.below HT.out HM.out.below)).mono ?_);rintro e W2 ⟨pc1,pc2,rfl,hM2⟩;have HM1:=Lib.hid (HM.out.comp2 hM2);clear HM hM2;(try clear W1);rename World=>W1;have HM:=HM1;clear HM1;simp only [List.cons_append,List.nil_append] at HM))
  go_ret
  exact ⟨rfl,HM.out.below⟩
 rw [if_neg h40] at hI
 obtain ⟨n1,-,-,hcc⟩:=parse_ok hI
 obtain ⟨z,hz,hz0⟩:=expr_in ala alb hx hbc hcc
 have HTs:=Lib.hid (fun (p:Option Addr) (cc:Nat) W h1 h2 h3=>cTests_any p cc b xk xo q c2 l W h1 (jn_wf hob.2) (by have:=hob.1;omega) h2 (by omega) h3)
 rw [hI] at HC hoc
 obtain ⟨c,hc⟩:∃ c,a++b++[nOp 23 2]=c:=⟨_,rfl⟩
 rw [hc] at HC hoc hz
 have hlc:c.length≤1002:=hoc.1
 have HZ:=Lib.hid (fun (p:Option Addr) (cc:Nat) W h1 h2 h3=>cExpr_any p cc c q c2 l W h1 (jn_wf hoc.2) (by omega) h2 (by omega) h3)
 unfold resV at HZ
 rw [hz] at HZ
 dsimp only at HZ
 generalize testsF b ⟨xk,xo⟩ l=r at HTs HZ hz0
 have br:(r == r)=true:=by simp
 by_cases hr:r=0
 ·subst hr
  obtain rfl:=hz0 rfl
  dsimp only at HZ
  clear hz0 hI hoc hz hcc ha hb hx ala alb h40 hd hd0 he he0 hc hbc hs' hbn hbx hbl hgx hoa hob h36
  as_aux_lemma=>
  go_enter Tryz.func5,Tryz.ntmps5
  go_wp2_with (first|(go_at_call 14;(with_reducible refine cB HM (known_any _ (U8.below HT.out HM.out.below)) ?_);clear HM;intro W1 HM)|(go_at_call 12;(with_reducible refine (HA.out _ (U8.below HT.out HM.out.below)).mono ?_);rintro e W2 ⟨pa1,pa2,rfl,hM2⟩;have HM1:=Lib.hid (HM.out.comp2 hM2);clear HM hM2;(try clear W1);rename World=>W1;have HM:=HM1;clear HM1;simp only [List.cons_append,List.nil_append] at HM)|(go_at_call 18;(with_reducible refine (HB.out _ (U8.below HT.out HM.out.below)).mono ?_);rintro e W2 ⟨pb1,pb2,rfl,hM2⟩;have HM1:=Lib.hid (HM.out.comp2 hM2);clear HM hM2;(try clear W1);rename World=>W1;have HM:=HM1;clear HM1;simp only [List.cons_append,List.nil_append] at HM;obtain ⟨bb,rfl⟩:=jn_has (HM.out.get (k:=0) rfl) (by omega))|(go_at_call 15;have HS:Sl W1 _ (List.flatMap NodeD.cs a):=sl_row (l:=a) NodeD.cs 8 NodeD.cs_len (HM.out.get (k:=1) rfl);(with_reducible refine cB HM (HX.out _ _ _ HS (HM.out.sl HL.out) (U8.below HT.out HM.out.below)) ?_);clear HS;clear HM;intro W1 HM)|(go_at_call 15;have HS:Sl W1 _ (List.flatMap NodeD.cs c):=sl_row (l:=c) NodeD.cs 8 NodeD.cs_len (HM.out.get (k:=0) rfl);(with_reducible refine cB HM (HZ.out _ _ _ HS (HM.out.sl HL.out) (U8.below HT.out HM.out.below)) ?_);clear HS;clear HM;intro W1 HM)|((with_reducible refine skip_op ?_ ?_);exact rfl)|refine mP ?_|(refine mS ?_;clear HM;intro W1 HM)|(refine hal (dst:=some 11) HM rfl ?_;clear HM;intro g11 W1 HM)|(refine hal (dst:=some 15) HM rfl ?_;clear HM;intro g15 W1 HM)|((with_reducible refine iat 70 ?_);(refine ixa (i:=p.length) rfl rfl (by omega) (by omega) ?_))|((with_reducible refine iat 72 ?_);(refine ldx0 (jn_el (HM.out.get (k:=1) rfl) HGx.out) rfl rfl ?_))|(go_at_call 12;(with_reducible refine (HC.out _ (U8.below HT.out HM.out.below)).mono ?_);rintro e W2 ⟨pc1,pc2,rfl,hM2⟩;have HM1:=Lib.hid (HM.out.comp2 hM2);clear HM hM2;(try clear W1);rename World=>W1;have HM:=HM1;clear HM1;simp only [List.cons_append,List.nil_append] at HM)|(go_at_call 19;have HS:Sl W1 _ (List.flatMap NodeD.cs b):=sl_row (l:=b) NodeD.cs 8 NodeD.cs_len (HM.out.get (k:=3) rfl);(with_reducible refine cB HM (HTs.out _ _ _ HS (HM.out.sl HL.out) (U8.below HT.out HM.out.below)) ?_);clear HS;clear HM;intro W1 HM))
  go_ret
  exact ⟨rfl,HM.out.below⟩
 ·have br2:(r != 0)=true:=by simpa using hr
  obtain ⟨zk,zo⟩:=z
  dsimp only at HZ
  clear hz0 hr hI hoc hz hcc ha hb hx ala alb h40 hd hd0 he he0 hc hbc hs' hbn hbx hbl hgx hoa hob h36
  as_aux_lemma=>
  go_enter Tryz.func5,Tryz.ntmps5
  go_wp2_with (first|(go_at_call 14;(with_reducible refine cB HM (known_any _ (U8.below HT.out HM.out.below)) ?_);clear HM;intro W1 HM)|(go_at_call 12;(with_reducible refine (HA.out _ (U8.below HT.out HM.out.below)).mono ?_);rintro e W2 ⟨pa1,pa2,rfl,hM2⟩;have HM1:=Lib.hid (HM.out.comp2 hM2);clear HM hM2;(try clear W1);rename World=>W1;have HM:=HM1;clear HM1;simp only [List.cons_append,List.nil_append] at HM)|(go_at_call 18;(with_reducible refine (HB.out _ (U8.below HT.out HM.out.below)).mono ?_);rintro e W2 ⟨pb1,pb2,rfl,hM2⟩;have HM1:=Lib.hid (HM.out.comp2 hM2);clear HM hM2;(try clear W1);rename World=>W1;have HM:=HM1;clear HM1;simp only [List.cons_append,List.nil_append] at HM;obtain ⟨bb,rfl⟩:=jn_has (HM.out.get (k:=0) rfl) (by omega))|(go_at_call 15;have HS:Sl W1 _ (List.flatMap NodeD.cs a):=sl_row (l:=a) NodeD.cs 8 NodeD.cs_len (HM.out.get (k:=1) rfl);(with_reducible refine cB HM (HX.out _ _ _ HS (HM.out.sl HL.out) (U8.below HT.out HM.out.below)) ?_);clear HS;clear HM;intro W1 HM)|(go_at_call 15;have HS:Sl W1 _ (List.flatMap NodeD.cs c):=sl_row (l:=c) NodeD.cs 8 NodeD.cs_len (HM.out.get (k:=0) rfl);(with_reducible refine cB HM (HZ.out _ _ _ HS (HM.out.sl HL.out) (U8.below HT.out HM.out.below)) ?_);clear HS;clear HM;intro W1 HM)|((with_reducible refine skip_op ?_ ?_);exact rfl)|refine mP ?_|(refine mS ?_;clear HM;intro W1 HM)|(refine hal (dst:=some 11) HM rfl ?_;clear HM;intro g11 W1 HM)|(refine hal (dst:=some 15) HM rfl ?_;clear HM;intro g15 W1 HM)|((with_reducible refine iat 70 ?_);(refine ixa (i:=p.length) rfl rfl (by omega) (by omega) ?_))|((with_reducible refine iat 72 ?_);(refine ldx0 (jn_el (HM.out.get (k:=1) rfl) HGx.out) rfl rfl ?_))|(go_at_call 12;(with_reducible refine (HC.out _ (U8.below HT.out HM.out.below)).mono ?_);rintro e W2 ⟨pc1,pc2,rfl,hM2⟩;have HM1:=Lib.hid (HM.out.comp2 hM2);clear HM hM2;(try clear W1);rename World=>W1;have HM:=HM1;clear HM1;simp only [List.cons_append,List.nil_append] at HM)|(go_at_call 19;have HS:Sl W1 _ (List.flatMap NodeD.cs b):=sl_row (l:=b) NodeD.cs 8 NodeD.cs_len (HM.out.get (k:=3) rfl);(with_reducible refine cB HM (HTs.out _ _ _ HS (HM.out.sl HL.out) (U8.below HT.out HM.out.below)) ?_);clear HS;clear HM;intro W1 HM))
  go_ret
  exact ⟨rfl,HM.out.below⟩
end Go.Proofs.YtheimopjglkgjaaGreatDoor
