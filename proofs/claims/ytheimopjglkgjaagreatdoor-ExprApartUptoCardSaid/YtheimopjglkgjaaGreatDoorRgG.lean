/- The reference's interval. The reference's interval: the walk. The reference's tests. -/
import Derived.Test.YtheimopjglkgjaaGreatDoorRgD
import Derived.Test.YtheimopjglkgjaaGreatDoorRdB
namespace Go.Proofs.YtheimopjglkgjaaGreatDoor
open Go.RowKit
set_option linter.unusedVariables false
set_option linter.unusedSimpArgs false
set_option maxRecDepth 100000
def BRS:List ByteArray:=[⟨#[40]⟩,⟨#[91]⟩,⟨#[123]⟩,⟨#[41]⟩,⟨#[93]⟩,⟨#[125]⟩,⟨#[46,46]⟩]
def brN (l:List UInt8):Int:=if l == [40] then 0 else if l == [91] then 1 else if l == [123] then 2 else if l == [41] then 3 else if l == [93] then 4 else if l == [125] then 5 else if l == [46,46] then 6 else -1
theorem any7 (T:List TokD) (i:Nat):anyF T i BRS 0=brN (sgT T i).toList:=by
 have e:∀ s,isT T i s=((sgT T i).toList == s):=fun _=>rfl
 unfold BRS brN
 simp only [anyF,e,ByteArray.toList_eq]
 rfl
theorem brN_word {t:ByteArray} (h:wordB t.toList=true):brN t.toList = -1:=by
 unfold wordB at h
 simp only [Bool.or_eq_true,beq_iff_eq] at h
 rcases h with ((((((((((h|h)|h)|h)|h)|h)|h)|h)|h)|h)|h) <;> (rw [h];rfl)
theorem brN_at {T:List TokD} (hK:KndOk T) {i:Nat} {t:TokD} (ht:T[i]? = some t):brN (sgT T i).toList=if t.kind=6 then brN t.text.toList else -1:=by
 have hk:=hK t (List.mem_of_getElem? ht)
 unfold sgT
 rw [ht]
 simp only
 by_cases h6:t.kind=6
 ·rw [if_pos (by omega),if_pos h6]
 ·rw [if_neg h6]
  by_cases h5:t.kind=5
  ·rw [if_pos (by omega)]
   exact brN_word (hk.2.2 h5)
  ·rw [if_neg (by omega),ByteArray.toList_eq]
   rfl
theorem brN_cases (l:List UInt8):brN l = -1∨brN l=0∨brN l=1∨brN l=2∨brN l=3∨brN l=4∨brN l=5∨brN l=6:=by
 unfold brN
 by_cases g0:(l == [40])=true
 ·rw [if_pos g0];decide
 by_cases g1:(l == [91])=true
 ·rw [if_neg g0,if_pos g1];decide
 by_cases g2:(l == [123])=true
 ·rw [if_neg g0,if_neg g1,if_pos g2];decide
 by_cases g3:(l == [41])=true
 ·rw [if_neg g0,if_neg g1,if_neg g2,if_pos g3];decide
 by_cases g4:(l == [93])=true
 ·rw [if_neg g0,if_neg g1,if_neg g2,if_neg g3,if_pos g4];decide
 by_cases g5:(l == [125])=true
 ·rw [if_neg g0,if_neg g1,if_neg g2,if_neg g3,if_neg g4,if_pos g5];decide
 by_cases g6:(l == [46,46])=true
 ·rw [if_neg g0,if_neg g1,if_neg g2,if_neg g3,if_neg g4,if_neg g5,if_pos g6];decide
 rw [if_neg g0,if_neg g1,if_neg g2,if_neg g3,if_neg g4,if_neg g5,if_neg g6];decide
theorem ivl_br {T:List TokD} (hK:KndOk T) {k:Nat} {d:Int} {b:Bool} {t:TokD} (h:ivlF T (T.length - k) k d=b) (ht:T[k]? = some t) {x:Int} (hx:brN (sgT T k).toList=x) :
  (if x=0∨x=1∨x=2 then ivlF T (T.length - (k + 1)) (k + 1) (d + 1)
   else if x=3∨x=4∨x=5 then (if d - 1=0 then false else ivlF T (T.length - (k + 1)) (k + 1) (d - 1))
   else if x=6 then (if d=1 then true else ivlF T (T.length - (k + 1)) (k + 1) d)
   else ivlF T (T.length - (k + 1)) (k + 1) d)=b:=by
 have hs:=ivl_step h ht
 rw [brN_at hK ht] at hx
 by_cases h6:t.kind=6
 ·rw [if_pos h6] at hs hx
  subst hx
  generalize t.text.toList=l at hs ⊢
  by_cases g0:l=[40]
  ·subst g0;exact hs
  by_cases g1:l=[91]
  ·subst g1;exact hs
  by_cases g2:l=[123]
  ·subst g2;exact hs
  by_cases g3:l=[41]
  ·subst g3;exact hs
  by_cases g4:l=[93]
  ·subst g4;exact hs
  by_cases g5:l=[125]
  ·subst g5;exact hs
  by_cases g6:l=[46,46]
  ·subst g6;exact hs
  have hb:brN l = -1:=by unfold brN;simp [g0,g1,g2,g3,g4,g5,g6]
  rw [hb]
  rw [if_neg (by simp [g0,g1,g2]),if_neg (by simp [g3,g4,g5]),if_neg g6] at hs
  exact hs
 ·rw [if_neg h6] at hs hx
  subst hx
  exact hs
set_option maxHeartbeats 16000000 in
theorem rIvl {T:List TokD} (hK:KndOk T) (hT:TksOk T) (tp:Option Addr) (tc i:Nat) (W:World) (HT:Sl W tp (T.flatMap TokD.cs)) (hi:i≤T.length) :
  Calls Tryz.prog 145 #[.slice tp T.length tc,.int .i64 i] W fun e w'=>e = .returned (.bool (ivl T i))∧Below W.heap.size W w':=by
 have HM:=Lib.hid (Mem.start W)
 have HTk:=Lib.hid HT
 have hT1:=hT.len
 obtain ⟨b,hb⟩:∃ b,ivl T i=b:=⟨_,rfl⟩
 rw [hb]
 have HB:=Lib.hid (show ivlF T (T.length - i) i 0=b from hb)
 clear hb HT
 go_enter Tryz.func145,Tryz.ntmps145
 go_wp2_with fail
 go_loopw [1,5] (fun kv dv wr=>∃ (k:Nat) (d:Int),kv = .int .i64 k∧dv = .int .i64 d∧k≤T.length∧-(k:Int)≤d∧d≤k∧Hid (ivlF T (T.length - k) k d=b)∧Hid (Mem W wr [])) (fun kv _ _=>T.length - (intOf kv).toNat)
 case atStart=>exact ⟨i,0,rfl,rfl,hi,by omega,by omega,HB,HM⟩
 case round=>
  clear HM HB
  obtain ⟨k,d,rfl,rfl,hk,hd1,hd2,HB,HM⟩:=hrel
  by_cases hlt:k < T.length
  ·obtain ⟨t,ht⟩:∃ t,T[k]? = some t:=⟨_,List.getElem?_eq_getElem hlt⟩
   obtain ⟨x,hx⟩:∃ x,brN (sgT T k).toList=x:=⟨_,rfl⟩
   have hst:=ivl_br hK HB.out ht hx
   have hxs:=brN_cases (sgT T k).toList
   rw [hx] at hxs
   have HA:=Lib.hid (fun (W1:World) (lp:Option Addr) (lc:Nat) (h1:Sl W1 tp (T.flatMap TokD.cs)) (h2:Sl W1 lp (([⟨#[40]⟩,⟨#[91]⟩,⟨#[123]⟩,⟨#[41]⟩,⟨#[93]⟩,⟨#[125]⟩,⟨#[46,46]⟩]:List ByteArray).flatMap strC))=>(show Calls Tryz.prog 144 #[.slice tp T.length tc,.int .i64 k,.slice lp 7 lc] W1 fun e w'=>e = .returned (.int .i64 x)∧W1=w' from by
    have h:=rAny1 T tp lp tc lc k [⟨#[40]⟩,⟨#[91]⟩,⟨#[123]⟩,⟨#[41]⟩,⟨#[93]⟩,⟨#[125]⟩,⟨#[46,46]⟩] W1 h1 h2 (by
     intro x hx
     simp only [List.mem_cons,List.not_mem_nil,or_false] at hx
     rcases hx with rfl|rfl|rfl|rfl|rfl|rfl|rfl <;> (rw [ByteArray.toList_eq];decide)) (by decide)
    rw [show anyF T k [⟨#[40]⟩,⟨#[91]⟩,⟨#[123]⟩,⟨#[41]⟩,⟨#[93]⟩,⟨#[125]⟩,⟨#[46,46]⟩] 0=x from (any7 T k).trans hx] at h
    exact h))
   have hlt3:=Lib.hid (show k + 1≤T.length from hlt)
   have d1:decide ((k:Int) < T.length)=true:=decide_eq_true (by omega)
   clear HB ht hx
   rcases hxs with rfl|rfl|rfl|rfl|rfl|rfl|rfl|rfl
   ·rw [if_neg (by decide),if_neg (by decide),if_neg (by decide)] at hst
    have HB:=Lib.hid hst
    clear hst
    go_wp2_with (first|((with_reducible refine iat 14 ?_);(refine bsS [⟨#[40]⟩,⟨#[91]⟩,⟨#[123]⟩,⟨#[41]⟩,⟨#[93]⟩,⟨#[125]⟩,⟨#[46,46]⟩] rfl HM.out (by first|rfl|simp [Act.eval]) rfl (by decide) ?_;intro g14 W1 HM1;replace HM:=Lib.hid HM1;clear HM1))|(go_at_call 144;(with_reducible refine (HA.out _ _ _ (HM.out.sl HTk.out) (row_sl (box_row (n:=7) (k:=1) (HM.out.get (k:=0) rfl) rfl (by decide)))).mono ?_);rintro e W2 ⟨rfl,rfl⟩)|fail)
    go_roundw
    case rel=>exact ⟨k + 1,d,by go_num,rfl,hlt3.out,by omega,by omega,HB,Lib.hid (HM.out.sub (.cons _ (.refl _)))⟩
    case measure=>have:=hlt3.out;simp [intOf];omega
   ·rw [if_pos (by decide)] at hst
    have HB:=Lib.hid hst
    clear hst
    go_wp2_with (first|((with_reducible refine iat 14 ?_);(refine bsS [⟨#[40]⟩,⟨#[91]⟩,⟨#[123]⟩,⟨#[41]⟩,⟨#[93]⟩,⟨#[125]⟩,⟨#[46,46]⟩] rfl HM.out (by first|rfl|simp [Act.eval]) rfl (by decide) ?_;intro g14 W1 HM1;replace HM:=Lib.hid HM1;clear HM1))|(go_at_call 144;(with_reducible refine (HA.out _ _ _ (HM.out.sl HTk.out) (row_sl (box_row (n:=7) (k:=1) (HM.out.get (k:=0) rfl) rfl (by decide)))).mono ?_);rintro e W2 ⟨rfl,rfl⟩)|fail)
    go_roundw
    case rel=>exact ⟨k + 1,d + 1,by go_num,rfl,hlt3.out,by omega,by omega,HB,Lib.hid (HM.out.sub (.cons _ (.refl _)))⟩
    case measure=>have:=hlt3.out;simp [intOf];omega
   ·rw [if_pos (by decide)] at hst
    have HB:=Lib.hid hst
    clear hst
    go_wp2_with (first|((with_reducible refine iat 14 ?_);(refine bsS [⟨#[40]⟩,⟨#[91]⟩,⟨#[123]⟩,⟨#[41]⟩,⟨#[93]⟩,⟨#[125]⟩,⟨#[46,46]⟩] rfl HM.out (by first|rfl|simp [Act.eval]) rfl (by decide) ?_;intro g14 W1 HM1;replace HM:=Lib.hid HM1;clear HM1))|(go_at_call 144;(with_reducible refine (HA.out _ _ _ (HM.out.sl HTk.out) (row_sl (box_row (n:=7) (k:=1) (HM.out.get (k:=0) rfl) rfl (by decide)))).mono ?_);rintro e W2 ⟨rfl,rfl⟩)|fail)
    go_roundw
    case rel=>exact ⟨k + 1,d + 1,by go_num,rfl,hlt3.out,by omega,by omega,HB,Lib.hid (HM.out.sub (.cons _ (.refl _)))⟩
    case measure=>have:=hlt3.out;simp [intOf];omega
   ·rw [if_pos (by decide)] at hst
    have HB:=Lib.hid hst
    clear hst
    go_wp2_with (first|((with_reducible refine iat 14 ?_);(refine bsS [⟨#[40]⟩,⟨#[91]⟩,⟨#[123]⟩,⟨#[41]⟩,⟨#[93]⟩,⟨#[125]⟩,⟨#[46,46]⟩] rfl HM.out (by first|rfl|simp [Act.eval]) rfl (by decide) ?_;intro g14 W1 HM1;replace HM:=Lib.hid HM1;clear HM1))|(go_at_call 144;(with_reducible refine (HA.out _ _ _ (HM.out.sl HTk.out) (row_sl (box_row (n:=7) (k:=1) (HM.out.get (k:=0) rfl) rfl (by decide)))).mono ?_);rintro e W2 ⟨rfl,rfl⟩)|fail)
    go_roundw
    case rel=>exact ⟨k + 1,d + 1,by go_num,rfl,hlt3.out,by omega,by omega,HB,Lib.hid (HM.out.sub (.cons _ (.refl _)))⟩
    case measure=>have:=hlt3.out;simp [intOf];omega
   ·rw [if_neg (by decide),if_pos (by decide)] at hst
    by_cases hz:d - 1=0
    ·rw [if_pos hz] at hst
     have q0:(d - 1 == 0)=true:=by simpa using hz
     have HB:=Lib.hid hst
     clear hst hz
     go_wp2_with (first|((with_reducible refine iat 14 ?_);(refine bsS [⟨#[40]⟩,⟨#[91]⟩,⟨#[123]⟩,⟨#[41]⟩,⟨#[93]⟩,⟨#[125]⟩,⟨#[46,46]⟩] rfl HM.out (by first|rfl|simp [Act.eval]) rfl (by decide) ?_;intro g14 W1 HM1;replace HM:=Lib.hid HM1;clear HM1))|(go_at_call 144;(with_reducible refine (HA.out _ _ _ (HM.out.sl HTk.out) (row_sl (box_row (n:=7) (k:=1) (HM.out.get (k:=0) rfl) rfl (by decide)))).mono ?_);rintro e W2 ⟨rfl,rfl⟩)|fail)
     first|go_ret|go_ret2
     rw [← HB.out]
     exact ⟨rfl,HM.out.below⟩
    ·rw [if_neg hz] at hst
     have q0:(d - 1 == 0)=false:=by simpa using hz
     have HB:=Lib.hid hst
     clear hst
     go_wp2_with (first|((with_reducible refine iat 14 ?_);(refine bsS [⟨#[40]⟩,⟨#[91]⟩,⟨#[123]⟩,⟨#[41]⟩,⟨#[93]⟩,⟨#[125]⟩,⟨#[46,46]⟩] rfl HM.out (by first|rfl|simp [Act.eval]) rfl (by decide) ?_;intro g14 W1 HM1;replace HM:=Lib.hid HM1;clear HM1))|(go_at_call 144;(with_reducible refine (HA.out _ _ _ (HM.out.sl HTk.out) (row_sl (box_row (n:=7) (k:=1) (HM.out.get (k:=0) rfl) rfl (by decide)))).mono ?_);rintro e W2 ⟨rfl,rfl⟩)|fail)
     go_roundw
     case rel=>exact ⟨k + 1,d - 1,by go_num,rfl,hlt3.out,by omega,by omega,HB,Lib.hid (HM.out.sub (.cons _ (.refl _)))⟩
     case measure=>have:=hlt3.out;simp [intOf];omega
   ·rw [if_neg (by decide),if_pos (by decide)] at hst
    by_cases hz:d - 1=0
    ·rw [if_pos hz] at hst
     have q0:(d - 1 == 0)=true:=by simpa using hz
     have HB:=Lib.hid hst
     clear hst hz
     go_wp2_with (first|((with_reducible refine iat 14 ?_);(refine bsS [⟨#[40]⟩,⟨#[91]⟩,⟨#[123]⟩,⟨#[41]⟩,⟨#[93]⟩,⟨#[125]⟩,⟨#[46,46]⟩] rfl HM.out (by first|rfl|simp [Act.eval]) rfl (by decide) ?_;intro g14 W1 HM1;replace HM:=Lib.hid HM1;clear HM1))|(go_at_call 144;(with_reducible refine (HA.out _ _ _ (HM.out.sl HTk.out) (row_sl (box_row (n:=7) (k:=1) (HM.out.get (k:=0) rfl) rfl (by decide)))).mono ?_);rintro e W2 ⟨rfl,rfl⟩)|fail)
     first|go_ret|go_ret2
     rw [← HB.out]
     exact ⟨rfl,HM.out.below⟩
    ·rw [if_neg hz] at hst
     have q0:(d - 1 == 0)=false:=by simpa using hz
     have HB:=Lib.hid hst
     clear hst
     go_wp2_with (first|((with_reducible refine iat 14 ?_);(refine bsS [⟨#[40]⟩,⟨#[91]⟩,⟨#[123]⟩,⟨#[41]⟩,⟨#[93]⟩,⟨#[125]⟩,⟨#[46,46]⟩] rfl HM.out (by first|rfl|simp [Act.eval]) rfl (by decide) ?_;intro g14 W1 HM1;replace HM:=Lib.hid HM1;clear HM1))|(go_at_call 144;(with_reducible refine (HA.out _ _ _ (HM.out.sl HTk.out) (row_sl (box_row (n:=7) (k:=1) (HM.out.get (k:=0) rfl) rfl (by decide)))).mono ?_);rintro e W2 ⟨rfl,rfl⟩)|fail)
     go_roundw
     case rel=>exact ⟨k + 1,d - 1,by go_num,rfl,hlt3.out,by omega,by omega,HB,Lib.hid (HM.out.sub (.cons _ (.refl _)))⟩
     case measure=>have:=hlt3.out;simp [intOf];omega
   ·rw [if_neg (by decide),if_pos (by decide)] at hst
    by_cases hz:d - 1=0
    ·rw [if_pos hz] at hst
     have q0:(d - 1 == 0)=true:=by simpa using hz
     have HB:=Lib.hid hst
     clear hst hz
     go_wp2_with (first|((with_reducible refine iat 14 ?_);(refine bsS [⟨#[40]⟩,⟨#[91]⟩,⟨#[123]⟩,⟨#[41]⟩,⟨#[93]⟩,⟨#[125]⟩,⟨#[46,46]⟩] rfl HM.out (by first|rfl|simp [Act.eval]) rfl (by decide) ?_;intro g14 W1 HM1;replace HM:=Lib.hid HM1;clear HM1))|(go_at_call 144;(with_reducible refine (HA.out _ _ _ (HM.out.sl HTk.out) (row_sl (box_row (n:=7) (k:=1) (HM.out.get (k:=0) rfl) rfl (by decide)))).mono ?_);rintro e W2 ⟨rfl,rfl⟩)|fail)
     first|go_ret|go_ret2
     rw [← HB.out]
     exact ⟨rfl,HM.out.below⟩
    ·rw [if_neg hz] at hst
     have q0:(d - 1 == 0)=false:=by simpa using hz
     have HB:=Lib.hid hst
     clear hst
     go_wp2_with (first|((with_reducible refine iat 14 ?_);(refine bsS [⟨#[40]⟩,⟨#[91]⟩,⟨#[123]⟩,⟨#[41]⟩,⟨#[93]⟩,⟨#[125]⟩,⟨#[46,46]⟩] rfl HM.out (by first|rfl|simp [Act.eval]) rfl (by decide) ?_;intro g14 W1 HM1;replace HM:=Lib.hid HM1;clear HM1))|(go_at_call 144;(with_reducible refine (HA.out _ _ _ (HM.out.sl HTk.out) (row_sl (box_row (n:=7) (k:=1) (HM.out.get (k:=0) rfl) rfl (by decide)))).mono ?_);rintro e W2 ⟨rfl,rfl⟩)|fail)
     go_roundw
     case rel=>exact ⟨k + 1,d - 1,by go_num,rfl,hlt3.out,by omega,by omega,HB,Lib.hid (HM.out.sub (.cons _ (.refl _)))⟩
     case measure=>have:=hlt3.out;simp [intOf];omega
   ·rw [if_neg (by decide),if_neg (by decide),if_pos (by decide)] at hst
    by_cases hz:d=1
    ·rw [if_pos hz] at hst
     have q0:(d == 1)=true:=by simpa using hz
     have HB:=Lib.hid hst
     clear hst hz
     go_wp2_with (first|((with_reducible refine iat 14 ?_);(refine bsS [⟨#[40]⟩,⟨#[91]⟩,⟨#[123]⟩,⟨#[41]⟩,⟨#[93]⟩,⟨#[125]⟩,⟨#[46,46]⟩] rfl HM.out (by first|rfl|simp [Act.eval]) rfl (by decide) ?_;intro g14 W1 HM1;replace HM:=Lib.hid HM1;clear HM1))|(go_at_call 144;(with_reducible refine (HA.out _ _ _ (HM.out.sl HTk.out) (row_sl (box_row (n:=7) (k:=1) (HM.out.get (k:=0) rfl) rfl (by decide)))).mono ?_);rintro e W2 ⟨rfl,rfl⟩)|fail)
     first|go_ret|go_ret2
     rw [← HB.out]
     exact ⟨rfl,HM.out.below⟩
    ·rw [if_neg hz] at hst
     have q0:(d == 1)=false:=by simpa using hz
     have HB:=Lib.hid hst
     clear hst
     go_wp2_with (first|((with_reducible refine iat 14 ?_);(refine bsS [⟨#[40]⟩,⟨#[91]⟩,⟨#[123]⟩,⟨#[41]⟩,⟨#[93]⟩,⟨#[125]⟩,⟨#[46,46]⟩] rfl HM.out (by first|rfl|simp [Act.eval]) rfl (by decide) ?_;intro g14 W1 HM1;replace HM:=Lib.hid HM1;clear HM1))|(go_at_call 144;(with_reducible refine (HA.out _ _ _ (HM.out.sl HTk.out) (row_sl (box_row (n:=7) (k:=1) (HM.out.get (k:=0) rfl) rfl (by decide)))).mono ?_);rintro e W2 ⟨rfl,rfl⟩)|fail)
     go_roundw
     case rel=>exact ⟨k + 1,d,by go_num,rfl,hlt3.out,by omega,by omega,HB,Lib.hid (HM.out.sub (.cons _ (.refl _)))⟩
     case measure=>have:=hlt3.out;simp [intOf];omega
  ·have HE:=Lib.hid (ivl_end HB.out (by omega))
   have d1:decide ((k:Int) < T.length)=false:=decide_eq_false (by omega)
   go_wp2_with fail
   first|go_ret|go_ret2
   rw [← HE.out]
   exact ⟨rfl,HM.out.below⟩
theorem is_yes {T:List TokD} {W:World} {tp:Option Addr} {tc i:Nat} {x:ByteArray} {s:List UInt8} {d:Int} (hb:isT T i s=true) (HT:Sl W tp (T.flatMap TokD.cs)) (hd:d=(i:Int)) (hs:x.data.toList=s) (hn:s≠[]) :
  Calls Tryz.prog 82 #[.slice tp T.length tc,.int .i64 d,.string x] W fun e w'=>e = .returned (.bool true)∧W=w':=by
 subst hd
 have h:=rIs T tp tc i x W HT (by rw [toList_of hs];exact hn)
 rw [toList_of hs,hb] at h
 exact h
theorem is_no {T:List TokD} {W:World} {tp:Option Addr} {tc i:Nat} {x:ByteArray} {s:List UInt8} {d:Int} (hb:isT T i s=false) (HT:Sl W tp (T.flatMap TokD.cs)) (hd:d=(i:Int)) (hs:x.data.toList=s) (hn:s≠[]) :
  Calls Tryz.prog 82 #[.slice tp T.length tc,.int .i64 d,.string x] W fun e w'=>e = .returned (.bool false)∧W=w':=by
 subst hd
 have h:=rIs T tp tc i x W HT (by rw [toList_of hs];exact hn)
 rw [toList_of hs,hb] at h
 exact h
end Go.Proofs.YtheimopjglkgjaaGreatDoor
