/- Tests of the reader of expressions. Tests, all as unary tests, signs: the reader of expressions. -/
import Derived.Test.YtnghlakllgkjlaaGreatDoorRdA
import Derived.Test.YtnghlakllgkjlaaGreatDoorSepMac2
import Derived.Test.YtnghlakllgkjlaaGreatDoorRdB
namespace Go.Proofs.YtnghlakllgkjlaaGreatDoor
open Go.RowKit
set_option linter.unusedVariables false
set_option linter.unusedSimpArgs false
set_option maxRecDepth 100000
theorem relL_le (s:List UInt8):0≤relL s∧relL s≤18:=by
 unfold relL
 repeat (first|(split;(first|exact ⟨by decide,by decide⟩|skip)))
 all_goals exact ⟨by decide,by decide⟩
theorem end_use {T:List TokD} {w0 W:World} {R:Nat} {tp:Option Addr} {tc i:Nat} {rest:List Res} {r A:PR} {V:Value} {K:Ending→World→Prop} {d:Int} (HR:(if (isT T i [93] || isT T i [41])=true then A else PR.no)=r) (HT:Sl w0 tp (T.flatMap TokD.cs)) (HM:Mem w0 W (.box R 231 [.slice tp T.length tc,.int .i64 d,V] :: rest)) (hd:d=(i:Int)) (hT:T.length≤1000) (hi:i≤T.length)
  (h1:((sgT T i).toList == [93])=true→((sgT T i).toList != [93])=false→True→True→i < T.length→A=r→∀ W',Mem w0 W' (.box R 231 [.slice tp T.length tc,.int .i64 i,V] :: rest)→K (.returned (.string (sgT T i))) W')
  (h2:((sgT T i).toList == [93])=false→((sgT T i).toList != [93])=true→((sgT T i).toList == [41])=true→((sgT T i).toList != [41])=false→i < T.length→A=r→∀ W',Mem w0 W' (.box R 231 [.slice tp T.length tc,.int .i64 i,V] :: rest)→K (.returned (.string (sgT T i))) W')
  (h3:((sgT T i).toList == [93])=false→((sgT T i).toList != [93])=true→((sgT T i).toList == [41])=false→((sgT T i).toList != [41])=true→True→PR.no=r→∀ W',Mem w0 W' (.box R 231 [.slice tp T.length tc,.int .i64 i,V] :: rest)→K (.returned (.string (sgT T i))) W') :
  Calls Tryz.prog 259 #[.pointer (some ⟨R,0,none⟩)] W K:=by
 subst hd
 refine (xPeek T w0 W R tp tc i V rest HT HM hT hi).mono fun e W' ⟨he,hM⟩=>?_
 subst he
 cases a:isT T i [93] with
 | true=>
  rw [a] at HR
  exact h1 a (by unfold bne;rw [show ((sgT T i).toList == [93])=true from a];rfl) trivial trivial (isT_lt a) HR W' hM
 | false=>
  cases b:isT T i [41] with
  | true=>
   rw [a,b] at HR
   exact h2 a (by unfold bne;rw [show ((sgT T i).toList == [93])=false from a];rfl) b (by unfold bne;rw [show ((sgT T i).toList == [41])=true from b];rfl) (isT_lt b) HR W' hM
  | false=>
   rw [a,b] at HR
   exact h3 a (by unfold bne;rw [show ((sgT T i).toList == [93])=false from a];rfl) b (by unfold bne;rw [show ((sgT T i).toList == [41])=false from b];rfl) trivial HR W' hM
set_option maxHeartbeats 16000000 in
theorem xTest {T:List TokD} (hT:TksOk T) (fuel:Nat) (ihS:∀ g,g≤fuel→XC T 280 .sum g):XC T 260 .test (fuel + 1):=by
 intro w0 W R tp tc i op oc acc rest HTk HM0 hi ha hne
 obtain ⟨r,hr⟩:∃ r,G T (fuel + 1) .test i=r:=⟨_,rfl⟩
 rw [hr] at hne ⊢
 have HR:=Lib.hid hr
 clear hr
 have hr:r≠.out:=hne
 have HM:=Lib.hid HM0
 have HTk:=Lib.hid HTk
 have hT1:=hT.len
 clear HM0 hne
 simp only [G] at HR
 obtain ⟨x,hx⟩:∃ x,relT T i=x:=⟨_,rfl⟩
 have hx18:=relL_le (sgT T i).toList
 have hxl:relL (sgT T i).toList=x:=hx
 rw [hxl] at hx18
 have HX:=Lib.hid hxl
 rw [hx] at HR
 have hadd:∀ (k:Nat) (W:World),(Op.stringOp .add (sgT T i) (sgT T k)).run Tryz.prog W = .ok (.string (sgT T i++sgT T k)) W:=fun k W=>run_string_add_sum (P:=Tryz.prog) W _ _ (by have:=sgT_size hT i;have:=sgT_size hT k;omega)
 by_cases h15:15≤x
 ·have h0:=HR.out
  rw [if_pos h15] at h0
  have HR1:=Lib.hid h0
  clear HR h0
  have HR:=HR1
  clear HR1
  have hi1:i < T.length:=relT_lt (by omega)
  have d15:decide (15≤x)=true:=decide_eq_true h15
  clear hx hxl
  go_enter Tryz.func260,Tryz.ntmps260
  go_wp2_with (first|(go_at_call 280;refine XC.use (ihS fuel (Nat.le_refl _)) HR.out hr HTk.out HM.out (by omega) (by omega) om (fun hno W2 hb=>(show _∧_ from ⟨rfl,XPost.no_ hno hb⟩)) ?_;intro l m j hR2 hG op1 oc1 W2 hM2;have hg:=(hG (by simp)).lenc 0 rfl rfl rfl;clear hG;obtain ⟨hL,hF,hJ⟩:=hg;have HR1:=Lib.hid hR2;clear HR hR2;have HR:=HR1;clear HR1;replace HM:=Lib.hid hM2;clear hM2)|(go_at_call 225;refine put_use _ _ HM.out om ?_;intro op1 oc1 W2 hM2;replace HM:=Lib.hid hM2;clear hM2)|(go_at_call 279;(with_reducible refine (xRel _ _).mono ?_);rintro e W2 ⟨rfl,rfl⟩;rw [HX.out])|(go_at_call 259;(with_reducible refine (xPeek T w0 _ R tp tc _ _ _ HTk.out HM.out hT1 (by omega)).mono ?_);refine cM1 ?_;clear HM;intro W1 HM)|((with_reducible refine skip_op ?_ ?_);exact rfl)|refine mP ?_|(refine mS ?_;clear HM;intro W1 HM))
  all_goals (first|go_ret|go_ret2|go_end0)
  all_goals (exact XPost.ok_ HR.out (by rw [show (31 + x - 15:Int)=x + 16 by omega];simp only [List.append_assoc]) HM.out)
 ·have h0:=HR.out
  rw [if_neg h15] at h0
  have d15:decide (15≤x)=false:=decide_eq_false h15
  obtain ⟨b3,h3⟩:∃ b,ivl T i=b:=⟨_,rfl⟩
  have HI:=Lib.hid h3
  clear hx hxl
  cases h1:isT T i [91] with
  | true=>
   have q1:((sgT T i).toList == [91])=true:=h1
   have q1n:((sgT T i).toList != [91])=false:=by unfold bne;rw [q1];rfl
   have hi1:=isT_lt h1
   rw [h1,h3] at h0
   clear h1 h3 HR
   cases b3 with
   | true=>
    have HR:=Lib.hid (show _=r from h0)
    clear h0
    go_enter Tryz.func260,Tryz.ntmps260
    go_wp2_with (first|(go_at_call 280;refine XC.use (ihS fuel (Nat.le_refl _)) HR.out hr HTk.out HM.out (by omega) (by omega) om (fun hno W2 hb=>(show _∧_ from ⟨rfl,XPost.no_ hno hb⟩)) ?_;intro l m j hR2 hG op1 oc1 W2 hM2;have hg:=(hG (by simp)).lenc 0 rfl rfl rfl;clear hG;obtain ⟨hL,hF,hJ⟩:=hg;have HR1:=Lib.hid hR2;clear HR hR2;have HR:=HR1;clear HR1;replace HM:=Lib.hid hM2;clear hM2)|(go_at_call 228;refine must_use HR.out HTk.out HM.out (by omega) hT1 (by omega) rfl (fun hno W2 hb=>(show _∧_ from ⟨rfl,XPost.no_ hno hb⟩)) ?_;intro hb hR2 W2 hM2;have hlt:=isT_lt hb;clear hb;have HR1:=Lib.hid hR2;clear HR hR2;have HR:=HR1;clear HR1;replace HM:=Lib.hid hM2;clear hM2)|(go_at_call 225;refine put_use _ _ HM.out om ?_;intro op1 oc1 W2 hM2;replace HM:=Lib.hid hM2;clear hM2)|(go_at_call 282;refine named_use _ _ _ HM.out om ?_;intro op1 oc1 W2 hM2;replace HM:=Lib.hid hM2;clear hM2)|(go_at_call 279;(with_reducible refine (xRel _ _).mono ?_);rintro e W2 ⟨rfl,rfl⟩;rw [HX.out])|(go_at_call 259;refine end_use HR.out HTk.out HM.out (by omega) hT1 (by omega) ?_ ?_ ?_;all_goals (intro q1 q1n q2 q2n hlt hR2 W2 hM2;have HR1:=Lib.hid hR2;clear HR hR2;have HR:=HR1;clear HR1;replace HM:=Lib.hid hM2;clear hM2))|(go_at_call 259;(with_reducible refine (xPeek T w0 _ R tp tc _ _ _ HTk.out HM.out hT1 (by omega)).mono ?_);refine cM1 ?_;clear HM;intro W1 HM)|(go_at_call 281;(with_reducible refine (xInterval T w0 _ R tp tc _ _ _ HTk.out HM.out hT1 (by omega)).mono ?_);rintro e W2 ⟨rfl,hM2⟩;rw [HI.out];replace HM:=Lib.hid hM2;clear hM2)|(go_at_call 187;(with_reducible refine (xFail _).mono ?_);rintro e W2 ⟨rfl,rfl⟩;unfold faultE)|((with_reducible refine skip_op ?_ ?_);exact rfl)|refine mP ?_|(refine mS ?_;clear HM;intro W1 HM))
    all_goals (first|go_ret|go_ret2|go_end0|skip)
    all_goals (first|exact XPost.ok_ HR.out (by simp only [List.append_assoc]) HM.out|exact ⟨rfl,XPost.no_ HR.out.symm HM.out.below⟩)
   | false=>
    have HR:=Lib.hid (show _=r from h0)
    clear h0
    go_enter Tryz.func260,Tryz.ntmps260
    go_wp2_with (first|(go_at_call 280;refine XC.use (ihS fuel (Nat.le_refl _)) HR.out hr HTk.out HM.out (by omega) (by omega) om (fun hno W2 hb=>(show _∧_ from ⟨rfl,XPost.no_ hno hb⟩)) ?_;intro l m j hR2 hG op1 oc1 W2 hM2;have hg:=(hG (by simp)).lenc 0 rfl rfl rfl;clear hG;obtain ⟨hL,hF,hJ⟩:=hg;have HR1:=Lib.hid hR2;clear HR hR2;have HR:=HR1;clear HR1;replace HM:=Lib.hid hM2;clear hM2)|(go_at_call 228;refine must_use HR.out HTk.out HM.out (by omega) hT1 (by omega) rfl (fun hno W2 hb=>(show _∧_ from ⟨rfl,XPost.no_ hno hb⟩)) ?_;intro hb hR2 W2 hM2;have hlt:=isT_lt hb;clear hb;have HR1:=Lib.hid hR2;clear HR hR2;have HR:=HR1;clear HR1;replace HM:=Lib.hid hM2;clear hM2)|(go_at_call 225;refine put_use _ _ HM.out om ?_;intro op1 oc1 W2 hM2;replace HM:=Lib.hid hM2;clear hM2)|(go_at_call 282;refine named_use _ _ _ HM.out om ?_;intro op1 oc1 W2 hM2;replace HM:=Lib.hid hM2;clear hM2)|(go_at_call 279;(with_reducible refine (xRel _ _).mono ?_);rintro e W2 ⟨rfl,rfl⟩;rw [HX.out])|(go_at_call 259;refine end_use HR.out HTk.out HM.out (by omega) hT1 (by omega) ?_ ?_ ?_;all_goals (intro q1 q1n q2 q2n hlt hR2 W2 hM2;have HR1:=Lib.hid hR2;clear HR hR2;have HR:=HR1;clear HR1;replace HM:=Lib.hid hM2;clear hM2))|(go_at_call 259;(with_reducible refine (xPeek T w0 _ R tp tc _ _ _ HTk.out HM.out hT1 (by omega)).mono ?_);refine cM1 ?_;clear HM;intro W1 HM)|(go_at_call 281;(with_reducible refine (xInterval T w0 _ R tp tc _ _ _ HTk.out HM.out hT1 (by omega)).mono ?_);rintro e W2 ⟨rfl,hM2⟩;rw [HI.out];replace HM:=Lib.hid hM2;clear hM2)|(go_at_call 187;(with_reducible refine (xFail _).mono ?_);rintro e W2 ⟨rfl,rfl⟩;unfold faultE)|((with_reducible refine skip_op ?_ ?_);exact rfl)|refine mP ?_|(refine mS ?_;clear HM;intro W1 HM))
    all_goals (first|go_ret|go_ret2|go_end0)
    all_goals (exact XPost.ok_ HR.out (by simp only [List.append_assoc]) HM.out)
  | false=>
   have q1:((sgT T i).toList == [91])=false:=h1
   have q1n:((sgT T i).toList != [91])=true:=by unfold bne;rw [q1];rfl
   cases h2:isT T i [40] with
   | true=>
    have q2:((sgT T i).toList == [40])=true:=h2
    have q2n:((sgT T i).toList != [40])=false:=by unfold bne;rw [q2];rfl
    have hi1:=isT_lt h2
    rw [h1,h2,h3] at h0
    clear h1 h2 h3 HR
    cases b3 with
    | true=>
     have HR:=Lib.hid (show _=r from h0)
     clear h0
     go_enter Tryz.func260,Tryz.ntmps260
     go_wp2_with (first|(go_at_call 280;refine XC.use (ihS fuel (Nat.le_refl _)) HR.out hr HTk.out HM.out (by omega) (by omega) om (fun hno W2 hb=>(show _∧_ from ⟨rfl,XPost.no_ hno hb⟩)) ?_;intro l m j hR2 hG op1 oc1 W2 hM2;have hg:=(hG (by simp)).lenc 0 rfl rfl rfl;clear hG;obtain ⟨hL,hF,hJ⟩:=hg;have HR1:=Lib.hid hR2;clear HR hR2;have HR:=HR1;clear HR1;replace HM:=Lib.hid hM2;clear hM2)|(go_at_call 228;refine must_use HR.out HTk.out HM.out (by omega) hT1 (by omega) rfl (fun hno W2 hb=>(show _∧_ from ⟨rfl,XPost.no_ hno hb⟩)) ?_;intro hb hR2 W2 hM2;have hlt:=isT_lt hb;clear hb;have HR1:=Lib.hid hR2;clear HR hR2;have HR:=HR1;clear HR1;replace HM:=Lib.hid hM2;clear hM2)|(go_at_call 225;refine put_use _ _ HM.out om ?_;intro op1 oc1 W2 hM2;replace HM:=Lib.hid hM2;clear hM2)|(go_at_call 282;refine named_use _ _ _ HM.out om ?_;intro op1 oc1 W2 hM2;replace HM:=Lib.hid hM2;clear hM2)|(go_at_call 279;(with_reducible refine (xRel _ _).mono ?_);rintro e W2 ⟨rfl,rfl⟩;rw [HX.out])|(go_at_call 259;refine end_use HR.out HTk.out HM.out (by omega) hT1 (by omega) ?_ ?_ ?_;all_goals (intro q1 q1n q2 q2n hlt hR2 W2 hM2;have HR1:=Lib.hid hR2;clear HR hR2;have HR:=HR1;clear HR1;replace HM:=Lib.hid hM2;clear hM2))|(go_at_call 259;(with_reducible refine (xPeek T w0 _ R tp tc _ _ _ HTk.out HM.out hT1 (by omega)).mono ?_);refine cM1 ?_;clear HM;intro W1 HM)|(go_at_call 281;(with_reducible refine (xInterval T w0 _ R tp tc _ _ _ HTk.out HM.out hT1 (by omega)).mono ?_);rintro e W2 ⟨rfl,hM2⟩;rw [HI.out];replace HM:=Lib.hid hM2;clear hM2)|(go_at_call 187;(with_reducible refine (xFail _).mono ?_);rintro e W2 ⟨rfl,rfl⟩;unfold faultE)|((with_reducible refine skip_op ?_ ?_);exact rfl)|refine mP ?_|(refine mS ?_;clear HM;intro W1 HM))
     all_goals (first|go_ret|go_ret2|go_end0|skip)
     all_goals (first|exact XPost.ok_ HR.out (by simp only [List.append_assoc]) HM.out|exact ⟨rfl,XPost.no_ HR.out.symm HM.out.below⟩)
    | false=>
     have HR:=Lib.hid (show _=r from h0)
     clear h0
     go_enter Tryz.func260,Tryz.ntmps260
     go_wp2_with (first|(go_at_call 280;refine XC.use (ihS fuel (Nat.le_refl _)) HR.out hr HTk.out HM.out (by omega) (by omega) om (fun hno W2 hb=>(show _∧_ from ⟨rfl,XPost.no_ hno hb⟩)) ?_;intro l m j hR2 hG op1 oc1 W2 hM2;have hg:=(hG (by simp)).lenc 0 rfl rfl rfl;clear hG;obtain ⟨hL,hF,hJ⟩:=hg;have HR1:=Lib.hid hR2;clear HR hR2;have HR:=HR1;clear HR1;replace HM:=Lib.hid hM2;clear hM2)|(go_at_call 228;refine must_use HR.out HTk.out HM.out (by omega) hT1 (by omega) rfl (fun hno W2 hb=>(show _∧_ from ⟨rfl,XPost.no_ hno hb⟩)) ?_;intro hb hR2 W2 hM2;have hlt:=isT_lt hb;clear hb;have HR1:=Lib.hid hR2;clear HR hR2;have HR:=HR1;clear HR1;replace HM:=Lib.hid hM2;clear hM2)|(go_at_call 225;refine put_use _ _ HM.out om ?_;intro op1 oc1 W2 hM2;replace HM:=Lib.hid hM2;clear hM2)|(go_at_call 282;refine named_use _ _ _ HM.out om ?_;intro op1 oc1 W2 hM2;replace HM:=Lib.hid hM2;clear hM2)|(go_at_call 279;(with_reducible refine (xRel _ _).mono ?_);rintro e W2 ⟨rfl,rfl⟩;rw [HX.out])|(go_at_call 259;refine end_use HR.out HTk.out HM.out (by omega) hT1 (by omega) ?_ ?_ ?_;all_goals (intro q1 q1n q2 q2n hlt hR2 W2 hM2;have HR1:=Lib.hid hR2;clear HR hR2;have HR:=HR1;clear HR1;replace HM:=Lib.hid hM2;clear hM2))|(go_at_call 259;(with_reducible refine (xPeek T w0 _ R tp tc _ _ _ HTk.out HM.out hT1 (by omega)).mono ?_);refine cM1 ?_;clear HM;intro W1 HM)|(go_at_call 281;(with_reducible refine (xInterval T w0 _ R tp tc _ _ _ HTk.out HM.out hT1 (by omega)).mono ?_);rintro e W2 ⟨rfl,hM2⟩;rw [HI.out];replace HM:=Lib.hid hM2;clear hM2)|(go_at_call 187;(with_reducible refine (xFail _).mono ?_);rintro e W2 ⟨rfl,rfl⟩;unfold faultE)|((with_reducible refine skip_op ?_ ?_);exact rfl)|refine mP ?_|(refine mS ?_;clear HM;intro W1 HM))
     all_goals (first|go_ret|go_ret2|go_end0)
     all_goals (exact XPost.ok_ HR.out (by simp only [List.append_assoc]) HM.out)
   | false=>
    have q2:((sgT T i).toList == [40])=false:=h2
    have q2n:((sgT T i).toList != [40])=true:=by unfold bne;rw [q2];rfl
    rw [h1,h2] at h0
    have HR:=Lib.hid (show _=r from h0)
    clear h1 h2 h3 h0
    go_enter Tryz.func260,Tryz.ntmps260
    go_wp2_with (first|(go_at_call 280;refine XC.use (ihS fuel (Nat.le_refl _)) HR.out hr HTk.out HM.out (by omega) (by omega) om (fun hno W2 hb=>(show _∧_ from ⟨rfl,XPost.no_ hno hb⟩)) ?_;intro l m j hR2 hG op1 oc1 W2 hM2;have hg:=(hG (by simp)).lenc 0 rfl rfl rfl;clear hG;obtain ⟨hL,hF,hJ⟩:=hg;have HR1:=Lib.hid hR2;clear HR hR2;have HR:=HR1;clear HR1;replace HM:=Lib.hid hM2;clear hM2)|(go_at_call 225;refine put_use _ _ HM.out om ?_;intro op1 oc1 W2 hM2;replace HM:=Lib.hid hM2;clear hM2)|(go_at_call 279;(with_reducible refine (xRel _ _).mono ?_);rintro e W2 ⟨rfl,rfl⟩;rw [HX.out])|(go_at_call 259;(with_reducible refine (xPeek T w0 _ R tp tc _ _ _ HTk.out HM.out hT1 (by omega)).mono ?_);refine cM1 ?_;clear HM;intro W1 HM)|(go_at_call 281;(with_reducible refine (xInterval T w0 _ R tp tc _ _ _ HTk.out HM.out hT1 (by omega)).mono ?_);rintro e W2 ⟨rfl,hM2⟩;rw [HI.out];replace HM:=Lib.hid hM2;clear hM2)|((with_reducible refine skip_op ?_ ?_);exact rfl)|refine mP ?_|(refine mS ?_;clear HM;intro W1 HM))
    all_goals (first|go_ret|go_ret2|go_end0)
    all_goals (exact XPost.ok_ HR.out (by simp only [List.append_assoc]) HM.out)
section
variable {T:List TokD}
theorem take_yes {w0 W:World} {R:Nat} {tp:Option Addr} {tc i:Nat} {rest:List Res} {V:Value} {x:ByteArray} {s:List UInt8} {d:Int} (hb:isT T i s=true) (HT:Sl w0 tp (T.flatMap TokD.cs)) (HM:Mem w0 W (.box R 231 [.slice tp T.length tc,.int .i64 d,V] :: rest)) (hd:d=(i:Int)) (hT:T.length≤1000) (hi:i≤T.length) (hs:x.data.toList=s) :
  Calls Tryz.prog 224 #[.pointer (some ⟨R,0,none⟩),.string x] W fun e w'=>e = .returned (.bool true)∧Mem w0 w' (.box R 231 [.slice tp T.length tc,.int .i64 (i + 1:Nat),V] :: rest):=by
 subst hd
 have h:=xTake T w0 W R tp tc i V rest x HT HM hT hi
 rw [toList_of hs,hb] at h
 exact h
theorem take_no {w0 W:World} {R:Nat} {tp:Option Addr} {tc i:Nat} {rest:List Res} {V:Value} {x:ByteArray} {s:List UInt8} {d:Int} (hb:isT T i s=false) (HT:Sl w0 tp (T.flatMap TokD.cs)) (HM:Mem w0 W (.box R 231 [.slice tp T.length tc,.int .i64 d,V] :: rest)) (hd:d=(i:Int)) (hT:T.length≤1000) (hi:i≤T.length) (hs:x.data.toList=s) :
  Calls Tryz.prog 224 #[.pointer (some ⟨R,0,none⟩),.string x] W fun e w'=>e = .returned (.bool false)∧Mem w0 w' (.box R 231 [.slice tp T.length tc,.int .i64 i,V] :: rest):=by
 subst hd
 have h:=xTake T w0 W R tp tc i V rest x HT HM hT hi
 rw [toList_of hs,hb] at h
 exact h
theorem G_sgn:∀ (f i:Nat),G T f .sgn i≠.out→∃ m,m < f∧(∀ c,c < m→isT T (i + c) [45]=true)∧isT T (i + m) [45]=false∧(G T (f - m - 1) .sing (i + m)).bind (fun a _ j=>(G T (f - m - 1) (.pathL a) j).bind fun b _ k=>.ok (b++List.replicate m (nOp 8 1)) 0 k)=G T f .sgn i:=by
 have hp:∀ (f:Nat) (a:List NodeD) (i:Nat),(G T f (.pathL a) i).bind (fun b _ k=>.ok b 0 k)=G T f (.pathL a) i:=by
  intro f
  induction f with
  | zero=>intro a i;rfl
  | succ f ih=>
   intro a i
   simp only [G]
   split
   ·split
    ·split
     ·exact ih _ _
     ·rfl
    ·rfl
   ·rfl
 intro f
 induction f with
 | zero=>intro i h;exact absurd rfl h
 | succ f ih=>
  intro i h
  cases hb:isT T i [45] with
  | false=>
   refine ⟨0,Nat.succ_pos _,fun c hc=>absurd hc (Nat.not_lt_zero _),hb,?_⟩
   simp only [G,hb]
   simp only [Nat.sub_zero,Nat.add_sub_cancel,Nat.add_zero,List.replicate_zero,List.append_nil,Bool.false_eq_true,if_false]
   cases G T f .sing i with
   | out=>rfl
   | no=>rfl
   | ok a n j=>exact hp f a j
  | true=>
   have hG:G T (f + 1) .sgn i=(G T f .sgn (i + 1)).bind fun a _ j=>.ok (a++[nOp 8 1]) 0 j:=by
    simp only [G,hb,if_true]
   rw [hG] at h ⊢
   have h1:G T f .sgn (i + 1)≠.out:=fun e=>by rw [e] at h;exact h rfl
   obtain ⟨m,hm,h2,h3,h4⟩:=ih (i + 1) h1
   refine ⟨m + 1,by omega,fun c hc=>?_,?_,?_⟩
   ·cases c with
    | zero=>exact hb
    | succ c=>rw [show i + (c + 1)=i + 1 + c by omega];exact h2 c (by omega)
   ·rw [show i + (m + 1)=i + 1 + m by omega];exact h3
   ·rw [← h4,show i + (m + 1)=i + 1 + m by omega,show f + 1 - (m + 1) - 1=f - m - 1 by omega]
    cases G T (f - m - 1) .sing (i + 1 + m) with
    | out=>rfl
    | no=>rfl
    | ok a n j=>
     show (G T (f - m - 1) (.pathL a) j).bind _=((G T (f - m - 1) (.pathL a) j).bind _).bind _
     cases G T (f - m - 1) (.pathL a) j with
     | out=>rfl
     | no=>rfl
     | ok b n k=>
      show PR.ok _ _ _=PR.ok _ _ _
      rw [List.append_assoc,List.replicate_succ']
end
set_option maxHeartbeats 8000000 in
theorem xTests {T:List TokD} (hT:TksOk T) (fuel:Nat) (ihS:∀ g,g≤fuel→XC T 260 .test g):XC T 227 .tests (fuel + 1):=by
 intro w0 W R tp tc i op oc acc rest HTk HM0 hi ha hne
 obtain ⟨r,hr⟩:∃ r,G T (fuel + 1) .tests i=r:=⟨_,rfl⟩
 rw [hr] at hne ⊢
 have HR:=Lib.hid hr
 clear hr
 have hr:r≠.out:=hne
 have HM:=Lib.hid HM0
 have HTk:=Lib.hid HTk
 have hT1:=hT.len
 clear HM0 hne
 simp only [G] at HR
 go_enter Tryz.func227,Tryz.ntmps227
 go_wp2_with (first|(go_at_call 260;refine XC.use (ihS fuel (Nat.le_refl _)) HR.out hr HTk.out HM.out (by omega) (by omega) om (fun hno W2 hb=>(show _∧_ from ⟨rfl,XPost.no_ hno hb⟩)) ?_;intro l m j hR2 hG op1 oc1 W2 hM2;have hg:=(hG (by simp)).lenc 1 rfl rfl rfl;clear hG;obtain ⟨hL,hF,hJ⟩:=hg;have HR1:=Lib.hid hR2;clear HR hR2;have HR:=HR1;clear HR1;replace HM:=Lib.hid hM2;clear hM2))
 have HMl:=HM
 go_loopw [2] (fun nv wr=>∃ (g j oc m:Nat) (op:Option Addr) (a:List NodeD),nv = .int .i64 m∧g≤fuel∧j≤T.length∧i + a.length≤j + 1∧m≤j + 1∧Hid (G T g (.testsL a m) j=r)∧Hid (Mem w0 wr (.box R 231 [.slice tp T.length tc,.int .i64 j,.slice op (acc++a).length oc] :: .row op oc 46 8 (acc++a).length ((acc++a).flatMap NodeD.cs) :: rest))) (fun _ wr=>T.length - (intOf ((wr.cell? ⟨R,1,none⟩).getD undef)).toNat)
 case atStart=>exact ⟨fuel,_,_,1,_,_,rfl,Nat.le_refl _,hJ,by omega,by omega,HR,HM⟩
 case round=>
  clear HM HMl HR hL hF hJ
  obtain ⟨g,j0,oc2,m,op2,a,rfl,hg,hj0,hla,hm,HR,HM⟩:=hrel
  have HK:=Lib.hid (xrd_at HM.out)
  cases g with
  | zero=>exact absurd HR.out.symm hr
  | succ g=>
   have hR2:=HR.out
   simp only [G] at hR2
   have HR1:=Lib.hid hR2
   clear HR hR2
   have HR:=HR1
   clear HR1
   go_wp2_with (first|(go_at_call 224;refine take_use HR.out HTk.out HM.out (by omega) hT1 (by omega) rfl ?_ ?_;all_goals (intro hb hR2 W2 hM2;(try have hlt:=isT_lt hb);clear hb;have HR1:=Lib.hid hR2;clear HR hR2;have HR:=HR1;clear HR1;replace HM:=Lib.hid hM2;clear hM2))|(go_at_call 260;refine XC.use (ihS g (by omega)) HR.out hr HTk.out HM.out (by omega) (by omega) om (fun hno W2 hb=>(show _∧_ from ⟨rfl,XPost.no_ hno hb⟩)) ?_;intro l m j hR2 hG op1 oc1 W2 hM2;have hg:=(hG (by simp)).lenc 1 rfl rfl rfl;clear hG;obtain ⟨hL,hF,hJ⟩:=hg;have HR1:=Lib.hid hR2;clear HR hR2;have HR:=HR1;clear HR1;replace HM:=Lib.hid hM2;clear hM2)|(go_at_call 225;refine put_use _ _ HM.out om ?_;intro op1 oc1 W2 hM2;replace HM:=Lib.hid hM2;clear hM2))
   all_goals first
    |(go_roundw
      case rel=>exact ⟨g,_,_,_,_,_,by go_num,by omega,by omega,by (simp only [List.length_append,List.length_cons,List.length_nil];omega),by omega,HR,Lib.hid (by simpa only [List.append_assoc] using HM.out)⟩
      case measure=>rw [xrd_at HM.out,HK.out];omega)
    |(go_ret;exact XPost.ok_ HR.out (by simp only [List.append_assoc]) HM.out)
    |(go_end0;exact XPost.ok_ HR.out (by simp only [List.append_assoc]) HM.out)
set_option maxHeartbeats 8000000 in
theorem xUnary {T:List TokD} (hT:TksOk T) (fuel:Nat) (ihG:∀ g,g≤fuel→XC T 226 .grp g) (ihT:∀ g,g≤fuel→XC T 227 .tests g) (w0 W:World) (R:Nat) (tp:Option Addr) (tc:Nat) (op:Option Addr) (oc:Nat) (acc:List NodeD) (rest:List Res) (HTk:Sl w0 tp (T.flatMap TokD.cs)) (HM0:Mem w0 W (.box R 231 [.slice tp T.length tc,.int .i64 (0:Nat),.slice op acc.length oc] :: .row op oc 46 8 acc.length (acc.flatMap NodeD.cs) :: rest)) (ha:acc.length≤2) (hne:G T (fuel + 1) .unary 0≠.out) :
  Calls Tryz.prog 185 #[.pointer (some ⟨R,0,none⟩)] W (XPost (G T (fuel + 1) .unary 0) unitV w0 R tp T.length tc acc rest):=by
 obtain ⟨r,hr⟩:∃ r,G T (fuel + 1) .unary 0=r:=⟨_,rfl⟩
 rw [hr] at hne ⊢
 have hr2:=hr
 simp only [G] at hr2
 clear hr
 have hr:r≠.out:=hne
 have HM:=Lib.hid HM0
 have HTk:=Lib.hid HTk
 have hT1:=hT.len
 clear HM0 hne
 by_cases h1:T.length=1
 ·have q1:((T.length:Int) == 1)=true:=by rw [h1];rfl
  cases hb:isT T 0 [45] with
  | true=>
   rw [if_pos ⟨h1,hb⟩] at hr2
   have HR:=Lib.hid hr2
   have HB:=Lib.hid hb
   clear hr2 hb
   go_enter Tryz.func185,Tryz.ntmps185
   go_wp2_with (first|(go_at_call 224;(with_reducible refine (take_yes HB.out HTk.out HM.out (by omega) hT1 (by omega) rfl).mono ?_);refine cM1 ?_;clear HM;intro W1 HM)|(go_at_call 225;refine put_use _ _ HM.out om ?_;intro op1 oc1 W2 hM2;replace HM:=Lib.hid hM2;clear hM2)|((with_reducible refine skip_op ?_ ?_);exact rfl)|refine mP ?_)
   all_goals (first|go_end0|go_ret|go_ret2)
   all_goals (exact XPost.ok_ HR.out rfl HM.out)
  | false=>
   rw [if_neg (fun h=>by rw [hb] at h;cases h.2)] at hr2
   have HR:=Lib.hid hr2
   have HB:=Lib.hid hb
   clear hr2 hb
   go_enter Tryz.func185,Tryz.ntmps185
   go_wp2_with (first|(go_at_call 224;(with_reducible refine (take_no HB.out HTk.out HM.out (by omega) hT1 (by omega) rfl).mono ?_);refine cM1 ?_;clear HM;intro W1 HM)|(go_at_call 224;refine take_use HR.out HTk.out HM.out (by omega) hT1 (by omega) rfl ?_ ?_;all_goals (intro hb hR2 W2 hM2;(try have hlt:=isT_lt hb);clear hb;have HR1:=Lib.hid hR2;clear HR hR2;have HR:=HR1;clear HR1;replace HM:=Lib.hid hM2;clear hM2))|(go_at_call 226;refine XC.use (ihG fuel (Nat.le_refl _)) HR.out hr HTk.out HM.out (by omega) (by omega) om (fun hno W2 hb=>(show _∧_ from ⟨rfl,XPost.no_ hno hb⟩)) ?_;intro l m j hR2 hG op1 oc1 W2 hM2;have hg:=(hG (by simp)).lenc 0 rfl rfl rfl;clear hG;obtain ⟨hL,hF,hJ⟩:=hg;have HR1:=Lib.hid hR2;clear HR hR2;have HR:=HR1;clear HR1;replace HM:=Lib.hid hM2;clear hM2)|(go_at_call 227;refine XC.use (ihT fuel (Nat.le_refl _)) ((bind_ok _).trans HR.out) hr HTk.out HM.out (by omega) (by omega) om (fun hno W2 hb=>(show _∧_ from ⟨rfl,XPost.no_ hno hb⟩)) ?_;intro l m j hR2 hG op1 oc1 W2 hM2;clear hG;have HR1:=Lib.hid hR2;clear HR hR2;have HR:=HR1;clear HR1;replace HM:=Lib.hid hM2;clear hM2)|(go_at_call 225;refine put_use _ _ HM.out om ?_;intro op1 oc1 W2 hM2;replace HM:=Lib.hid hM2;clear hM2)|((with_reducible refine skip_op ?_ ?_);exact rfl)|refine mP ?_)
   all_goals (first|go_end0|go_ret|go_ret2)
   all_goals (exact XPost.ok_ HR.out (by simp only [List.append_assoc]) HM.out)
 ·have q1:((T.length:Int) == 1)=false:=by simpa using fun h:(T.length:Int)=1=>h1 (by omega)
  rw [if_neg (fun h=>h1 h.1)] at hr2
  have HR:=Lib.hid hr2
  clear hr2
  go_enter Tryz.func185,Tryz.ntmps185
  go_wp2_with (first|(go_at_call 224;refine take_use HR.out HTk.out HM.out (by omega) hT1 (by omega) rfl ?_ ?_;all_goals (intro hb hR2 W2 hM2;(try have hlt:=isT_lt hb);clear hb;have HR1:=Lib.hid hR2;clear HR hR2;have HR:=HR1;clear HR1;replace HM:=Lib.hid hM2;clear hM2))|(go_at_call 226;refine XC.use (ihG fuel (Nat.le_refl _)) HR.out hr HTk.out HM.out (by omega) (by omega) om (fun hno W2 hb=>(show _∧_ from ⟨rfl,XPost.no_ hno hb⟩)) ?_;intro l m j hR2 hG op1 oc1 W2 hM2;have hg:=(hG (by simp)).lenc 0 rfl rfl rfl;clear hG;obtain ⟨hL,hF,hJ⟩:=hg;have HR1:=Lib.hid hR2;clear HR hR2;have HR:=HR1;clear HR1;replace HM:=Lib.hid hM2;clear hM2)|(go_at_call 227;refine XC.use (ihT fuel (Nat.le_refl _)) ((bind_ok _).trans HR.out) hr HTk.out HM.out (by omega) (by omega) om (fun hno W2 hb=>(show _∧_ from ⟨rfl,XPost.no_ hno hb⟩)) ?_;intro l m j hR2 hG op1 oc1 W2 hM2;clear hG;have HR1:=Lib.hid hR2;clear HR hR2;have HR:=HR1;clear HR1;replace HM:=Lib.hid hM2;clear hM2)|(go_at_call 225;refine put_use _ _ HM.out om ?_;intro op1 oc1 W2 hM2;replace HM:=Lib.hid hM2;clear hM2)|((with_reducible refine skip_op ?_ ?_);exact rfl)|refine mP ?_)
  all_goals (first|go_end0|go_ret|go_ret2)
  all_goals (exact XPost.ok_ HR.out (by simp only [List.append_assoc]) HM.out)
end Go.Proofs.YtnghlakllgkjlaaGreatDoor
