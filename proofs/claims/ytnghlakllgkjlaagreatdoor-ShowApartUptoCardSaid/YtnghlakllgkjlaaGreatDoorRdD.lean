/- Signs ahead, fields behind: the reader of expressions. Lists: the reader of expressions. -/
import Derived.Test.YtnghlakllgkjlaaGreatDoorRdC
import Derived.Test.YtnghlakllgkjlaaGreatDoorSepMac2
namespace Go.Proofs.YtnghlakllgkjlaaGreatDoor
open Go.RowKit
set_option linter.unusedVariables false
set_option linter.unusedSimpArgs false
set_option maxRecDepth 100000
set_option maxHeartbeats 8000000 in
theorem xSigned {T:List TokD} (hT:TksOk T) (fuel:Nat) (ihS:∀ g,g≤fuel→XC T 310 .sing g):XC T 309 .sgn (fuel + 1):=by
 intro w0 W R tp tc i op oc acc rest HTk HM0 hi ha hne
 obtain ⟨m,hm,hmin,hmax,hG⟩:=G_sgn (fuel + 1) i hne
 obtain ⟨r,hr⟩:∃ r,G T (fuel + 1) .sgn i=r:=⟨_,rfl⟩
 rw [hr] at hne ⊢
 have HR:=Lib.hid hr
 clear hr
 have hr:r≠.out:=hne
 have HM:=Lib.hid HM0
 have HTk:=Lib.hid HTk
 have hT1:=hT.len
 clear HM0 hne
 have HR:=Lib.hid (hG.trans HR.out)
 have hmn:i + m≤T.length:=by
  rcases Nat.eq_zero_or_pos m with h0|h0
  ·omega
  ·have:=isT_lt (hmin (m - 1) (by omega));omega
 have HMin:=Lib.hid hmin
 have HMax:=Lib.hid hmax
 obtain ⟨f,hf⟩:∃ f,fuel + 1 - m - 1=f:=⟨_,rfl⟩
 rw [hf] at HR
 have hff:f≤fuel:=by omega
 clear hG hmin hmax hf hm
 go_enter Tryz.func309,Tryz.ntmps309
 go_wp2_with fail
 go_loopw [2] (fun cv wr=>∃ (c:Nat),cv = .int .i64 c∧c≤m∧Hid (Mem w0 wr (.box R 231 [.slice tp T.length tc,.int .i64 (i + c:Nat),.slice op acc.length oc] :: .row op oc 46 8 acc.length (acc.flatMap NodeD.cs) :: rest))) (fun cv _=>m - (intOf cv).toNat)
 case atStart=>exact ⟨0,rfl,Nat.zero_le _,HM⟩
 case round=>
  clear HM
  obtain ⟨c,rfl,hc,HM⟩:=hrel
  by_cases hlt:c < m
  ·have HB:=Lib.hid (HMin.out c hlt)
   have hlt3:=Lib.hid (show c + 1≤m from hlt)
   go_wp2_with (first|(go_at_call 224;(with_reducible refine (take_yes HB.out HTk.out HM.out (by omega) hT1 (by omega) rfl).mono ?_);refine cM1 ?_;clear HM;intro W1 HM))
   go_roundw
   case rel=>exact ⟨c + 1,by go_num,hlt3.out,HM⟩
   case measure=>have:=hlt3.out;simp [intOf];omega
  ·obtain rfl:c=m:=by omega
   have HB:=HMax
   go_wp2_with (first|(go_at_call 224;(with_reducible refine (take_no HB.out HTk.out HM.out (by omega) hT1 (by omega) rfl).mono ?_);refine cM1 ?_;clear HM;intro W1 HM)|(go_at_call 310;refine XC.use (ihS f hff) HR.out hr HTk.out HM.out (by omega) (by omega) om (fun hno W2 hb=>(show _∧_ from ⟨rfl,XPost.no_ hno hb⟩)) ?_;intro l m j hR2 hG op1 oc1 W2 hM2;have hg:=(hG (by simp)).lenc 0 rfl rfl rfl;clear hG;obtain ⟨hL,hF,hJ⟩:=hg;have HR1:=Lib.hid hR2;clear HR hR2;have HR:=HR1;clear HR1;replace HM:=Lib.hid hM2;clear hM2))
   have hJ0:=hJ
   go_loopw [10] (fun _ wr=>∃ (g j oc:Nat) (op:Option Addr) (a:List NodeD),g≤fuel∧j≤T.length∧i + c + a.length≤j∧Hid ((G T g (.pathL a) j).bind (fun b _ k=>.ok (b++List.replicate c (nOp 8 1)) 0 k)=r)∧Hid (Mem w0 wr (.box R 231 [.slice tp T.length tc,.int .i64 j,.slice op (acc++a).length oc] :: .row op oc 46 8 (acc++a).length ((acc++a).flatMap NodeD.cs) :: rest))) (fun _ wr=>T.length - (intOf ((wr.cell? ⟨R,1,none⟩).getD undef)).toNat)
   case atStart=>exact ⟨f,_,_,_,_,hff,hJ,by omega,HR,HM⟩
   case round=>
    clear HM HR hL hF hJ hJ0 HB
    obtain ⟨g,j0,oc2,op2,a,hg,hj0,hla,HR,HM⟩:=hrel
    have HK:=Lib.hid (xrd_at HM.out)
    cases g with
    | zero=>exact absurd HR.out.symm hr
    | succ g=>
     have hR2:=HR.out
     simp only [G] at hR2
     clear HR
     cases hb:isT T j0 [46] with
     | true=>
      have HB:=Lib.hid hb
      have hj1:=isT_lt hb
      rw [hb,if_pos rfl] at hR2
      cases ht:T[j0 + 1]? with
      | none=>
       rw [ht] at hR2
       have hno:r = .no:=hR2.symm
       have HN:=Lib.hid (show ∀ t,T[j0 + 1]? = some t→t.kind≠4 from fun t h=>by rw [ht] at h;cases h)
       clear hR2 hb ht
       go_wp2_with (first|(go_at_call 224;(with_reducible refine (take_yes HB.out HTk.out HM.out (by omega) hT1 (by omega) rfl).mono ?_);refine cM1 ?_;clear HM;intro W1 HM)|(go_at_call 311;(with_reducible refine (xNameN T w0 _ R tp tc _ _ _ HTk.out HM.out hT1 HN.out).mono ?_);rintro e W2 ⟨rfl,hb⟩;unfold faultE))
       exact ⟨rfl,XPost.no_ hno hb⟩
      | some t=>
       rw [ht] at hR2
       simp only at hR2
       by_cases h4:t.kind=4
       ·rw [if_pos h4] at hR2
        have HR:=Lib.hid hR2
        have HT4:=Lib.hid ht
        have HK4:=Lib.hid h4
        have hj2:=some_lt ht
        clear hR2 hb ht h4
        go_wp2_with (first|(go_at_call 224;(with_reducible refine (take_yes HB.out HTk.out HM.out (by omega) hT1 (by omega) rfl).mono ?_);refine cM1 ?_;clear HM;intro W1 HM)|(go_at_call 311;(with_reducible refine (xNameY T w0 _ R tp tc _ _ _ HTk.out HM.out hT1 HT4.out HK4.out).mono ?_);refine cM1 ?_;clear HM;intro W1 HM)|(go_at_call 282;refine named_use _ _ _ HM.out om ?_;intro op1 oc1 W2 hM2;replace HM:=Lib.hid hM2;clear hM2))
        go_roundw
        case rel=>exact ⟨g,_,_,_,_,by omega,by omega,by (simp only [List.length_append,List.length_cons,List.length_nil];omega),HR,Lib.hid (by simpa only [List.append_assoc] using HM.out)⟩
        case measure=>rw [xrd_at HM.out,HK.out];omega
       ·rw [if_neg h4] at hR2
        have hno:r = .no:=hR2.symm
        have HN:=Lib.hid (show ∀ t,T[j0 + 1]? = some t→t.kind≠4 from fun t' h=>by rw [ht] at h;cases h;exact h4)
        clear hR2 hb ht h4
        go_wp2_with (first|(go_at_call 224;(with_reducible refine (take_yes HB.out HTk.out HM.out (by omega) hT1 (by omega) rfl).mono ?_);refine cM1 ?_;clear HM;intro W1 HM)|(go_at_call 311;(with_reducible refine (xNameN T w0 _ R tp tc _ _ _ HTk.out HM.out hT1 HN.out).mono ?_);rintro e W2 ⟨rfl,hb⟩;unfold faultE))
        exact ⟨rfl,XPost.no_ hno hb⟩
     | false=>
      have HB:=Lib.hid hb
      rw [hb,if_neg (by simp)] at hR2
      have HR:=Lib.hid (show PR.ok (a++List.replicate c (nOp 8 1)) 0 j0=r from hR2)
      clear hR2 hb
      go_wp2_with (first|(go_at_call 224;(with_reducible refine (take_no HB.out HTk.out HM.out (by omega) hT1 (by omega) rfl).mono ?_);refine cM1 ?_;clear HM;intro W1 HM))
      have HM3:=HM
      go_loopw [16] (fun cv wr=>∃ (d oc:Nat) (op:Option Addr),cv = .int .i64 d∧d≤c∧Hid (Mem w0 wr (.box R 231 [.slice tp T.length tc,.int .i64 j0,.slice op (acc++a++List.replicate d (nOp 8 1)).length oc] :: .row op oc 46 8 (acc++a++List.replicate d (nOp 8 1)).length ((acc++a++List.replicate d (nOp 8 1)).flatMap NodeD.cs) :: rest))) (fun cv _=>c - (intOf cv).toNat)
      case atStart=>exact ⟨0,_,_,rfl,Nat.zero_le _,Lib.hid (by simpa only [List.replicate_zero,List.append_nil] using HM.out)⟩
      case round=>
       clear HM HM3
       obtain ⟨d,oc3,op3,rfl,hd,HM⟩:=hrel
       by_cases hdc:d < c
       ·have hlt3:=Lib.hid (show d + 1≤c from hdc)
        have d1:decide ((d:Int) < c)=true:=decide_eq_true (by omega)
        go_wp2_with (first|(go_at_call 225;refine put_use _ _ HM.out (by simp only [List.length_append,List.length_replicate];omega) ?_;intro op1 oc1 W2 hM2;replace HM:=Lib.hid hM2;clear hM2))
        go_roundw
        case rel=>exact ⟨d + 1,_,_,by go_num,hlt3.out,Lib.hid (by simpa only [List.append_assoc,← List.replicate_succ'] using HM.out)⟩
        case measure=>have:=hlt3.out;simp [intOf];omega
       ·obtain rfl:d=c:=by omega
        have d1:decide ((d:Int) < d)=false:=by simp
        go_wp2_with fail
        first|go_ret|go_ret2|go_end0
        exact XPost.ok_ HR.out (by simp only [List.append_assoc]) HM.out
set_option maxHeartbeats 8000000 in
theorem xListE {T:List TokD} (hT:TksOk T) (fuel:Nat) (ihE:∀ g,g≤fuel→XC T 186 .expr g) (ch:UInt8) (x:ByteArray) (hx:x.data.toList=[ch]) (w0 W:World) (R:Nat) (tp:Option Addr) (tc i:Nat) (op:Option Addr) (oc:Nat) (acc:List NodeD) (rest:List Res) (HTk:Sl w0 tp (T.flatMap TokD.cs)) (HM0:Mem w0 W (.box R 231 [.slice tp T.length tc,.int .i64 i,.slice op acc.length oc] :: .row op oc 46 8 acc.length (acc.flatMap NodeD.cs) :: rest))
  (hi:i≤T.length) (ha:acc.length≤i + 2) (hne:G T (fuel + 1) (.list ch) i≠.out) :
  Calls Tryz.prog 312 #[.pointer (some ⟨R,0,none⟩),.string x,.func (.func 186) #[.pointer (some ⟨R,0,none⟩)] #[]] W (XPost (G T (fuel + 1) (.list ch) i) cntV w0 R tp T.length tc acc rest):=by
 obtain ⟨r,hr⟩:∃ r,G T (fuel + 1) (.list ch) i=r:=⟨_,rfl⟩
 rw [hr] at hne ⊢
 have HR:=Lib.hid hr
 clear hr
 have hr:r≠.out:=hne
 have HM:=Lib.hid HM0
 have HTk:=Lib.hid HTk
 have hT1:=hT.len
 clear HM0 hne
 simp only [G] at HR
 cases hb:isT T i [ch] with
 | true=>
  rw [hb,if_pos rfl] at HR
  have HB:=Lib.hid hb
  clear hb
  go_enter Tryz.func312,Tryz.ntmps312
  go_wp2_with (first|(go_at_call 224;(with_reducible refine (take_yes HB.out HTk.out HM.out (by omega) hT1 (by omega) hx).mono ?_);refine cM1 ?_;clear HM;intro W1 HM))
  all_goals (first|go_ret|go_ret2)
  exact XPost.ok_ (v:=cntV) HR.out (by simp only [List.append_nil]) HM.out
 | false=>
  rw [hb,if_neg (by simp)] at HR
  have HB:=Lib.hid hb
  clear hb
  go_enter Tryz.func312,Tryz.ntmps312
  go_wp2_with (first|(go_at_call 224;(with_reducible refine (take_no HB.out HTk.out HM.out (by omega) hT1 (by omega) hx).mono ?_);refine cM1 ?_;clear HM;intro W1 HM))
  go_loopw [7] (fun nv wr=>∃ (g j oc m:Nat) (op:Option Addr) (a:List NodeD),nv = .int .i64 m∧g≤fuel∧j≤T.length∧i + a.length≤j∧m≤j∧Hid (G T g (.listL ch a m) j=r)∧Hid (Mem w0 wr (.box R 231 [.slice tp T.length tc,.int .i64 j,.slice op (acc++a).length oc] :: .row op oc 46 8 (acc++a).length ((acc++a).flatMap NodeD.cs) :: rest))) (fun _ wr=>T.length - (intOf ((wr.cell? ⟨R,1,none⟩).getD undef)).toNat)
  case atStart=>exact ⟨fuel,_,_,0,_,[],rfl,Nat.le_refl _,hi,Nat.le_refl _,Nat.zero_le _,HR,Lib.hid (by simpa only [List.append_nil] using HM.out)⟩
  case round=>
   clear HM HR HB
   obtain ⟨g,j0,oc2,m0,op2,a,rfl,hg,hj0,hla,hm,HR,HM⟩:=hrel
   have HK:=Lib.hid (xrd_at HM.out)
   cases g with
   | zero=>exact absurd HR.out.symm hr
   | succ g=>
    have hR2:=HR.out
    simp only [G] at hR2
    have HR1:=Lib.hid hR2
    clear HR hR2
    have HR:=HR1
    clear HR1
    go_wp2_with (first|(go_at_call 224;refine take_use HR.out HTk.out HM.out (by omega) hT1 (by omega) hx ?_ ?_;all_goals (intro hb hR2 W2 hM2;(try have hlt:=isT_lt hb);clear hb;have HR1:=Lib.hid hR2;clear HR hR2;have HR:=HR1;clear HR1;replace HM:=Lib.hid hM2;clear hM2))|(go_at_call 186;refine XC.use (ihE g (by omega)) HR.out hr HTk.out HM.out (by omega) (by omega) om (fun hno W2 hb=>(show _∧_ from ⟨rfl,XPost.no_ hno hb⟩)) ?_;intro l m j hR2 hG op1 oc1 W2 hM2;have hg:=(hG (by simp)).lenc 0 rfl rfl rfl;clear hG;obtain ⟨hL,hF,hJ⟩:=hg;have HR1:=Lib.hid hR2;clear HR hR2;have HR:=HR1;clear HR1;replace HM:=Lib.hid hM2;clear hM2)|(go_at_call 228;refine must_use HR.out HTk.out HM.out (by omega) hT1 (by omega) rfl (fun hno W2 hb=>(show _∧_ from ⟨rfl,XPost.no_ hno hb⟩)) ?_;intro hb hR2 W2 hM2;have hlt:=isT_lt hb;clear hb;have HR1:=Lib.hid hR2;clear HR hR2;have HR:=HR1;clear HR1;replace HM:=Lib.hid hM2;clear hM2))
    all_goals first
     |(go_roundw
       case rel=>exact ⟨g,_,_,_,_,_,by go_num,by omega,by omega,by (simp only [List.length_append];omega),by omega,HR,Lib.hid (by simpa only [List.append_assoc] using HM.out)⟩
       case measure=>rw [xrd_at HM.out,HK.out];omega)
     |(go_ret;exact XPost.ok_ (v:=cntV) HR.out (by simp only [List.append_assoc]) HM.out)
     |(go_ret2;exact XPost.ok_ (v:=cntV) HR.out (by simp only [List.append_assoc]) HM.out)
end Go.Proofs.YtnghlakllgkjlaaGreatDoor
