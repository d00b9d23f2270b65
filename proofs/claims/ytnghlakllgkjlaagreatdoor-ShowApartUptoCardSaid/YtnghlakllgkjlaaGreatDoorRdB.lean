/- The rules of the grammar: what the reader of expressions does. The reader's interval. -/
import Derived.Test.YtnghlakllgkjlaaGreatDoorRdA
import Derived.Test.YtnghlakllgkjlaaGreatDoorSepMac2
namespace Go.Proofs.YtnghlakllgkjlaaGreatDoor
open Go.RowKit
set_option linter.unusedVariables false
set_option linter.unusedSimpArgs false
set_option maxRecDepth 100000
set_option maxHeartbeats 8000000 in
theorem xExpr {T:List TokD} (hT:TksOk T) (fuel:Nat) (ihE:∀ g,g≤fuel→XC T 186 .expr g) (ihO:∀ g,g≤fuel→XC T 229 .or g):XC T 186 .expr (fuel + 1):=by
 intro w0 W R tp tc i op oc acc rest HTk HM0 hi ha hne
 obtain ⟨r,hr⟩:∃ r,G T (fuel + 1) .expr i=r:=⟨_,rfl⟩
 rw [hr] at hne ⊢
 have HR:=Lib.hid hr
 clear hr
 have hr:r≠.out:=hne
 have HM:=Lib.hid HM0
 have HTk:=Lib.hid HTk
 have hT1:=hT.len
 clear HM0 hne
 simp only [G] at HR
 go_enter Tryz.func186,Tryz.ntmps186
 go_wp2_with (first|(go_at_call 224;refine take_use HR.out HTk.out HM.out (by omega) hT1 (by omega) rfl ?_ ?_;all_goals (intro hb hR2 W2 hM2;(try have hlt:=isT_lt hb);clear hb;have HR1:=Lib.hid hR2;clear HR hR2;have HR:=HR1;clear HR1;replace HM:=Lib.hid hM2;clear hM2))|(go_at_call 186;refine XC.use (ihE fuel (Nat.le_refl _)) HR.out hr HTk.out HM.out (by omega) (by omega) om (fun hno W2 hb=>(show _∧_ from ⟨rfl,XPost.no_ hno hb⟩)) ?_;intro l m j hR2 hG op1 oc1 W2 hM2;have hg:=(hG (by simp)).lenc 0 rfl rfl rfl;clear hG;obtain ⟨hL,hF,hJ⟩:=hg;have HR1:=Lib.hid hR2;clear HR hR2;have HR:=HR1;clear HR1;replace HM:=Lib.hid hM2;clear hM2)|(go_at_call 228;refine must_use HR.out HTk.out HM.out (by omega) hT1 (by omega) rfl (fun hno W2 hb=>(show _∧_ from ⟨rfl,XPost.no_ hno hb⟩)) ?_;intro hb hR2 W2 hM2;have hlt:=isT_lt hb;clear hb;have HR1:=Lib.hid hR2;clear HR hR2;have HR:=HR1;clear HR1;replace HM:=Lib.hid hM2;clear hM2)|(go_at_call 225;refine put_use _ _ HM.out om ?_;intro op1 oc1 W2 hM2;replace HM:=Lib.hid hM2;clear hM2)|(go_at_call 229;refine XC.use (ihO fuel (Nat.le_refl _)) ((bind_ok _).trans HR.out) hr HTk.out HM.out (by omega) (by omega) om (fun hno W2 hb=>(show _∧_ from ⟨rfl,XPost.no_ hno hb⟩)) ?_;intro l m j hR2 hG op1 oc1 W2 hM2;have hg:=(hG (by simp)).lenc 0 rfl rfl rfl;clear hG;obtain ⟨hL,hF,hJ⟩:=hg;have HR1:=Lib.hid hR2;clear HR hR2;have HR:=HR1;clear HR1;replace HM:=Lib.hid hM2;clear hM2))
 all_goals (first|go_end0|go_ret|go_ret2)
 all_goals (exact XPost.ok_ HR.out (by simp only [List.append_assoc,List.append_nil,List.cons_append,List.nil_append,relT]) HM.out)
set_option maxHeartbeats 8000000 in
theorem xOr {T:List TokD} (hT:TksOk T) (fuel:Nat) (ihS:∀ g,g≤fuel→XC T 261 .and g):XC T 229 .or (fuel + 1):=by
 intro w0 W R tp tc i op oc acc rest HTk HM0 hi ha hne
 obtain ⟨r,hr⟩:∃ r,G T (fuel + 1) .or i=r:=⟨_,rfl⟩
 rw [hr] at hne ⊢
 have HR:=Lib.hid hr
 clear hr
 have hr:r≠.out:=hne
 have HM:=Lib.hid HM0
 have HTk:=Lib.hid HTk
 have hT1:=hT.len
 clear HM0 hne
 simp only [G] at HR
 go_enter Tryz.func229,Tryz.ntmps229
 go_wp2_with (first|(go_at_call 261;refine XC.use (ihS fuel (Nat.le_refl _)) HR.out hr HTk.out HM.out (by omega) (by omega) om (fun hno W2 hb=>(show _∧_ from ⟨rfl,XPost.no_ hno hb⟩)) ?_;intro l m j hR2 hG op1 oc1 W2 hM2;have hg:=(hG (by simp)).lenc 0 rfl rfl rfl;clear hG;obtain ⟨hL,hF,hJ⟩:=hg;have HR1:=Lib.hid hR2;clear HR hR2;have HR:=HR1;clear HR1;replace HM:=Lib.hid hM2;clear hM2))
 have HMl:=HM
 go_loopw [5] (fun _ wr=>∃ (g j oc:Nat) (op:Option Addr) (a:List NodeD),g≤fuel∧j≤T.length∧i + a.length≤j∧Hid (G T g (.orL a) j=r)∧Hid (Mem w0 wr (.box R 231 [.slice tp T.length tc,.int .i64 j,.slice op (acc++a).length oc] :: .row op oc 46 8 (acc++a).length ((acc++a).flatMap NodeD.cs) :: rest))) (fun _ wr=>T.length - (intOf ((wr.cell? ⟨R,1,none⟩).getD undef)).toNat)
 case atStart=>exact ⟨fuel,_,_,_,_,Nat.le_refl _,hJ,by omega,HR,HM⟩
 case round=>
  clear HM HMl HR hL hF hJ
  obtain ⟨g,j0,oc2,op2,a,hg,hj0,hla,HR,HM⟩:=hrel
  have HK:=Lib.hid (xrd_at HM.out)
  cases g with
  | zero=>exact absurd HR.out.symm hr
  | succ g=>
   have hR2:=HR.out
   simp only [G] at hR2
   have HR1:=Lib.hid hR2
   clear HR hR2
   have HR:=HR1
   clear HR1
   go_wp2_with (first|(go_at_call 224;refine take_use HR.out HTk.out HM.out (by omega) hT1 (by omega) rfl ?_ ?_;all_goals (intro hb hR2 W2 hM2;(try have hlt:=isT_lt hb);clear hb;have HR1:=Lib.hid hR2;clear HR hR2;have HR:=HR1;clear HR1;replace HM:=Lib.hid hM2;clear hM2))|(go_at_call 261;refine XC.use (ihS g (by omega)) HR.out hr HTk.out HM.out (by omega) (by omega) om (fun hno W2 hb=>(show _∧_ from ⟨rfl,XPost.no_ hno hb⟩)) ?_;intro l m j hR2 hG op1 oc1 W2 hM2;have hg:=(hG (by simp)).lenc 0 rfl rfl rfl;clear hG;obtain ⟨hL,hF,hJ⟩:=hg;have HR1:=Lib.hid hR2;clear HR hR2;have HR:=HR1;clear HR1;replace HM:=Lib.hid hM2;clear hM2)|(go_at_call 225;refine put_use _ _ HM.out om ?_;intro op1 oc1 W2 hM2;replace HM:=Lib.hid hM2;clear hM2))
   all_goals first
    |(go_roundw
      case rel=>exact ⟨g,_,_,_,_,by omega,by omega,by (simp only [List.length_append,List.length_cons,List.length_nil];omega),HR,Lib.hid (by simpa only [List.append_assoc] using HM.out)⟩
      case measure=>rw [xrd_at HM.out,HK.out];omega)
    |(go_ret;exact XPost.ok_ HR.out rfl HM.out)
    |(go_end0;exact XPost.ok_ HR.out rfl HM.out)
set_option maxHeartbeats 8000000 in
theorem xAnd {T:List TokD} (hT:TksOk T) (fuel:Nat) (ihS:∀ g,g≤fuel→XC T 283 .cmp g):XC T 261 .and (fuel + 1):=by
 intro w0 W R tp tc i op oc acc rest HTk HM0 hi ha hne
 obtain ⟨r,hr⟩:∃ r,G T (fuel + 1) .and i=r:=⟨_,rfl⟩
 rw [hr] at hne ⊢
 have HR:=Lib.hid hr
 clear hr
 have hr:r≠.out:=hne
 have HM:=Lib.hid HM0
 have HTk:=Lib.hid HTk
 have hT1:=hT.len
 clear HM0 hne
 simp only [G] at HR
 go_enter Tryz.func261,Tryz.ntmps261
 go_wp2_with (first|(go_at_call 283;refine XC.use (ihS fuel (Nat.le_refl _)) HR.out hr HTk.out HM.out (by omega) (by omega) om (fun hno W2 hb=>(show _∧_ from ⟨rfl,XPost.no_ hno hb⟩)) ?_;intro l m j hR2 hG op1 oc1 W2 hM2;have hg:=(hG (by simp)).lenc 0 rfl rfl rfl;clear hG;obtain ⟨hL,hF,hJ⟩:=hg;have HR1:=Lib.hid hR2;clear HR hR2;have HR:=HR1;clear HR1;replace HM:=Lib.hid hM2;clear hM2))
 have HMl:=HM
 go_loopw [5] (fun _ wr=>∃ (g j oc:Nat) (op:Option Addr) (a:List NodeD),g≤fuel∧j≤T.length∧i + a.length≤j∧Hid (G T g (.andL a) j=r)∧Hid (Mem w0 wr (.box R 231 [.slice tp T.length tc,.int .i64 j,.slice op (acc++a).length oc] :: .row op oc 46 8 (acc++a).length ((acc++a).flatMap NodeD.cs) :: rest))) (fun _ wr=>T.length - (intOf ((wr.cell? ⟨R,1,none⟩).getD undef)).toNat)
 case atStart=>exact ⟨fuel,_,_,_,_,Nat.le_refl _,hJ,by omega,HR,HM⟩
 case round=>
  clear HM HMl HR hL hF hJ
  obtain ⟨g,j0,oc2,op2,a,hg,hj0,hla,HR,HM⟩:=hrel
  have HK:=Lib.hid (xrd_at HM.out)
  cases g with
  | zero=>exact absurd HR.out.symm hr
  | succ g=>
   have hR2:=HR.out
   simp only [G] at hR2
   have HR1:=Lib.hid hR2
   clear HR hR2
   have HR:=HR1
   clear HR1
   go_wp2_with (first|(go_at_call 224;refine take_use HR.out HTk.out HM.out (by omega) hT1 (by omega) rfl ?_ ?_;all_goals (intro hb hR2 W2 hM2;(try have hlt:=isT_lt hb);clear hb;have HR1:=Lib.hid hR2;clear HR hR2;have HR:=HR1;clear HR1;replace HM:=Lib.hid hM2;clear hM2))|(go_at_call 283;refine XC.use (ihS g (by omega)) HR.out hr HTk.out HM.out (by omega) (by omega) om (fun hno W2 hb=>(show _∧_ from ⟨rfl,XPost.no_ hno hb⟩)) ?_;intro l m j hR2 hG op1 oc1 W2 hM2;have hg:=(hG (by simp)).lenc 0 rfl rfl rfl;clear hG;obtain ⟨hL,hF,hJ⟩:=hg;have HR1:=Lib.hid hR2;clear HR hR2;have HR:=HR1;clear HR1;replace HM:=Lib.hid hM2;clear hM2)|(go_at_call 225;refine put_use _ _ HM.out om ?_;intro op1 oc1 W2 hM2;replace HM:=Lib.hid hM2;clear hM2))
   all_goals first
    |(go_roundw
      case rel=>exact ⟨g,_,_,_,_,by omega,by omega,by (simp only [List.length_append,List.length_cons,List.length_nil];omega),HR,Lib.hid (by simpa only [List.append_assoc] using HM.out)⟩
      case measure=>rw [xrd_at HM.out,HK.out];omega)
    |(go_ret;exact XPost.ok_ HR.out rfl HM.out)
    |(go_end0;exact XPost.ok_ HR.out rfl HM.out)
set_option maxHeartbeats 8000000 in
theorem xSum {T:List TokD} (hT:TksOk T) (fuel:Nat) (ihS:∀ g,g≤fuel→XC T 299 .prod g):XC T 280 .sum (fuel + 1):=by
 intro w0 W R tp tc i op oc acc rest HTk HM0 hi ha hne
 obtain ⟨r,hr⟩:∃ r,G T (fuel + 1) .sum i=r:=⟨_,rfl⟩
 rw [hr] at hne ⊢
 have HR:=Lib.hid hr
 clear hr
 have hr:r≠.out:=hne
 have HM:=Lib.hid HM0
 have HTk:=Lib.hid HTk
 have hT1:=hT.len
 clear HM0 hne
 simp only [G] at HR
 go_enter Tryz.func280,Tryz.ntmps280
 go_wp2_with (first|(go_at_call 299;refine XC.use (ihS fuel (Nat.le_refl _)) HR.out hr HTk.out HM.out (by omega) (by omega) om (fun hno W2 hb=>(show _∧_ from ⟨rfl,XPost.no_ hno hb⟩)) ?_;intro l m j hR2 hG op1 oc1 W2 hM2;have hg:=(hG (by simp)).lenc 0 rfl rfl rfl;clear hG;obtain ⟨hL,hF,hJ⟩:=hg;have HR1:=Lib.hid hR2;clear HR hR2;have HR:=HR1;clear HR1;replace HM:=Lib.hid hM2;clear hM2))
 have HMl:=HM
 go_loopw [6] (fun _ wr=>∃ (g j oc:Nat) (op:Option Addr) (a:List NodeD),g≤fuel∧j≤T.length∧i + a.length≤j∧Hid (G T g (.sumL a) j=r)∧Hid (Mem w0 wr (.box R 231 [.slice tp T.length tc,.int .i64 j,.slice op (acc++a).length oc] :: .row op oc 46 8 (acc++a).length ((acc++a).flatMap NodeD.cs) :: rest))) (fun _ wr=>T.length - (intOf ((wr.cell? ⟨R,1,none⟩).getD undef)).toNat)
 case atStart=>exact ⟨fuel,_,_,_,_,Nat.le_refl _,hJ,by omega,HR,HM⟩
 case round=>
  clear HM HMl HR hL hF hJ
  obtain ⟨g,j0,oc2,op2,a,hg,hj0,hla,HR,HM⟩:=hrel
  have HK:=Lib.hid (xrd_at HM.out)
  cases g with
  | zero=>exact absurd HR.out.symm hr
  | succ g=>
   have hR2:=HR.out
   simp only [G] at hR2
   have HR1:=Lib.hid hR2
   clear HR hR2
   have HR:=HR1
   clear HR1
   go_wp2_with (first|(go_at_call 224;refine take_use HR.out HTk.out HM.out (by omega) hT1 (by omega) rfl ?_ ?_;all_goals (intro hb hR2 W2 hM2;(try have hlt:=isT_lt hb);clear hb;have HR1:=Lib.hid hR2;clear HR hR2;have HR:=HR1;clear HR1;replace HM:=Lib.hid hM2;clear hM2))|(go_at_call 299;refine XC.use (ihS g (by omega)) HR.out hr HTk.out HM.out (by omega) (by omega) om (fun hno W2 hb=>(show _∧_ from ⟨rfl,XPost.no_ hno hb⟩)) ?_;intro l m j hR2 hG op1 oc1 W2 hM2;have hg:=(hG (by simp)).lenc 0 rfl rfl rfl;clear hG;obtain ⟨hL,hF,hJ⟩:=hg;have HR1:=Lib.hid hR2;clear HR hR2;have HR:=HR1;clear HR1;replace HM:=Lib.hid hM2;clear hM2)|(go_at_call 225;refine put_use _ _ HM.out om ?_;intro op1 oc1 W2 hM2;replace HM:=Lib.hid hM2;clear hM2))
   all_goals first
    |(go_roundw
      case rel=>exact ⟨g,_,_,_,_,by omega,by omega,by (simp only [List.length_append,List.length_cons,List.length_nil];omega),HR,Lib.hid (by simpa only [List.append_assoc] using HM.out)⟩
      case measure=>rw [xrd_at HM.out,HK.out];omega)
    |(go_ret;exact XPost.ok_ HR.out rfl HM.out)
    |(go_end0;exact XPost.ok_ HR.out rfl HM.out)
set_option maxHeartbeats 8000000 in
theorem xProd {T:List TokD} (hT:TksOk T) (fuel:Nat) (ihS:∀ g,g≤fuel→XC T 309 .sgn g):XC T 299 .prod (fuel + 1):=by
 intro w0 W R tp tc i op oc acc rest HTk HM0 hi ha hne
 obtain ⟨r,hr⟩:∃ r,G T (fuel + 1) .prod i=r:=⟨_,rfl⟩
 rw [hr] at hne ⊢
 have HR:=Lib.hid hr
 clear hr
 have hr:r≠.out:=hne
 have HM:=Lib.hid HM0
 have HTk:=Lib.hid HTk
 have hT1:=hT.len
 clear HM0 hne
 simp only [G] at HR
 go_enter Tryz.func299,Tryz.ntmps299
 go_wp2_with (first|(go_at_call 309;refine XC.use (ihS fuel (Nat.le_refl _)) HR.out hr HTk.out HM.out (by omega) (by omega) om (fun hno W2 hb=>(show _∧_ from ⟨rfl,XPost.no_ hno hb⟩)) ?_;intro l m j hR2 hG op1 oc1 W2 hM2;have hg:=(hG (by simp)).lenc 0 rfl rfl rfl;clear hG;obtain ⟨hL,hF,hJ⟩:=hg;have HR1:=Lib.hid hR2;clear HR hR2;have HR:=HR1;clear HR1;replace HM:=Lib.hid hM2;clear hM2))
 have HMl:=HM
 go_loopw [6] (fun _ wr=>∃ (g j oc:Nat) (op:Option Addr) (a:List NodeD),g≤fuel∧j≤T.length∧i + a.length≤j∧Hid (G T g (.prodL a) j=r)∧Hid (Mem w0 wr (.box R 231 [.slice tp T.length tc,.int .i64 j,.slice op (acc++a).length oc] :: .row op oc 46 8 (acc++a).length ((acc++a).flatMap NodeD.cs) :: rest))) (fun _ wr=>T.length - (intOf ((wr.cell? ⟨R,1,none⟩).getD undef)).toNat)
 case atStart=>exact ⟨fuel,_,_,_,_,Nat.le_refl _,hJ,by omega,HR,HM⟩
 case round=>
  clear HM HMl HR hL hF hJ
  obtain ⟨g,j0,oc2,op2,a,hg,hj0,hla,HR,HM⟩:=hrel
  have HK:=Lib.hid (xrd_at HM.out)
  cases g with
  | zero=>exact absurd HR.out.symm hr
  | succ g=>
   have hR2:=HR.out
   simp only [G] at hR2
   have HR1:=Lib.hid hR2
   clear HR hR2
   have HR:=HR1
   clear HR1
   go_wp2_with (first|(go_at_call 224;refine take_use HR.out HTk.out HM.out (by omega) hT1 (by omega) rfl ?_ ?_;all_goals (intro hb hR2 W2 hM2;(try have hlt:=isT_lt hb);clear hb;have HR1:=Lib.hid hR2;clear HR hR2;have HR:=HR1;clear HR1;replace HM:=Lib.hid hM2;clear hM2))|(go_at_call 309;refine XC.use (ihS g (by omega)) HR.out hr HTk.out HM.out (by omega) (by omega) om (fun hno W2 hb=>(show _∧_ from ⟨rfl,XPost.no_ hno hb⟩)) ?_;intro l m j hR2 hG op1 oc1 W2 hM2;have hg:=(hG (by simp)).lenc 0 rfl rfl rfl;clear hG;obtain ⟨hL,hF,hJ⟩:=hg;have HR1:=Lib.hid hR2;clear HR hR2;have HR:=HR1;clear HR1;replace HM:=Lib.hid hM2;clear hM2)|(go_at_call 225;refine put_use _ _ HM.out om ?_;intro op1 oc1 W2 hM2;replace HM:=Lib.hid hM2;clear hM2))
   all_goals first
    |(go_roundw
      case rel=>exact ⟨g,_,_,_,_,by omega,by omega,by (simp only [List.length_append,List.length_cons,List.length_nil];omega),HR,Lib.hid (by simpa only [List.append_assoc] using HM.out)⟩
      case measure=>rw [xrd_at HM.out,HK.out];omega)
    |(go_ret;exact XPost.ok_ HR.out rfl HM.out)
    |(go_end0;exact XPost.ok_ HR.out rfl HM.out)
set_option maxHeartbeats 8000000 in
theorem xGroup {T:List TokD} (hT:TksOk T) (fuel:Nat) (ihT:∀ g,g≤fuel→XC T 227 .tests g):XC T 226 .grp (fuel + 1):=by
 intro w0 W R tp tc i op oc acc rest HTk HM0 hi ha hne
 obtain ⟨r,hr⟩:∃ r,G T (fuel + 1) .grp i=r:=⟨_,rfl⟩
 rw [hr] at hne ⊢
 have HR:=Lib.hid hr
 clear hr
 have hr:r≠.out:=hne
 have HM:=Lib.hid HM0
 have HTk:=Lib.hid HTk
 have hT1:=hT.len
 clear HM0 hne
 simp only [G] at HR
 go_enter Tryz.func226,Tryz.ntmps226
 go_wp2_with (first|(go_at_call 228;refine must_use HR.out HTk.out HM.out (by omega) hT1 (by omega) rfl (fun hno W2 hb=>(show _∧_ from ⟨rfl,XPost.no_ hno hb⟩)) ?_;intro hb hR2 W2 hM2;have hlt:=isT_lt hb;clear hb;have HR1:=Lib.hid hR2;clear HR hR2;have HR:=HR1;clear HR1;replace HM:=Lib.hid hM2;clear hM2)|(go_at_call 227;refine XC.use (ihT fuel (Nat.le_refl _)) HR.out hr HTk.out HM.out (by omega) (by omega) om (fun hno W2 hb=>(show _∧_ from ⟨rfl,XPost.no_ hno hb⟩)) ?_;intro l m j hR2 hG op1 oc1 W2 hM2;have hg:=(hG (by simp)).lenc 2 rfl rfl rfl;clear hG;obtain ⟨hL,hF,hJ⟩:=hg;have HR1:=Lib.hid hR2;clear HR hR2;have HR:=HR1;clear HR1;replace HM:=Lib.hid hM2;clear hM2))
 all_goals (first|go_end0|go_ret|go_ret2)
 all_goals (exact XPost.ok_ HR.out (by simp only [List.append_assoc,List.append_nil,List.cons_append,List.nil_append,relT]) HM.out)
set_option maxHeartbeats 8000000 in
theorem xCmp {T:List TokD} (hT:TksOk T) (fuel:Nat) (ihS:∀ g,g≤fuel→XC T 280 .sum g) (ihG:∀ g,g≤fuel→XC T 226 .grp g):XC T 283 .cmp (fuel + 1):=by
 intro w0 W R tp tc i op oc acc rest HTk HM0 hi ha hne
 obtain ⟨r,hr⟩:∃ r,G T (fuel + 1) .cmp i=r:=⟨_,rfl⟩
 rw [hr] at hne ⊢
 have HR:=Lib.hid hr
 clear hr
 have hr:r≠.out:=hne
 have HM:=Lib.hid HM0
 have HTk:=Lib.hid HTk
 have hT1:=hT.len
 clear HM0 hne
 simp only [G] at HR
 go_enter Tryz.func283,Tryz.ntmps283
 go_wp2_with (first|(go_at_call 280;refine XC.use (ihS fuel (Nat.le_refl _)) HR.out hr HTk.out HM.out (by omega) (by omega) om (fun hno W2 hb=>(show _∧_ from ⟨rfl,XPost.no_ hno hb⟩)) ?_;intro l m j hR2 hG op1 oc1 W2 hM2;have hg:=(hG (by simp)).lenc 0 rfl rfl rfl;clear hG;obtain ⟨hL,hF,hJ⟩:=hg;have HR1:=Lib.hid hR2;clear HR hR2;have HR:=HR1;clear HR1;replace HM:=Lib.hid hM2;clear hM2)|(go_at_call 259;(with_reducible refine (xPeek T w0 _ R tp tc _ _ _ HTk.out HM.out hT1 (by omega)).mono ?_);refine cM1 ?_;clear HM;intro W1 HM)|(go_at_call 279;(with_reducible refine (xRel _ _).mono ?_);rintro e W2 ⟨rfl,rfl⟩;(refine rel_use HR.out ?_ ?_);all_goals (intro hb hq hR2;(try have hlt:=relT_lt (of_rel hb));clear hb;have HR1:=Lib.hid hR2;clear HR hR2;have HR:=HR1;clear HR1))|(go_at_call 224;refine take_use HR.out HTk.out HM.out (by omega) hT1 (by omega) rfl ?_ ?_;all_goals (intro hb hR2 W2 hM2;(try have hlt:=isT_lt hb);clear hb;have HR1:=Lib.hid hR2;clear HR hR2;have HR:=HR1;clear HR1;replace HM:=Lib.hid hM2;clear hM2))|(go_at_call 228;refine must_use HR.out HTk.out HM.out (by omega) hT1 (by omega) rfl (fun hno W2 hb=>(show _∧_ from ⟨rfl,XPost.no_ hno hb⟩)) ?_;intro hb hR2 W2 hM2;have hlt:=isT_lt hb;clear hb;have HR1:=Lib.hid hR2;clear HR hR2;have HR:=HR1;clear HR1;replace HM:=Lib.hid hM2;clear hM2)|(go_at_call 225;refine put_use _ _ HM.out om ?_;intro op1 oc1 W2 hM2;replace HM:=Lib.hid hM2;clear hM2)|(go_at_call 226;refine XC.use (ihG fuel (Nat.le_refl _)) HR.out hr HTk.out HM.out (by omega) (by omega) om (fun hno W2 hb=>(show _∧_ from ⟨rfl,XPost.no_ hno hb⟩)) ?_;intro l m j hR2 hG op1 oc1 W2 hM2;have hg:=(hG (by simp)).lenc 0 rfl rfl rfl;clear hG;obtain ⟨hL,hF,hJ⟩:=hg;have HR1:=Lib.hid hR2;clear HR hR2;have HR:=HR1;clear HR1;replace HM:=Lib.hid hM2;clear hM2)|refine mP ?_|(refine mS ?_;clear HM;intro W1 HM))
 all_goals (first|go_end0|go_ret|go_ret2)
 all_goals (exact XPost.ok_ HR.out (by simp only [List.append_assoc,List.append_nil,List.cons_append,List.nil_append,relT]) HM.out)
section
variable {T:List TokD} {k:Nat} {d:Int} {b:Bool} {t:TokD}
theorem ivl_step (h:ivlF T (T.length - k) k d=b) (ht:T[k]? = some t):(if t.kind=6 then
        if t.text.toList=[40]∨t.text.toList=[91]∨t.text.toList=[123] then ivlF T (T.length - (k + 1)) (k + 1) (d + 1)
        else if t.text.toList=[41]∨t.text.toList=[93]∨t.text.toList=[125] then (if d - 1=0 then false else ivlF T (T.length - (k + 1)) (k + 1) (d - 1))
        else if t.text.toList=[46,46] then (if d=1 then true else ivlF T (T.length - (k + 1)) (k + 1) d)
        else ivlF T (T.length - (k + 1)) (k + 1) d
      else ivlF T (T.length - (k + 1)) (k + 1) d)=b:=by
 have hk:=some_lt ht
 rw [show T.length - k=(T.length - (k + 1)) + 1 by omega] at h
 unfold ivlF at h
 rw [ht] at h
 exact h
theorem ivl_end (h:ivlF T (T.length - k) k d=b) (hk:T.length≤k):false=b:=by
 rw [show T.length - k=0 by omega] at h
 exact h
end
set_option maxHeartbeats 16000000 in
theorem xInterval (T:List TokD) (w0 W:World) (R:Nat) (tp:Option Addr) (tc i:Nat) (V:Value) (rest:List Res) (HT:Sl w0 tp (T.flatMap TokD.cs)) (HM0:Mem w0 W (.box R 231 [.slice tp T.length tc,.int .i64 i,V] :: rest)) (hT:T.length≤1000) (hi:i≤T.length) :
  Calls Tryz.prog 281 #[.pointer (some ⟨R,0,none⟩)] W fun e w'=>e = .returned (.bool (ivl T i))∧Mem w0 w' (.box R 231 [.slice tp T.length tc,.int .i64 i,V] :: rest):=by
 have HM:=Lib.hid HM0
 obtain ⟨b,hb⟩:∃ b,ivl T i=b:=⟨_,rfl⟩
 rw [hb]
 have HB:=Lib.hid (show ivlF T (T.length - i) i 0=b from hb)
 have HTk:=Lib.hid HT
 clear HM0 hb HT
 go_enter Tryz.func281,Tryz.ntmps281
 go_wp2_with (first|refine mP ?_)
 go_loopw [4,3] (fun kv dv wr=>∃ (k:Nat) (d:Int),kv = .int .i64 k∧dv = .int .i64 d∧k≤T.length∧-(k:Int)≤d∧d≤k∧Hid (ivlF T (T.length - k) k d=b)∧Hid (Mem w0 wr (.box R 231 [.slice tp T.length tc,.int .i64 i,V] :: rest))) (fun kv _ _=>T.length - (intOf kv).toNat)
 case atStart=>exact ⟨i,0,rfl,rfl,hi,by omega,by omega,HB,HM⟩
 case round=>
  clear HM HB
  obtain ⟨k,d,rfl,rfl,hk,hd1,hd2,HB,HM⟩:=hrel
  by_cases hlt:k < T.length
  ·obtain ⟨t,ht⟩:∃ t,T[k]? = some t:=⟨_,List.getElem?_eq_getElem hlt⟩
   have hstep:=ivl_step HB.out ht
   obtain ⟨a,rfl,ha⟩:=tokAt HTk.out ht
   obtain ⟨kd,tx,nu,sc,dy,pt⟩:=t
   have HE:=Lib.hid ha
   have hlt3:=Lib.hid (show k + 1≤T.length from hlt)
   have d1:decide ((k:Int) < T.length)=true:=decide_eq_true (by omega)
   dsimp only at hstep
   clear HB ha ht
   by_cases h6:kd=6
   ·subst h6
    rw [if_pos rfl] at hstep
    by_cases g0:(tx.toList == [40])=true
    ·have e:tx.toList=[40]:=by simpa using g0
     rw [if_pos (by rw [e];decide)] at hstep
     have HB:=Lib.hid hstep
     clear hstep e
     go_wp2_with (first|((with_reducible refine iat 23 ?_);(refine ixa rfl rfl rfl hlt ?_))|((with_reducible refine iat 25 ?_);(refine ldx0 (HM.out.olds HE.out) rfl rfl ?_))|((with_reducible refine iat 32 ?_);(refine ixa rfl rfl rfl hlt ?_))|((with_reducible refine iat 34 ?_);(refine ldxf (HM.out.olds HE.out) rfl rfl rfl ?_))|refine mP ?_)
     go_roundw
     case rel=>exact ⟨k + 1,d + 1,by go_num,rfl,hlt3.out,by omega,by omega,HB,HM⟩
     case measure=>have:=hlt3.out;simp [intOf];omega
    rw [Bool.not_eq_true] at g0
    by_cases g1:(tx.toList == [91])=true
    ·have e:tx.toList=[91]:=by simpa using g1
     rw [if_pos (by rw [e];decide)] at hstep
     have HB:=Lib.hid hstep
     clear hstep e
     go_wp2_with (first|((with_reducible refine iat 23 ?_);(refine ixa rfl rfl rfl hlt ?_))|((with_reducible refine iat 25 ?_);(refine ldx0 (HM.out.olds HE.out) rfl rfl ?_))|((with_reducible refine iat 32 ?_);(refine ixa rfl rfl rfl hlt ?_))|((with_reducible refine iat 34 ?_);(refine ldxf (HM.out.olds HE.out) rfl rfl rfl ?_))|refine mP ?_)
     go_roundw
     case rel=>exact ⟨k + 1,d + 1,by go_num,rfl,hlt3.out,by omega,by omega,HB,HM⟩
     case measure=>have:=hlt3.out;simp [intOf];omega
    rw [Bool.not_eq_true] at g1
    by_cases g2:(tx.toList == [123])=true
    ·have e:tx.toList=[123]:=by simpa using g2
     rw [if_pos (by rw [e];decide)] at hstep
     have HB:=Lib.hid hstep
     clear hstep e
     go_wp2_with (first|((with_reducible refine iat 23 ?_);(refine ixa rfl rfl rfl hlt ?_))|((with_reducible refine iat 25 ?_);(refine ldx0 (HM.out.olds HE.out) rfl rfl ?_))|((with_reducible refine iat 32 ?_);(refine ixa rfl rfl rfl hlt ?_))|((with_reducible refine iat 34 ?_);(refine ldxf (HM.out.olds HE.out) rfl rfl rfl ?_))|refine mP ?_)
     go_roundw
     case rel=>exact ⟨k + 1,d + 1,by go_num,rfl,hlt3.out,by omega,by omega,HB,HM⟩
     case measure=>have:=hlt3.out;simp [intOf];omega
    rw [Bool.not_eq_true] at g2
    by_cases g3:(tx.toList == [41])=true
    ·have e:tx.toList=[41]:=by simpa using g3
     rw [if_neg (by rw [e];decide),if_pos (by rw [e];decide)] at hstep
     clear e
     by_cases hz:d - 1=0
     ·rw [if_pos hz] at hstep
      have q0:(d - 1 == 0)=true:=by simpa using hz
      clear hz
      have HB:=Lib.hid hstep
      clear hstep
      go_wp2_with (first|((with_reducible refine iat 23 ?_);(refine ixa rfl rfl rfl hlt ?_))|((with_reducible refine iat 25 ?_);(refine ldx0 (HM.out.olds HE.out) rfl rfl ?_))|((with_reducible refine iat 32 ?_);(refine ixa rfl rfl rfl hlt ?_))|((with_reducible refine iat 34 ?_);(refine ldxf (HM.out.olds HE.out) rfl rfl rfl ?_))|refine mP ?_)
      (first|go_ret|go_ret2)
      rw [← HB.out]
      exact ⟨rfl,HM.out⟩
     ·rw [if_neg hz] at hstep
      have q0:(d - 1 == 0)=false:=by simpa using hz
      have HB:=Lib.hid hstep
      clear hstep
      go_wp2_with (first|((with_reducible refine iat 23 ?_);(refine ixa rfl rfl rfl hlt ?_))|((with_reducible refine iat 25 ?_);(refine ldx0 (HM.out.olds HE.out) rfl rfl ?_))|((with_reducible refine iat 32 ?_);(refine ixa rfl rfl rfl hlt ?_))|((with_reducible refine iat 34 ?_);(refine ldxf (HM.out.olds HE.out) rfl rfl rfl ?_))|refine mP ?_)
      go_roundw
      case rel=>exact ⟨k + 1,d - 1,by go_num,rfl,hlt3.out,by omega,by omega,HB,HM⟩
      case measure=>have:=hlt3.out;simp [intOf];omega
    rw [Bool.not_eq_true] at g3
    by_cases g4:(tx.toList == [93])=true
    ·have e:tx.toList=[93]:=by simpa using g4
     rw [if_neg (by rw [e];decide),if_pos (by rw [e];decide)] at hstep
     clear e
     by_cases hz:d - 1=0
     ·rw [if_pos hz] at hstep
      have q0:(d - 1 == 0)=true:=by simpa using hz
      clear hz
      have HB:=Lib.hid hstep
      clear hstep
      go_wp2_with (first|((with_reducible refine iat 23 ?_);(refine ixa rfl rfl rfl hlt ?_))|((with_reducible refine iat 25 ?_);(refine ldx0 (HM.out.olds HE.out) rfl rfl ?_))|((with_reducible refine iat 32 ?_);(refine ixa rfl rfl rfl hlt ?_))|((with_reducible refine iat 34 ?_);(refine ldxf (HM.out.olds HE.out) rfl rfl rfl ?_))|refine mP ?_)
      (first|go_ret|go_ret2)
      rw [← HB.out]
      exact ⟨rfl,HM.out⟩
     ·rw [if_neg hz] at hstep
      have q0:(d - 1 == 0)=false:=by simpa using hz
      have HB:=Lib.hid hstep
      clear hstep
      go_wp2_with (first|((with_reducible refine iat 23 ?_);(refine ixa rfl rfl rfl hlt ?_))|((with_reducible refine iat 25 ?_);(refine ldx0 (HM.out.olds HE.out) rfl rfl ?_))|((with_reducible refine iat 32 ?_);(refine ixa rfl rfl rfl hlt ?_))|((with_reducible refine iat 34 ?_);(refine ldxf (HM.out.olds HE.out) rfl rfl rfl ?_))|refine mP ?_)
      go_roundw
      case rel=>exact ⟨k + 1,d - 1,by go_num,rfl,hlt3.out,by omega,by omega,HB,HM⟩
      case measure=>have:=hlt3.out;simp [intOf];omega
    rw [Bool.not_eq_true] at g4
    by_cases g5:(tx.toList == [125])=true
    ·have e:tx.toList=[125]:=by simpa using g5
     rw [if_neg (by rw [e];decide),if_pos (by rw [e];decide)] at hstep
     clear e
     by_cases hz:d - 1=0
     ·rw [if_pos hz] at hstep
      have q0:(d - 1 == 0)=true:=by simpa using hz
      clear hz
      have HB:=Lib.hid hstep
      clear hstep
      go_wp2_with (first|((with_reducible refine iat 23 ?_);(refine ixa rfl rfl rfl hlt ?_))|((with_reducible refine iat 25 ?_);(refine ldx0 (HM.out.olds HE.out) rfl rfl ?_))|((with_reducible refine iat 32 ?_);(refine ixa rfl rfl rfl hlt ?_))|((with_reducible refine iat 34 ?_);(refine ldxf (HM.out.olds HE.out) rfl rfl rfl ?_))|refine mP ?_)
      (first|go_ret|go_ret2)
      rw [← HB.out]
      exact ⟨rfl,HM.out⟩
     ·rw [if_neg hz] at hstep
      have q0:(d - 1 == 0)=false:=by simpa using hz
      have HB:=Lib.hid hstep
      clear hstep
      go_wp2_with (first|((with_reducible refine iat 23 ?_);(refine ixa rfl rfl rfl hlt ?_))|((with_reducible refine iat 25 ?_);(refine ldx0 (HM.out.olds HE.out) rfl rfl ?_))|((with_reducible refine iat 32 ?_);(refine ixa rfl rfl rfl hlt ?_))|((with_reducible refine iat 34 ?_);(refine ldxf (HM.out.olds HE.out) rfl rfl rfl ?_))|refine mP ?_)
      go_roundw
      case rel=>exact ⟨k + 1,d - 1,by go_num,rfl,hlt3.out,by omega,by omega,HB,HM⟩
      case measure=>have:=hlt3.out;simp [intOf];omega
    rw [Bool.not_eq_true] at g5
    by_cases g6:(tx.toList == [46,46])=true
    ·have e:tx.toList=[46,46]:=by simpa using g6
     rw [if_neg (by rw [e];decide),if_neg (by rw [e];decide),if_pos e] at hstep
     clear e
     by_cases hz:d=1
     ·rw [if_pos hz] at hstep
      have q0:(d == 1)=true:=by simpa using hz
      clear hz
      have HB:=Lib.hid hstep
      clear hstep
      go_wp2_with (first|((with_reducible refine iat 23 ?_);(refine ixa rfl rfl rfl hlt ?_))|((with_reducible refine iat 25 ?_);(refine ldx0 (HM.out.olds HE.out) rfl rfl ?_))|((with_reducible refine iat 32 ?_);(refine ixa rfl rfl rfl hlt ?_))|((with_reducible refine iat 34 ?_);(refine ldxf (HM.out.olds HE.out) rfl rfl rfl ?_))|refine mP ?_)
      (first|go_ret|go_ret2)
      rw [← HB.out]
      exact ⟨rfl,HM.out⟩
     ·rw [if_neg hz] at hstep
      have q0:(d == 1)=false:=by simpa using hz
      have HB:=Lib.hid hstep
      clear hstep
      go_wp2_with (first|((with_reducible refine iat 23 ?_);(refine ixa rfl rfl rfl hlt ?_))|((with_reducible refine iat 25 ?_);(refine ldx0 (HM.out.olds HE.out) rfl rfl ?_))|((with_reducible refine iat 32 ?_);(refine ixa rfl rfl rfl hlt ?_))|((with_reducible refine iat 34 ?_);(refine ldxf (HM.out.olds HE.out) rfl rfl rfl ?_))|refine mP ?_)
      go_roundw
      case rel=>exact ⟨k + 1,d,by go_num,rfl,hlt3.out,by omega,by omega,HB,HM⟩
      case measure=>have:=hlt3.out;simp [intOf];omega
    rw [Bool.not_eq_true] at g6
    rw [if_neg,if_neg,if_neg] at hstep
    ·have HB:=Lib.hid hstep
     clear hstep
     go_wp2_with (first|((with_reducible refine iat 23 ?_);(refine ixa rfl rfl rfl hlt ?_))|((with_reducible refine iat 25 ?_);(refine ldx0 (HM.out.olds HE.out) rfl rfl ?_))|((with_reducible refine iat 32 ?_);(refine ixa rfl rfl rfl hlt ?_))|((with_reducible refine iat 34 ?_);(refine ldxf (HM.out.olds HE.out) rfl rfl rfl ?_))|refine mP ?_)
     go_roundw
     case rel=>exact ⟨k + 1,d,by go_num,rfl,hlt3.out,by omega,by omega,HB,HM⟩
     case measure=>have:=hlt3.out;simp [intOf];omega
    ·intro h;rw [h] at g6;exact absurd g6 (by decide)
    ·rintro (h|h|h)
     ·rw [h] at g3;exact absurd g3 (by decide)
     ·rw [h] at g4;exact absurd g4 (by decide)
     ·rw [h] at g5;exact absurd g5 (by decide)
    ·rintro (h|h|h)
     ·rw [h] at g0;exact absurd g0 (by decide)
     ·rw [h] at g1;exact absurd g1 (by decide)
     ·rw [h] at g2;exact absurd g2 (by decide)
   ·rw [if_neg h6] at hstep
    have q6:(kd != 6)=true:=by simpa using h6
    have HB:=Lib.hid hstep
    clear hstep
    go_wp2_with (first|((with_reducible refine iat 23 ?_);(refine ixa rfl rfl rfl hlt ?_))|((with_reducible refine iat 25 ?_);(refine ldx0 (HM.out.olds HE.out) rfl rfl ?_))|((with_reducible refine iat 32 ?_);(refine ixa rfl rfl rfl hlt ?_))|((with_reducible refine iat 34 ?_);(refine ldxf (HM.out.olds HE.out) rfl rfl rfl ?_))|refine mP ?_)
    go_roundw
    case rel=>exact ⟨k + 1,d,by go_num,rfl,hlt3.out,by omega,by omega,HB,HM⟩
    case measure=>have:=hlt3.out;simp [intOf];omega
  ·have HE:=Lib.hid (ivl_end HB.out (by omega))
   have d1:decide ((k:Int) < T.length)=false:=decide_eq_false (by omega)
   go_wp2_with (first|refine mP ?_)
   (first|go_ret|go_ret2)
   rw [← HE.out]
   exact ⟨rfl,HM.out⟩
end Go.Proofs.YtnghlakllgkjlaaGreatDoor
