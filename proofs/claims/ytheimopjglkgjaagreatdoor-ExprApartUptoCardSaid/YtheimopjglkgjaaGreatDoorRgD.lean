/- The reference's grammar: at, group, compare. The reference's grammar: compare. The reference's grammar: list. -/
import Derived.Test.YtheimopjglkgjaaGreatDoorRgA
import Derived.Test.YtheimopjglkgjaaGreatDoorRdC
namespace Go.Proofs.YtheimopjglkgjaaGreatDoor
open Go.RowKit
set_option linter.unusedVariables false
set_option linter.unusedSimpArgs false
set_option maxRecDepth 100000
set_option maxHeartbeats 4000000 in
theorem rAt2 {T:List TokD} (fuel:Nat) (h:RC T 113 .cmp fuel):AC T 85 2 .cmp fuel:=by
 intro W tp tc i HT hi hne
 have HC:=Lib.hid (h W tp tc i HT hi hne)
 clear HT hne
 go_enter Tryz.func85,Tryz.ntmps85
 go_wp2_with (go_at_call 113;(with_reducible refine HC.out.mono ?_);rintro e W2 ⟨p,c,l,j,rfl,hM,hm⟩;have HH:=Lib.hid (And.intro hM hm);clear hM hm)
 go_ret2
 exact ⟨p,c,l,j,rfl,HH.out.1,HH.out.2⟩
set_option maxHeartbeats 4000000 in
theorem rAt5 {T:List TokD} (fuel:Nat) (h:RC T 114 .sgn fuel):AC T 85 5 .sgn fuel:=by
 intro W tp tc i HT hi hne
 have HC:=Lib.hid (h W tp tc i HT hi hne)
 clear HT hne
 go_enter Tryz.func85,Tryz.ntmps85
 go_wp2_with (go_at_call 114;(with_reducible refine HC.out.mono ?_);rintro e W2 ⟨p,c,l,j,rfl,hM,hm⟩;have HH:=Lib.hid (And.intro hM hm);clear hM hm)
 go_ret2
 exact ⟨p,c,l,j,rfl,HH.out.1,HH.out.2⟩
set_option maxHeartbeats 4000000 in
theorem rAt0 {T:List TokD} (fuel:Nat) (h:AC T 115 0 .or fuel):AC T 85 0 .or fuel:=by
 intro W tp tc i HT hi hne
 have HC:=Lib.hid (h W tp tc i HT hi hne)
 clear HT hne
 go_enter Tryz.func85,Tryz.ntmps85
 go_wp2_with (go_at_call 115;(with_reducible refine HC.out.mono ?_);rintro e W2 ⟨p,c,l,j,rfl,hM,hm⟩;have HH:=Lib.hid (And.intro hM hm);clear hM hm)
 go_ret2
 exact ⟨p,c,l,j,rfl,HH.out.1,HH.out.2⟩
set_option maxHeartbeats 4000000 in
theorem rAt1 {T:List TokD} (fuel:Nat) (h:AC T 115 1 .and fuel):AC T 85 1 .and fuel:=by
 intro W tp tc i HT hi hne
 have HC:=Lib.hid (h W tp tc i HT hi hne)
 clear HT hne
 go_enter Tryz.func85,Tryz.ntmps85
 go_wp2_with (go_at_call 115;(with_reducible refine HC.out.mono ?_);rintro e W2 ⟨p,c,l,j,rfl,hM,hm⟩;have HH:=Lib.hid (And.intro hM hm);clear hM hm)
 go_ret2
 exact ⟨p,c,l,j,rfl,HH.out.1,HH.out.2⟩
set_option maxHeartbeats 4000000 in
theorem rAt3 {T:List TokD} (fuel:Nat) (h:AC T 115 3 .sum fuel):AC T 85 3 .sum fuel:=by
 intro W tp tc i HT hi hne
 have HC:=Lib.hid (h W tp tc i HT hi hne)
 clear HT hne
 go_enter Tryz.func85,Tryz.ntmps85
 go_wp2_with (go_at_call 115;(with_reducible refine HC.out.mono ?_);rintro e W2 ⟨p,c,l,j,rfl,hM,hm⟩;have HH:=Lib.hid (And.intro hM hm);clear hM hm)
 go_ret2
 exact ⟨p,c,l,j,rfl,HH.out.1,HH.out.2⟩
set_option maxHeartbeats 4000000 in
theorem rAt4 {T:List TokD} (fuel:Nat) (h:AC T 115 4 .prod fuel):AC T 85 4 .prod fuel:=by
 intro W tp tc i HT hi hne
 have HC:=Lib.hid (h W tp tc i HT hi hne)
 clear HT hne
 go_enter Tryz.func85,Tryz.ntmps85
 go_wp2_with (go_at_call 115;(with_reducible refine HC.out.mono ?_);rintro e W2 ⟨p,c,l,j,rfl,hM,hm⟩;have HH:=Lib.hid (And.intro hM hm);clear hM hm)
 go_ret2
 exact ⟨p,c,l,j,rfl,HH.out.1,HH.out.2⟩
set_option maxHeartbeats 8000000 in
theorem rGroup {T:List TokD} (hT:TksOk T) (fuel:Nat) (ihL:∀ g,g≤fuel→RC T 84 .tests g):RC T 83 .grp (fuel + 1):=by
 intro W tp tc i HT hi hne
 obtain ⟨r,hr⟩:∃ r,G T (fuel + 1) .grp i=r:=⟨_,rfl⟩
 rw [hr] at hne ⊢
 have HR:=Lib.hid hr
 clear hr
 have hr:r≠.out:=hne
 have HM:=Lib.hid (Mem.start W)
 have HTk:=Lib.hid HT
 have hT1:=hT.len
 clear hne HT
 simp only [G] at HR
 go_enter Tryz.func83,Tryz.ntmps83
 go_wp2_with (first|(go_at_call 82;refine is_use HR.out (HM.out.sl HTk.out) (by omega) rfl (by decide) ?_ ?_;all_goals (intro hb hR2;(try have hlt:=isT_lt hb);clear hb;have HR1:=Lib.hid hR2;clear HR hR2;have HR:=HR1;clear HR1))|(go_at_call 84;refine RC.use (ihL fuel (Nat.le_refl _)) HR.out hr (HM.out.sl HTk.out) (by omega) (by omega) (by simp) (fun hno p c l W2 hl hM2=>?_) (fun l m j hR2 hG p c W2 hM2=>?_);all_goals first|(have hg:=hG.lenc 2 rfl rfl rfl;clear hG;obtain ⟨hL,hF,hJ⟩:=hg;have HR1:=Lib.hid hR2;clear HR hR2;have HR:=HR1;clear HR1;have HM1:=Lib.hid (HM.out.comp2 hM2);clear HM hM2;(try clear W1);rename World=>W1;have HM:=HM1;clear HM1;simp only [List.cons_append,List.nil_append] at HM)|(have HNo:=Lib.hid hno;clear hno HR;have HM1:=Lib.hid (HM.out.comp2 hM2);clear HM hM2;(try clear W1);rename World=>W1;have HM:=HM1;clear HM1;simp only [List.cons_append,List.nil_append] at HM)))
 all_goals go_ret2
 all_goals (first|exact GPost.okn HR.out (by first|rfl|(simp only [List.length_append,List.length_cons,List.length_nil];omega)) (by first|rfl|omega) (HM.out.sub (.cons _ (.cons_cons _ (List.nil_sublist _))))|exact GPost.okn HR.out (by rfl) (by first|rfl|omega) (HM.out.sub (.cons_cons _ (List.nil_sublist _)))|exact GPost.no_ HNo.out HM.out.below|exact GPost.no_ HR.out.symm HM.out.below|exact GPost.noL HNo.out hl (HM.out.sub (.cons_cons _ (List.nil_sublist _))))
theorem any6 (T:List TokD) (i:Nat):anyF T i [⟨#[61]⟩,⟨#[33,61]⟩,⟨#[60]⟩,⟨#[60,61]⟩,⟨#[62]⟩,⟨#[62,61]⟩] 0=if relT T i≠0 then relT T i - 13 else -1:=by
 have e:∀ s,isT T i s=((sgT T i).toList == s):=fun _=>rfl
 unfold relT relL
 simp only [anyF,e,ByteArray.toList_eq]
 generalize (sgT T i).data.toList=l
 by_cases h1:(l == [61])=true
 ·simp [h1]
 by_cases h2:(l == [33,61])=true
 ·simp [h1,h2]
 by_cases h3:(l == [60])=true
 ·simp [h1,h2,h3]
 by_cases h4:(l == [60,61])=true
 ·simp [h1,h2,h3,h4]
 by_cases h5:(l == [62])=true
 ·simp [h1,h2,h3,h4,h5]
 by_cases h6:(l == [62,61])=true
 ·simp [h1,h2,h3,h4,h5,h6]
 simp [h1,h2,h3,h4,h5,h6]
theorem relT_ge {T:List TokD} {i:Nat} (h:relT T i≠0):13≤relT T i:=by
 revert h
 unfold relT relL
 repeat (first|(split;(first|(intro _;decide)|skip)))
 all_goals (intro h;exact absurd rfl h)
theorem any6_use {T:List TokD} {W:World} {tp lp:Option Addr} {tc lc i:Nat} {r A B:PR} {K:Ending→World→Prop} {d:Int} (HR:(if relT T i≠0 then A else B)=r) (HT:Sl W tp (T.flatMap TokD.cs)) (HL:Sl W lp (([⟨#[61]⟩,⟨#[33,61]⟩,⟨#[60]⟩,⟨#[60,61]⟩,⟨#[62]⟩,⟨#[62,61]⟩]:List ByteArray).flatMap strC)) (hd:d=(i:Int))
  (hyes:∀ y:Int,relT T i=13 + y→0≤y→y≤5→i < T.length→A=r→K (.returned (.int .i64 y)) W) (hno:B=r→K (.returned (.int .i64 (-1))) W) :
  Calls Tryz.prog 144 #[.slice tp T.length tc,.int .i64 d,.slice lp 6 lc] W K:=by
 subst hd
 have h:=rAny1 T tp lp tc lc i [⟨#[61]⟩,⟨#[33,61]⟩,⟨#[60]⟩,⟨#[60,61]⟩,⟨#[62]⟩,⟨#[62,61]⟩] W HT HL (by
  intro x hx
  simp only [List.mem_cons,List.not_mem_nil,or_false] at hx
  rcases hx with rfl|rfl|rfl|rfl|rfl|rfl <;> (rw [ByteArray.toList_eq];decide)) (by decide)
 rw [any6] at h
 refine h.mono fun e W' ⟨he,hw⟩=>?_
 subst he hw
 by_cases h0:relT T i=0
 ·rw [if_neg (fun x=>x h0)] at HR ⊢
  exact hno HR
 ·rw [if_pos h0] at HR ⊢
  exact hyes _ (by omega) (by have:=relT_ge h0;omega) (by have:=relL_le (sgT T i).toList;unfold relT;omega) (relT_lt h0) HR
set_option maxHeartbeats 16000000 in
theorem rCmp {T:List TokD} (hT:TksOk T) (fuel:Nat) (ihA:∀ g,g≤fuel→AC T 85 3 .sum g) (ihG:∀ g,g≤fuel→RC T 83 .grp g):RC T 113 .cmp (fuel + 1):=by
 intro W tp tc i HT hi hne
 obtain ⟨r,hr⟩:∃ r,G T (fuel + 1) .cmp i=r:=⟨_,rfl⟩
 rw [hr] at hne ⊢
 have HR:=Lib.hid hr
 clear hr
 have hr:r≠.out:=hne
 have HM:=Lib.hid (Mem.start W)
 have HTk:=Lib.hid HT
 have hT1:=hT.len
 clear hne HT
 simp only [G] at HR
 go_enter Tryz.func113,Tryz.ntmps113
 go_wp2_with (first|(go_at_call 85;refine AC.use (ihA fuel (Nat.le_refl _)) HR.out hr (HM.out.sl HTk.out) (by omega) (by omega) (by simp) (fun hno p c l W2 hl hM2=>?_) (fun l m j hR2 hG p c W2 hM2=>?_);all_goals first|(have hg:=hG.lenc 0 rfl rfl rfl;clear hG;obtain ⟨hL,hF,hJ⟩:=hg;have HR1:=Lib.hid hR2;clear HR hR2;have HR:=HR1;clear HR1;have HM1:=Lib.hid (HM.out.comp2 hM2);clear HM hM2;(try clear W1);rename World=>W1;have HM:=HM1;clear HM1;simp only [List.cons_append,List.nil_append] at HM)|(have HNo:=Lib.hid hno;clear hno HR;have HM1:=Lib.hid (HM.out.comp2 hM2);clear HM hM2;(try clear W1);rename World=>W1;have HM:=HM1;clear HM1;simp only [List.cons_append,List.nil_append] at HM))|((with_reducible refine iat 26 ?_);(refine bsS [⟨#[61]⟩,⟨#[33,61]⟩,⟨#[60]⟩,⟨#[60,61]⟩,⟨#[62]⟩,⟨#[62,61]⟩] rfl HM.out (by first|rfl|simp [Act.eval]) rfl (by decide) ?_;intro g26 W1 HM1;replace HM:=Lib.hid HM1;clear HM1))|(go_at_call 144;refine any6_use HR.out (HM.out.sl HTk.out) (row_sl (box_row (n:=6) (k:=1) (HM.out.get (k:=0) rfl) rfl (by decide))) (by omega) ?_ ?_;all_goals first|(intro y hy hy0 hy5 hlt hR2;simp only [hy] at hR2;clear hy;have d0:decide (0≤y)=true:=decide_eq_true hy0;have HR1:=Lib.hid hR2;clear HR hR2;have HR:=HR1;clear HR1)|(intro hR2;have HR1:=Lib.hid hR2;clear HR hR2;have HR:=HR1;clear HR1))|(go_at_call 146;refine (rTwo _ _ _ _ _ _ _ _ (row_sl (HM.out.get (k:=2) rfl)) (row_sl (HM.out.get (k:=0) rfl)) om om).mono ?_;rintro e W2 ⟨p,c,rfl,hM2⟩;have HM1:=Lib.hid (HM.out.comp2 hM2);clear HM hM2;(try clear W1);rename World=>W1;have HM:=HM1;clear HM1;simp only [List.cons_append,List.nil_append] at HM)|(go_at_call 82;refine is_use HR.out (HM.out.sl HTk.out) (by omega) rfl (by decide) ?_ ?_;all_goals (intro hb hR2;(try have hlt:=isT_lt hb);clear hb;have HR1:=Lib.hid hR2;clear HR hR2;have HR:=HR1;clear HR1))|(go_at_call 83;refine RC.use (ihG fuel (Nat.le_refl _)) HR.out hr (HM.out.sl HTk.out) (by omega) (by omega) (by simp) (fun hno p c l W2 hl hM2=>?_) (fun l m j hR2 hG p c W2 hM2=>?_);all_goals first|(have hg:=hG.lenc 0 rfl rfl rfl;clear hG;obtain ⟨hL,hF,hJ⟩:=hg;have HR1:=Lib.hid hR2;clear HR hR2;have HR:=HR1;clear HR1;have HM1:=Lib.hid (HM.out.comp2 hM2);clear HM hM2;(try clear W1);rename World=>W1;have HM:=HM1;clear HM1;simp only [List.cons_append,List.nil_append] at HM)|(have HNo:=Lib.hid hno;clear hno HR;have HM1:=Lib.hid (HM.out.comp2 hM2);clear HM hM2;(try clear W1);rename World=>W1;have HM:=HM1;clear HM1;simp only [List.cons_append,List.nil_append] at HM))|((with_reducible refine iat 74 ?_);(refine bs0 rfl HM.out ?_;intro g74 W1 HM1;replace HM:=Lib.hid HM1;clear HM1))|((with_reducible refine iat 76 ?_);(refine apN (l:=[]) rfl HM.out 0 rfl rfl rfl rfl (by first|rfl|simp only [List.length_append,List.nil_append,List.length_nil,List.length_cons,Nat.zero_add]) rfl (row_sl (HM.out.get (k:=4) rfl)) om om (by decide) ?_;intro p76 c76 W1 HM1;replace HM:=Lib.hid HM1;clear HM1;simp only [List.set,List.nil_append] at HM))|((with_reducible refine iat 78 ?_);(refine apN rfl HM.out 0 rfl rfl rfl rfl (by first|rfl|simp only [List.length_append,List.nil_append,List.length_nil,List.length_cons,Nat.zero_add]) rfl (row_sl (HM.out.get (k:=2) rfl)) om om (by decide) ?_;intro p78 c78 W1 HM1;replace HM:=Lib.hid HM1;clear HM1;simp only [List.set,List.nil_append] at HM))|((with_reducible refine iat 80 ?_);(refine apN rfl HM.out 0 rfl rfl rfl rfl (by first|rfl|simp only [List.length_append,List.nil_append,List.length_nil,List.length_cons,Nat.zero_add]) rfl (row_sl (HM.out.get (k:=1) rfl)) om om (by decide) ?_;intro p80 c80 W1 HM1;replace HM:=Lib.hid HM1;clear HM1;simp only [List.set,List.nil_append] at HM))|((with_reducible refine iat 83 ?_);(have h5:Sl _ _ ([nOp 22 3].flatMap NodeD.cs):=row_sl (box_row (n:=1) (k:=8) (HM.out.get (k:=0) rfl) rfl (by decide));refine apN (la:=[nOp 22 3]) rfl HM.out 1 rfl rfl rfl rfl (by first|rfl|simp only [List.length_append,List.nil_append,List.length_nil,List.length_cons,Nat.zero_add]) rfl h5 om (by simp) (by decide) ?_;intro p83 c83 W2 HM1;clear h5;clear HM;(try clear W1);rename World=>W1;have HM:=Lib.hid HM1;clear HM1;simp only [List.set,List.nil_append] at HM))|fail|((with_reducible refine skip_op ?_ ?_);exact rfl)|((with_reducible refine ibuildSlice ?_);(first|refine bs0 rfl HM.out ?_|refine bs1A rfl HM.out rfl rfl rfl ?_);intro g1 W1 HM1;replace HM:=Lib.hid HM1;clear HM1))
 all_goals go_ret2
 all_goals (first|exact GPost.okn HR.out (by first|rfl|(simp only [List.length_append,List.length_cons,List.length_nil];omega)) (by first|rfl|omega) (HM.out.sub (.cons _ (.cons_cons _ (List.nil_sublist _))))|exact GPost.okn HR.out (by first|rfl|(simp only [List.length_append,List.length_cons,List.length_nil];omega)) (by first|rfl|omega) (HM.out.sub (.cons_cons _ (List.nil_sublist _)))|exact GPost.no_ HNo.out HM.out.below|exact GPost.no_ HR.out.symm HM.out.below)
set_option maxHeartbeats 8000000 in
theorem rList {T:List TokD} (hT:TksOk T) (fuel:Nat) (ihO:∀ g,g≤fuel→RC T 112 .test g):RC T 84 .tests (fuel + 1):=by
 intro W tp tc i HT hi hne
 obtain ⟨r,hr⟩:∃ r,G T (fuel + 1) .tests i=r:=⟨_,rfl⟩
 rw [hr] at hne ⊢
 have HR:=Lib.hid hr
 clear hr
 have hr:r≠.out:=hne
 have HM:=Lib.hid (Mem.start W)
 have HTk:=Lib.hid HT
 have hT1:=hT.len
 clear hne HT
 simp only [G] at HR
 go_enter Tryz.func84,Tryz.ntmps84
 go_wp2_with fail
 have HM2:=Lib.hid (HM.out.row0 36 8)
 go_loopw [1,7,6] (fun iv nv ov wr=>∃ (g k oc m:Nat) (p:Option Addr) (a:List NodeD),iv = .int .i64 k∧nv = .int .i64 m∧ov = .slice p a.length oc∧g≤fuel∧k≤T.length∧a.length≤k + 1∧m≤k∧Hid (((G T g .test k).bind fun b _ j=>G T g (.testsL (a++b) (m + 1)) j)=r)∧Hid (Mem W wr [.row p oc 36 8 a.length (a.flatMap NodeD.cs)])) (fun iv _ _ _=>T.length - (intOf iv).toNat)
 case atStart=>exact ⟨fuel,i,0,0,none,[],rfl,rfl,rfl,Nat.le_refl _,hi,Nat.zero_le _,Nat.zero_le _,HR,HM2⟩
 case round=>
  clear HM HM2 HR
  obtain ⟨g,k,oc,mq,p,a,rfl,rfl,rfl,hg,hk,hla,hm,HR,HM⟩:=hrel
  cases g with
  | zero=>exact absurd HR.out.symm hr
  | succ g=>
   go_wp2_with (first|(go_at_call 112;refine RC.use (ihO (g + 1) (by omega)) HR.out hr (HM.out.sl HTk.out) (by omega) (by omega) (by simp) (fun hno p c l W2 hl hM2=>?_) (fun l m j hR2 hG p c W2 hM2=>?_);all_goals first|(have hg:=hG.lenc 1 rfl rfl rfl;clear hG;simp only [G] at hR2;obtain ⟨hL,hF,hJ⟩:=hg;have HR1:=Lib.hid hR2;clear HR hR2;have HR:=HR1;clear HR1;have HM1:=Lib.hid (HM.out.comp2 hM2);clear HM hM2;(try clear W1);rename World=>W1;have HM:=HM1;clear HM1;simp only [List.cons_append,List.nil_append] at HM)|(have HNo:=Lib.hid hno;clear hno HR;have HM1:=Lib.hid (HM.out.comp2 hM2);clear HM hM2;(try clear W1);rename World=>W1;have HM:=HM1;clear HM1;simp only [List.cons_append,List.nil_append] at HM))|(go_at_call 82;refine is_use HR.out (HM.out.sl HTk.out) (by omega) rfl (by decide) ?_ ?_;all_goals (intro hb hR2;(try have hlt:=isT_lt hb);clear hb;have HR1:=Lib.hid hR2;clear HR hR2;have HR:=HR1;clear HR1))|((with_reducible refine iat 20 ?_);(refine apN rfl HM.out 1 rfl rfl rfl rfl (by first|rfl|simp only [List.length_append,List.nil_append,List.length_nil,List.length_cons,Nat.zero_add]) rfl (row_sl (HM.out.get (k:=0) rfl)) om om (by decide) ?_;intro p20 c20 W1 HM1;replace HM:=Lib.hid HM1;clear HM1;simp only [List.set,List.nil_append] at HM))|((with_reducible refine iat 31 ?_);(have h5:Sl _ _ ([nOp 36 ((mq:Int) + 1)].flatMap NodeD.cs):=row_sl (box_row (n:=1) (k:=8) (HM.out.get (k:=0) rfl) rfl (by decide));refine apN (la:=[nOp 36 ((mq:Int) + 1)]) rfl HM.out 2 rfl rfl rfl rfl (by first|rfl|simp only [List.length_append,List.nil_append,List.length_nil,List.length_cons,Nat.zero_add]) rfl h5 om (by simp) (by decide) ?_;intro p31 c31 W2 HM1;clear h5;clear HM;(try clear W1);rename World=>W1;have HM:=Lib.hid HM1;clear HM1;simp only [List.set,List.nil_append] at HM))|(refine hbs1A HM rfl rfl rfl rfl ?_;clear HM;intro g1 W1 HM))
   all_goals
    first
     |(go_roundw
       case rel=>exact ⟨g,j + 1,_,mq + 1,_,_,by go_num,by go_num,by simp only [List.length_append],by omega,by omega,by (simp only [List.length_append];omega),by omega,HR,Lib.hid (HM.out.sub (.cons _ (.refl _)))⟩
       case measure=>simp [intOf];omega)
     |(go_ret2;exact GPost.okn HR.out (by first|rfl|(simp only [List.length_append,List.length_cons,List.length_nil];omega)) (by first|rfl|omega) (HM.out.sub (.cons _ (.cons _ (.cons_cons _ (List.nil_sublist _))))))
     |(go_ret2;exact GPost.no_ HNo.out HM.out.below)
end Go.Proofs.YtheimopjglkgjaaGreatDoor
