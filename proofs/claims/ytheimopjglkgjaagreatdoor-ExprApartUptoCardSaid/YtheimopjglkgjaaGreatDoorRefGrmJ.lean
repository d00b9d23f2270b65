/- The reference's grammar: rows of operations. (fast) -/
import Derived.Test.YtheimopjglkgjaaGreatDoorRgG
namespace Go.Proofs.YtheimopjglkgjaaGreatDoor
open Go.RowKit
set_option linter.unusedVariables false
set_option linter.unusedSimpArgs false
set_option maxRecDepth 100000
theorem slice_len {p:Option Addr} {n m c:Nat} (h:n=m):Value.slice p n c=Value.slice p m c:=by rw [h]
def LSt (T:List TokD) (fuel:Nat) (mk:List NodeD→NT) (r:PR) (lo:Nat) (d:Int) (l:List NodeD):Prop:=
 (∃ g k:Nat,d=(k:Int)∧lo≤k∧g≤fuel∧k≤T.length∧l.length≤k∧G T g (mk l) k=r)∨(d = -1∧l.length≤1002∧r = .no)
theorem LSt.mono {T:List TokD} {fuel:Nat} {mk:List NodeD→NT} {r:PR} {lo lo' : Nat} {d:Int} {l:List NodeD} (h:LSt T fuel mk r lo d l) (hl:lo'≤lo):LSt T fuel mk r lo' d l:=by
 rcases h with ⟨g,k,h1,h2,h3⟩|h
 ·exact .inl ⟨g,k,h1,by omega,h3⟩
 ·exact .inr h
theorem LSt.meas {T:List TokD} {fuel:Nat} {mk:List NodeD→NT} {r:PR} {k:Nat} {d:Int} {l:List NodeD} (h:LSt T fuel mk r (k + 1) d l) (hk:k≤T.length):(if d < 0 then 0 else T.length + 1 - d.toNat) < (if (k:Int) < 0 then 0 else T.length + 1 - (k:Int).toNat):=by
 rw [if_neg (show ¬ (k:Int) < 0 by omega)]
 rcases h with ⟨g,k',rfl,h2,h3⟩ | ⟨rfl,h⟩
 ·rw [if_neg (show ¬ (k' : Int) < 0 by omega)]
  omega
 ·rw [if_pos (by decide)]
  omega
theorem AC.useS {T:List TokD} {W:World} {tp:Option Addr} {tc i m fuel g:Nat} {f:FuncId} {N:NT} {r:PR} {K:Ending→World→Prop} {d lv:Int} {mk:List NodeD→NT} {fl:List NodeD→List NodeD} (h:AC T f lv N g) (HR:(G T g N i).bind (fun b _ j=>G T g (mk (fl b)) j)=r) (hr:r≠.out) (HT:Sl W tp (T.flatMap TokD.cs)) (hd:d=(i:Int)) (hi:i≤T.length) (hN:N≠.unary) (hN1:N.acc=[]) (hN2:N.slk=0) (hN3:N.pg=1) (hfl:∀ b,(fl b).length=m + b.length) (hm:m≤i) (hm1:m≤1001) (hg:g≤fuel)
  (hok:∀ (p:Option Addr) (c:Nat) (b:List NodeD) (e:Int) (W' : World),b.length≤T.length + 1→LSt T fuel mk r (i + 1) e (fl b)→Mem W W' [.row p c 36 8 b.length (b.flatMap NodeD.cs)]→K (.returned (.tuple #[.slice p b.length c,.int .i64 e])) W') :
  Calls Tryz.prog f #[.slice tp T.length tc,.int .i64 d,.int .i64 lv] W K:=by
 refine h.use HR hr HT hd hi hN (fun hno p c l W' hl hM=>?_) (fun l m' j hk hG p c W' hM=>?_)
 ·exact hok p c l (-1) W' (by omega) (.inr ⟨rfl,by rw [hfl];omega,hno⟩) hM
 ·have hg':=hG.lenc 0 hN1 hN2 hN3
  have hlen:=hG.len
  rw [hN1,hN2,List.length_nil] at hlen
  have h1:=hG.from_
  rw [hN3] at h1
  have h2:=hG.to_
  exact hok p c l j W' (by omega) (.inl ⟨g,j,rfl,by omega,hg,h2,by rw [hfl];omega,hk⟩) hM
theorem any1s_use {T:List TokD} {W:World} {tp lp:Option Addr} {tc lc i:Nat} {r A B:PR} {K:Ending→World→Prop} {d:Int} {x:ByteArray} {s:List UInt8} (HR:(if isT T i s=true then A else B)=r) (HT:Sl W tp (T.flatMap TokD.cs)) (HL:Sl W lp (([x]:List ByteArray).flatMap strC)) (hd:d=(i:Int)) (hs:x.data.toList=s) (hn:s≠[])
  (hyes:isT T i s=true→A=r→K (.returned (.int .i64 0)) W) (hno:isT T i s=false→B=r→K (.returned (.int .i64 (-1))) W) :
  Calls Tryz.prog 144 #[.slice tp T.length tc,.int .i64 d,.slice lp 1 lc] W K:=by
 subst hd
 have h:=rAny1 T tp lp tc lc i [x] W HT HL (by
  intro y hy
  rw [List.mem_singleton.1 hy,toList_of hs]
  exact hn) (by simp)
 refine h.mono fun e W' ⟨he,hw⟩=>?_
 subst he hw
 simp only [anyF]
 rw [toList_of hs]
 cases hb:isT T i s with
 | true=>rw [hb] at HR;exact hyes hb HR
 | false=>rw [hb] at HR;exact hno hb HR
theorem any1_2 {T:List TokD} {W:World} {tp lp:Option Addr} {tc lc i:Nat} {v:Int} {x y:ByteArray} {s s2:List UInt8} (hv:(if isT T i s=true then 0 else if isT T i s2=true then 1 else -1)=v) (HT:Sl W tp (T.flatMap TokD.cs)) (HL:Sl W lp (([x,y]:List ByteArray).flatMap strC)) (hs:x.data.toList=s) (hn:s≠[]) (hs2:y.data.toList=s2) (hn2:s2≠[]) :
  Calls Tryz.prog 144 #[.slice tp T.length tc,.int .i64 i,.slice lp 2 lc] W fun e w'=>e = .returned (.int .i64 v)∧W=w':=by
 have h:=rAny1 T tp lp tc lc i [x,y] W HT HL (by
  intro z hz
  simp only [List.mem_cons,List.not_mem_nil,or_false] at hz
  rcases hz with rfl|rfl
  ·rw [toList_of hs];exact hn
  ·rw [toList_of hs2];exact hn2) (by simp)
 have e:anyF T i [x,y] 0=v:=by
  rw [← hv]
  simp only [anyF]
  rw [toList_of hs,toList_of hs2]
  split
  ·rfl
  ·split <;> rfl
 rw [e] at h
 exact h
set_option maxHeartbeats 8000000 in
theorem rRow0 {T:List TokD} (hT:TksOk T) (fuel:Nat) (ihA:∀ g,g≤fuel→AC T 85 1 .and g):AC T 115 0 .or (fuel + 1):=by
 intro W tp tc i HT hi hne
 obtain ⟨r,hr⟩:∃ r,G T (fuel + 1) .or i=r:=⟨_,rfl⟩
 rw [hr] at hne ⊢
 have HR:=Lib.hid hr
 clear hr
 have hr:r≠.out:=hne
 have HM:=Lib.hid (Mem.start W)
 have HTk:=Lib.hid HT
 have hT1:=hT.len
 clear hne HT
 simp only [G] at HR
 go_enter Tryz.func115,Tryz.ntmps115
 go_wp2_with (first|((with_reducible refine iat 14 ?_);(refine bsS [⟨#[111,114]⟩] rfl HM.out (by first|rfl|simp [Act.eval]) rfl (by decide) ?_;intro g14 W1 HM1;replace HM:=Lib.hid HM1;clear HM1))|(go_at_call 85;refine AC.useS (mk:=fun a=>.orL a) (fl:=fun b=>b) (m:=0) (fuel:=fuel) (ihA fuel (Nat.le_refl _)) HR.out hr (HM.out.sl HTk.out) (by omega) (by omega) (by simp) rfl rfl rfl (fun b=>(Nat.zero_add _).symm) (by omega) (by omega) (by omega) (fun pb cb b e W2 hb hS hM2=>?_);have HS:=Lib.hid hS;clear hS HR;have HM1:=Lib.hid (HM.out.comp2 hM2);clear HM hM2;(try clear W1);rename World=>W1;have HM:=HM1;clear HM1;simp only [List.cons_append,List.nil_append] at HM))
 go_loopw [10,1] (fun av iv wr=>∃ (p:Option Addr) (c:Nat) (l:List NodeD) (d:Int),av = .slice p l.length c∧iv = .int .i64 d∧Hid (LSt T fuel (fun a=>.orL a) r 0 d l)∧Hid (Mem W wr [.row p c 36 8 l.length (l.flatMap NodeD.cs),.box g14 9 (([⟨#[111,114]⟩]:List ByteArray).flatMap strC)])) (fun _ iv _=>if intOf iv < 0 then 0 else T.length + 1 - (intOf iv).toNat)
 case atStart=>exact ⟨pb,cb,b,e,rfl,rfl,Lib.hid (HS.out.mono (Nat.zero_le _)),Lib.hid (HM.out.sub (.refl _))⟩
 case round=>
  clear HM HS
  obtain ⟨p,c,l,d,rfl,rfl,HS,HM⟩:=hrel
  rcases HS.out with ⟨g,k,rfl,-,hg,hk,hl,HR1⟩ | ⟨rfl,hl,hno⟩
  ·clear HS
   cases g with
   | zero=>exact absurd HR1.symm hr
   | succ g=>
    simp only [G] at HR1
    have HR:=Lib.hid HR1
    clear HR1
    go_wp2_with (first|(go_at_call 144;refine any1s_use HR.out (HM.out.sl HTk.out) (row_sl (box_row (n:=1) (k:=1) (HM.out.get (k:=1) rfl) rfl (by decide))) (by omega) rfl (by decide) ?_ ?_;all_goals (intro hb hR2;(try have hlt:=isT_lt hb);clear hb;have HR1:=Lib.hid hR2;clear HR hR2;have HR:=HR1;clear HR1))|(go_at_call 85;refine AC.useS (mk:=fun a=>.orL a) (fl:=fun b=>l++b++[nOp 20 2]) (m:=l.length + 1) (fuel:=fuel) (ihA g (by omega)) HR.out hr (HM.out.sl HTk.out) (by omega) (by omega) (by simp) rfl rfl rfl (fun b=>by simp only [List.length_append,List.length_cons,List.length_nil];omega) (by omega) (by omega) (by omega) (fun pb cb b e W2 hb hS hM2=>?_);have HS:=Lib.hid hS;clear hS HR;have HM1:=Lib.hid (HM.out.comp2 hM2);clear HM hM2;(try clear W1);rename World=>W1;have HM:=HM1;clear HM1;simp only [List.cons_append,List.nil_append] at HM)|(go_at_call 146;refine (rTwo _ _ _ _ _ _ 20 _ (row_sl (HM.out.get (k:=1) rfl)) (row_sl (HM.out.get (k:=0) rfl)) (by omega) (by omega)).mono ?_;rintro e W2 ⟨p2,c2,rfl,hM2⟩;have HM1:=Lib.hid (HM.out.comp2 hM2);clear HM hM2;(try clear W1);rename World=>W1;have HM:=HM1;clear HM1;simp only [List.cons_append,List.nil_append] at HM)|((with_reducible refine ibuildSlice ?_);refine bs1c (v:=.string _) rfl HM.out rfl rfl ?_;intro g1 W1 HM1;replace HM:=Lib.hid HM1;clear HM1))
    all_goals first
     |(go_roundw
       case rel=>exact ⟨p2,c2,l++b++[nOp 20 2],e,slice_len (by simp only [List.length_append,List.length_cons,List.length_nil];omega),rfl,Lib.hid (HS.out.mono (Nat.zero_le _)),Lib.hid (HM.out.sub (.cons_cons _ (.cons _ (.cons _ (.refl _)))))⟩
       case measure=>exact (HS.out.mono (Nat.le_succ (k + 1))).meas hk)
     |(go_ret2;exact GPost.okn HR.out rfl rfl (HM.out.sub (.cons_cons _ (List.nil_sublist _))))
  ·go_wp2_with fail
   first|go_ret|go_ret2
   exact GPost.no_ hno HM.out.below
set_option maxHeartbeats 8000000 in
theorem rRow1 {T:List TokD} (hT:TksOk T) (fuel:Nat) (ihA:∀ g,g≤fuel→AC T 85 2 .cmp g):AC T 115 1 .and (fuel + 1):=by
 intro W tp tc i HT hi hne
 obtain ⟨r,hr⟩:∃ r,G T (fuel + 1) .and i=r:=⟨_,rfl⟩
 rw [hr] at hne ⊢
 have HR:=Lib.hid hr
 clear hr
 have hr:r≠.out:=hne
 have HM:=Lib.hid (Mem.start W)
 have HTk:=Lib.hid HT
 have hT1:=hT.len
 clear hne HT
 simp only [G] at HR
 go_enter Tryz.func115,Tryz.ntmps115
 go_wp2_with (first|((with_reducible refine iat 14 ?_);(refine bsS [⟨#[111,114]⟩] rfl HM.out (by first|rfl|simp [Act.eval]) rfl (by decide) ?_;intro g14 W1 HM1;replace HM:=Lib.hid HM1;clear HM1))|((with_reducible refine iat 18 ?_);(refine bsS [⟨#[97,110,100]⟩] rfl HM.out (by first|rfl|simp [Act.eval]) rfl (by decide) ?_;intro g18 W1 HM1;replace HM:=Lib.hid HM1;clear HM1))|(go_at_call 85;refine AC.useS (mk:=fun a=>.andL a) (fl:=fun b=>b) (m:=0) (fuel:=fuel) (ihA fuel (Nat.le_refl _)) HR.out hr (HM.out.sl HTk.out) (by omega) (by omega) (by simp) rfl rfl rfl (fun b=>(Nat.zero_add _).symm) (by omega) (by omega) (by omega) (fun pb cb b e W2 hb hS hM2=>?_);have HS:=Lib.hid hS;clear hS HR;have HM1:=Lib.hid (HM.out.comp2 hM2);clear HM hM2;(try clear W1);rename World=>W1;have HM:=HM1;clear HM1;simp only [List.cons_append,List.nil_append] at HM))
 go_loopw [10,1] (fun av iv wr=>∃ (p:Option Addr) (c:Nat) (l:List NodeD) (d:Int),av = .slice p l.length c∧iv = .int .i64 d∧Hid (LSt T fuel (fun a=>.andL a) r 0 d l)∧Hid (Mem W wr [.row p c 36 8 l.length (l.flatMap NodeD.cs),.box g18 9 (([⟨#[97,110,100]⟩]:List ByteArray).flatMap strC)])) (fun _ iv _=>if intOf iv < 0 then 0 else T.length + 1 - (intOf iv).toNat)
 case atStart=>exact ⟨pb,cb,b,e,rfl,rfl,Lib.hid (HS.out.mono (Nat.zero_le _)),Lib.hid (HM.out.sub (.cons_cons _ (.cons_cons _ (List.nil_sublist _))))⟩
 case round=>
  clear HM HS
  obtain ⟨p,c,l,d,rfl,rfl,HS,HM⟩:=hrel
  rcases HS.out with ⟨g,k,rfl,-,hg,hk,hl,HR1⟩ | ⟨rfl,hl,hno⟩
  ·clear HS
   cases g with
   | zero=>exact absurd HR1.symm hr
   | succ g=>
    simp only [G] at HR1
    have HR:=Lib.hid HR1
    clear HR1
    go_wp2_with (first|(go_at_call 144;refine any1s_use HR.out (HM.out.sl HTk.out) (row_sl (box_row (n:=1) (k:=1) (HM.out.get (k:=1) rfl) rfl (by decide))) (by omega) rfl (by decide) ?_ ?_;all_goals (intro hb hR2;(try have hlt:=isT_lt hb);clear hb;have HR1:=Lib.hid hR2;clear HR hR2;have HR:=HR1;clear HR1))|(go_at_call 85;refine AC.useS (mk:=fun a=>.andL a) (fl:=fun b=>l++b++[nOp 19 2]) (m:=l.length + 1) (fuel:=fuel) (ihA g (by omega)) HR.out hr (HM.out.sl HTk.out) (by omega) (by omega) (by simp) rfl rfl rfl (fun b=>by simp only [List.length_append,List.length_cons,List.length_nil];omega) (by omega) (by omega) (by omega) (fun pb cb b e W2 hb hS hM2=>?_);have HS:=Lib.hid hS;clear hS HR;have HM1:=Lib.hid (HM.out.comp2 hM2);clear HM hM2;(try clear W1);rename World=>W1;have HM:=HM1;clear HM1;simp only [List.cons_append,List.nil_append] at HM)|(go_at_call 146;refine (rTwo _ _ _ _ _ _ 19 _ (row_sl (HM.out.get (k:=1) rfl)) (row_sl (HM.out.get (k:=0) rfl)) (by omega) (by omega)).mono ?_;rintro e W2 ⟨p2,c2,rfl,hM2⟩;have HM1:=Lib.hid (HM.out.comp2 hM2);clear HM hM2;(try clear W1);rename World=>W1;have HM:=HM1;clear HM1;simp only [List.cons_append,List.nil_append] at HM)|((with_reducible refine ibuildSlice ?_);refine bs1c (v:=.string _) rfl HM.out rfl rfl ?_;intro g1 W1 HM1;replace HM:=Lib.hid HM1;clear HM1))
    all_goals first
     |(go_roundw
       case rel=>exact ⟨p2,c2,l++b++[nOp 19 2],e,slice_len (by simp only [List.length_append,List.length_cons,List.length_nil];omega),rfl,Lib.hid (HS.out.mono (Nat.zero_le _)),Lib.hid (HM.out.sub (.cons_cons _ (.cons _ (.cons _ (.refl _)))))⟩
       case measure=>exact (HS.out.mono (Nat.le_succ (k + 1))).meas hk)
     |(go_ret2;exact GPost.okn HR.out rfl rfl (HM.out.sub (.cons_cons _ (List.nil_sublist _))))
  ·go_wp2_with fail
   first|go_ret|go_ret2
   exact GPost.no_ hno HM.out.below
set_option maxHeartbeats 8000000 in
theorem rRow3 {T:List TokD} (hT:TksOk T) (fuel:Nat) (ihA:∀ g,g≤fuel→AC T 85 4 .prod g):AC T 115 3 .sum (fuel + 1):=by
 intro W tp tc i HT hi hne
 obtain ⟨r,hr⟩:∃ r,G T (fuel + 1) .sum i=r:=⟨_,rfl⟩
 rw [hr] at hne ⊢
 have HR:=Lib.hid hr
 clear hr
 have hr:r≠.out:=hne
 have HM:=Lib.hid (Mem.start W)
 have HTk:=Lib.hid HT
 have hT1:=hT.len
 clear hne HT
 simp only [G] at HR
 go_enter Tryz.func115,Tryz.ntmps115
 go_wp2_with (first|((with_reducible refine iat 14 ?_);(refine bsS [⟨#[111,114]⟩] rfl HM.out (by first|rfl|simp [Act.eval]) rfl (by decide) ?_;intro g14 W1 HM1;replace HM:=Lib.hid HM1;clear HM1))|((with_reducible refine iat 21 ?_);(refine bsS [⟨#[43]⟩,⟨#[45]⟩] rfl HM.out (by first|rfl|simp [Act.eval]) rfl (by decide) ?_;intro g21 W1 HM1;replace HM:=Lib.hid HM1;clear HM1))|(go_at_call 85;refine AC.useS (mk:=fun a=>.sumL a) (fl:=fun b=>b) (m:=0) (fuel:=fuel) (ihA fuel (Nat.le_refl _)) HR.out hr (HM.out.sl HTk.out) (by omega) (by omega) (by simp) rfl rfl rfl (fun b=>(Nat.zero_add _).symm) (by omega) (by omega) (by omega) (fun pb cb b e W2 hb hS hM2=>?_);have HS:=Lib.hid hS;clear hS HR;have HM1:=Lib.hid (HM.out.comp2 hM2);clear HM hM2;(try clear W1);rename World=>W1;have HM:=HM1;clear HM1;simp only [List.cons_append,List.nil_append] at HM))
 go_loopw [10,1] (fun av iv wr=>∃ (p:Option Addr) (c:Nat) (l:List NodeD) (d:Int),av = .slice p l.length c∧iv = .int .i64 d∧Hid (LSt T fuel (fun a=>.sumL a) r 0 d l)∧Hid (Mem W wr [.row p c 36 8 l.length (l.flatMap NodeD.cs),.box g21 9 (([⟨#[43]⟩,⟨#[45]⟩]:List ByteArray).flatMap strC)])) (fun _ iv _=>if intOf iv < 0 then 0 else T.length + 1 - (intOf iv).toNat)
 case atStart=>exact ⟨pb,cb,b,e,rfl,rfl,Lib.hid (HS.out.mono (Nat.zero_le _)),Lib.hid (HM.out.sub (.cons_cons _ (.cons_cons _ (List.nil_sublist _))))⟩
 case round=>
  clear HM HS
  obtain ⟨p,c,l,d,rfl,rfl,HS,HM⟩:=hrel
  rcases HS.out with ⟨g,k,rfl,-,hg,hk,hl,HR1⟩ | ⟨rfl,hl,hno⟩
  ·clear HS
   cases g with
   | zero=>exact absurd HR1.symm hr
   | succ g=>
    simp only [G] at HR1
    by_cases h1:isT T k [43]=true
    ·rw [if_pos h1] at HR1
     have HR:=Lib.hid HR1
     have HV:=Lib.hid (show (if isT T k [43]=true then (0:Int) else if isT T k [45]=true then 1 else -1)=0 from if_pos h1)
     have hlt:=isT_lt h1
     clear HR1 h1
     go_wp2_with (first|(go_at_call 144;(with_reducible refine (any1_2 HV.out (HM.out.sl HTk.out) (row_sl (box_row (n:=2) (k:=1) (HM.out.get (k:=1) rfl) rfl (by decide))) rfl (by decide) rfl (by decide)).mono ?_);rintro e W2 ⟨rfl,rfl⟩)|(go_at_call 85;refine AC.useS (mk:=fun a=>.sumL a) (fl:=fun b=>l++b++[nOp 9 2]) (m:=l.length + 1) (fuel:=fuel) (ihA g (by omega)) HR.out hr (HM.out.sl HTk.out) (by omega) (by omega) (by simp) rfl rfl rfl (fun b=>by simp only [List.length_append,List.length_cons,List.length_nil];omega) (by omega) (by omega) (by omega) (fun pb cb b e W2 hb hS hM2=>?_);have HS:=Lib.hid hS;clear hS HR;have HM1:=Lib.hid (HM.out.comp2 hM2);clear HM hM2;(try clear W1);rename World=>W1;have HM:=HM1;clear HM1;simp only [List.cons_append,List.nil_append] at HM)|(go_at_call 146;refine (rTwo _ _ _ _ _ _ 9 _ (row_sl (HM.out.get (k:=1) rfl)) (row_sl (HM.out.get (k:=0) rfl)) (by omega) (by omega)).mono ?_;rintro e W2 ⟨p2,c2,rfl,hM2⟩;have HM1:=Lib.hid (HM.out.comp2 hM2);clear HM hM2;(try clear W1);rename World=>W1;have HM:=HM1;clear HM1;simp only [List.cons_append,List.nil_append] at HM)|((with_reducible refine ibuildSlice ?_);refine bs1c (v:=.string _) rfl HM.out rfl rfl ?_;intro g1 W1 HM1;replace HM:=Lib.hid HM1;clear HM1))
     go_roundw
     case rel=>exact ⟨p2,c2,l++b++[nOp 9 2],e,slice_len (by simp only [List.length_append,List.length_cons,List.length_nil];omega),rfl,Lib.hid (HS.out.mono (Nat.zero_le _)),Lib.hid (HM.out.sub (.cons_cons _ (.cons _ (.cons _ (.refl _)))))⟩
     case measure=>exact (HS.out.mono (Nat.le_succ (k + 1))).meas hk
    rw [if_neg h1] at HR1
    by_cases h2:isT T k [45]=true
    ·rw [if_pos h2] at HR1
     have HR:=Lib.hid HR1
     have HV:=Lib.hid (show (if isT T k [43]=true then (0:Int) else if isT T k [45]=true then 1 else -1)=1 by rw [if_neg h1,if_pos h2])
     have hlt:=isT_lt h2
     clear HR1 h1 h2
     go_wp2_with (first|(go_at_call 144;(with_reducible refine (any1_2 HV.out (HM.out.sl HTk.out) (row_sl (box_row (n:=2) (k:=1) (HM.out.get (k:=1) rfl) rfl (by decide))) rfl (by decide) rfl (by decide)).mono ?_);rintro e W2 ⟨rfl,rfl⟩)|(go_at_call 85;refine AC.useS (mk:=fun a=>.sumL a) (fl:=fun b=>l++b++[nOp 10 2]) (m:=l.length + 1) (fuel:=fuel) (ihA g (by omega)) HR.out hr (HM.out.sl HTk.out) (by omega) (by omega) (by simp) rfl rfl rfl (fun b=>by simp only [List.length_append,List.length_cons,List.length_nil];omega) (by omega) (by omega) (by omega) (fun pb cb b e W2 hb hS hM2=>?_);have HS:=Lib.hid hS;clear hS HR;have HM1:=Lib.hid (HM.out.comp2 hM2);clear HM hM2;(try clear W1);rename World=>W1;have HM:=HM1;clear HM1;simp only [List.cons_append,List.nil_append] at HM)|(go_at_call 146;refine (rTwo _ _ _ _ _ _ 10 _ (row_sl (HM.out.get (k:=1) rfl)) (row_sl (HM.out.get (k:=0) rfl)) (by omega) (by omega)).mono ?_;rintro e W2 ⟨p2,c2,rfl,hM2⟩;have HM1:=Lib.hid (HM.out.comp2 hM2);clear HM hM2;(try clear W1);rename World=>W1;have HM:=HM1;clear HM1;simp only [List.cons_append,List.nil_append] at HM)|((with_reducible refine ibuildSlice ?_);refine bs1c (v:=.string _) rfl HM.out rfl rfl ?_;intro g1 W1 HM1;replace HM:=Lib.hid HM1;clear HM1))
     go_roundw
     case rel=>exact ⟨p2,c2,l++b++[nOp 10 2],e,slice_len (by simp only [List.length_append,List.length_cons,List.length_nil];omega),rfl,Lib.hid (HS.out.mono (Nat.zero_le _)),Lib.hid (HM.out.sub (.cons_cons _ (.cons _ (.cons _ (.refl _)))))⟩
     case measure=>exact (HS.out.mono (Nat.le_succ (k + 1))).meas hk
    ·rw [if_neg h2] at HR1
     have HR:=Lib.hid HR1
     have HV:=Lib.hid (show (if isT T k [43]=true then (0:Int) else if isT T k [45]=true then 1 else -1) = -1 by rw [if_neg h1,if_neg h2])
     clear HR1 h1 h2
     go_wp2_with (first|(go_at_call 144;(with_reducible refine (any1_2 HV.out (HM.out.sl HTk.out) (row_sl (box_row (n:=2) (k:=1) (HM.out.get (k:=1) rfl) rfl (by decide))) rfl (by decide) rfl (by decide)).mono ?_);rintro e W2 ⟨rfl,rfl⟩)|((with_reducible refine ibuildSlice ?_);refine bs1c (v:=.string _) rfl HM.out rfl rfl ?_;intro g1 W1 HM1;replace HM:=Lib.hid HM1;clear HM1))
     first|go_ret2|go_ret
     exact GPost.okn HR.out rfl rfl (HM.out.sub (.cons_cons _ (List.nil_sublist _)))
  ·go_wp2_with fail
   first|go_ret|go_ret2
   exact GPost.no_ hno HM.out.below
set_option maxHeartbeats 8000000 in
theorem rRow4 {T:List TokD} (hT:TksOk T) (fuel:Nat) (ihA:∀ g,g≤fuel→AC T 85 5 .sgn g):AC T 115 4 .prod (fuel + 1):=by
 intro W tp tc i HT hi hne
 obtain ⟨r,hr⟩:∃ r,G T (fuel + 1) .prod i=r:=⟨_,rfl⟩
 rw [hr] at hne ⊢
 have HR:=Lib.hid hr
 clear hr
 have hr:r≠.out:=hne
 have HM:=Lib.hid (Mem.start W)
 have HTk:=Lib.hid HT
 have hT1:=hT.len
 clear hne HT
 simp only [G] at HR
 go_enter Tryz.func115,Tryz.ntmps115
 go_wp2_with (first|((with_reducible refine iat 14 ?_);(refine bsS [⟨#[111,114]⟩] rfl HM.out (by first|rfl|simp [Act.eval]) rfl (by decide) ?_;intro g14 W1 HM1;replace HM:=Lib.hid HM1;clear HM1))|((with_reducible refine iat 24 ?_);(refine bsS [⟨#[42]⟩,⟨#[47]⟩] rfl HM.out (by first|rfl|simp [Act.eval]) rfl (by decide) ?_;intro g24 W1 HM1;replace HM:=Lib.hid HM1;clear HM1))|(go_at_call 85;refine AC.useS (mk:=fun a=>.prodL a) (fl:=fun b=>b) (m:=0) (fuel:=fuel) (ihA fuel (Nat.le_refl _)) HR.out hr (HM.out.sl HTk.out) (by omega) (by omega) (by simp) rfl rfl rfl (fun b=>(Nat.zero_add _).symm) (by omega) (by omega) (by omega) (fun pb cb b e W2 hb hS hM2=>?_);have HS:=Lib.hid hS;clear hS HR;have HM1:=Lib.hid (HM.out.comp2 hM2);clear HM hM2;(try clear W1);rename World=>W1;have HM:=HM1;clear HM1;simp only [List.cons_append,List.nil_append] at HM))
 go_loopw [10,1] (fun av iv wr=>∃ (p:Option Addr) (c:Nat) (l:List NodeD) (d:Int),av = .slice p l.length c∧iv = .int .i64 d∧Hid (LSt T fuel (fun a=>.prodL a) r 0 d l)∧Hid (Mem W wr [.row p c 36 8 l.length (l.flatMap NodeD.cs),.box g24 9 (([⟨#[42]⟩,⟨#[47]⟩]:List ByteArray).flatMap strC)])) (fun _ iv _=>if intOf iv < 0 then 0 else T.length + 1 - (intOf iv).toNat)
 case atStart=>exact ⟨pb,cb,b,e,rfl,rfl,Lib.hid (HS.out.mono (Nat.zero_le _)),Lib.hid (HM.out.sub (.cons_cons _ (.cons_cons _ (List.nil_sublist _))))⟩
 case round=>
  clear HM HS
  obtain ⟨p,c,l,d,rfl,rfl,HS,HM⟩:=hrel
  rcases HS.out with ⟨g,k,rfl,-,hg,hk,hl,HR1⟩ | ⟨rfl,hl,hno⟩
  ·clear HS
   cases g with
   | zero=>exact absurd HR1.symm hr
   | succ g=>
    simp only [G] at HR1
    by_cases h1:isT T k [42]=true
    ·rw [if_pos h1] at HR1
     have HR:=Lib.hid HR1
     have HV:=Lib.hid (show (if isT T k [42]=true then (0:Int) else if isT T k [47]=true then 1 else -1)=0 from if_pos h1)
     have hlt:=isT_lt h1
     clear HR1 h1
     go_wp2_with (first|(go_at_call 144;(with_reducible refine (any1_2 HV.out (HM.out.sl HTk.out) (row_sl (box_row (n:=2) (k:=1) (HM.out.get (k:=1) rfl) rfl (by decide))) rfl (by decide) rfl (by decide)).mono ?_);rintro e W2 ⟨rfl,rfl⟩)|(go_at_call 85;refine AC.useS (mk:=fun a=>.prodL a) (fl:=fun b=>l++b++[nOp 11 2]) (m:=l.length + 1) (fuel:=fuel) (ihA g (by omega)) HR.out hr (HM.out.sl HTk.out) (by omega) (by omega) (by simp) rfl rfl rfl (fun b=>by simp only [List.length_append,List.length_cons,List.length_nil];omega) (by omega) (by omega) (by omega) (fun pb cb b e W2 hb hS hM2=>?_);have HS:=Lib.hid hS;clear hS HR;have HM1:=Lib.hid (HM.out.comp2 hM2);clear HM hM2;(try clear W1);rename World=>W1;have HM:=HM1;clear HM1;simp only [List.cons_append,List.nil_append] at HM)|(go_at_call 146;refine (rTwo _ _ _ _ _ _ 11 _ (row_sl (HM.out.get (k:=1) rfl)) (row_sl (HM.out.get (k:=0) rfl)) (by omega) (by omega)).mono ?_;rintro e W2 ⟨p2,c2,rfl,hM2⟩;have HM1:=Lib.hid (HM.out.comp2 hM2);clear HM hM2;(try clear W1);rename World=>W1;have HM:=HM1;clear HM1;simp only [List.cons_append,List.nil_append] at HM)|((with_reducible refine ibuildSlice ?_);refine bs1c (v:=.string _) rfl HM.out rfl rfl ?_;intro g1 W1 HM1;replace HM:=Lib.hid HM1;clear HM1))
     go_roundw
     case rel=>exact ⟨p2,c2,l++b++[nOp 11 2],e,slice_len (by simp only [List.length_append,List.length_cons,List.length_nil];omega),rfl,Lib.hid (HS.out.mono (Nat.zero_le _)),Lib.hid (HM.out.sub (.cons_cons _ (.cons _ (.cons _ (.refl _)))))⟩
     case measure=>exact (HS.out.mono (Nat.le_succ (k + 1))).meas hk
    rw [if_neg h1] at HR1
    by_cases h2:isT T k [47]=true
    ·rw [if_pos h2] at HR1
     have HR:=Lib.hid HR1
     have HV:=Lib.hid (show (if isT T k [42]=true then (0:Int) else if isT T k [47]=true then 1 else -1)=1 by rw [if_neg h1,if_pos h2])
     have hlt:=isT_lt h2
     clear HR1 h1 h2
     go_wp2_with (first|(go_at_call 144;(with_reducible refine (any1_2 HV.out (HM.out.sl HTk.out) (row_sl (box_row (n:=2) (k:=1) (HM.out.get (k:=1) rfl) rfl (by decide))) rfl (by decide) rfl (by decide)).mono ?_);rintro e W2 ⟨rfl,rfl⟩)|(go_at_call 85;refine AC.useS (mk:=fun a=>.prodL a) (fl:=fun b=>l++b++[nOp 12 2]) (m:=l.length + 1) (fuel:=fuel) (ihA g (by omega)) HR.out hr (HM.out.sl HTk.out) (by omega) (by omega) (by simp) rfl rfl rfl (fun b=>by simp only [List.length_append,List.length_cons,List.length_nil];omega) (by omega) (by omega) (by omega) (fun pb cb b e W2 hb hS hM2=>?_);have HS:=Lib.hid hS;clear hS HR;have HM1:=Lib.hid (HM.out.comp2 hM2);clear HM hM2;(try clear W1);rename World=>W1;have HM:=HM1;clear HM1;simp only [List.cons_append,List.nil_append] at HM)|(go_at_call 146;refine (rTwo _ _ _ _ _ _ 12 _ (row_sl (HM.out.get (k:=1) rfl)) (row_sl (HM.out.get (k:=0) rfl)) (by omega) (by omega)).mono ?_;rintro e W2 ⟨p2,c2,rfl,hM2⟩;have HM1:=Lib.hid (HM.out.comp2 hM2);clear HM hM2;(try clear W1);rename World=>W1;have HM:=HM1;clear HM1;simp only [List.cons_append,List.nil_append] at HM)|((with_reducible refine ibuildSlice ?_);refine bs1c (v:=.string _) rfl HM.out rfl rfl ?_;intro g1 W1 HM1;replace HM:=Lib.hid HM1;clear HM1))
     go_roundw
     case rel=>exact ⟨p2,c2,l++b++[nOp 12 2],e,slice_len (by simp only [List.length_append,List.length_cons,List.length_nil];omega),rfl,Lib.hid (HS.out.mono (Nat.zero_le _)),Lib.hid (HM.out.sub (.cons_cons _ (.cons _ (.cons _ (.refl _)))))⟩
     case measure=>exact (HS.out.mono (Nat.le_succ (k + 1))).meas hk
    ·rw [if_neg h2] at HR1
     have HR:=Lib.hid HR1
     have HV:=Lib.hid (show (if isT T k [42]=true then (0:Int) else if isT T k [47]=true then 1 else -1) = -1 by rw [if_neg h1,if_neg h2])
     clear HR1 h1 h2
     go_wp2_with (first|(go_at_call 144;(with_reducible refine (any1_2 HV.out (HM.out.sl HTk.out) (row_sl (box_row (n:=2) (k:=1) (HM.out.get (k:=1) rfl) rfl (by decide))) rfl (by decide) rfl (by decide)).mono ?_);rintro e W2 ⟨rfl,rfl⟩)|((with_reducible refine ibuildSlice ?_);refine bs1c (v:=.string _) rfl HM.out rfl rfl ?_;intro g1 W1 HM1;replace HM:=Lib.hid HM1;clear HM1))
     first|go_ret2|go_ret
     exact GPost.okn HR.out rfl rfl (HM.out.sub (.cons_cons _ (List.nil_sublist _)))
  ·go_wp2_with fail
   first|go_ret|go_ret2
   exact GPost.no_ hno HM.out.below
end Go.Proofs.YtheimopjglkgjaaGreatDoor
