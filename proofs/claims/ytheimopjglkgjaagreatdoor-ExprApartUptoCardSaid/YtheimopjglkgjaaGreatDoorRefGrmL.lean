/- The reference's grammar: signed. (fast) -/
import Derived.Test.YtheimopjglkgjaaGreatDoorRefGrmK
namespace Go.Proofs.YtheimopjglkgjaaGreatDoor
open Go.RowKit
set_option linter.unusedVariables false
set_option linter.unusedSimpArgs false
set_option maxRecDepth 100000
theorem RC.useS {T:List TokD} {W:World} {tp:Option Addr} {tc i m fuel g:Nat} {f:FuncId} {N:NT} {r:PR} {K:Ending→World→Prop} {d:Int} {mk:List NodeD→NT} {fl:List NodeD→List NodeD} (h:RC T f N g) (HR:(G T g N i).bind (fun b _ j=>G T g (mk (fl b)) j)=r) (hr:r≠.out) (HT:Sl W tp (T.flatMap TokD.cs)) (hd:d=(i:Int)) (hi:i≤T.length) (hN:N≠.unary) (hN1:N.acc=[]) (hN2:N.slk=0) (hN3:N.pg=1) (hfl:∀ b,(fl b).length=m + b.length) (hm:m≤i) (hm1:m≤1001) (hg:g≤fuel)
  (hok:∀ (p:Option Addr) (c:Nat) (b:List NodeD) (e:Int) (W' : World),b.length≤T.length + 1→(e < 0→b.length≤1)→LSt T fuel mk r (i + 1) e (fl b)→Mem W W' [.row p c 36 8 b.length (b.flatMap NodeD.cs)]→K (.returned (.tuple #[.slice p b.length c,.int .i64 e])) W') :
  Calls Tryz.prog f #[.slice tp T.length tc,.int .i64 d] W K:=by
 refine h.use HR hr HT hd hi hN (fun hno p c l W' hl hM=>?_) (fun l m' j hk hG p c W' hM=>?_)
 ·exact hok p c l (-1) W' (by omega) (fun _=>hl) (.inr ⟨rfl,by rw [hfl];omega,hno⟩) hM
 ·have hlen:=hG.len
  rw [hN1,hN2,List.length_nil] at hlen
  have h1:=hG.from_
  rw [hN3] at h1
  have h2:=hG.to_
  exact hok p c l j W' (by omega) (fun h=>by omega) (.inl ⟨g,j,rfl,by omega,hg,h2,by rw [hfl];omega,hk⟩) hM
set_option maxHeartbeats 16000000 in
theorem rSigned {T:List TokD} (hT:TksOk T) (fuel:Nat) (ihS:∀ g,g≤fuel→RC T 114 .sgn g) (ih1:∀ g,g≤fuel→RC T 147 .sing g):RC T 114 .sgn (fuel + 1):=by
 intro W tp tc i HT hi hne
 obtain ⟨r,hr⟩:∃ r,G T (fuel + 1) .sgn i=r:=⟨_,rfl⟩
 rw [hr] at hne ⊢
 have HR:=Lib.hid hr
 clear hr
 have hr:r≠.out:=hne
 have HM:=Lib.hid (Mem.start W)
 have HTk:=Lib.hid HT
 have hT1:=hT.len
 clear hne HT
 simp only [G] at HR
 cases hb:isT T i [45] with
 | true=>
  have HR0:=HR.out
  rw [hb] at HR0
  have hlt:=isT_lt hb
  have HB:=Lib.hid hb
  clear HR hb
  have HR:=Lib.hid (show _=r from HR0)
  clear HR0
  go_enter Tryz.func114,Tryz.ntmps114
  go_wp2_with (first|(go_at_call 82;(with_reducible refine (is_yes HB.out (HM.out.sl HTk.out) (by omega) rfl (by decide)).mono ?_);rintro e W2 ⟨rfl,rfl⟩)|(go_at_call 114;refine RC.use (ihS fuel (Nat.le_refl _)) HR.out hr (HM.out.sl HTk.out) (by omega) (by omega) (by simp) (fun hno p c l W2 hl hM2=>?_) (fun l m j hR2 hG p c W2 hM2=>?_);all_goals first|(have hg:=hG.lenc 0 rfl rfl rfl;clear hG;obtain ⟨hL,hF,hJ⟩:=hg;have HR1:=Lib.hid hR2;clear HR hR2;have HR:=HR1;clear HR1;have HM1:=Lib.hid (HM.out.comp2 hM2);clear HM hM2;(try clear W1);rename World=>W1;have HM:=HM1;clear HM1;simp only [List.cons_append,List.nil_append] at HM)|(have HNo:=Lib.hid hno;clear hno HR;have HM1:=Lib.hid (HM.out.comp2 hM2);clear HM hM2;(try clear W1);rename World=>W1;have HM:=HM1;clear HM1;simp only [List.cons_append,List.nil_append] at HM))|((with_reducible refine iat 21 ?_);(refine bs0 rfl HM.out ?_;intro g21 W1 HM1;replace HM:=Lib.hid HM1;clear HM1))|((with_reducible refine iat 23 ?_);(refine apN (l:=[]) rfl HM.out 0 rfl rfl rfl rfl (by first|rfl|simp only [List.length_append,List.nil_append,List.length_nil,List.length_cons,Nat.zero_add]) rfl (row_sl (HM.out.get (k:=1) rfl)) om om (by decide) ?_;intro p23 c23 W1 HM1;replace HM:=Lib.hid HM1;clear HM1;simp only [List.set,List.nil_append] at HM))|((with_reducible refine iat 26 ?_);(have h5:Sl _ _ ([nOp 8 1].flatMap NodeD.cs):=row_sl (box_row (n:=1) (k:=8) (HM.out.get (k:=0) rfl) rfl (by decide));refine apN (la:=[nOp 8 1]) rfl HM.out 1 rfl rfl rfl rfl (by first|rfl|simp only [List.length_append,List.nil_append,List.length_nil,List.length_cons,Nat.zero_add]) rfl h5 om (by simp) (by decide) ?_;intro p26 c26 W2 HM1;clear h5;clear HM;(try clear W1);rename World=>W1;have HM:=Lib.hid HM1;clear HM1;simp only [List.set,List.nil_append] at HM))|((with_reducible refine skip_op ?_ ?_);exact rfl)|refine mP ?_|((with_reducible refine ibuildSlice ?_);(first|refine bs0 rfl HM.out ?_|refine bs1A rfl HM.out rfl rfl rfl ?_);intro g1 W1 HM1;replace HM:=Lib.hid HM1;clear HM1))
  all_goals go_ret2
  all_goals (first|exact GPost.okn HR.out (by first|rfl|(simp only [List.length_append,List.length_cons,List.length_nil];omega)) (by first|rfl|omega) (HM.out.sub (.cons _ (.cons_cons _ (List.nil_sublist _))))|exact GPost.no_ HNo.out HM.out.below)
 | false=>
  have HR0:=HR.out
  rw [hb] at HR0
  have HB:=Lib.hid hb
  clear HR hb
  have HR:=Lib.hid (show _=r from HR0)
  clear HR0
  go_enter Tryz.func114,Tryz.ntmps114
  go_wp2_with (first|(go_at_call 82;(with_reducible refine (is_no HB.out (HM.out.sl HTk.out) (by omega) rfl (by decide)).mono ?_);rintro e W2 ⟨rfl,rfl⟩)|(go_at_call 147;refine RC.useS (mk:=fun a=>.pathL a) (fl:=fun b=>b) (m:=0) (fuel:=fuel) (ih1 fuel (Nat.le_refl _)) HR.out hr (HM.out.sl HTk.out) (by omega) (by omega) (by simp) rfl rfl rfl (fun b=>(Nat.zero_add _).symm) (by omega) (by omega) (by omega) (fun pb cb b e W2 hb hb1 hS hM2=>?_);have HS:=Lib.hid hS;clear hS HR;have HM1:=Lib.hid (HM.out.comp2 hM2);clear HM hM2;(try clear W1);rename World=>W1;have HM:=HM1;clear HM1;simp only [List.cons_append,List.nil_append] at HM)|((with_reducible refine skip_op ?_ ?_);exact rfl)|refine mP ?_|((with_reducible refine ibuildSlice ?_);(first|refine bs0 rfl HM.out ?_|refine bs1A rfl HM.out rfl rfl rfl ?_);intro g1 W1 HM1;replace HM:=Lib.hid HM1;clear HM1))
  go_loopw [8,1] (fun av iv wr=>∃ (p:Option Addr) (c:Nat) (l:List NodeD) (d:Int),av = .slice p l.length c∧iv = .int .i64 d∧(d < 0→l.length≤1)∧Hid (LSt T fuel (fun a=>.pathL a) r 0 d l)∧Hid (Mem W wr [.row p c 36 8 l.length (l.flatMap NodeD.cs)])) (fun _ iv _=>if intOf iv < 0 then 0 else T.length + 1 - (intOf iv).toNat)
  case atStart=>exact ⟨pb,cb,b,e,rfl,rfl,hb1,Lib.hid (HS.out.mono (Nat.zero_le _)),HM⟩
  case round=>
   clear HM HS HB
   obtain ⟨p,c,l,d,rfl,rfl,hd1,HS,HM⟩:=hrel
   rcases HS.out with ⟨g,k,rfl,-,hg,hk,hl,HR1⟩ | ⟨rfl,hl,hno⟩
   ·clear HS
    cases g with
    | zero=>exact absurd HR1.symm hr
    | succ g=>
     simp only [G] at HR1
     have d0:decide (0≤(k:Int))=true:=decide_eq_true (by omega)
     cases hb:isT T k [46] with
     | false=>
      rw [hb] at HR1
      have HR:=Lib.hid (show PR.ok l 0 k=r from HR1)
      have HB:=Lib.hid hb
      clear HR1 hb
      go_wp2_with (first|(go_at_call 82;(with_reducible refine (is_no HB.out (HM.out.sl HTk.out) (by omega) rfl (by decide)).mono ?_);rintro e W2 ⟨rfl,rfl⟩)|((with_reducible refine skip_op ?_ ?_);exact rfl)|refine mP ?_|((with_reducible refine ibuildSlice ?_);(first|refine bs0 rfl HM.out ?_|refine bs1A rfl HM.out rfl rfl rfl ?_);intro g1 W1 HM1;replace HM:=Lib.hid HM1;clear HM1))
      first|go_ret2|go_ret
      exact GPost.okn HR.out rfl rfl HM.out
     | true=>
      rw [hb] at HR1
      have HB:=Lib.hid hb
      clear hb
      cases ht:T[k + 1]? with
      | none=>
       have hln:=List.getElem?_eq_none_iff.1 ht
       have HNo:=Lib.hid (show r = .no by rw [← HR1,ht];rfl)
       have d1:decide ((T.length:Int)≤(k:Int) + 1)=true:=decide_eq_true (by omega)
       clear HR1 ht
       go_wp2_with (first|(go_at_call 82;(with_reducible refine (is_yes HB.out (HM.out.sl HTk.out) (by omega) rfl (by decide)).mono ?_);rintro e W2 ⟨rfl,rfl⟩)|((with_reducible refine skip_op ?_ ?_);exact rfl)|refine mP ?_|((with_reducible refine ibuildSlice ?_);(first|refine bs0 rfl HM.out ?_|refine bs1A rfl HM.out rfl rfl rfl ?_);intro g1 W1 HM1;replace HM:=Lib.hid HM1;clear HM1))
       first|go_ret2|go_ret
       exact GPost.no_ HNo.out HM.out.below
      | some t=>
       have hlt:=some_lt ht
       have d1:decide ((T.length:Int)≤(k:Int) + 1)=false:=decide_eq_false (by omega)
       obtain ⟨b,rfl,hbc⟩:=tokAt HTk.out ht
       obtain ⟨kd,tx,nu,sc,dy,pt⟩:=t
       rw [ht] at HR1
       have HE:=Lib.hid hbc
       clear ht hbc
       by_cases h4:kd=4
       ·have HR:=Lib.hid (show G T g (.pathL (l++[nTx 24 1 tx])) (k + 2)=r by rw [← HR1];exact (if_pos h4).symm)
        have q4:(kd == 4)=true:=by simpa using h4
        have q4n:(kd != 4)=false:=by unfold bne;rw [q4];rfl
        clear HR1 h4
        go_wp2_with (first|(go_at_call 82;(with_reducible refine (is_yes HB.out (HM.out.sl HTk.out) (by omega) rfl (by decide)).mono ?_);rintro e W2 ⟨rfl,rfl⟩)|((with_reducible refine iat 50 ?_);(refine ixa rfl rfl (by omega) hlt ?_))|((with_reducible refine iat 52 ?_);(refine ldx0 (HM.out.olds HE.out) rfl rfl ?_))|((with_reducible refine skip_op ?_ ?_);exact rfl)|refine mP ?_|((with_reducible refine ibuildSlice ?_);(first|refine bs0 rfl HM.out ?_|refine bs1A rfl HM.out rfl rfl rfl ?_);intro g1 W1 HM1;replace HM:=Lib.hid HM1;clear HM1))
        refine wp_region_tree (.t 1 (.t 3 (.t 4 (.t 5 (.t 6 (.t 7 (.t 8 (.t 9 (.f 0 (.f 2 (.a 10 (.a 11 (.t 12 .done))) 10 (.a 2 (.a 11 (.t 12 .done)))) 10 (.a 0 (.a 2 (.a 11 (.t 12 .done))))))))))))) (by kernel_rfl) (by kernel_rfl) rfl (by kernel_rfl) (fun _ _ _ _ _ h=>h) HM.out _ (.cons_cons _ (List.nil_sublist _)) ?_
        intro hNE W1 HM1;replace HM:=Lib.hid HM1;clear HM1
        have HS0:=Lib.hid (HM.out.sub (.cons_cons _ (List.nil_sublist _)))
        simp only [wpPl,wpSteps,List.getElem?_cons_succ,List.getElem?_cons_zero]
        (repeat (first|((with_reducible refine wpQuiet_nil ?_);(try dsimp only))|refine mQ ?_|((with_reducible refine qat 61 ?_);(refine qixa rfl rfl (by omega) hlt ?_))|((with_reducible refine qat 63 ?_);(refine qdxf HE.out rfl rfl rfl ?_))|go_big_quiet_step (fail)|quiet_step (fail)))
        refine ⟨?_,?_⟩
        ·go_wp2_with (first|((with_reducible refine iat 55 ?_);(refine bs0 rfl HM.out ?_;intro g55 W1 HM1;replace HM:=Lib.hid HM1;clear HM1))|((with_reducible refine ibuildSlice ?_);refine bs0 rfl HM.out ?_;intro g1 W1 HM1;replace HM:=Lib.hid HM1;clear HM1))
         refine ⟨⟨⟨_,HM.out.sub msub⟩,rfl⟩,?_⟩
         (try dsimp only)
         refine ⟨?_,?_⟩
         ·go_wp2_with (first|(first|((with_reducible refine iat 57 ?_);(refine apN (l:=[]) rfl HM.out 0 rfl rfl rfl rfl (by first|rfl|simp only [List.length_append,List.nil_append,List.length_nil,List.length_cons,Nat.zero_add]) rfl (row_sl (HM.out.get (k:=1) rfl)) om om (by decide) ?_;intro p57 c57 W1 HM1;replace HM:=Lib.hid HM1;clear HM1;simp only [List.set,List.nil_append] at HM))|((with_reducible refine iat 57 ?_);(refine apN (l:=[]) rfl HM.out 0 rfl rfl rfl rfl (by first|rfl|simp only [List.length_append,List.nil_append,List.length_nil,List.length_cons,Nat.zero_add]) rfl (row_sl (HM.out.get (k:=2) rfl)) om om (by decide) ?_;intro p57 c57 W1 HM1;replace HM:=Lib.hid HM1;clear HM1;simp only [List.set,List.nil_append] at HM))|((with_reducible refine iat 57 ?_);(refine apN (l:=[]) rfl HM.out 1 rfl rfl rfl rfl (by first|rfl|simp only [List.length_append,List.nil_append,List.length_nil,List.length_cons,Nat.zero_add]) rfl (row_sl (HM.out.get (k:=2) rfl)) om om (by decide) ?_;intro p57 c57 W1 HM1;replace HM:=Lib.hid HM1;clear HM1;simp only [List.set,List.nil_append] at HM))))
          refine ⟨⟨⟨_,HM.out.sub msub⟩,rfl⟩,?_⟩
          (try dsimp only)
          go_wp2_with (first|(refine hbs1A HM rfl rfl rfl rfl ?_;clear HM;intro g1 W1 HM))
          refine ⟨⟨⟨_,HM.out.sub msub⟩,rfl⟩,?_⟩
          (try dsimp only)
          go_wp2_with (first|(first|((with_reducible refine iat 66 ?_);(have h5:Sl _ _ ([nTx 24 1 tx].flatMap NodeD.cs):=row_sl (box_row (n:=1) (k:=8) (HM.out.get (k:=0) rfl) rfl (by decide));refine apN (la:=[nTx 24 1 tx]) rfl HM.out 1 rfl rfl rfl rfl (by first|rfl|simp only [List.length_append,List.nil_append,List.length_nil,List.length_cons,Nat.zero_add]) rfl h5 om (by simp) (by decide) ?_;intro p66 c66 W2 HM1;clear h5;clear HM;(try clear W1);rename World=>W1;have HM:=Lib.hid HM1;clear HM1;simp only [List.set,List.nil_append] at HM))|((with_reducible refine iat 66 ?_);(have h5:Sl _ _ ([nTx 24 1 tx].flatMap NodeD.cs):=row_sl (box_row (n:=1) (k:=8) (HM.out.get (k:=1) rfl) rfl (by decide));refine apN (la:=[nTx 24 1 tx]) rfl HM.out 0 rfl rfl rfl rfl (by first|rfl|simp only [List.length_append,List.nil_append,List.length_nil,List.length_cons,Nat.zero_add]) rfl h5 om (by simp) (by decide) ?_;intro p66 c66 W2 HM1;clear h5;clear HM;(try clear W1);rename World=>W1;have HM:=Lib.hid HM1;clear HM1;simp only [List.set,List.nil_append] at HM))))
          refine ⟨⟨⟨_,HM.out.sub msub⟩,rfl⟩,?_⟩
          (try dsimp only)
          (repeat (first|((with_reducible refine wpQuiet_nil ?_);(try dsimp only))|go_big_quiet_step (fail)|quiet_step (fail)))
          clear HS0 hNE
          go_wp2_with fail
          go_roundw
          case rel=>exact ⟨_,_,l++[nTx 24 1 tx],(k:Int) + 2,slice_len (by simp only [List.length_append,List.length_cons,List.length_nil]),rfl,fun h=>by omega,Lib.hid (.inl ⟨g,k + 2,by omega,by omega,by omega,by omega,by (simp only [List.length_append,List.length_cons,List.length_nil];omega),HR.out⟩),Lib.hid (HM.out.sub (by first|exact (.cons _ (.cons_cons _ (List.nil_sublist _)))|exact (.cons_cons _ (List.nil_sublist _))))⟩
          case measure=>
           show (if (k:Int) + 2 < 0 then 0 else T.length + 1 - ((k:Int) + 2).toNat) < (if (k:Int) < 0 then 0 else T.length + 1 - (k:Int).toNat)
           rw [if_neg (by omega),if_neg (by omega)]
           omega
         ·go_wp2_with (first|(refine hbs1A HM rfl rfl rfl rfl ?_;clear HM;intro g1 W1 HM))
          refine ⟨⟨⟨_,HM.out.sub msub⟩,rfl⟩,?_⟩
          (try dsimp only)
          go_wp2_with (first|(first|((with_reducible refine iat 57 ?_);(refine apN (l:=[]) rfl HM.out 0 rfl rfl rfl rfl (by first|rfl|simp only [List.length_append,List.nil_append,List.length_nil,List.length_cons,Nat.zero_add]) rfl (row_sl (HM.out.get (k:=1) rfl)) om om (by decide) ?_;intro p57 c57 W1 HM1;replace HM:=Lib.hid HM1;clear HM1;simp only [List.set,List.nil_append] at HM))|((with_reducible refine iat 57 ?_);(refine apN (l:=[]) rfl HM.out 0 rfl rfl rfl rfl (by first|rfl|simp only [List.length_append,List.nil_append,List.length_nil,List.length_cons,Nat.zero_add]) rfl (row_sl (HM.out.get (k:=2) rfl)) om om (by decide) ?_;intro p57 c57 W1 HM1;replace HM:=Lib.hid HM1;clear HM1;simp only [List.set,List.nil_append] at HM))|((with_reducible refine iat 57 ?_);(refine apN (l:=[]) rfl HM.out 1 rfl rfl rfl rfl (by first|rfl|simp only [List.length_append,List.nil_append,List.length_nil,List.length_cons,Nat.zero_add]) rfl (row_sl (HM.out.get (k:=2) rfl)) om om (by decide) ?_;intro p57 c57 W1 HM1;replace HM:=Lib.hid HM1;clear HM1;simp only [List.set,List.nil_append] at HM))))
          refine ⟨⟨⟨_,HM.out.sub msub⟩,rfl⟩,?_⟩
          (try dsimp only)
          go_wp2_with (first|(first|((with_reducible refine iat 66 ?_);(have h5:Sl _ _ ([nTx 24 1 tx].flatMap NodeD.cs):=row_sl (box_row (n:=1) (k:=8) (HM.out.get (k:=0) rfl) rfl (by decide));refine apN (la:=[nTx 24 1 tx]) rfl HM.out 1 rfl rfl rfl rfl (by first|rfl|simp only [List.length_append,List.nil_append,List.length_nil,List.length_cons,Nat.zero_add]) rfl h5 om (by simp) (by decide) ?_;intro p66 c66 W2 HM1;clear h5;clear HM;(try clear W1);rename World=>W1;have HM:=Lib.hid HM1;clear HM1;simp only [List.set,List.nil_append] at HM))|((with_reducible refine iat 66 ?_);(have h5:Sl _ _ ([nTx 24 1 tx].flatMap NodeD.cs):=row_sl (box_row (n:=1) (k:=8) (HM.out.get (k:=1) rfl) rfl (by decide));refine apN (la:=[nTx 24 1 tx]) rfl HM.out 0 rfl rfl rfl rfl (by first|rfl|simp only [List.length_append,List.nil_append,List.length_nil,List.length_cons,Nat.zero_add]) rfl h5 om (by simp) (by decide) ?_;intro p66 c66 W2 HM1;clear h5;clear HM;(try clear W1);rename World=>W1;have HM:=Lib.hid HM1;clear HM1;simp only [List.set,List.nil_append] at HM))))
          refine ⟨⟨⟨_,HM.out.sub msub⟩,rfl⟩,?_⟩
          (try dsimp only)
          (repeat (first|((with_reducible refine wpQuiet_nil ?_);(try dsimp only))|go_big_quiet_step (fail)|quiet_step (fail)))
          clear HS0 hNE
          go_wp2_with fail
          go_roundw
          case rel=>exact ⟨_,_,l++[nTx 24 1 tx],(k:Int) + 2,slice_len (by simp only [List.length_append,List.length_cons,List.length_nil]),rfl,fun h=>by omega,Lib.hid (.inl ⟨g,k + 2,by omega,by omega,by omega,by omega,by (simp only [List.length_append,List.length_cons,List.length_nil];omega),HR.out⟩),Lib.hid (HM.out.sub (by first|exact (.cons _ (.cons_cons _ (List.nil_sublist _)))|exact (.cons_cons _ (List.nil_sublist _))))⟩
          case measure=>
           show (if (k:Int) + 2 < 0 then 0 else T.length + 1 - ((k:Int) + 2).toNat) < (if (k:Int) < 0 then 0 else T.length + 1 - (k:Int).toNat)
           rw [if_neg (by omega),if_neg (by omega)]
           omega
        ·go_wp2_with (first|(refine hbs1A HM rfl rfl rfl rfl ?_;clear HM;intro g1 W1 HM))
         refine ⟨⟨⟨_,HM.out.sub msub⟩,rfl⟩,?_⟩
         (try dsimp only)
         go_wp2_with (first|((with_reducible refine iat 55 ?_);(refine bs0 rfl HM.out ?_;intro g55 W1 HM1;replace HM:=Lib.hid HM1;clear HM1))|((with_reducible refine ibuildSlice ?_);refine bs0 rfl HM.out ?_;intro g1 W1 HM1;replace HM:=Lib.hid HM1;clear HM1))
         refine ⟨⟨⟨_,HM.out.sub msub⟩,rfl⟩,?_⟩
         (try dsimp only)
         go_wp2_with (first|(first|((with_reducible refine iat 57 ?_);(refine apN (l:=[]) rfl HM.out 0 rfl rfl rfl rfl (by first|rfl|simp only [List.length_append,List.nil_append,List.length_nil,List.length_cons,Nat.zero_add]) rfl (row_sl (HM.out.get (k:=1) rfl)) om om (by decide) ?_;intro p57 c57 W1 HM1;replace HM:=Lib.hid HM1;clear HM1;simp only [List.set,List.nil_append] at HM))|((with_reducible refine iat 57 ?_);(refine apN (l:=[]) rfl HM.out 0 rfl rfl rfl rfl (by first|rfl|simp only [List.length_append,List.nil_append,List.length_nil,List.length_cons,Nat.zero_add]) rfl (row_sl (HM.out.get (k:=2) rfl)) om om (by decide) ?_;intro p57 c57 W1 HM1;replace HM:=Lib.hid HM1;clear HM1;simp only [List.set,List.nil_append] at HM))|((with_reducible refine iat 57 ?_);(refine apN (l:=[]) rfl HM.out 1 rfl rfl rfl rfl (by first|rfl|simp only [List.length_append,List.nil_append,List.length_nil,List.length_cons,Nat.zero_add]) rfl (row_sl (HM.out.get (k:=2) rfl)) om om (by decide) ?_;intro p57 c57 W1 HM1;replace HM:=Lib.hid HM1;clear HM1;simp only [List.set,List.nil_append] at HM))))
         refine ⟨⟨⟨_,HM.out.sub msub⟩,rfl⟩,?_⟩
         (try dsimp only)
         go_wp2_with (first|(first|((with_reducible refine iat 66 ?_);(have h5:Sl _ _ ([nTx 24 1 tx].flatMap NodeD.cs):=row_sl (box_row (n:=1) (k:=8) (HM.out.get (k:=0) rfl) rfl (by decide));refine apN (la:=[nTx 24 1 tx]) rfl HM.out 1 rfl rfl rfl rfl (by first|rfl|simp only [List.length_append,List.nil_append,List.length_nil,List.length_cons,Nat.zero_add]) rfl h5 om (by simp) (by decide) ?_;intro p66 c66 W2 HM1;clear h5;clear HM;(try clear W1);rename World=>W1;have HM:=Lib.hid HM1;clear HM1;simp only [List.set,List.nil_append] at HM))|((with_reducible refine iat 66 ?_);(have h5:Sl _ _ ([nTx 24 1 tx].flatMap NodeD.cs):=row_sl (box_row (n:=1) (k:=8) (HM.out.get (k:=1) rfl) rfl (by decide));refine apN (la:=[nTx 24 1 tx]) rfl HM.out 0 rfl rfl rfl rfl (by first|rfl|simp only [List.length_append,List.nil_append,List.length_nil,List.length_cons,Nat.zero_add]) rfl h5 om (by simp) (by decide) ?_;intro p66 c66 W2 HM1;clear h5;clear HM;(try clear W1);rename World=>W1;have HM:=Lib.hid HM1;clear HM1;simp only [List.set,List.nil_append] at HM))))
         refine ⟨⟨⟨_,HM.out.sub msub⟩,rfl⟩,?_⟩
         (try dsimp only)
         (repeat (first|((with_reducible refine wpQuiet_nil ?_);(try dsimp only))|go_big_quiet_step (fail)|quiet_step (fail)))
         clear HS0 hNE
         go_wp2_with fail
         go_roundw
         case rel=>exact ⟨_,_,l++[nTx 24 1 tx],(k:Int) + 2,slice_len (by simp only [List.length_append,List.length_cons,List.length_nil]),rfl,fun h=>by omega,Lib.hid (.inl ⟨g,k + 2,by omega,by omega,by omega,by omega,by (simp only [List.length_append,List.length_cons,List.length_nil];omega),HR.out⟩),Lib.hid (HM.out.sub (by first|exact (.cons _ (.cons_cons _ (List.nil_sublist _)))|exact (.cons_cons _ (List.nil_sublist _))))⟩
         case measure=>
          show (if (k:Int) + 2 < 0 then 0 else T.length + 1 - ((k:Int) + 2).toNat) < (if (k:Int) < 0 then 0 else T.length + 1 - (k:Int).toNat)
          rw [if_neg (by omega),if_neg (by omega)]
          omega
       ·have HNo:=Lib.hid (show r = .no by rw [← HR1];exact if_neg h4)
        have q4:(kd == 4)=false:=by simpa using h4
        have q4n:(kd != 4)=true:=by unfold bne;rw [q4];rfl
        clear HR1 h4
        go_wp2_with (first|(go_at_call 82;(with_reducible refine (is_yes HB.out (HM.out.sl HTk.out) (by omega) rfl (by decide)).mono ?_);rintro e W2 ⟨rfl,rfl⟩)|((with_reducible refine iat 50 ?_);(refine ixa rfl rfl (by omega) hlt ?_))|((with_reducible refine iat 52 ?_);(refine ldx0 (HM.out.olds HE.out) rfl rfl ?_))|((with_reducible refine skip_op ?_ ?_);exact rfl)|refine mP ?_|((with_reducible refine ibuildSlice ?_);(first|refine bs0 rfl HM.out ?_|refine bs1A rfl HM.out rfl rfl rfl ?_);intro g1 W1 HM1;replace HM:=Lib.hid HM1;clear HM1))
        first|go_ret2|go_ret
        exact GPost.no_ HNo.out HM.out.below
   ·go_wp2_with (first|((with_reducible refine skip_op ?_ ?_);exact rfl)|refine mP ?_|((with_reducible refine ibuildSlice ?_);(first|refine bs0 rfl HM.out ?_|refine bs1A rfl HM.out rfl rfl rfl ?_);intro g1 W1 HM1;replace HM:=Lib.hid HM1;clear HM1))
    first|go_ret2|go_ret
    exact GPost.noL hno (hd1 (by decide)) HM.out
end Go.Proofs.YtheimopjglkgjaaGreatDoor
