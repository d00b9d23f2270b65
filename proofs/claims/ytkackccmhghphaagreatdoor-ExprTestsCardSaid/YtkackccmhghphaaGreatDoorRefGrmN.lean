/- The reference's grammar: single. (fast) -/
import Derived.Test.YtkackccmhghphaaGreatDoorRefGrmM
namespace Go.Proofs.YtkackccmhghphaaGreatDoor
open Go.RowKit
set_option linter.unusedVariables false
set_option linter.unusedSimpArgs false
set_option maxRecDepth 100000

theorem rArgsL_at {T:List TokD} (hT:TksOk T) (e0:UInt8) (s:ByteArray) (hs:s.data.toList=[e0]) (fuel:Nat) (ihE:∀ g,g≤fuel→RC T 45 .expr g):BC T s false (.list e0) fuel:=by
 cases fuel with
 | zero=>exact fun _ _ _ _ _ _ hne=>absurd rfl hne
 | succ f=>exact rArgsL hT e0 s hs f (fun g hg=>ihE g (by omega))
theorem rArgsC_at {T:List TokD} (hT:TksOk T) (s:ByteArray) (hs:s.data.toList=[125]) (fuel:Nat) (ihE:∀ g,g≤fuel→RC T 45 .expr g):BC T s true .ctx fuel:=by
 cases fuel with
 | zero=>exact fun _ _ _ _ _ _ hne=>absurd rfl hne
 | succ f=>exact rArgsC hT s hs f (fun g hg=>ihE g (by omega))
theorem GPost.one {r:PR} {w w' : World} {x:NodeD} {j:Nat} {d:Int} {g:Nat} {cs:List Value} {L:List Res} (h:PR.ok [x] 0 j=r) (hcs:cs=x.cs) (hd:d=(j:Int)) (hM:Mem w w' (.box g 36 cs :: L)):GPost r w (.returned (.tuple #[.slice (some ⟨g,0,none⟩) 1 1,.int .i64 d])) w':=by
 subst hcs hd
 have hM2:=(hM.boxrow (k:=0) (j:=8) (n:=1) rfl (NodeD.cs_len x) (by decide)).sub (L':=[.row (some ⟨g,0,none⟩) 1 36 8 1 x.cs]) (.cons_cons _ (List.nil_sublist _))
 exact GPost.okn (l:=[x]) h rfl rfl (by rw [List.flatMap_cons,List.flatMap_nil,List.append_nil];exact hM2)

set_option maxHeartbeats 32000000 in
theorem rSingle {T:List TokD} (hK:KndOk T) (hT:TksOk T) (fuel:Nat) (ihE:∀ g,g≤fuel→RC T 45 .expr g):RC T 138 .sing (fuel + 1):=by
 intro W tp tc i HT hi hne
 obtain ⟨r,hr⟩:∃ r,G T (fuel + 1) .sing i=r:=⟨_,rfl⟩
 rw [hr] at hne ⊢
 have HR:=Lib.hid hr
 clear hr
 have hr:r≠.out:=hne
 have HM:=Lib.hid (Mem.start W)
 have HTk:=Lib.hid HT
 have hT1:=hT.len
 clear hne HT
 simp only [G] at HR
 have HR0:=HR.out
 clear HR
 have H41:=Lib.hid (rArgsL_at hT 41 ⟨#[41]⟩ rfl fuel ihE)
 have H93:=Lib.hid (rArgsL_at hT 93 ⟨#[93]⟩ rfl fuel ihE)
 have H125:=Lib.hid (rArgsC_at hT ⟨#[125]⟩ rfl fuel ihE)
 cases ht:T[i]? with
 | none=>
  have hge:=List.getElem?_eq_none_iff.1 ht
  have HNo:=Lib.hid (show r = .no by rw [← HR0,ht])
  have d1:decide ((T.length:Int)≤i)=true:=decide_eq_true (by omega)
  clear HR0 ht
  go_enter Tryz.func138,Tryz.ntmps138
  go_wp2_with (first|((with_reducible refine skip_op ?_ ?_);exact rfl)|refine mP ?_|(refine mS ?_;clear HM;intro W1 HM)|(refine hbs1A HM rfl rfl rfl rfl ?_;clear HM;intro g1 W1 HM)|(refine hal HM rfl ?_;clear HM;intro g1 W1 HM))
  first|go_ret2|go_ret
  exact GPost.no_ HNo.out HM.out.below
 | some t=>
  have hlt:=some_lt ht
  have d1:decide ((T.length:Int)≤i)=false:=decide_eq_false (by omega)
  obtain ⟨b,rfl,hbc⟩:=tokAt HTk.out ht
  rw [ht] at HR0
  simp only at HR0
  obtain ⟨kd,tx,nu,sc,dy,pt⟩:=t
  dsimp only at HR0
  have hcs:(⟨kd,tx,nu,sc,dy,pt⟩:TokD).cs=[.int .i64 kd,.string tx,.bool false,.int .u64 (nu / 18446744073709551616:Nat),.int .u64 (nu % 18446744073709551616:Nat),.int .i64 sc,.int .i64 dy,.int .i64 pt]:=rfl
  rw [hcs] at hbc
  have HNum:=Lib.hid (show [.int .i64 4,.int .i64 0,.string ⟨#[]⟩,.bool false,.int .u64 (nu / 18446744073709551616:Nat),.int .u64 (nu % 18446744073709551616:Nat),.int .i64 sc,.int .i64 0]=(nNum ⟨kd,tx,nu,sc,dy,pt⟩).cs from rfl)
  have HDay:=Lib.hid (show [.int .i64 6,.int .i64 0,.string ⟨#[]⟩,.bool false,.int .u64 0,.int .u64 0,.int .i64 0,.int .i64 dy]=(nDay ⟨kd,tx,nu,sc,dy,pt⟩).cs from rfl)
  generalize nu / 18446744073709551616=nh at hbc HNum
  generalize nu % 18446744073709551616=nl at hbc HNum
  have HE:=Lib.hid hbc
  clear ht hbc hcs

  by_cases h1:kd=1
  ·rw [if_pos h1] at HR0
   have q1:(kd == 1)=true:=by simpa using h1
   have HR:=Lib.hid HR0
   clear HR0 h1
   go_enter Tryz.func138,Tryz.ntmps138
   go_wp2_with (first|((with_reducible refine iat 24 ?_);(refine ixa rfl rfl rfl hlt ?_))|((with_reducible refine iat 25 ?_);(refine ldxW (HM.out.olds HE.out) rfl rfl ?_))|((with_reducible refine skip_op ?_ ?_);exact rfl)|refine mP ?_|(refine mS ?_;clear HM;intro W1 HM)|(refine hbs1A HM rfl rfl rfl rfl ?_;clear HM;intro g1 W1 HM)|(refine hal (dst:=some 6) HM rfl ?_;clear HM;intro g6 W1 HM))
   first|go_ret2|go_ret
   exact GPost.one HR.out HNum.out (by omega) HM.out
  rw [if_neg h1] at HR0
  by_cases h2:kd=2
  ·rw [if_pos h2] at HR0
   have q1:(kd == 1)=false:=by simpa using h1
   have q2:(kd == 2)=true:=by simpa using h2
   have HR:=Lib.hid HR0
   clear HR0 h1 h2
   go_enter Tryz.func138,Tryz.ntmps138
   go_wp2_with (first|((with_reducible refine iat 24 ?_);(refine ixa rfl rfl rfl hlt ?_))|((with_reducible refine iat 25 ?_);(refine ldxW (HM.out.olds HE.out) rfl rfl ?_))|((with_reducible refine skip_op ?_ ?_);exact rfl)|refine mP ?_|(refine mS ?_;clear HM;intro W1 HM)|(refine hbs1A HM rfl rfl rfl rfl ?_;clear HM;intro g1 W1 HM)|(refine hal (dst:=some 6) HM rfl ?_;clear HM;intro g6 W1 HM))
   first|go_ret2|go_ret
   exact GPost.one HR.out rfl (by omega) HM.out
  rw [if_neg h2] at HR0
  by_cases h3:kd=3
  ·rw [if_pos h3] at HR0
   have q1:(kd == 1)=false:=by simpa using h1
   have q2:(kd == 2)=false:=by simpa using h2
   have q3:(kd == 3)=true:=by simpa using h3
   have HR:=Lib.hid HR0
   clear HR0 h1 h2 h3
   go_enter Tryz.func138,Tryz.ntmps138
   go_wp2_with (first|((with_reducible refine iat 24 ?_);(refine ixa rfl rfl rfl hlt ?_))|((with_reducible refine iat 25 ?_);(refine ldxW (HM.out.olds HE.out) rfl rfl ?_))|((with_reducible refine skip_op ?_ ?_);exact rfl)|refine mP ?_|(refine mS ?_;clear HM;intro W1 HM)|(refine hbs1A HM rfl rfl rfl rfl ?_;clear HM;intro g1 W1 HM)|(refine hal (dst:=some 6) HM rfl ?_;clear HM;intro g6 W1 HM))
   first|go_ret2|go_ret
   exact GPost.one HR.out HDay.out (by omega) HM.out
  rw [if_neg h3] at HR0
  by_cases h4:kd=4
  ·rw [if_pos h4] at HR0
   have q1:(kd == 1)=false:=by simpa using h1
   have q2:(kd == 2)=false:=by simpa using h2
   have q3:(kd == 3)=false:=by simpa using h3
   have q4:(kd == 4)=true:=by simpa using h4
   clear h1 h2 h3 h4
   cases hb:isT T (i + 1) [40] with
   | false=>
    rw [hb] at HR0
    have HR:=Lib.hid (show PR.ok _ 0 (i + 1)=r from HR0)
    have HB:=Lib.hid hb
    clear HR0 hb
    go_enter Tryz.func138,Tryz.ntmps138
    go_wp2_with (first|((with_reducible refine iat 24 ?_);(refine ixa rfl rfl rfl hlt ?_))|((with_reducible refine iat 25 ?_);(refine ldxW (HM.out.olds HE.out) rfl rfl ?_))|(go_at_call 64;first|((with_reducible refine (is_no HB.out (HM.out.sl HTk.out) (by omega) rfl (by decide)).mono ?_);rintro e W2 ⟨rfl,rfl⟩))|((with_reducible refine skip_op ?_ ?_);exact rfl)|refine mP ?_|(refine mS ?_;clear HM;intro W1 HM)|(refine hbs1A HM rfl rfl rfl rfl ?_;clear HM;intro g1 W1 HM)|(refine hal (dst:=some 6) HM rfl ?_;clear HM;intro g6 W1 HM))
    first|go_ret2|go_ret
    exact GPost.one HR.out rfl (by omega) HM.out
   | true=>
    rw [hb] at HR0
    have HR:=Lib.hid (show PR.bind _ _=r from HR0)
    have hlt2:i + 2≤T.length:=isT_lt hb
    have HB:=Lib.hid hb
    clear HR0 hb
    go_enter Tryz.func138,Tryz.ntmps138
    go_wp2_with (first|((with_reducible refine iat 24 ?_);(refine ixa rfl rfl rfl hlt ?_))|((with_reducible refine iat 25 ?_);(refine ldxW (HM.out.olds HE.out) rfl rfl ?_))|(go_at_call 64;first|((with_reducible refine (is_yes HB.out (HM.out.sl HTk.out) (by omega) rfl (by decide)).mono ?_);rintro e W2 ⟨rfl,rfl⟩))|(go_at_call 160;refine BC.use (H41.out) HR.out hr (HM.out.sl HTk.out) (by omega) (by omega) (by simp) (fun hno W2 hb=>?_) (fun l m j hR2 hG p c W2 hM2=>?_);all_goals first|(obtain ⟨hF,hJ,hL,hC,-⟩:=hG;simp only [NT.pg,NT.acc,NT.slk,NT.cnt,List.length_nil] at hF hL hC;(by_cases h8:8 < m);all_goals ((first|(rw [if_pos h8] at hR2;have d8:decide ((8:Int) < m)=true:=decide_eq_true (by omega);have d8n:decide (8 < m)=true:=decide_eq_true h8)|(rw [if_neg h8] at hR2;have d8:decide ((8:Int) < m)=false:=decide_eq_false (by omega);have d8n:decide (8 < m)=false:=decide_eq_false h8));clear h8;have HR1:=Lib.hid hR2;clear HR hR2;have HR:=HR1;clear HR1;have HM1:=Lib.hid (HM.out.comp2 hM2);clear HM hM2;(try clear W1);rename World=>W1;have HM:=HM1;clear HM1;simp only [List.cons_append,List.nil_append] at HM))|(have HNo:=Lib.hid hno;clear hno HR;have HM1:=(HM.out.next hb).row0 36 8;clear hb;clear HM;(try clear W1);rename World=>W1;have HM:=Lib.hid HM1;clear HM1))|((with_reducible refine iat 86 ?_);(have h5:Sl _ _ ([nTx 25 (m:Int) tx].flatMap NodeD.cs):=row_sl (box_row (n:=1) (k:=8) (HM.out.get (k:=0) rfl) rfl (by decide));refine apN (la:=[nTx 25 (m:Int) tx]) rfl HM.out 1 rfl rfl rfl rfl (by first|rfl|simp only [List.length_append,List.nil_append,List.length_nil,List.length_cons,Nat.zero_add]) rfl h5 om (by simp) (by decide) ?_;intro p86 c86 W2 HM1;clear h5;clear HM;(try clear W1);rename World=>W1;have HM:=Lib.hid HM1;clear HM1;simp only [List.set,List.nil_append] at HM))|((with_reducible refine skip_op ?_ ?_);exact rfl)|refine mP ?_|(refine mS ?_;clear HM;intro W1 HM)|(refine hbs1A HM rfl rfl rfl rfl ?_;clear HM;intro g1 W1 HM)|(refine hal (dst:=some 6) HM rfl ?_;clear HM;intro g6 W1 HM))
    all_goals first|go_ret2|go_ret
    all_goals (first|exact GPost.okn HR.out (by first|rfl|(simp only [List.length_append,List.length_cons,List.length_nil];done)) (by omega) (HM.out.sub (.cons _ (.cons_cons _ (List.nil_sublist _))))|exact GPost.no_ HNo.out HM.out.below|exact GPost.no_ HR.out.symm HM.out.below)
  rw [if_neg h4] at HR0
  have q1:(kd == 1)=false:=by simpa using h1
  have q2:(kd == 2)=false:=by simpa using h2
  have q3:(kd == 3)=false:=by simpa using h3
  have q4:(kd == 4)=false:=by simpa using h4
  clear h1 h2 h3 h4
  by_cases hb0:isT T i [110,117,108,108]=true
  ·rw [if_pos hb0] at HR0
   have HR:=Lib.hid HR0
   have HB0:=Lib.hid hb0
   clear HR0 hb0
   go_enter Tryz.func138,Tryz.ntmps138
   go_wp2_with (first|((with_reducible refine iat 24 ?_);(refine ixa rfl rfl rfl hlt ?_))|((with_reducible refine iat 25 ?_);(refine ldxW (HM.out.olds HE.out) rfl rfl ?_))|(go_at_call 64;first|((with_reducible refine (is_yes HB0.out (HM.out.sl HTk.out) (by omega) rfl (by decide)).mono ?_);rintro e W2 ⟨rfl,rfl⟩))|((with_reducible refine skip_op ?_ ?_);exact rfl)|refine mP ?_|(refine mS ?_;clear HM;intro W1 HM)|(refine hbs1A HM rfl rfl rfl rfl ?_;clear HM;intro g1 W1 HM)|(refine hal (dst:=some 6) HM rfl ?_;clear HM;intro g6 W1 HM))
   first|go_ret2|go_ret
   exact GPost.one HR.out rfl (by omega) HM.out
  have HB0:=Lib.hid (show isT T i [110,117,108,108]=false by simpa using hb0)
  rw [if_neg hb0] at HR0
  clear hb0
  by_cases hb1:isT T i [116,114,117,101]=true
  ·rw [if_pos hb1] at HR0
   have HR:=Lib.hid HR0
   have HB1:=Lib.hid hb1
   clear HR0 hb1
   go_enter Tryz.func138,Tryz.ntmps138
   go_wp2_with (first|((with_reducible refine iat 24 ?_);(refine ixa rfl rfl rfl hlt ?_))|((with_reducible refine iat 25 ?_);(refine ldxW (HM.out.olds HE.out) rfl rfl ?_))|(go_at_call 64;first|((with_reducible refine (is_no HB0.out (HM.out.sl HTk.out) (by omega) rfl (by decide)).mono ?_);rintro e W2 ⟨rfl,rfl⟩)|((with_reducible refine (is_yes HB1.out (HM.out.sl HTk.out) (by omega) rfl (by decide)).mono ?_);rintro e W2 ⟨rfl,rfl⟩))|((with_reducible refine skip_op ?_ ?_);exact rfl)|refine mP ?_|(refine mS ?_;clear HM;intro W1 HM)|(refine hbs1A HM rfl rfl rfl rfl ?_;clear HM;intro g1 W1 HM)|(refine hal (dst:=some 6) HM rfl ?_;clear HM;intro g6 W1 HM))
   first|go_ret2|go_ret
   exact GPost.one HR.out rfl (by omega) HM.out
  have HB1:=Lib.hid (show isT T i [116,114,117,101]=false by simpa using hb1)
  rw [if_neg hb1] at HR0
  clear hb1
  by_cases hb2:isT T i [102,97,108,115,101]=true
  ·rw [if_pos hb2] at HR0
   have HR:=Lib.hid HR0
   have HB2:=Lib.hid hb2
   clear HR0 hb2
   go_enter Tryz.func138,Tryz.ntmps138
   go_wp2_with (first|((with_reducible refine iat 24 ?_);(refine ixa rfl rfl rfl hlt ?_))|((with_reducible refine iat 25 ?_);(refine ldxW (HM.out.olds HE.out) rfl rfl ?_))|(go_at_call 64;first|((with_reducible refine (is_no HB0.out (HM.out.sl HTk.out) (by omega) rfl (by decide)).mono ?_);rintro e W2 ⟨rfl,rfl⟩)|((with_reducible refine (is_no HB1.out (HM.out.sl HTk.out) (by omega) rfl (by decide)).mono ?_);rintro e W2 ⟨rfl,rfl⟩)|((with_reducible refine (is_yes HB2.out (HM.out.sl HTk.out) (by omega) rfl (by decide)).mono ?_);rintro e W2 ⟨rfl,rfl⟩))|((with_reducible refine skip_op ?_ ?_);exact rfl)|refine mP ?_|(refine mS ?_;clear HM;intro W1 HM)|(refine hbs1A HM rfl rfl rfl rfl ?_;clear HM;intro g1 W1 HM)|(refine hal (dst:=some 6) HM rfl ?_;clear HM;intro g6 W1 HM))
   first|go_ret2|go_ret
   exact GPost.one HR.out rfl (by omega) HM.out
  have HB2:=Lib.hid (show isT T i [102,97,108,115,101]=false by simpa using hb2)
  rw [if_neg hb2] at HR0
  clear hb2
  by_cases hb3:isT T i [40]=true
  ·rw [if_pos hb3] at HR0
   have HR:=Lib.hid HR0
   have HB3:=Lib.hid hb3
   clear HR0 hb3
   go_enter Tryz.func138,Tryz.ntmps138
   go_wp2_with (first|((with_reducible refine iat 24 ?_);(refine ixa rfl rfl rfl hlt ?_))|((with_reducible refine iat 25 ?_);(refine ldxW (HM.out.olds HE.out) rfl rfl ?_))|(go_at_call 64;first|((with_reducible refine (is_no HB0.out (HM.out.sl HTk.out) (by omega) rfl (by decide)).mono ?_);rintro e W2 ⟨rfl,rfl⟩)|((with_reducible refine (is_no HB1.out (HM.out.sl HTk.out) (by omega) rfl (by decide)).mono ?_);rintro e W2 ⟨rfl,rfl⟩)|((with_reducible refine (is_no HB2.out (HM.out.sl HTk.out) (by omega) rfl (by decide)).mono ?_);rintro e W2 ⟨rfl,rfl⟩)|((with_reducible refine (is_yes HB3.out (HM.out.sl HTk.out) (by omega) rfl (by decide)).mono ?_);rintro e W2 ⟨rfl,rfl⟩)|(refine is_use HR.out (HM.out.sl HTk.out) (by omega) rfl (by decide) ?_ ?_;all_goals (intro hb hR2;(try have hlt:=isT_lt hb);clear hb;have HR1:=Lib.hid hR2;clear HR hR2;have HR:=HR1;clear HR1)))|(go_at_call 45;refine RC.use (ihE fuel (Nat.le_refl _)) HR.out hr (HM.out.sl HTk.out) (by omega) (by omega) (by simp) (fun hno p c l W2 hl hM2=>?_) (fun l m j hR2 hG p c W2 hM2=>?_);all_goals first|(have hg:=hG.lenc 0 rfl rfl rfl;clear hG;obtain ⟨hL,hF,hJ⟩:=hg;have HR1:=Lib.hid hR2;clear HR hR2;have HR:=HR1;clear HR1;have HM1:=Lib.hid (HM.out.comp2 hM2);clear HM hM2;(try clear W1);rename World=>W1;have HM:=HM1;clear HM1;simp only [List.cons_append,List.nil_append] at HM)|(have HNo:=Lib.hid hno;clear hno HR;have HM1:=Lib.hid (HM.out.comp2 hM2);clear HM hM2;(try clear W1);rename World=>W1;have HM:=HM1;clear HM1;simp only [List.cons_append,List.nil_append] at HM))|((with_reducible refine skip_op ?_ ?_);exact rfl)|refine mP ?_|(refine mS ?_;clear HM;intro W1 HM)|(refine hbs1A HM rfl rfl rfl rfl ?_;clear HM;intro g1 W1 HM)|(refine hal (dst:=some 6) HM rfl ?_;clear HM;intro g6 W1 HM))
   all_goals first|go_ret2|go_ret
   all_goals (first|exact GPost.okn HR.out (by first|rfl|(simp only [List.length_append,List.length_cons,List.length_nil];done)) (by omega) (HM.out.sub (.cons _ (.cons_cons _ (List.nil_sublist _))))|exact GPost.okn HR.out rfl (by omega) (HM.out.sub (.cons_cons _ (List.nil_sublist _)))|exact GPost.no_ HNo.out HM.out.below|exact GPost.no_ HR.out.symm HM.out.below|exact GPost.noL HNo.out (by decide) (HM.out.sub (.cons _ (.cons_cons _ (List.nil_sublist _)))))
  have HB3:=Lib.hid (show isT T i [40]=false by simpa using hb3)
  rw [if_neg hb3] at HR0
  clear hb3
  by_cases hb4:isT T i [91]=true
  ·rw [if_pos hb4] at HR0
   have HR:=Lib.hid HR0
   have HB4:=Lib.hid hb4
   clear HR0 hb4
   go_enter Tryz.func138,Tryz.ntmps138
   go_wp2_with (first|((with_reducible refine iat 24 ?_);(refine ixa rfl rfl rfl hlt ?_))|((with_reducible refine iat 25 ?_);(refine ldxW (HM.out.olds HE.out) rfl rfl ?_))|(go_at_call 64;first|((with_reducible refine (is_no HB0.out (HM.out.sl HTk.out) (by omega) rfl (by decide)).mono ?_);rintro e W2 ⟨rfl,rfl⟩)|((with_reducible refine (is_no HB1.out (HM.out.sl HTk.out) (by omega) rfl (by decide)).mono ?_);rintro e W2 ⟨rfl,rfl⟩)|((with_reducible refine (is_no HB2.out (HM.out.sl HTk.out) (by omega) rfl (by decide)).mono ?_);rintro e W2 ⟨rfl,rfl⟩)|((with_reducible refine (is_no HB3.out (HM.out.sl HTk.out) (by omega) rfl (by decide)).mono ?_);rintro e W2 ⟨rfl,rfl⟩)|((with_reducible refine (is_yes HB4.out (HM.out.sl HTk.out) (by omega) rfl (by decide)).mono ?_);rintro e W2 ⟨rfl,rfl⟩))|(go_at_call 160;refine BC.use (H93.out) HR.out hr (HM.out.sl HTk.out) (by omega) (by omega) (by simp) (fun hno W2 hb=>?_) (fun l m j hR2 hG p c W2 hM2=>?_);all_goals first|(obtain ⟨hF,hJ,hL,hC,-⟩:=hG;simp only [NT.pg,NT.acc,NT.slk,NT.cnt,List.length_nil] at hF hL hC;have HR1:=Lib.hid hR2;clear HR hR2;have HR:=HR1;clear HR1;have HM1:=Lib.hid (HM.out.comp2 hM2);clear HM hM2;(try clear W1);rename World=>W1;have HM:=HM1;clear HM1;simp only [List.cons_append,List.nil_append] at HM)|(have HNo:=Lib.hid hno;clear hno HR;have HM1:=(HM.out.next hb).row0 36 8;clear hb;clear HM;(try clear W1);rename World=>W1;have HM:=Lib.hid HM1;clear HM1))|(first|((with_reducible refine iat 160 ?_);(have h5:Sl _ _ ([nOp 26 (m:Int)].flatMap NodeD.cs):=row_sl (box_row (n:=1) (k:=8) (HM.out.get (k:=0) rfl) rfl (by decide));refine apN (la:=[nOp 26 (m:Int)]) rfl HM.out 1 rfl rfl rfl rfl (by first|rfl|simp only [List.length_append,List.nil_append,List.length_nil,List.length_cons,Nat.zero_add]) rfl h5 om (by simp) (by decide) ?_;intro p160 c160 W2 HM1;clear h5;clear HM;(try clear W1);rename World=>W1;have HM:=Lib.hid HM1;clear HM1;simp only [List.set,List.nil_append] at HM))|((with_reducible refine iat 160 ?_);(have h5:Sl _ _ ([nOp 26 0].flatMap NodeD.cs):=row_sl (box_row (n:=1) (k:=8) (HM.out.get (k:=0) rfl) rfl (by decide));refine apN (l:=[]) (la:=[nOp 26 0]) rfl HM.out 1 rfl rfl rfl rfl (by first|rfl|simp only [List.length_append,List.nil_append,List.length_nil,List.length_cons,Nat.zero_add]) rfl h5 om (by simp) (by decide) ?_;intro p160 c160 W2 HM1;clear h5;clear HM;(try clear W1);rename World=>W1;have HM:=Lib.hid HM1;clear HM1;simp only [List.set,List.nil_append] at HM)))|((with_reducible refine skip_op ?_ ?_);exact rfl)|refine mP ?_|(refine mS ?_;clear HM;intro W1 HM)|(refine hbs1A HM rfl rfl rfl rfl ?_;clear HM;intro g1 W1 HM)|(refine hal (dst:=some 6) HM rfl ?_;clear HM;intro g6 W1 HM))
   all_goals first|go_ret2|go_ret
   all_goals (first|exact GPost.okn HR.out (by first|rfl|(simp only [List.length_append,List.length_cons,List.length_nil];done)) (by omega) (HM.out.sub (.cons _ (.cons_cons _ (List.nil_sublist _))))|exact GPost.okn HR.out rfl (by omega) (HM.out.sub (.cons_cons _ (List.nil_sublist _)))|exact GPost.no_ HNo.out HM.out.below|exact GPost.no_ HR.out.symm HM.out.below|exact GPost.noL HNo.out (by decide) (HM.out.sub (.cons _ (.cons_cons _ (List.nil_sublist _)))))
  have HB4:=Lib.hid (show isT T i [91]=false by simpa using hb4)
  rw [if_neg hb4] at HR0
  clear hb4
  by_cases hb5:isT T i [123]=true
  ·rw [if_pos hb5] at HR0
   have HR:=Lib.hid HR0
   have HB5:=Lib.hid hb5
   clear HR0 hb5
   go_enter Tryz.func138,Tryz.ntmps138
   go_wp2_with (first|((with_reducible refine iat 24 ?_);(refine ixa rfl rfl rfl hlt ?_))|((with_reducible refine iat 25 ?_);(refine ldxW (HM.out.olds HE.out) rfl rfl ?_))|(go_at_call 64;first|((with_reducible refine (is_no HB0.out (HM.out.sl HTk.out) (by omega) rfl (by decide)).mono ?_);rintro e W2 ⟨rfl,rfl⟩)|((with_reducible refine (is_no HB1.out (HM.out.sl HTk.out) (by omega) rfl (by decide)).mono ?_);rintro e W2 ⟨rfl,rfl⟩)|((with_reducible refine (is_no HB2.out (HM.out.sl HTk.out) (by omega) rfl (by decide)).mono ?_);rintro e W2 ⟨rfl,rfl⟩)|((with_reducible refine (is_no HB3.out (HM.out.sl HTk.out) (by omega) rfl (by decide)).mono ?_);rintro e W2 ⟨rfl,rfl⟩)|((with_reducible refine (is_no HB4.out (HM.out.sl HTk.out) (by omega) rfl (by decide)).mono ?_);rintro e W2 ⟨rfl,rfl⟩)|((with_reducible refine (is_yes HB5.out (HM.out.sl HTk.out) (by omega) rfl (by decide)).mono ?_);rintro e W2 ⟨rfl,rfl⟩))|(go_at_call 160;refine BC.use (H125.out) HR.out hr (HM.out.sl HTk.out) (by omega) (by omega) (by simp) (fun hno W2 hb=>?_) (fun l m j hR2 hG p c W2 hM2=>?_);all_goals first|(obtain ⟨hF,hJ,hL,hC,-⟩:=hG;simp only [NT.pg,NT.acc,NT.slk,NT.cnt,List.length_nil] at hF hL hC;have HR1:=Lib.hid hR2;clear HR hR2;have HR:=HR1;clear HR1;have HM1:=Lib.hid (HM.out.comp2 hM2);clear HM hM2;(try clear W1);rename World=>W1;have HM:=HM1;clear HM1;simp only [List.cons_append,List.nil_append] at HM)|(have HNo:=Lib.hid hno;clear hno HR;have HM1:=(HM.out.next hb).row0 36 8;clear hb;clear HM;(try clear W1);rename World=>W1;have HM:=Lib.hid HM1;clear HM1))|(first|((with_reducible refine iat 178 ?_);(have h5:Sl _ _ ([nOp 27 (m:Int)].flatMap NodeD.cs):=row_sl (box_row (n:=1) (k:=8) (HM.out.get (k:=0) rfl) rfl (by decide));refine apN (la:=[nOp 27 (m:Int)]) rfl HM.out 1 rfl rfl rfl rfl (by first|rfl|simp only [List.length_append,List.nil_append,List.length_nil,List.length_cons,Nat.zero_add]) rfl h5 om (by simp) (by decide) ?_;intro p178 c178 W2 HM1;clear h5;clear HM;(try clear W1);rename World=>W1;have HM:=Lib.hid HM1;clear HM1;simp only [List.set,List.nil_append] at HM))|((with_reducible refine iat 178 ?_);(have h5:Sl _ _ ([nOp 27 0].flatMap NodeD.cs):=row_sl (box_row (n:=1) (k:=8) (HM.out.get (k:=0) rfl) rfl (by decide));refine apN (l:=[]) (la:=[nOp 27 0]) rfl HM.out 1 rfl rfl rfl rfl (by first|rfl|simp only [List.length_append,List.nil_append,List.length_nil,List.length_cons,Nat.zero_add]) rfl h5 om (by simp) (by decide) ?_;intro p178 c178 W2 HM1;clear h5;clear HM;(try clear W1);rename World=>W1;have HM:=Lib.hid HM1;clear HM1;simp only [List.set,List.nil_append] at HM)))|((with_reducible refine skip_op ?_ ?_);exact rfl)|refine mP ?_|(refine mS ?_;clear HM;intro W1 HM)|(refine hbs1A HM rfl rfl rfl rfl ?_;clear HM;intro g1 W1 HM)|(refine hal (dst:=some 6) HM rfl ?_;clear HM;intro g6 W1 HM))
   all_goals first|go_ret2|go_ret
   all_goals (first|exact GPost.okn HR.out (by first|rfl|(simp only [List.length_append,List.length_cons,List.length_nil];done)) (by omega) (HM.out.sub (.cons _ (.cons_cons _ (List.nil_sublist _))))|exact GPost.okn HR.out rfl (by omega) (HM.out.sub (.cons_cons _ (List.nil_sublist _)))|exact GPost.no_ HNo.out HM.out.below|exact GPost.no_ HR.out.symm HM.out.below|exact GPost.noL HNo.out (by decide) (HM.out.sub (.cons _ (.cons_cons _ (List.nil_sublist _)))))
  have HB5:=Lib.hid (show isT T i [123]=false by simpa using hb5)
  rw [if_neg hb5] at HR0
  clear hb5
  have HNo:=Lib.hid HR0.symm
  clear HR0
  go_enter Tryz.func138,Tryz.ntmps138
  go_wp2_with (first|((with_reducible refine iat 24 ?_);(refine ixa rfl rfl rfl hlt ?_))|((with_reducible refine iat 25 ?_);(refine ldxW (HM.out.olds HE.out) rfl rfl ?_))|(go_at_call 64;first|((with_reducible refine (is_no HB0.out (HM.out.sl HTk.out) (by omega) rfl (by decide)).mono ?_);rintro e W2 ⟨rfl,rfl⟩)|((with_reducible refine (is_no HB1.out (HM.out.sl HTk.out) (by omega) rfl (by decide)).mono ?_);rintro e W2 ⟨rfl,rfl⟩)|((with_reducible refine (is_no HB2.out (HM.out.sl HTk.out) (by omega) rfl (by decide)).mono ?_);rintro e W2 ⟨rfl,rfl⟩)|((with_reducible refine (is_no HB3.out (HM.out.sl HTk.out) (by omega) rfl (by decide)).mono ?_);rintro e W2 ⟨rfl,rfl⟩)|((with_reducible refine (is_no HB4.out (HM.out.sl HTk.out) (by omega) rfl (by decide)).mono ?_);rintro e W2 ⟨rfl,rfl⟩)|((with_reducible refine (is_no HB5.out (HM.out.sl HTk.out) (by omega) rfl (by decide)).mono ?_);rintro e W2 ⟨rfl,rfl⟩))|((with_reducible refine skip_op ?_ ?_);exact rfl)|refine mP ?_|(refine mS ?_;clear HM;intro W1 HM)|(refine hbs1A HM rfl rfl rfl rfl ?_;clear HM;intro g1 W1 HM)|(refine hal (dst:=some 6) HM rfl ?_;clear HM;intro g6 W1 HM))
  first|go_ret2|go_ret
  exact GPost.no_ HNo.out HM.out.below
end Go.Proofs.YtkackccmhghphaaGreatDoor
