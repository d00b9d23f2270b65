/- What stands by itself: the reader of expressions. (fast) -/
import Derived.Test.YtnghlakllgkjlaaGreatDoorRdE
import Derived.Test.YtnghlakllgkjlaaGreatDoorRdA
namespace Go.Proofs.YtnghlakllgkjlaaGreatDoor
open Go.RowKit
set_option linter.unusedVariables false
set_option linter.unusedSimpArgs false
set_option maxRecDepth 100000
theorem nodes_snoc (acc:List NodeD) (x:NodeD) (cs:List Value) (h:x.cs=cs):(acc.flatMap NodeD.cs).take (acc.length * 8)++cs=(acc++[x]).flatMap NodeD.cs:=by
 rw [List.take_of_length_le (by rw [flat_len NodeD.cs 8 NodeD.cs_len];exact Nat.le_refl _),List.flatMap_append,← h]
 simp
theorem marked_use {T:List TokD} (hT:TksOk T) {fuel:Nat} (ihE:∀ g,g≤fuel→XC T 186 .expr g) {w0 W:World} {R:Nat} {tp:Option Addr} {tc i:Nat} {op:Option Addr} {oc:Nat} {acc:List NodeD} {rest:List Res} {t:TokD} {r:PR} {K:Ending→World→Prop} {d:Int} {x:ByteArray} (ht:T[i]? = some t) (h5:5≤t.kind) (hx:t.text=x) (HR:G T (fuel + 1) .sing i=r) (hr:r≠.out) (HTk:Sl w0 tp (T.flatMap TokD.cs)) (HM:Mem w0 W (.box R 231 [.slice tp T.length tc,.int .i64 d,.slice op acc.length oc] :: .row op oc 46 8 acc.length (acc.flatMap NodeD.cs) :: rest)) (hd:d=((i + 1:Nat):Int))
  (ha:acc.length≤i + 2) (hno:r = .no→∀ W',Below w0.heap.size w0 W'→K faultE W')
  (hok:∀ (l:List NodeD) (m j:Nat),PR.ok l m j=r→∀ (op:Option Addr) (oc:Nat) (W' : World),Mem w0 W' (.box R 231 [.slice tp T.length tc,.int .i64 j,.slice op (acc++l).length oc] :: .row op oc 46 8 (acc++l).length ((acc++l).flatMap NodeD.cs) :: rest)→K (.returned (.tuple #[])) W') :
  Calls Tryz.prog 313 #[.pointer (some ⟨R,0,none⟩),.string x] W K:=by
 subst hd hx
 refine (xMarked hT fuel ihE w0 W R tp tc i op oc acc rest ht h5 HTk HM ha (HR▸hr)).mono fun e W' hp=>?_
 rw [HR] at hp
 cases r with
 | out=>exact absurd rfl hr
 | no=>
  obtain ⟨rfl,hb⟩:=hp
  exact hno rfl W' hb
 | ok l m j=>
  obtain ⟨op',oc',rfl,hM⟩:=hp
  exact hok l m j rfl op' oc' W' hM
set_option maxHeartbeats 16000000 in
theorem xSingle {T:List TokD} (hT:TksOk T) (hK:KndOk T) (fuel:Nat) (ihE:∀ g,g≤fuel→XC T 186 .expr g):XC T 310 .sing (fuel + 1):=by
 intro w0 W R tp tc i op oc acc rest HTk HM0 hi ha hne
 have HNe:=Lib.hid hne
 obtain ⟨r,hr⟩:∃ r,G T (fuel + 1) .sing i=r:=⟨_,rfl⟩
 rw [hr] at hne ⊢
 have hR2:=hr
 have HRr:=Lib.hid hr
 clear hr
 have hr:r≠.out:=hne
 have HM:=Lib.hid HM0
 have HTk:=Lib.hid HTk
 have hT1:=hT.len
 clear HM0 hne
 have hmf:∀ (fn:Fn) (first cap:Array Value) (w:World),(Instr.makeFunc fn first cap).run Tryz.prog w = .ok (.func fn first cap) w:=fun _ _ _ _=>rfl
 cases ht:T[i]? with
 | none=>
  have hlt:T.length≤i:=List.getElem?_eq_none_iff.1 ht
  simp only [G,ht] at hR2
  have hno:r = .no:=hR2.symm
  have d1:decide ((T.length:Int)≤i)=true:=decide_eq_true (by omega)
  have d1' : decide (T.length≤i)=true:=decide_eq_true hlt
  clear ht hR2
  go_enter Tryz.func310,Tryz.ntmps310
  go_wp2_with fail
  refine wp_region_mem (by kernel_rfl) (by kernel_rfl) HM.out ?_;intro hNE;(repeat (any_goals (first|((with_reducible refine skip_q ?_ ?_ ?_);(exact rfl);(rotate_left;(exact (hNE.elim fun p=>⟨p.W,p,rfl⟩))))|refine mQ ?_|fail|go_big_quiet_step (fail)|quiet_step (fail))));clear hNE;refine wpQuiet_nil ?_;intro W1 HM1;replace HM:=Lib.hid HM1;clear HM1
  go_wp2_with (first|(go_at_call 187;(with_reducible refine (xFail _).mono ?_);rintro e W2 ⟨rfl,rfl⟩;unfold faultE))
  exact ⟨rfl,XPost.no_ (by first|exact hno|rfl) HM.out.below⟩
 | some t=>
  have hlt:=some_lt ht
  have hkd:=hK t (List.mem_of_getElem? ht)
  have d1:decide ((T.length:Int)≤i)=false:=decide_eq_false (by omega)
  have d1' : decide (T.length≤i)=false:=decide_eq_false (by omega)
  obtain ⟨b,rfl,hb⟩:=tokAt HTk.out ht
  have HT:=Lib.hid ht
  simp only [G,ht] at hR2
  obtain ⟨kd,tx,nu,sc,dy,pt⟩:=t
  dsimp only at hR2 hkd
  have hcs:(⟨kd,tx,nu,sc,dy,pt⟩:TokD).cs=[.int .i64 kd,.string tx,.bool false,.int .u64 (nu / 18446744073709551616:Nat),.int .u64 (nu % 18446744073709551616:Nat),.int .i64 sc,.int .i64 dy,.int .i64 pt]:=rfl
  rw [hcs] at hb
  have HNum:=Lib.hid (nodes_snoc acc (nNum ⟨kd,tx,nu,sc,dy,pt⟩) _ rfl)
  have HDay:=Lib.hid (nodes_snoc acc (nDay ⟨kd,tx,nu,sc,dy,pt⟩) _ rfl)
  have HCs1:=Lib.hid (show (nNum ⟨kd,tx,nu,sc,dy,pt⟩).cs=[.int .i64 4,.int .i64 0,.string ⟨#[]⟩,.bool false,.int .u64 (nu / 18446744073709551616:Nat),.int .u64 (nu % 18446744073709551616:Nat),.int .i64 sc,.int .i64 0] from rfl)
  have HCs2:=Lib.hid (show (nDay ⟨kd,tx,nu,sc,dy,pt⟩).cs=[.int .i64 6,.int .i64 0,.string ⟨#[]⟩,.bool false,.int .u64 0,.int .u64 0,.int .i64 0,.int .i64 dy] from rfl)
  rw [HCs1.out] at HNum
  rw [HCs2.out] at HDay
  generalize nu / 18446744073709551616=nh at hb HNum
  generalize nu % 18446744073709551616=nl at hb HNum
  have HE:=Lib.hid hb
  have HAl:∀ x:NodeD,(acc++[x]).length=acc.length + 1:=fun x=>by rw [List.length_append];rfl
  have HL:=Lib.hid HAl
  clear ht hb hcs HCs1 HCs2 HAl
  by_cases h1:kd=1
  ·rw [if_pos h1] at hR2
   have q1:(kd == 1)=true:=by simpa using h1
   have HR:=Lib.hid hR2
   clear hR2 h1
   go_enter Tryz.func310,Tryz.ntmps310
   go_wp2_with fail
   refine wp_region_mem (by kernel_rfl) (by kernel_rfl) HM.out ?_;intro hNE;(repeat (any_goals (first|((with_reducible refine skip_q ?_ ?_ ?_);(exact rfl);(rotate_left;(exact (hNE.elim fun p=>⟨p.W,p,rfl⟩))))|refine mQ ?_|fail|go_big_quiet_step (fail)|quiet_step (fail))));clear hNE;refine wpQuiet_nil ?_;intro W1 HM1;replace HM:=Lib.hid HM1;clear HM1
   go_wp2_with fail
   refine wp_region_steps2 [(true,0),(true,1),(true,2),(true,3),(true,4),(true,5),(true,6),(true,7),(true,8),(true,9),(false,10),(false,11)] (by kernel_rfl) (by kernel_rfl) rfl (by kernel_rfl) (fun _ _ _ _ _ h=>h) HM.out _ (.cons_cons _ (.cons_cons _ (List.nil_sublist _))) ?_
   intro hNE W1 HM1;replace HM:=Lib.hid HM1;clear HM1
   have HS0:=Lib.hid (HM.out.sub (.cons_cons _ (.cons_cons _ (List.nil_sublist _))))
   simp only [wpSteps,List.getElem?_cons_succ,List.getElem?_cons_zero]
   (repeat (first|refine mQ ?_|((with_reducible refine wpQuiet_nil ?_);(try dsimp only))|((with_reducible refine qat 23 ?_);(refine qixa rfl rfl rfl hlt ?_))|((with_reducible refine qat 24 ?_);(refine qdA (vs:=[.int .i64 kd,.string tx,.bool false,.int .u64 nh,.int .u64 nl,.int .i64 sc,.int .i64 dy,.int .i64 pt]) rfl rfl (fun W ⟨q,hq⟩=>hq▸q.mem.olds HE.out) ?_))|go_big_quiet_step (fail)|quiet_step (fail)))
   go_wp2_with (first|(refine hal (dst:=some 2) HM rfl ?_;clear HM;intro g2 W1 HM))
   refine ⟨⟨⟨_,HM.out.sub msub⟩,rfl⟩,?_⟩
   (try dsimp only)
   go_wp2_with (first|(refine mS ?_;clear HM;intro W1 HM))
   refine ⟨⟨⟨_,HM.out.sub msub⟩,rfl⟩,?_⟩
   (try dsimp only)
   clear HS0 hNE
   have HM1:=HM
   clear HM
   have HM:=Lib.hid (HM1.out.perm ((List.Perm.swap _ _ _).trans (List.Perm.cons _ (List.Perm.swap _ _ _))))
   clear HM1
   go_wp2_with (first|refine mP ?_|(refine mS ?_;clear HM;intro W1 HM)|(refine hbs1A HM rfl rfl rfl rfl ?_;clear HM;intro g1 W1 HM)|(refine hal HM rfl ?_;clear HM;intro g1 W1 HM))
   refine wp_region_mem3 12 [(0,0),(0,1),(0,2),(0,3),(0,4),(0,5),(0,6),(0,7),(2,8),(2,9),(1,10),(1,11),(3,12)] (by kernel_rfl) (by kernel_rfl) rfl (by kernel_rfl) (fun _ _ _ _ _ h=>h) HM.out _ (.cons_cons _ (.cons _ (.cons_cons _ (List.nil_sublist _)))) ?_
   intro hNE W1 HM1;replace HM:=Lib.hid HM1;clear HM1
   have HS0:=Lib.hid (HM.out.sub (.cons_cons _ (.cons _ (.cons_cons _ (List.nil_sublist _)))))
   simp only [wpSteps3,List.getElem?_cons_succ,List.getElem?_cons_zero]
   (repeat (first|((with_reducible refine skip_q ?_ ?_ ?_);(exact rfl);(rotate_left;(first|exact (hNE.elim fun p=>⟨p.W,p,rfl⟩)|exact ⟨_,trivial⟩)))|refine mQ ?_|((with_reducible refine wpQuiet_nil ?_);(try dsimp only))|go_big_quiet_step (fail)|quiet_step (fail)))
   go_wp2_with (first|((with_reducible refine skip_op ?_ ?_);exact rfl)|(refine apb rfl HM.out 2 0 rfl rfl rfl rfl rfl rfl (by omega) (by omega) (by omega) ?_;intro p1 cap1 W1 HM1;replace HM:=Lib.hid HM1;clear HM1;simp only [List.set] at HM)|refine mP ?_|(refine mS ?_;clear HM;intro W1 HM)|(refine hbs1A HM rfl rfl rfl rfl ?_;clear HM;intro g1 W1 HM)|(refine hal HM rfl ?_;clear HM;intro g1 W1 HM))
   refine ⟨⟨⟨_,HM.out.sub msub⟩,rfl⟩,?_⟩
   (try dsimp only)
   (repeat (first|((with_reducible refine skip_q ?_ ?_ ?_);(exact rfl);(rotate_left;(first|exact (hNE.elim fun p=>⟨p.W,p,rfl⟩)|exact ⟨_,trivial⟩)))|refine mQ ?_|((with_reducible refine wpQuiet_nil ?_);(try dsimp only))|go_big_quiet_step (fail)|quiet_step (fail)))
   go_wp2_with (first|((with_reducible refine skip_op ?_ ?_);exact rfl)|(refine apb rfl HM.out 2 0 rfl rfl rfl rfl rfl rfl (by omega) (by omega) (by omega) ?_;intro p1 cap1 W1 HM1;replace HM:=Lib.hid HM1;clear HM1;simp only [List.set] at HM)|refine mP ?_|(refine mS ?_;clear HM;intro W1 HM)|(refine hbs1A HM rfl rfl rfl rfl ?_;clear HM;intro g1 W1 HM)|(refine hal HM rfl ?_;clear HM;intro g1 W1 HM))
   refine ⟨⟨⟨_,HM.out.sub msub⟩,rfl⟩,?_⟩
   (try dsimp only)
   (repeat (first|((with_reducible refine skip_q ?_ ?_ ?_);(exact rfl);(rotate_left;(first|exact (hNE.elim fun p=>⟨p.W,p,rfl⟩)|exact ⟨_,trivial⟩)))|refine mQ ?_|((with_reducible refine wpQuiet_nil ?_);(try dsimp only))|go_big_quiet_step (fail)|quiet_step (fail)))
   go_wp2_with (first|((with_reducible refine skip_op ?_ ?_);exact rfl)|(refine apb rfl HM.out 2 0 rfl rfl rfl rfl rfl rfl (by omega) (by omega) (by omega) ?_;intro p1 cap1 W1 HM1;replace HM:=Lib.hid HM1;clear HM1;simp only [List.set] at HM)|refine mP ?_|(refine mS ?_;clear HM;intro W1 HM)|(refine hbs1A HM rfl rfl rfl rfl ?_;clear HM;intro g1 W1 HM)|(refine hal HM rfl ?_;clear HM;intro g1 W1 HM))
   refine ⟨trivial,?_⟩
   (try dsimp only)
   (repeat (first|((with_reducible refine skip_q ?_ ?_ ?_);(exact rfl);(rotate_left;(first|exact (hNE.elim fun p=>⟨p.W,p,rfl⟩)|exact ⟨_,trivial⟩)))|refine mQ ?_|((with_reducible refine wpQuiet_nil ?_);(try dsimp only))|go_big_quiet_step (fail)|quiet_step (fail)))
   clear HS0 hNE
   go_wp2_with fail
   first|go_end0|go_ret|go_ret2
   have HM2:=HM.out
   rw [HNum.out,← HL.out (nNum ⟨kd,tx,nu,sc,dy,pt⟩)] at HM2
   exact XPost.ok_ HR.out rfl (HM2.sub (.cons _ (.cons_cons _ (.cons_cons _ (.cons _ (.refl _))))))
  rw [if_neg h1] at hR2
  by_cases h2:kd=2
  ·rw [if_pos h2] at hR2
   have q1:(kd == 1)=false:=by simpa using h1
   have q2:(kd == 2)=true:=by simpa using h2
   have HR:=Lib.hid hR2
   clear hR2 h1 h2
   go_enter Tryz.func310,Tryz.ntmps310
   go_wp2_with fail
   refine wp_region_mem (by kernel_rfl) (by kernel_rfl) HM.out ?_;intro hNE;(repeat (any_goals (first|((with_reducible refine skip_q ?_ ?_ ?_);(exact rfl);(rotate_left;(exact (hNE.elim fun p=>⟨p.W,p,rfl⟩))))|refine mQ ?_|fail|go_big_quiet_step (fail)|quiet_step (fail))));clear hNE;refine wpQuiet_nil ?_;intro W1 HM1;replace HM:=Lib.hid HM1;clear HM1
   go_wp2_with fail
   refine wp_region_steps2 [(true,0),(true,1),(true,2),(true,3),(true,4),(true,5),(true,6),(true,7),(true,8),(true,9),(false,10),(false,11)] (by kernel_rfl) (by kernel_rfl) rfl (by kernel_rfl) (fun _ _ _ _ _ h=>h) HM.out _ (.cons_cons _ (.cons_cons _ (List.nil_sublist _))) ?_
   intro hNE W1 HM1;replace HM:=Lib.hid HM1;clear HM1
   have HS0:=Lib.hid (HM.out.sub (.cons_cons _ (.cons_cons _ (List.nil_sublist _))))
   simp only [wpSteps,List.getElem?_cons_succ,List.getElem?_cons_zero]
   (repeat (first|refine mQ ?_|((with_reducible refine wpQuiet_nil ?_);(try dsimp only))|((with_reducible refine qat 23 ?_);(refine qixa rfl rfl rfl hlt ?_))|((with_reducible refine qat 24 ?_);(refine qdA (vs:=[.int .i64 kd,.string tx,.bool false,.int .u64 nh,.int .u64 nl,.int .i64 sc,.int .i64 dy,.int .i64 pt]) rfl rfl (fun W ⟨q,hq⟩=>hq▸q.mem.olds HE.out) ?_))|go_big_quiet_step (fail)|quiet_step (fail)))
   go_wp2_with (first|(refine hal (dst:=some 2) HM rfl ?_;clear HM;intro g2 W1 HM))
   refine ⟨⟨⟨_,HM.out.sub msub⟩,rfl⟩,?_⟩
   (try dsimp only)
   go_wp2_with (first|(refine mS ?_;clear HM;intro W1 HM))
   refine ⟨⟨⟨_,HM.out.sub msub⟩,rfl⟩,?_⟩
   (try dsimp only)
   clear HS0 hNE
   have HM1:=HM
   clear HM
   have HM:=Lib.hid (HM1.out.perm ((List.Perm.swap _ _ _).trans (List.Perm.cons _ (List.Perm.swap _ _ _))))
   clear HM1
   go_wp2_with (first|(go_at_call 282;refine named_use _ _ _ HM.out om ?_;intro op1 oc1 W2 hM2;replace HM:=Lib.hid hM2;clear hM2)|refine mP ?_|(refine mS ?_;clear HM;intro W1 HM)|(refine hbs1A HM rfl rfl rfl rfl ?_;clear HM;intro g1 W1 HM)|(refine hal HM rfl ?_;clear HM;intro g1 W1 HM))
   all_goals (first|go_end0|go_ret|go_ret2)
   all_goals (exact XPost.ok_ HR.out (by simp only [List.append_assoc]) (HM.out.sub (.cons_cons _ (.cons_cons _ (.cons _ (.refl _))))))
  rw [if_neg h2] at hR2
  by_cases h3:kd=3
  ·rw [if_pos h3] at hR2
   have q1:(kd == 1)=false:=by simpa using h1
   have q2:(kd == 2)=false:=by simpa using h2
   have q3:(kd == 3)=true:=by simpa using h3
   have HR:=Lib.hid hR2
   clear hR2 h1 h2 h3
   go_enter Tryz.func310,Tryz.ntmps310
   go_wp2_with fail
   refine wp_region_mem (by kernel_rfl) (by kernel_rfl) HM.out ?_;intro hNE;(repeat (any_goals (first|((with_reducible refine skip_q ?_ ?_ ?_);(exact rfl);(rotate_left;(exact (hNE.elim fun p=>⟨p.W,p,rfl⟩))))|refine mQ ?_|fail|go_big_quiet_step (fail)|quiet_step (fail))));clear hNE;refine wpQuiet_nil ?_;intro W1 HM1;replace HM:=Lib.hid HM1;clear HM1
   go_wp2_with fail
   refine wp_region_steps2 [(true,0),(true,1),(true,2),(true,3),(true,4),(true,5),(true,6),(true,7),(true,8),(true,9),(false,10),(false,11)] (by kernel_rfl) (by kernel_rfl) rfl (by kernel_rfl) (fun _ _ _ _ _ h=>h) HM.out _ (.cons_cons _ (.cons_cons _ (List.nil_sublist _))) ?_
   intro hNE W1 HM1;replace HM:=Lib.hid HM1;clear HM1
   have HS0:=Lib.hid (HM.out.sub (.cons_cons _ (.cons_cons _ (List.nil_sublist _))))
   simp only [wpSteps,List.getElem?_cons_succ,List.getElem?_cons_zero]
   (repeat (first|refine mQ ?_|((with_reducible refine wpQuiet_nil ?_);(try dsimp only))|((with_reducible refine qat 23 ?_);(refine qixa rfl rfl rfl hlt ?_))|((with_reducible refine qat 24 ?_);(refine qdA (vs:=[.int .i64 kd,.string tx,.bool false,.int .u64 nh,.int .u64 nl,.int .i64 sc,.int .i64 dy,.int .i64 pt]) rfl rfl (fun W ⟨q,hq⟩=>hq▸q.mem.olds HE.out) ?_))|go_big_quiet_step (fail)|quiet_step (fail)))
   go_wp2_with (first|(refine hal (dst:=some 2) HM rfl ?_;clear HM;intro g2 W1 HM))
   refine ⟨⟨⟨_,HM.out.sub msub⟩,rfl⟩,?_⟩
   (try dsimp only)
   go_wp2_with (first|(refine mS ?_;clear HM;intro W1 HM))
   refine ⟨⟨⟨_,HM.out.sub msub⟩,rfl⟩,?_⟩
   (try dsimp only)
   clear HS0 hNE
   have HM1:=HM
   clear HM
   have HM:=Lib.hid (HM1.out.perm ((List.Perm.swap _ _ _).trans (List.Perm.cons _ (List.Perm.swap _ _ _))))
   clear HM1
   go_wp2_with (first|refine mP ?_|(refine mS ?_;clear HM;intro W1 HM)|(refine hbs1A HM rfl rfl rfl rfl ?_;clear HM;intro g1 W1 HM)|(refine hal HM rfl ?_;clear HM;intro g1 W1 HM))
   refine wp_region_mem3 12 [(0,0),(0,1),(0,2),(0,3),(0,4),(0,5),(0,6),(0,7),(2,8),(2,9),(1,10),(1,11),(3,12)] (by kernel_rfl) (by kernel_rfl) rfl (by kernel_rfl) (fun _ _ _ _ _ h=>h) HM.out _ (.cons_cons _ (.cons _ (.cons_cons _ (List.nil_sublist _)))) ?_
   intro hNE W1 HM1;replace HM:=Lib.hid HM1;clear HM1
   have HS0:=Lib.hid (HM.out.sub (.cons_cons _ (.cons _ (.cons_cons _ (List.nil_sublist _)))))
   simp only [wpSteps3,List.getElem?_cons_succ,List.getElem?_cons_zero]
   (repeat (first|((with_reducible refine skip_q ?_ ?_ ?_);(exact rfl);(rotate_left;(first|exact (hNE.elim fun p=>⟨p.W,p,rfl⟩)|exact ⟨_,trivial⟩)))|refine mQ ?_|((with_reducible refine wpQuiet_nil ?_);(try dsimp only))|go_big_quiet_step (fail)|quiet_step (fail)))
   go_wp2_with (first|((with_reducible refine skip_op ?_ ?_);exact rfl)|(refine apb rfl HM.out 2 0 rfl rfl rfl rfl rfl rfl (by omega) (by omega) (by omega) ?_;intro p1 cap1 W1 HM1;replace HM:=Lib.hid HM1;clear HM1;simp only [List.set] at HM)|refine mP ?_|(refine mS ?_;clear HM;intro W1 HM)|(refine hbs1A HM rfl rfl rfl rfl ?_;clear HM;intro g1 W1 HM)|(refine hal HM rfl ?_;clear HM;intro g1 W1 HM))
   refine ⟨⟨⟨_,HM.out.sub msub⟩,rfl⟩,?_⟩
   (try dsimp only)
   (repeat (first|((with_reducible refine skip_q ?_ ?_ ?_);(exact rfl);(rotate_left;(first|exact (hNE.elim fun p=>⟨p.W,p,rfl⟩)|exact ⟨_,trivial⟩)))|refine mQ ?_|((with_reducible refine wpQuiet_nil ?_);(try dsimp only))|go_big_quiet_step (fail)|quiet_step (fail)))
   go_wp2_with (first|((with_reducible refine skip_op ?_ ?_);exact rfl)|(refine apb rfl HM.out 2 0 rfl rfl rfl rfl rfl rfl (by omega) (by omega) (by omega) ?_;intro p1 cap1 W1 HM1;replace HM:=Lib.hid HM1;clear HM1;simp only [List.set] at HM)|refine mP ?_|(refine mS ?_;clear HM;intro W1 HM)|(refine hbs1A HM rfl rfl rfl rfl ?_;clear HM;intro g1 W1 HM)|(refine hal HM rfl ?_;clear HM;intro g1 W1 HM))
   refine ⟨⟨⟨_,HM.out.sub msub⟩,rfl⟩,?_⟩
   (try dsimp only)
   (repeat (first|((with_reducible refine skip_q ?_ ?_ ?_);(exact rfl);(rotate_left;(first|exact (hNE.elim fun p=>⟨p.W,p,rfl⟩)|exact ⟨_,trivial⟩)))|refine mQ ?_|((with_reducible refine wpQuiet_nil ?_);(try dsimp only))|go_big_quiet_step (fail)|quiet_step (fail)))
   go_wp2_with (first|((with_reducible refine skip_op ?_ ?_);exact rfl)|(refine apb rfl HM.out 2 0 rfl rfl rfl rfl rfl rfl (by omega) (by omega) (by omega) ?_;intro p1 cap1 W1 HM1;replace HM:=Lib.hid HM1;clear HM1;simp only [List.set] at HM)|refine mP ?_|(refine mS ?_;clear HM;intro W1 HM)|(refine hbs1A HM rfl rfl rfl rfl ?_;clear HM;intro g1 W1 HM)|(refine hal HM rfl ?_;clear HM;intro g1 W1 HM))
   refine ⟨trivial,?_⟩
   (try dsimp only)
   (repeat (first|((with_reducible refine skip_q ?_ ?_ ?_);(exact rfl);(rotate_left;(first|exact (hNE.elim fun p=>⟨p.W,p,rfl⟩)|exact ⟨_,trivial⟩)))|refine mQ ?_|((with_reducible refine wpQuiet_nil ?_);(try dsimp only))|go_big_quiet_step (fail)|quiet_step (fail)))
   clear HS0 hNE
   go_wp2_with fail
   first|go_end0|go_ret|go_ret2
   have HM2:=HM.out
   rw [HDay.out,← HL.out (nDay ⟨kd,tx,nu,sc,dy,pt⟩)] at HM2
   exact XPost.ok_ HR.out rfl (HM2.sub (.cons _ (.cons_cons _ (.cons_cons _ (.cons _ (.refl _))))))
  rw [if_neg h3] at hR2
  by_cases h4:kd=4
  ·rw [if_pos h4] at hR2
   have q1:(kd == 1)=false:=by simpa using h1
   have q2:(kd == 2)=false:=by simpa using h2
   have q3:(kd == 3)=false:=by simpa using h3
   have q4:(kd == 4)=true:=by simpa using h4
   have HR:=Lib.hid hR2
   clear hR2 h1 h2 h3 h4
   go_enter Tryz.func310,Tryz.ntmps310
   go_wp2_with fail
   refine wp_region_mem (by kernel_rfl) (by kernel_rfl) HM.out ?_;intro hNE;(repeat (any_goals (first|((with_reducible refine skip_q ?_ ?_ ?_);(exact rfl);(rotate_left;(exact (hNE.elim fun p=>⟨p.W,p,rfl⟩))))|refine mQ ?_|fail|go_big_quiet_step (fail)|quiet_step (fail))));clear hNE;refine wpQuiet_nil ?_;intro W1 HM1;replace HM:=Lib.hid HM1;clear HM1
   go_wp2_with fail
   refine wp_region_steps2 [(true,0),(true,1),(true,2),(true,3),(true,4),(true,5),(true,6),(true,7),(true,8),(true,9),(false,10),(false,11)] (by kernel_rfl) (by kernel_rfl) rfl (by kernel_rfl) (fun _ _ _ _ _ h=>h) HM.out _ (.cons_cons _ (.cons_cons _ (List.nil_sublist _))) ?_
   intro hNE W1 HM1;replace HM:=Lib.hid HM1;clear HM1
   have HS0:=Lib.hid (HM.out.sub (.cons_cons _ (.cons_cons _ (List.nil_sublist _))))
   simp only [wpSteps,List.getElem?_cons_succ,List.getElem?_cons_zero]
   (repeat (first|refine mQ ?_|((with_reducible refine wpQuiet_nil ?_);(try dsimp only))|((with_reducible refine qat 23 ?_);(refine qixa rfl rfl rfl hlt ?_))|((with_reducible refine qat 24 ?_);(refine qdA (vs:=[.int .i64 kd,.string tx,.bool false,.int .u64 nh,.int .u64 nl,.int .i64 sc,.int .i64 dy,.int .i64 pt]) rfl rfl (fun W ⟨q,hq⟩=>hq▸q.mem.olds HE.out) ?_))|go_big_quiet_step (fail)|quiet_step (fail)))
   go_wp2_with (first|(refine hal (dst:=some 2) HM rfl ?_;clear HM;intro g2 W1 HM))
   refine ⟨⟨⟨_,HM.out.sub msub⟩,rfl⟩,?_⟩
   (try dsimp only)
   go_wp2_with (first|(refine mS ?_;clear HM;intro W1 HM))
   refine ⟨⟨⟨_,HM.out.sub msub⟩,rfl⟩,?_⟩
   (try dsimp only)
   clear HS0 hNE
   have HM1:=HM
   clear HM
   have HM:=Lib.hid (HM1.out.perm ((List.Perm.swap _ _ _).trans (List.Perm.cons _ (List.Perm.swap _ _ _))))
   clear HM1
   go_wp2_with (first|(go_at_call 224;refine take_use HR.out HTk.out HM.out (by omega) hT1 (by omega) rfl ?_ ?_;all_goals (intro hb hR2 W2 hM2;(try have hlt:=isT_lt hb);clear hb;have HR1:=Lib.hid hR2;clear HR hR2;have HR:=HR1;clear HR1;replace HM:=Lib.hid hM2;clear hM2))|(go_at_call 282;refine named_use _ _ _ HM.out om ?_;intro op1 oc1 W2 hM2;replace HM:=Lib.hid hM2;clear hM2)|(go_at_call 312;refine XL.use (xList_at hT fuel ihE 41) HR.out hr HTk.out HM.out (by omega) (by omega) om rfl (fun hno W2 hb=>(show _∧_ from ⟨rfl,XPost.no_ hno hb⟩)) ?_;intro l m j hR2 hg op1 oc1 W2 hM2;obtain ⟨hL,hF,hJ,hm⟩:=hg;(by_cases h8:8 < m);all_goals ((first|(rw [if_pos h8] at hR2;have d8:decide ((8:Int) < m)=true:=decide_eq_true (by omega);have d8n:decide (8 < m)=true:=decide_eq_true h8)|(rw [if_neg h8] at hR2;have d8:decide ((8:Int) < m)=false:=decide_eq_false (by omega);have d8n:decide (8 < m)=false:=decide_eq_false h8));clear h8;have HR1:=Lib.hid hR2;clear HR hR2;have HR:=HR1;clear HR1;replace HM:=Lib.hid hM2;clear hM2))|(go_at_call 187;(with_reducible refine (xFail _).mono ?_);rintro e W2 ⟨rfl,rfl⟩;unfold faultE)|refine mP ?_|(refine mS ?_;clear HM;intro W1 HM)|(refine hbs1A HM rfl rfl rfl rfl ?_;clear HM;intro g1 W1 HM)|(refine hal HM rfl ?_;clear HM;intro g1 W1 HM))
   all_goals (first|go_end0|go_ret|go_ret2|skip)
   all_goals (first|exact XPost.ok_ HR.out (by simp only [List.append_assoc]) (HM.out.sub (.cons_cons _ (.cons_cons _ (.cons _ (.refl _)))))|exact ⟨rfl,XPost.no_ HR.out.symm HM.out.below⟩)
  rw [if_neg h4] at hR2
  have HK5:=Lib.hid (show 5≤(⟨kd,tx,nu,sc,dy,pt⟩:TokD).kind from by show 5≤kd;omega)
  have q1:(kd == 1)=false:=by simpa using h1
  have q2:(kd == 2)=false:=by simpa using h2
  have q3:(kd == 3)=false:=by simpa using h3
  have q4:(kd == 4)=false:=by simpa using h4
  clear hR2 h1 h2 h3 h4 hkd
  go_enter Tryz.func310,Tryz.ntmps310
  go_wp2_with fail
  refine wp_region_mem (by kernel_rfl) (by kernel_rfl) HM.out ?_;intro hNE;(repeat (any_goals (first|((with_reducible refine skip_q ?_ ?_ ?_);(exact rfl);(rotate_left;(exact (hNE.elim fun p=>⟨p.W,p,rfl⟩))))|refine mQ ?_|fail|go_big_quiet_step (fail)|quiet_step (fail))));clear hNE;refine wpQuiet_nil ?_;intro W1 HM1;replace HM:=Lib.hid HM1;clear HM1
  go_wp2_with fail
  refine wp_region_steps2 [(true,0),(true,1),(true,2),(true,3),(true,4),(true,5),(true,6),(true,7),(true,8),(true,9),(false,10),(false,11)] (by kernel_rfl) (by kernel_rfl) rfl (by kernel_rfl) (fun _ _ _ _ _ h=>h) HM.out _ (.cons_cons _ (.cons_cons _ (List.nil_sublist _))) ?_
  intro hNE W1 HM1;replace HM:=Lib.hid HM1;clear HM1
  have HS0:=Lib.hid (HM.out.sub (.cons_cons _ (.cons_cons _ (List.nil_sublist _))))
  simp only [wpSteps,List.getElem?_cons_succ,List.getElem?_cons_zero]
  (repeat (first|refine mQ ?_|((with_reducible refine wpQuiet_nil ?_);(try dsimp only))|((with_reducible refine qat 23 ?_);(refine qixa rfl rfl rfl hlt ?_))|((with_reducible refine qat 24 ?_);(refine qdA (vs:=[.int .i64 kd,.string tx,.bool false,.int .u64 nh,.int .u64 nl,.int .i64 sc,.int .i64 dy,.int .i64 pt]) rfl rfl (fun W ⟨q,hq⟩=>hq▸q.mem.olds HE.out) ?_))|go_big_quiet_step (fail)|quiet_step (fail)))
  go_wp2_with (first|(refine hal (dst:=some 2) HM rfl ?_;clear HM;intro g2 W1 HM))
  refine ⟨⟨⟨_,HM.out.sub msub⟩,rfl⟩,?_⟩
  (try dsimp only)
  go_wp2_with (first|(refine mS ?_;clear HM;intro W1 HM))
  refine ⟨⟨⟨_,HM.out.sub msub⟩,rfl⟩,?_⟩
  (try dsimp only)
  clear HS0 hNE
  have HM1:=HM
  clear HM
  have HM:=Lib.hid (HM1.out.perm ((List.Perm.swap _ _ _).trans (List.Perm.cons _ (List.Perm.swap _ _ _))))
  clear HM1
  go_wp2_with (first|(go_at_call 313;refine marked_use hT ihE HT.out HK5.out rfl HRr.out hr HTk.out HM.out (by omega) ha (fun hno W2 hb=>(show _∧_ from ⟨rfl,XPost.no_ hno hb⟩)) ?_;intro l m j hR2 op1 oc1 W2 hM2;have HR:=Lib.hid hR2;clear hR2;replace HM:=Lib.hid hM2;clear hM2)|refine mP ?_|(refine mS ?_;clear HM;intro W1 HM)|(refine hbs1A HM rfl rfl rfl rfl ?_;clear HM;intro g1 W1 HM)|(refine hal HM rfl ?_;clear HM;intro g1 W1 HM))
  all_goals (first|go_end0|go_ret|go_ret2)
  all_goals (exact XPost.ok_ HR.out rfl (HM.out.sub (.cons_cons _ (.cons_cons _ (.cons _ (.refl _))))))
end Go.Proofs.YtnghlakllgkjlaaGreatDoor
