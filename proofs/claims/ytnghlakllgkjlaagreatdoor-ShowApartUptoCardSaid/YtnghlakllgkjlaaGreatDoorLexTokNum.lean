/- The reader's token: a number. (fast) -/
import Derived.Test.YtnghlakllgkjlaaGreatDoorLexTokBase
namespace Go.Proofs.YtnghlakllgkjlaaGreatDoor
open Go.RowKit
set_option linter.unusedVariables false
set_option linter.unusedSimpArgs false
set_option maxRecDepth 100000
set_option maxHeartbeats 16000000 in
theorem token_num (w0 W:World) (R:Nat) (T:List Res) (s:ByteArray) (i oc:Nat) (op:Option Addr) (bo bf:Bool) (acc:List TokD) {c:UInt8} (HM0:Mem w0 W (.box R 265 [.string s,.int .i64 i,.slice op acc.length oc,.bool bo,.bool bf] :: .row op oc 297 8 acc.length (acc.flatMap TokD.cs) :: T)) (hc:s.data.toList[i]? = some c) (hd:dg c=true) (hs:s.size≤1000) (ha:acc.length≤1000) :
  Calls Tryz.prog 223 #[.pointer (some ⟨R,0,none⟩)] W (TPost (oneF s i) w0 R T s acc bo bf):=by
 have HM:=Lib.hid HM0
 have HC:=Lib.hid hc
 have hlen:s.data.toList.length=s.size:=by simp
 have hil:i < s.size:=by rw [← hlen];exact (List.getElem?_eq_some_iff.1 hc).1
 obtain ⟨av,hav⟩:∃ x,acc.flatMap TokD.cs=x:=⟨_,rfl⟩
 obtain ⟨m,hm⟩:∃ m,acc.length=m:=⟨_,rfl⟩
 have HAv:=Lib.hid (show ∀ (t:TokD) (cs:List Value),t.cs=cs→av.take (m * 8)++cs=acc.flatMap TokD.cs++t.cs from fun t cs h=>by rw [← hav,← hm,acc_take,← h])
 rw [hav,hm] at HM
 obtain ⟨⟨⟨n,sc⟩,ee⟩,hdv⟩:∃ x,decT (numD s.data.toList i) (numF s.data.toList i)=x:=⟨_,rfl⟩
 obtain ⟨E,hE⟩:∃ x,numE s.data.toList i=x:=⟨_,rfl⟩
 have ho:oneF s i=(⟨1,⟨#[]⟩,n,sc,0,i⟩,E,ee):=by unfold oneF;rw [hc];simp only;rw [if_pos hd,hdv,hE]
 obtain ⟨nh,hnh⟩:∃ x,n / 18446744073709551616=x:=⟨_,rfl⟩
 obtain ⟨nl,hnl⟩:∃ x,n % 18446744073709551616=x:=⟨_,rfl⟩
 have hv:decV ((n,sc),ee) = .tuple #[.agg #[.bool false,.int .u64 nh,.int .u64 nl,.int .i64 sc],.int .i64 ee]:=by rw [← hnh,← hnl];rfl
 have HNum:=Lib.hid (fun W T (h:Mem w0 W (.box R 265 [.string s,.int .i64 i,.slice op m oc,.bool bo,.bool bf] :: T))=>(show Calls Tryz.prog 254 #[.pointer (some ⟨R,0,none⟩)] W fun e w'=>e = .returned (.tuple #[.agg #[.bool false,.int .u64 nh,.int .u64 nl,.int .i64 sc],.int .i64 ee])∧Mem w0 w' (.box R 265 [.string s,.int .i64 E,.slice op m oc,.bool bo,.bool bf] :: T) from by
  have h1:=lNumber w0 W R T s i m oc op bo bf h hc hd hs
  rw [hdv,hv,hE] at h1
  exact h1))
 have HDg:=Lib.hid (fun W=>hd▸lDgB c W)
 have hee:=decT_err (numD s.data.toList i) (numF s.data.toList i)
 rw [hdv] at hee
 have HAt:=Lib.hid (HAv.out ⟨1,⟨#[]⟩,n,sc,0,i⟩ [.int .i64 1,.string ⟨#[]⟩,.bool false,.int .u64 nh,.int .u64 nl,.int .i64 sc,.int .i64 0,.int .i64 i] (by rw [← hnh,← hnl];rfl))
 rw [ho]
 unfold TPost
 rw [hm] at ha ⊢
 clear HM0 hc hd hdv hE ho hnh hnl hv hav hm
 rcases hee with hee|hee|hee <;> cases bo <;> cases bf
 all_goals
  obtain rfl:ee=_:=hee
  go_enter Tryz.func223,Tryz.ntmps223
  go_wp2_with (first|((with_reducible refine skip_op ?_ ?_);exact rfl)|refine mP ?_|(refine mS ?_;clear HM;intro W1 HM)|(refine hbs1A HM rfl rfl rfl rfl ?_;clear HM;intro g1 W1 HM)|(refine hal (dst:=some 3) HM rfl ?_;clear HM;intro g3 W1 HM))
  refine wp_region_mem (by kernel_rfl) (by kernel_rfl) HM.out ?_;intro hNE;(repeat (any_goals (first|((with_reducible refine skip_q ?_ ?_ ?_);(exact rfl);(rotate_left;(exact (hNE.elim fun p=>⟨p.W,p,rfl⟩))))|refine mQ ?_|((with_reducible refine qat 21 ?_);(refine qsix rfl rfl rfl HC.out ?_))|go_big_quiet_step (fail)|quiet_step (fail))));clear hNE;refine wpQuiet_nil ?_;intro W1 HM1;replace HM:=Lib.hid HM1;clear HM1
  go_wp2_with (first|(go_at_call 253;(with_reducible refine cB HM (HDg.out _) ?_);clear HM;intro W1 HM)|(go_at_call 254;(with_reducible refine (HNum.out _ _ (HM.out.perm (List.Perm.swap _ _ _))).mono ?_);rintro e W2 ⟨rfl,hM2⟩;have HM1:=Lib.hid (hM2.perm (List.Perm.swap _ _ _));clear hM2;clear HM;(try clear W1);rename World=>W1;have HM:=HM1;clear HM1)|((with_reducible refine skip_op ?_ ?_);exact rfl)|refine mP ?_|(refine mS ?_;clear HM;intro W1 HM)|(refine hbs1A HM rfl rfl rfl rfl ?_;clear HM;intro g1 W1 HM)|(refine hal (dst:=some 3) HM rfl ?_;clear HM;intro g3 W1 HM))
  refine wp_region_mem3 20 [(1,0),(1,1),(1,2),(1,3),(1,4),(0,5),(1,6),(1,7),(1,8),(1,9),(1,10),(1,11),(1,12),(0,13),(1,14),(1,15),(1,16),(1,17),(1,18),(1,19),(3,20),(1,21),(1,22),(3,23)] (by kernel_rfl) (by kernel_rfl) rfl (by kernel_rfl) (fun _ _ _ _ _ h=>h) HM.out _ (.cons_cons _ (.cons_cons _ (.cons _ (List.nil_sublist _)))) ?_
  intro hNE W1 HM1;replace HM:=Lib.hid HM1;clear HM1
  have HS0:=Lib.hid (HM.out.sub (.cons_cons _ (.cons_cons _ (.cons _ (List.nil_sublist _)))))
  simp only [wpSteps3,List.getElem?_cons_succ,List.getElem?_cons_zero]
  (repeat (first|((with_reducible refine skip_q ?_ ?_ ?_);(exact rfl);(rotate_left;(first|exact (hNE.elim fun p=>⟨p.W,p,rfl⟩)|exact ⟨_,trivial⟩)))|refine mQ ?_|((with_reducible refine wpQuiet_nil ?_);(try dsimp only))|go_big_quiet_step (fail)|quiet_step (fail)))
  go_wp2_with (first|(refine mS ?_;clear HM;intro W1 HM))
  refine ⟨trivial,?_⟩
  (try dsimp only)
  (repeat (first|refine mQ ?_|((with_reducible refine wpQuiet_nil ?_);(try dsimp only))|go_big_quiet_step (fail)|quiet_step (fail)))
  go_wp2_with (first|(refine mS ?_;clear HM;intro W1 HM))
  refine ⟨trivial,?_⟩
  (try dsimp only)
  clear HS0 hNE
  go_wp2_with fail
  refine wp_region_mem3 10 [(0,0),(0,1),(0,2),(0,3),(0,4),(0,5),(2,6),(2,7),(1,8),(1,9),(3,10)] (by kernel_rfl) (by kernel_rfl) rfl (by kernel_rfl) (fun _ _ _ _ _ h=>h) HM.out _ (.cons_cons _ (.cons_cons _ (.cons _ (List.nil_sublist _)))) ?_
  intro hNE W1 HM1;replace HM:=Lib.hid HM1;clear HM1
  have HS0:=Lib.hid (HM.out.sub (.cons_cons _ (.cons_cons _ (.cons _ (List.nil_sublist _)))))
  simp only [wpSteps3,List.getElem?_cons_succ,List.getElem?_cons_zero]
  (repeat (first|refine mQ ?_|((with_reducible refine wpQuiet_nil ?_);(try dsimp only))|go_big_quiet_step (fail)|quiet_step (fail)))
  go_wp2_with (first|(refine hbs1A HM rfl rfl rfl rfl ?_;clear HM;intro g1 W1 HM))
  refine ⟨⟨⟨_,HM.out.sub msub⟩,rfl⟩,?_⟩
  (try dsimp only)
  go_wp2_with (first|(refine apb rfl HM.out 3 0 rfl rfl rfl rfl rfl rfl (by omega) (by omega) (by omega) ?_;intro p1 cap1 W1 HM1;replace HM:=Lib.hid HM1;clear HM1;simp only [List.set] at HM))
  refine ⟨⟨⟨_,HM.out.sub msub⟩,rfl⟩,?_⟩
  (try dsimp only)
  (repeat (first|refine mQ ?_|((with_reducible refine wpQuiet_nil ?_);(try dsimp only))|go_big_quiet_step (fail)|quiet_step (fail)))
  go_wp2_with (first|(refine mS ?_;clear HM;intro W1 HM))
  refine ⟨trivial,?_⟩
  (try dsimp only)
  clear HS0 hNE
  go_wp2_with fail
  go_ret
  first
   | exact ⟨rfl,HM.out.below⟩
   |(refine ⟨rfl,p1,cap1,?_⟩;have h:=HM.out.sub (.cons _ (.cons _ (.refl _)));rw [HAt.out] at h;first|exact h|(rw [acc_flat] at h;exact h))
end Go.Proofs.YtnghlakllgkjlaaGreatDoor
