/- The reader's token: a date. The reader's token: a name or a keyword. lex.Read: all tokens. -/
import Derived.Test.YtheimopjglkgjaaGreatDoorTokB
import Derived.Test.YtheimopjglkgjaaGreatDoorTokC
namespace Go.Proofs.YtheimopjglkgjaaGreatDoor
open Go.RowKit
set_option linter.unusedVariables false
set_option linter.unusedSimpArgs false
set_option maxRecDepth 100000
set_option maxHeartbeats 16000000 in
theorem token_date (w0 W:World) (R:Nat) (T:List Res) (s:ByteArray) (i oc:Nat) (op:Option Addr) (bo bf:Bool) (acc:List TokD) {c:UInt8} (HM0:Mem w0 W (.box R 117 [.string s,.int .i64 i,.slice op acc.length oc,.bool bo,.bool bf] :: .row op oc 123 8 acc.length (acc.flatMap TokD.cs) :: T)) (hc:s.data.toList[i]? = some c) (hd:c=64) (hs:s.size≤1000) (ha:acc.length≤1000) (hT:U8 w0) :
  Calls Tryz.prog 74 #[.pointer (some ⟨R,0,none⟩)] W (TPost (oneF s i) w0 R T s acc bo bf):=by
 have HM:=Lib.hid HM0
 have HC:=Lib.hid hc
 have hlen:s.data.toList.length=s.size:=by simp
 have hil:i < s.size:=by rw [← hlen];exact (List.getElem?_eq_some_iff.1 hc).1
 obtain ⟨av,hav⟩:∃ x,acc.flatMap TokD.cs=x:=⟨_,rfl⟩
 obtain ⟨m,hm⟩:∃ m,acc.length=m:=⟨_,rfl⟩
 have HAv:=Lib.hid (show ∀ (t:TokD) (cs:List Value),t.cs=cs→av.take (m * 8)++cs=acc.flatMap TokD.cs++t.cs from fun t cs h=>by rw [← hav,← hm,acc_take,← h])
 rw [hav,hm] at HM
 subst hd
 have HDg:=Lib.hid (show ∀ W,Calls Tryz.prog 96 #[.int .u8 64] W fun e w'=>e = .returned (.bool false)∧Below W.heap.size W w' from fun W=>by simpa using decB_no (c:=64) (by decide) W)
 have HQu:=Lib.hid (fun W T (h:Mem w0 W (.box R 117 [.string s,.int .i64 ((i:Int) + 1),.slice op m oc,.bool bo,.bool bf] :: T))=>lQuoted w0 W R T s (i + 1) m oc op bo bf h (by omega) hs hT)
 have ho:oneF s i=match textF s (i + 1) with
   | none=>(⟨0,⟨#[]⟩,0,0,0,i⟩,i,5)
   | some (t,k)=>(⟨3,⟨#[]⟩,0,0,Cal.parseV t.data.toList,i⟩,k,Cal.parseE t.data.toList):=by unfold oneF;rw [hc];rfl
 rw [ho]
 unfold TPost
 rw [hm] at ha ⊢
 cases hx:textF s (i + 1) with
 | none=>
  dsimp only
  rw [hx] at HQu
  clear HM0 hc ho hav hm hx hT
  cases bo <;> cases bf
  all_goals
   go_enter Tryz.func74,Tryz.ntmps74
   go_wp2_with (first|((with_reducible refine skip_op ?_ ?_);exact rfl)|refine mP ?_|(refine mS ?_;clear HM;intro W1 HM)|(refine hbs1A HM rfl rfl rfl rfl ?_;clear HM;intro g1 W1 HM)|(refine hal (dst:=some 3) HM rfl ?_;clear HM;intro g3 W1 HM))
   refine wp_region_mem (by kernel_rfl) (by kernel_rfl) HM.out ?_;intro hNE;(repeat (any_goals (first|((with_reducible refine skip_q ?_ ?_ ?_);(exact rfl);(rotate_left;(exact (hNE.elim fun p=>⟨p.W,p,rfl⟩))))|refine mQ ?_|((with_reducible refine qat 21 ?_);(refine qsix rfl rfl rfl HC.out ?_))|go_big_quiet_step (fail)|quiet_step (fail))));clear hNE;refine wpQuiet_nil ?_;intro W1 HM1;replace HM:=Lib.hid HM1;clear HM1
   go_wp2_with (first|(go_at_call 96;(with_reducible refine cB HM (HDg.out _) ?_);clear HM;intro W1 HM)|(go_at_call 98;(with_reducible refine (HQu.out _ _ (HM.out.perm (List.Perm.swap _ _ _))).mono ?_);rintro e W2 ⟨t,k,rfl,hM2⟩;have HM1:=Lib.hid (hM2.perm (List.Perm.swap _ _ _));clear hM2;clear HM;(try clear W1);rename World=>W1;have HM:=HM1;clear HM1)|((with_reducible refine skip_op ?_ ?_);exact rfl)|refine mP ?_|(refine mS ?_;clear HM;intro W1 HM)|(refine hbs1A HM rfl rfl rfl rfl ?_;clear HM;intro g1 W1 HM)|(refine hal (dst:=some 3) HM rfl ?_;clear HM;intro g3 W1 HM))
   refine wp_region_mem3 20 [(1,0),(1,1),(1,2),(1,3),(1,4),(0,5),(1,6),(1,7),(1,8),(1,9),(1,10),(1,11),(1,12),(0,13),(1,14),(1,15),(1,16),(1,17),(1,18),(1,19),(3,20),(1,21),(1,22),(3,23)] (by kernel_rfl) (by kernel_rfl) rfl (by kernel_rfl) (fun _ _ _ _ _ h=>h) HM.out _ (.cons_cons _ (.cons_cons _ (.cons _ (List.nil_sublist _)))) ?_
   intro hNE W1 HM1;replace HM:=Lib.hid HM1;clear HM1
   have HS0:=Lib.hid (HM.out.sub (.cons_cons _ (.cons_cons _ (.cons _ (List.nil_sublist _)))))
   simp only [wpSteps3,List.getElem?_cons_succ,List.getElem?_cons_zero]
   (repeat (first|((with_reducible refine skip_q ?_ ?_ ?_);(exact rfl);(rotate_left;(first|exact (hNE.elim fun p=>⟨p.W,p,rfl⟩)|exact ⟨_,trivial⟩)))|refine mQ ?_|((with_reducible refine wpQuiet_nil ?_);(try dsimp only))|go_big_quiet_step (fail)|quiet_step (fail)))
   go_wp2_with (first|(refine mS ?_;clear HM;intro W1 HM))
   refine ⟨trivial,?_⟩
   (try dsimp only)
   (repeat (first|refine mQ ?_|((with_reducible refine wpQuiet_nil ?_);(try dsimp only))|go_big_quiet_step (fail)|quiet_step (fail)))
   go_wp2_with (first|(refine mS ?_;clear HM;intro W1 HM))
   refine ⟨trivial,?_⟩
   (try dsimp only)
   clear HS0 hNE
   go_wp2_with fail
   refine wp_region_mem3 10 [(0,0),(0,1),(0,2),(0,3),(0,4),(0,5),(2,6),(2,7),(1,8),(1,9),(3,10)] (by kernel_rfl) (by kernel_rfl) rfl (by kernel_rfl) (fun _ _ _ _ _ h=>h) HM.out _ (.cons_cons _ (.cons_cons _ (.cons _ (List.nil_sublist _)))) ?_
   intro hNE W1 HM1;replace HM:=Lib.hid HM1;clear HM1
   have HS0:=Lib.hid (HM.out.sub (.cons_cons _ (.cons_cons _ (.cons _ (List.nil_sublist _)))))
   simp only [wpSteps3,List.getElem?_cons_succ,List.getElem?_cons_zero]
   (repeat (first|refine mQ ?_|((with_reducible refine wpQuiet_nil ?_);(try dsimp only))|go_big_quiet_step (fail)|quiet_step (fail)))
   go_wp2_with (first|(refine hbs1A HM rfl rfl rfl rfl ?_;clear HM;intro g1 W1 HM))
   refine ⟨⟨⟨_,HM.out.sub msub⟩,rfl⟩,?_⟩
   (try dsimp only)
   go_wp2_with (first|(refine apb rfl HM.out 3 0 rfl rfl rfl rfl rfl rfl (by omega) (by omega) (by omega) ?_;intro p1 cap1 W1 HM1;replace HM:=Lib.hid HM1;clear HM1;simp only [List.set] at HM))
   refine ⟨⟨⟨_,HM.out.sub msub⟩,rfl⟩,?_⟩
   (try dsimp only)
   (repeat (first|refine mQ ?_|((with_reducible refine wpQuiet_nil ?_);(try dsimp only))|go_big_quiet_step (fail)|quiet_step (fail)))
   go_wp2_with (first|(refine mS ?_;clear HM;intro W1 HM))
   refine ⟨trivial,?_⟩
   (try dsimp only)
   clear HS0 hNE
   go_wp2_with fail
   go_ret
   exact ⟨rfl,HM.out.below⟩
 | some x=>
  obtain ⟨t,k⟩:=x
  dsimp only
  rw [hx] at HQu
  have hee:=parse_err t.data.toList
  have HDp:=Lib.hid (fun W=>parse_any t W)
  obtain ⟨pv,hpv⟩:∃ x,Cal.parseV t.data.toList=x:=⟨_,rfl⟩
  obtain ⟨pe,hpe⟩:∃ x,Cal.parseE t.data.toList=x:=⟨_,rfl⟩
  rw [hpv,hpe] at HDp
  rw [hpe] at hee
  simp only [hpv,hpe]
  have HAt:=Lib.hid (HAv.out ⟨3,⟨#[]⟩,0,0,pv,i⟩ [.int .i64 3,.string ⟨#[]⟩,.bool false,.int .u64 0,.int .u64 0,.int .i64 0,.int .i64 pv,.int .i64 i] (by simp [TokD.cs]))
  clear HM0 hc ho hav hm hx hT hpv hpe
  rcases hee with hee|hee|hee <;> cases bo <;> cases bf
  all_goals
   obtain rfl:pe=_:=hee
   go_enter Tryz.func74,Tryz.ntmps74
   go_wp2_with (first|((with_reducible refine skip_op ?_ ?_);exact rfl)|refine mP ?_|(refine mS ?_;clear HM;intro W1 HM)|(refine hbs1A HM rfl rfl rfl rfl ?_;clear HM;intro g1 W1 HM)|(refine hal (dst:=some 3) HM rfl ?_;clear HM;intro g3 W1 HM))
   refine wp_region_mem (by kernel_rfl) (by kernel_rfl) HM.out ?_;intro hNE;(repeat (any_goals (first|((with_reducible refine skip_q ?_ ?_ ?_);(exact rfl);(rotate_left;(exact (hNE.elim fun p=>⟨p.W,p,rfl⟩))))|refine mQ ?_|((with_reducible refine qat 21 ?_);(refine qsix rfl rfl rfl HC.out ?_))|go_big_quiet_step (fail)|quiet_step (fail))));clear hNE;refine wpQuiet_nil ?_;intro W1 HM1;replace HM:=Lib.hid HM1;clear HM1
   go_wp2_with (first|(go_at_call 96;(with_reducible refine cB HM (HDg.out _) ?_);clear HM;intro W1 HM)|(go_at_call 98;(with_reducible refine (HQu.out _ _ (HM.out.perm (List.Perm.swap _ _ _))).mono ?_);rintro e W2 ⟨rfl,hM2⟩;have HM1:=Lib.hid (hM2.perm (List.Perm.swap _ _ _));clear hM2;clear HM;(try clear W1);rename World=>W1;have HM:=HM1;clear HM1)|(go_at_call 99;(with_reducible refine cB HM (HDp.out _) ?_);clear HM;intro W1 HM)|((with_reducible refine skip_op ?_ ?_);exact rfl)|refine mP ?_|(refine mS ?_;clear HM;intro W1 HM)|(refine hbs1A HM rfl rfl rfl rfl ?_;clear HM;intro g1 W1 HM)|(refine hal (dst:=some 3) HM rfl ?_;clear HM;intro g3 W1 HM))
   refine wp_region_mem3 20 [(1,0),(1,1),(1,2),(1,3),(1,4),(0,5),(1,6),(1,7),(1,8),(1,9),(1,10),(1,11),(1,12),(0,13),(1,14),(1,15),(1,16),(1,17),(1,18),(1,19),(3,20),(1,21),(1,22),(3,23)] (by kernel_rfl) (by kernel_rfl) rfl (by kernel_rfl) (fun _ _ _ _ _ h=>h) HM.out _ (.cons_cons _ (.cons_cons _ (.cons _ (List.nil_sublist _)))) ?_
   intro hNE W1 HM1;replace HM:=Lib.hid HM1;clear HM1
   have HS0:=Lib.hid (HM.out.sub (.cons_cons _ (.cons_cons _ (.cons _ (List.nil_sublist _)))))
   simp only [wpSteps3,List.getElem?_cons_succ,List.getElem?_cons_zero]
   (repeat (first|((with_reducible refine skip_q ?_ ?_ ?_);(exact rfl);(rotate_left;(first|exact (hNE.elim fun p=>⟨p.W,p,rfl⟩)|exact ⟨_,trivial⟩)))|refine mQ ?_|((with_reducible refine wpQuiet_nil ?_);(try dsimp only))|go_big_quiet_step (fail)|quiet_step (fail)))
   go_wp2_with (first|(refine mS ?_;clear HM;intro W1 HM))
   refine ⟨trivial,?_⟩
   (try dsimp only)
   (repeat (first|refine mQ ?_|((with_reducible refine wpQuiet_nil ?_);(try dsimp only))|go_big_quiet_step (fail)|quiet_step (fail)))
   go_wp2_with (first|(refine mS ?_;clear HM;intro W1 HM))
   refine ⟨trivial,?_⟩
   (try dsimp only)
   clear HS0 hNE
   go_wp2_with fail
   refine wp_region_mem3 10 [(0,0),(0,1),(0,2),(0,3),(0,4),(0,5),(2,6),(2,7),(1,8),(1,9),(3,10)] (by kernel_rfl) (by kernel_rfl) rfl (by kernel_rfl) (fun _ _ _ _ _ h=>h) HM.out _ (.cons_cons _ (.cons_cons _ (.cons _ (List.nil_sublist _)))) ?_
   intro hNE W1 HM1;replace HM:=Lib.hid HM1;clear HM1
   have HS0:=Lib.hid (HM.out.sub (.cons_cons _ (.cons_cons _ (.cons _ (List.nil_sublist _)))))
   simp only [wpSteps3,List.getElem?_cons_succ,List.getElem?_cons_zero]
   (repeat (first|refine mQ ?_|((with_reducible refine wpQuiet_nil ?_);(try dsimp only))|go_big_quiet_step (fail)|quiet_step (fail)))
   go_wp2_with (first|(refine hbs1A HM rfl rfl rfl rfl ?_;clear HM;intro g1 W1 HM))
   refine ⟨⟨⟨_,HM.out.sub msub⟩,rfl⟩,?_⟩
   (try dsimp only)
   go_wp2_with (first|(refine apb rfl HM.out 3 0 rfl rfl rfl rfl rfl rfl (by omega) (by omega) (by omega) ?_;intro p1 cap1 W1 HM1;replace HM:=Lib.hid HM1;clear HM1;simp only [List.set] at HM))
   refine ⟨⟨⟨_,HM.out.sub msub⟩,rfl⟩,?_⟩
   (try dsimp only)
   (repeat (first|refine mQ ?_|((with_reducible refine wpQuiet_nil ?_);(try dsimp only))|go_big_quiet_step (fail)|quiet_step (fail)))
   go_wp2_with (first|(refine mS ?_;clear HM;intro W1 HM))
   refine ⟨trivial,?_⟩
   (try dsimp only)
   clear HS0 hNE
   go_wp2_with fail
   go_ret
   first
    | exact ⟨rfl,HM.out.below⟩
    |(refine ⟨rfl,p1,cap1,?_⟩;have h:=HM.out.sub (.cons _ (.cons _ (.refl _)));rw [HAt.out] at h;first|exact h|(rw [acc_flat] at h;exact h))
set_option maxHeartbeats 16000000 in
theorem token_name (w0 W:World) (R:Nat) (T:List Res) (s:ByteArray) (i oc:Nat) (op:Option Addr) (bo bf:Bool) (acc:List TokD) {c:UInt8} (HM0:Mem w0 W (.box R 117 [.string s,.int .i64 i,.slice op acc.length oc,.bool bo,.bool bf] :: .row op oc 123 8 acc.length (acc.flatMap TokD.cs) :: T)) (hc:s.data.toList[i]? = some c) (hd:dg c=false) (h34:c≠34) (h64:c≠64) (hl:lt1 c=true) (hs:s.size≤1000) (ha:acc.length≤1000) :
  Calls Tryz.prog 74 #[.pointer (some ⟨R,0,none⟩)] W (TPost (oneF s i) w0 R T s acc bo bf):=by
 have HM:=Lib.hid HM0
 have HC:=Lib.hid hc
 have hlen:s.data.toList.length=s.size:=by simp
 have hil:i < s.size:=by rw [← hlen];exact (List.getElem?_eq_some_iff.1 hc).1
 obtain ⟨av,hav⟩:∃ x,acc.flatMap TokD.cs=x:=⟨_,rfl⟩
 obtain ⟨m,hm⟩:∃ m,acc.length=m:=⟨_,rfl⟩
 have HAv:=Lib.hid (show ∀ (t:TokD) (cs:List Value),t.cs=cs→av.take (m * 8)++cs=acc.flatMap TokD.cs++t.cs from fun t cs h=>by rw [← hav,← hm,acc_take,← h])
 rw [hav,hm] at HM
 have HDg:=Lib.hid (fun W=>decB_no hd W)
 have HLt:=Lib.hid (fun W=>hl▸lLt c W)
 have q34:((c.toNat:Int) == 34)=false:=byte_eq (b:=34) h34
 have q64:((c.toNat:Int) == 64)=false:=byte_eq (b:=64) h64
 obtain ⟨E,hE⟩:∃ x,spanE wdB s.data.toList i=x:=⟨_,rfl⟩
 have hle:=spanE_le (p:=wdB) (l:=s.data.toList) (i:=i) (by omega)
 rw [hE,hlen] at hle
 obtain ⟨hiE,hEs⟩:=hle
 have HWh:=Lib.hid (fun W T (h:Mem w0 W (.box R 117 [.string s,.int .i64 i,.slice op m oc,.bool bo,.bool bf] :: T))=>hE▸whileWd w0 W R T s i m oc op bo bf h (by omega) hs)
 obtain ⟨x,hx⟩:∃ x,s.extract i E=x:=⟨_,rfl⟩
 have hxs:x.size=E - i:=by rw [← hx,ByteArray.size_extract];omega
 have HX:=Lib.hid hx
 obtain ⟨wb,hwb⟩:∃ b,wordB x.toList=b:=⟨_,rfl⟩
 have HWd:=Lib.hid (fun W=>hwb▸word_any x W)
 have ho:oneF s i=if 64 < x.size then (⟨0,⟨#[]⟩,0,0,0,i⟩,i,5) else (⟨if wb then 5 else 4,x,0,0,0,i⟩,E,0):=by
  unfold oneF
  rw [hc]
  simp only
  rw [if_neg (by rw [hd];simp),if_neg h34,if_neg h64,if_pos hl,hE,hx,hwb,hxs]
 have HAt5:=Lib.hid (HAv.out ⟨5,x,0,0,0,i⟩ [.int .i64 5,.string x,.bool false,.int .u64 0,.int .u64 0,.int .i64 0,.int .i64 0,.int .i64 i] (by simp [TokD.cs]))
 have HAt4:=Lib.hid (HAv.out ⟨4,x,0,0,0,i⟩ [.int .i64 4,.string x,.bool false,.int .u64 0,.int .u64 0,.int .i64 0,.int .i64 0,.int .i64 i] (by simp [TokD.cs]))
 rw [ho]
 unfold TPost
 rw [hm] at ha ⊢
 clear HM0 hc hd h34 h64 hl ho hav hm hE hx hwb hxs
 rcases Nat.lt_or_ge 64 x.size with h|h <;> cases wb <;> cases bo <;> cases bf
 all_goals
  first
  |(have g1:decide ((x.size:Int)≤64)=false:=decide_eq_false (by omega);have g2:decide (x.size≤64)=false:=decide_eq_false (by omega))
  |(have g1:decide ((x.size:Int)≤64)=true:=decide_eq_true (by omega);have g2:decide (x.size≤64)=true:=decide_eq_true (by omega))
  first
  | rw [if_pos h]
  | rw [if_neg (Nat.not_lt.2 h)]
  dsimp only
  clear h
  go_enter Tryz.func74,Tryz.ntmps74
  go_wp2_with (first|((with_reducible refine skip_op ?_ ?_);exact rfl)|refine mP ?_|(refine mS ?_;clear HM;intro W1 HM)|(refine hbs1A HM rfl rfl rfl rfl ?_;clear HM;intro g1 W1 HM)|(refine hal (dst:=some 3) HM rfl ?_;clear HM;intro g3 W1 HM))
  refine wp_region_mem (by kernel_rfl) (by kernel_rfl) HM.out ?_;intro hNE;(repeat (any_goals (first|((with_reducible refine skip_q ?_ ?_ ?_);(exact rfl);(rotate_left;(exact (hNE.elim fun p=>⟨p.W,p,rfl⟩))))|refine mQ ?_|((with_reducible refine qat 21 ?_);(refine qsix rfl rfl rfl HC.out ?_))|go_big_quiet_step (fail)|quiet_step (fail))));clear hNE;refine wpQuiet_nil ?_;intro W1 HM1;replace HM:=Lib.hid HM1;clear HM1
  go_wp2_with (first|(go_at_call 96;(with_reducible refine cB HM (HDg.out _) ?_);clear HM;intro W1 HM)|(go_at_call 100;(with_reducible refine (HLt.out _).mono ?_);rintro e W2 ⟨rfl,rfl⟩)|(go_at_call 71;(with_reducible refine (HWh.out _ _ (HM.out.perm (List.Perm.swap _ _ _))).mono ?_);rintro e W2 ⟨rfl,hM2⟩;have HM1:=Lib.hid (hM2.perm (List.Perm.swap _ _ _));clear hM2;clear HM;(try clear W1);rename World=>W1;have HM:=HM1;clear HM1)|((with_reducible refine skip_op ?_ ?_);exact rfl)|refine mP ?_|(refine mS ?_;clear HM;intro W1 HM)|(refine hbs1A HM rfl rfl rfl rfl ?_;clear HM;intro g1 W1 HM)|(refine hal (dst:=some 3) HM rfl ?_;clear HM;intro g3 W1 HM))
  refine wp_region_steps2 [(true,0),(true,1),(true,2),(true,3),(true,4),(true,6),(true,7),(true,8),(true,9),(false,5),(true,10),(true,11),(false,12),(true,13),(false,14)] (by kernel_rfl) (by kernel_rfl) rfl (by kernel_rfl) (fun _ _ _ _ _ h=>h) HM.out _ (.cons _ (.cons_cons _ (.cons _ (List.nil_sublist _)))) ?_
  intro hNE W1 HM1;replace HM:=Lib.hid HM1;clear HM1
  have HS0:=Lib.hid (HM.out.sub (.cons _ (.cons_cons _ (.cons _ (List.nil_sublist _)))))
  simp only [wpSteps,List.getElem?_cons_succ,List.getElem?_cons_zero]
  (repeat (first|refine mQ ?_|((with_reducible refine wpQuiet_nil ?_);(try dsimp only))|go_big_quiet_step (fail)|quiet_step (fail)))
  go_wp2_with (first|refine mP ?_)
  refine ⟨⟨⟨_,HM.out.sub msub⟩,rfl⟩,?_⟩
  (try dsimp only)
  (repeat (first|((with_reducible refine wpQuiet_nil ?_);(try dsimp only))|((with_reducible refine qat 87 ?_);(refine qssls rfl rfl rfl rfl rfl hiE hEs ?_))|go_big_quiet_step (fail)|quiet_step (fail)))
  go_wp2_with (first|(refine mS ?_;clear HM;intro W1 HM))
  refine ⟨⟨⟨_,HM.out.sub msub⟩,rfl⟩,?_⟩
  (try dsimp only)
  (repeat (first|((with_reducible refine wpQuiet_nil ?_);(try dsimp only))|go_big_quiet_step (fail)|quiet_step (fail)))
  go_wp2_with (first|(refine mS ?_;clear HM;intro W1 HM))
  refine ⟨⟨⟨_,HM.out.sub msub⟩,rfl⟩,?_⟩
  (try dsimp only)
  clear HS0 hNE
  rw [HX.out] at HM
  go_wp2_with (first|(go_at_call 65;(with_reducible refine (HWd.out _).mono ?_);rintro e W2 ⟨rfl,rfl⟩)|((with_reducible refine skip_op ?_ ?_);exact rfl)|refine mP ?_|(refine mS ?_;clear HM;intro W1 HM)|(refine hbs1A HM rfl rfl rfl rfl ?_;clear HM;intro g1 W1 HM)|(refine hal HM rfl ?_;clear HM;intro g1 W1 HM))
  refine wp_region_mem3 20 [(1,0),(1,1),(1,2),(1,3),(1,4),(0,5),(1,6),(1,7),(1,8),(1,9),(1,10),(1,11),(1,12),(0,13),(1,14),(1,15),(1,16),(1,17),(1,18),(1,19),(3,20),(1,21),(1,22),(3,23)] (by kernel_rfl) (by kernel_rfl) rfl (by kernel_rfl) (fun _ _ _ _ _ h=>h) HM.out _ (.cons_cons _ (.cons_cons _ (.cons _ (List.nil_sublist _)))) ?_
  intro hNE W1 HM1;replace HM:=Lib.hid HM1;clear HM1
  have HS0:=Lib.hid (HM.out.sub (.cons_cons _ (.cons_cons _ (.cons _ (List.nil_sublist _)))))
  simp only [wpSteps3,List.getElem?_cons_succ,List.getElem?_cons_zero]
  (repeat (first|((with_reducible refine skip_q ?_ ?_ ?_);(exact rfl);(rotate_left;(first|exact (hNE.elim fun p=>⟨p.W,p,rfl⟩)|exact ⟨_,trivial⟩)))|refine mQ ?_|((with_reducible refine wpQuiet_nil ?_);(try dsimp only))|go_big_quiet_step (fail)|quiet_step (fail)))
  go_wp2_with (first|(refine mS ?_;clear HM;intro W1 HM))
  refine ⟨trivial,?_⟩
  (try dsimp only)
  (repeat (first|refine mQ ?_|((with_reducible refine wpQuiet_nil ?_);(try dsimp only))|go_big_quiet_step (fail)|quiet_step (fail)))
  go_wp2_with (first|(refine mS ?_;clear HM;intro W1 HM))
  refine ⟨trivial,?_⟩
  (try dsimp only)
  clear HS0 hNE
  go_wp2_with fail
  refine wp_region_mem3 10 [(0,0),(0,1),(0,2),(0,3),(0,4),(0,5),(2,6),(2,7),(1,8),(1,9),(3,10)] (by kernel_rfl) (by kernel_rfl) rfl (by kernel_rfl) (fun _ _ _ _ _ h=>h) HM.out _ (.cons_cons _ (.cons_cons _ (.cons _ (List.nil_sublist _)))) ?_
  intro hNE W1 HM1;replace HM:=Lib.hid HM1;clear HM1
  have HS0:=Lib.hid (HM.out.sub (.cons_cons _ (.cons_cons _ (.cons _ (List.nil_sublist _)))))
  simp only [wpSteps3,List.getElem?_cons_succ,List.getElem?_cons_zero]
  (repeat (first|refine mQ ?_|((with_reducible refine wpQuiet_nil ?_);(try dsimp only))|go_big_quiet_step (fail)|quiet_step (fail)))
  go_wp2_with (first|(refine hbs1A HM rfl rfl rfl rfl ?_;clear HM;intro g1 W1 HM))
  refine ⟨⟨⟨_,HM.out.sub msub⟩,rfl⟩,?_⟩
  (try dsimp only)
  go_wp2_with (first|(refine apb rfl HM.out 3 0 rfl rfl rfl rfl rfl rfl (by omega) (by omega) (by omega) ?_;intro p1 cap1 W1 HM1;replace HM:=Lib.hid HM1;clear HM1;simp only [List.set] at HM))
  refine ⟨⟨⟨_,HM.out.sub msub⟩,rfl⟩,?_⟩
  (try dsimp only)
  (repeat (first|refine mQ ?_|((with_reducible refine wpQuiet_nil ?_);(try dsimp only))|go_big_quiet_step (fail)|quiet_step (fail)))
  go_wp2_with (first|(refine mS ?_;clear HM;intro W1 HM))
  refine ⟨trivial,?_⟩
  (try dsimp only)
  clear HS0 hNE
  go_wp2_with fail
  go_ret
  first
   | exact ⟨rfl,HM.out.below⟩
   |(refine ⟨rfl,p1,cap1,?_⟩;have h:=HM.out.sub (.cons _ (.cons _ (.refl _)));first|(rw [HAt4.out] at h;exact h)|(rw [HAt5.out] at h;exact h)|(rw [HAt4.out,acc_flat] at h;exact h)|(rw [HAt5.out,acc_flat] at h;exact h))
theorem textF_le {s:ByteArray} {i k:Nat} {t:ByteArray} (h:textF s i=some (t,k)):i < k∧k≤s.size:=by
 unfold textF at h
 split at h
 ·split at h
  ·cases h
  ·rename_i k' hk
   have:=quoE_le _ _ _ hk
   have hl:s.data.toList.length=s.size:=by simp
   split at h
   ·cases h;omega
   ·cases h
 ·cases h
theorem signN_le {l:List UInt8} {i:Nat} (h:i < l.length):i + signN l i≤l.length:=by
 unfold signN
 cases h1:l[i + 1]? with
 | none=>
  rw [List.getElem?_eq_getElem h]
  simp only
  split <;> omega
 | some b=>
  have:=(List.getElem?_eq_some_iff.1 h1).1
  rw [List.getElem?_eq_getElem h]
  simp only
  split
  ·omega
  ·split <;> omega
theorem oneF_le {s:ByteArray} {i:Nat} {c:UInt8} (hc:s.data.toList[i]? = some c) (h:(oneF s i).2.2≠5):i < (oneF s i).2.1∧(oneF s i).2.1≤s.size:=by
 have hl:s.data.toList.length=s.size:=by simp
 have hil:i < s.size:=by rw [← hl];exact (List.getElem?_eq_some_iff.1 hc).1
 revert h
 unfold oneF
 rw [hc]
 simp only
 split
 ·rename_i hd
  intro _
  have:=num_parts hc hd
  show i < numE s.data.toList i∧numE s.data.toList i≤s.size
  exact ⟨this.1,by have:=this.2.1;omega⟩
 ·split
  ·cases hx:textF s i with
   | none=>intro h;exact absurd rfl h
   | some x=>
    obtain ⟨t,k⟩:=x
    intro _
    exact textF_le hx
  ·split
   ·cases hx:textF s (i + 1) with
    | none=>intro h;exact absurd rfl h
    | some x=>
     obtain ⟨t,k⟩:=x
     intro _
     have:=textF_le hx
     exact ⟨by show i < k;omega,this.2⟩
   ·split
    ·rename_i hlt
     split
     ·intro h;exact absurd rfl h
     ·intro _
      have h1:=spanE_yes (p:=wdB) hc (by unfold wdB;rw [hlt];rfl)
      have h2:=spanE_le (p:=wdB) (l:=s.data.toList) (i:=i + 1) (by omega)
      show i < spanE wdB s.data.toList i∧spanE wdB s.data.toList i≤s.size
      omega
    ·split
     ·intro h;exact absurd rfl h
     ·rename_i hs
      intro _
      have:=signN_le (l:=s.data.toList) (i:=i) (by omega)
      show i < i + signN s.data.toList i∧i + signN s.data.toList i≤s.size
      omega
theorem lexG_more (s:ByteArray):∀ (f g i:Nat) (acc:List TokD) (o r:Bool),s.size < f + i→s.size < g + i→lexG s f i acc o r=lexG s g i acc o r
 | 0,0,_,_,_,_,_,_=>rfl
 | 0,g + 1,i,acc,o,r,hf,_=>by
  unfold lexG
  rw [List.getElem?_eq_none (by have:s.data.toList.length=s.size:=by simp
                                omega)]
 | f + 1,0,i,acc,o,r,_,hg=>by
  unfold lexG
  rw [List.getElem?_eq_none (by have:s.data.toList.length=s.size:=by simp
                                omega)]
 | f + 1,g + 1,i,acc,o,r,hf,hg=>by
  unfold lexG
  cases hc:s.data.toList[i]? with
  | none=>rfl
  | some c=>
   simp only
   split
   ·exact lexG_more s f g (i + 1) acc o r (by omega) (by omega)
   ·split
    ·rfl
    ·rename_i h5
     have:=oneF_le hc h5
     exact lexG_more s f g _ _ _ _ (by omega) (by omega)
def LG (s:ByteArray) (i:Nat) (acc:List TokD) (o r:Bool):Option (List TokD × Bool × Bool):=lexG s (s.size + 1) i acc o r
theorem LG_end {s:ByteArray} {i:Nat} {acc:List TokD} {o r:Bool} (h:s.size≤i):LG s i acc o r=some (acc,o,r):=by
 unfold LG lexG
 rw [List.getElem?_eq_none (by have:s.data.toList.length=s.size:=by simp
                               omega)]
theorem LG_blank {s:ByteArray} {i:Nat} {acc:List TokD} {o r:Bool} {c:UInt8} (hc:s.data.toList[i]? = some c) (hb:blankB c=true):LG s i acc o r=LG s (i + 1) acc o r:=by
 have h1:LG s i acc o r=lexG s s.size (i + 1) acc o r:=by unfold LG lexG;rw [hc];simp only;rw [if_pos hb,← lexG.eq_def]
 rw [h1]
 exact lexG_more s _ _ _ _ _ _ (by omega) (by omega)
theorem LG_err {s:ByteArray} {i:Nat} {acc:List TokD} {o r:Bool} {c:UInt8} (hc:s.data.toList[i]? = some c) (hb:blankB c=false) (h:(oneF s i).2.2=5):LG s i acc o r=none:=by
 unfold LG lexG
 rw [hc]
 simp only
 rw [if_neg (by rw [hb];simp),if_pos h]
theorem LG_tok {s:ByteArray} {i:Nat} {acc:List TokD} {o r:Bool} {c:UInt8} (hc:s.data.toList[i]? = some c) (hb:blankB c=false) (h:(oneF s i).2.2≠5):LG s i acc o r=LG s (oneF s i).2.1 (acc++[(oneF s i).1]) (o || decide ((oneF s i).2.2=3)) (r || decide ((oneF s i).2.2=17)):=by
 have h1:LG s i acc o r=lexG s s.size (oneF s i).2.1 (acc++[(oneF s i).1]) (o || decide ((oneF s i).2.2=3)) (r || decide ((oneF s i).2.2=17)):=by
  unfold LG lexG
  rw [hc]
  simp only
  rw [if_neg (by rw [hb];simp),if_neg h,← lexG.eq_def]
 have:=oneF_le hc h
 rw [h1]
 exact lexG_more s _ _ _ _ _ _ (by omega) (by omega)
theorem LG_span {s:ByteArray} {acc:List TokD} {o r:Bool}:∀ (n i:Nat),s.size - i=n→LG s i acc o r=LG s (spanE blankB s.data.toList i) acc o r
 | n,i,hn=>by
  have hl:s.data.toList.length=s.size:=by simp
  by_cases hi:i < s.size
  ·obtain ⟨b,hb⟩:∃ b,s.data.toList[i]? = some b:=⟨_,List.getElem?_eq_getElem (by omega)⟩
   cases hp:blankB b with
   | false=>rw [spanE_no hb hp]
   | true=>rw [spanE_yes hb hp,LG_blank hb hp];exact LG_span (s.size - (i + 1)) (i + 1) rfl
  ·rw [spanE_end (by omega)]
termination_by n=>n
decreasing_by omega
theorem token_any (w0 W:World) (R:Nat) (T:List Res) (s:ByteArray) (i oc:Nat) (op:Option Addr) (bo bf:Bool) (acc:List TokD) {c:UInt8} (HM0:Mem w0 W (.box R 117 [.string s,.int .i64 i,.slice op acc.length oc,.bool bo,.bool bf] :: .row op oc 123 8 acc.length (acc.flatMap TokD.cs) :: T)) (hc:s.data.toList[i]? = some c) (hs:s.size≤1000) (ha:acc.length≤1000) (hT:U8 w0) :
  Calls Tryz.prog 74 #[.pointer (some ⟨R,0,none⟩)] W (TPost (oneF s i) w0 R T s acc bo bf):=by
 cases hd:dg c with
 | true=>exact token_num w0 W R T s i oc op bo bf acc HM0 hc hd hs ha
 | false=>
  by_cases h34:c=34
  ·exact token_str w0 W R T s i oc op bo bf acc HM0 hc h34 hs ha hT
  ·by_cases h64:c=64
   ·exact token_date w0 W R T s i oc op bo bf acc HM0 hc h64 hs ha hT
   ·cases hl:lt1 c with
    | true=>exact token_name w0 W R T s i oc op bo bf acc HM0 hc hd h34 h64 hl hs ha
    | false=>exact token_sign w0 W R T s i oc op bo bf acc HM0 hc hd h34 h64 hl hs ha
def RdV (r:Option (List TokD × Bool × Bool)):List TokD × Int:=match r with
 | none=>([],5)
 | some (ts,o,f)=>if o then ([],3) else if f then ([],17) else (ts,0)
theorem lexF_rd {s:ByteArray} (h:¬ 1000 < s.size) (ht:textB s=true):lexF s=RdV (LG s 0 [] false false):=by
 unfold lexF
 rw [if_neg h,if_neg (by rw [ht];simp)]
 rfl
def LexPost (r:List TokD × Int) (w:World) (e:Ending) (w' : World):Prop:=∃ (p:Option Addr) (oc:Nat),e = .returned (.tuple #[.slice p r.1.length oc,.int .i64 r.2])∧Mem w w' [.row p oc 123 8 r.1.length (r.1.flatMap TokD.cs)]
set_option maxHeartbeats 8000000 in
theorem lexRead_any (s:ByteArray) (w:World) (hT:U8 w):Calls Tryz.prog 46 #[.string s] w (LexPost (lexF s) w):=by
 have HM:=Lib.hid (Mem.start w)
 have HT:=Lib.hid hT
 have hlen:s.data.toList.length=s.size:=by simp
 have HL:=Lib.hid hlen
 by_cases hlong:1000 < s.size
 ·have HR:=Lib.hid (show lexF s=([],6) by unfold lexF;rw [if_pos hlong])
  have d1:decide ((1000:Int) < s.size)=true:=decide_eq_true (by omega)
  have d1' : decide (1000 < s.size)=true:=decide_eq_true hlong
  rw [HR.out]
  clear hT hlen
  go_enter Tryz.func46,Tryz.ntmps46
  go_wp2_with fail
  go_ret2
  exact ⟨none,0,rfl,HM.out.row0 _ _⟩
 ·have hs:s.size≤1000:=by omega
  have d1:decide ((1000:Int) < s.size)=false:=decide_eq_false (by omega)
  have d1' : decide (1000 < s.size)=false:=decide_eq_false hlong
  have HV:=Lib.hid (fun W hu=>valid_any s W (by omega) hu)
  cases ht:textB s with
  | false=>
   have HR:=Lib.hid (show lexF s=([],2) by unfold lexF;rw [if_neg hlong,if_pos ht])
   rw [ht] at HV
   rw [HR.out]
   clear hT hlen hlong ht
   go_enter Tryz.func46,Tryz.ntmps46
   go_wp2_with (first|(go_at_call 38;(with_reducible refine cB HM (HV.out _ (U8.below HT.out HM.out.below)) ?_);clear HM;intro W1 HM))
   go_ret2
   exact ⟨none,0,rfl,HM.out.row0 _ _⟩
  | true=>
   rw [ht] at HV
   obtain ⟨r,hr⟩:∃ r,LG s 0 [] false false=r:=⟨_,rfl⟩
   have hF:lexF s=RdV r:=by rw [lexF_rd hlong ht,hr]
   have HF:=Lib.hid hF
   have HR:=Lib.hid hr
   clear hT hlen hlong ht hF hr
   go_enter Tryz.func46,Tryz.ntmps46
   go_wp2_with (first|(go_at_call 38;(with_reducible refine cB HM (HV.out _ (U8.below HT.out HM.out.below)) ?_);clear HM;intro W1 HM)|refine mP ?_|(refine hbxA (dst:=some 13) HM rfl rfl ?_;clear HM;intro g13 W1 HM))
   have HM2:=Lib.hid ((HM.out.row0 123 8).perm (List.Perm.swap _ _ _))
   go_loopw [22] (fun _ wr=>∃ (i oc:Nat) (acc:List TokD) (op:Option Addr) (bo bf:Bool),i≤s.size∧acc.length≤i∧Hid (LG s i acc bo bf=r)∧Hid (Mem w wr [.box g13 117 [.string s,.int .i64 i,.slice op acc.length oc,.bool bo,.bool bf],.row op oc 123 8 acc.length (acc.flatMap TokD.cs)])) (fun _ wr=>s.size - (intOf ((wr.cell? ⟨g13,1,none⟩).getD undef)).toNat)
   case atStart=>exact ⟨0,0,[],none,false,false,Nat.zero_le _,Nat.le_refl _,HR,HM2⟩
   case round=>
    clear HM HM2 HR
    obtain ⟨i,oc,acc,op,bo,bf,hi,ha,HR,HM⟩:=hrel
    have HK:=Lib.hid (rd_at HM.out)
    obtain ⟨k,hk⟩:∃ k,spanE blankB s.data.toList i=k:=⟨_,rfl⟩
    have hle:=spanE_le (p:=blankB) (l:=s.data.toList) (i:=i) (by rw [HL.out];exact hi)
    rw [hk,HL.out] at hle
    have HW:=Lib.hid (fun W T (h:Mem w W (.box g13 117 [.string s,.int .i64 i,.slice op acc.length oc,.bool bo,.bool bf] :: T))=>hk▸whileBl w W g13 T s i acc.length oc op bo bf h hi hs)
    have HR2:=Lib.hid (show LG s k acc bo bf=r by rw [← HR.out,LG_span _ i rfl,hk])
    by_cases hks:k=s.size
    ·have HR3:=Lib.hid (show r=some (acc,bo,bf) by rw [← HR2.out];exact LG_end (by omega))
     have q1:((k:Int) == s.size)=true:=by rw [hks];simp
     clear hk
     cases bo with
     | true=>
      have HF2:=Lib.hid (show lexF s=([],3) by rw [HF.out,HR3.out];rfl)
      go_wp2_with (first|(go_at_call 71;(with_reducible refine (HW.out _ _ HM.out).mono ?_);rintro e W2 ⟨rfl,hM2⟩;have HM1:=Lib.hid hM2;clear hM2;clear HM;(try clear W1);rename World=>W1;have HM:=HM1;clear HM1)|refine mP ?_|(refine hbxA HM rfl rfl ?_;clear HM;intro g1 W1 HM))
      go_ret2
      rw [HF2.out]
      exact ⟨none,0,rfl,((Mem.start w).next HM.out.below).row0 _ _⟩
     | false=>
      cases bf with
      | true=>
       have HF2:=Lib.hid (show lexF s=([],17) by rw [HF.out,HR3.out];rfl)
       go_wp2_with (first|(go_at_call 71;(with_reducible refine (HW.out _ _ HM.out).mono ?_);rintro e W2 ⟨rfl,hM2⟩;have HM1:=Lib.hid hM2;clear hM2;clear HM;(try clear W1);rename World=>W1;have HM:=HM1;clear HM1)|refine mP ?_|(refine hbxA HM rfl rfl ?_;clear HM;intro g1 W1 HM))
       go_ret2
       rw [HF2.out]
       exact ⟨none,0,rfl,((Mem.start w).next HM.out.below).row0 _ _⟩
      | false=>
       have HF2:=Lib.hid (show lexF s=(acc,0) by rw [HF.out,HR3.out];rfl)
       go_wp2_with (first|(go_at_call 71;(with_reducible refine (HW.out _ _ HM.out).mono ?_);rintro e W2 ⟨rfl,hM2⟩;have HM1:=Lib.hid hM2;clear hM2;clear HM;(try clear W1);rename World=>W1;have HM:=HM1;clear HM1)|refine mP ?_|(refine hbxA HM rfl rfl ?_;clear HM;intro g1 W1 HM))
       go_ret2
       rw [HF2.out]
       exact ⟨op,oc,rfl,HM.out.sub (.cons _ (.refl _))⟩
    ·have hkl:k < s.size:=by omega
     have q1:((k:Int) == s.size)=false:=by simpa using fun e:(k:Int)=s.size=>hks (by omega)
     obtain ⟨c,hc⟩:∃ c,s.data.toList[k]? = some c:=⟨_,List.getElem?_eq_getElem (by rw [HL.out];exact hkl)⟩
     have hbl:blankB c=false:=spanE_stop _ i rfl c (by rw [hk];exact hc)
     have HTk:=Lib.hid (fun W (h:Mem w W [.box g13 117 [.string s,.int .i64 k,.slice op acc.length oc,.bool bo,.bool bf],.row op oc 123 8 acc.length (acc.flatMap TokD.cs)])=>token_any w W g13 [] s k oc op bo bf acc h hc hs (by omega) HT.out)
     unfold TPost at HTk
     by_cases h5:(oneF s k).2.2=5
     ·simp only [if_pos h5] at HTk
      have HR3:=Lib.hid (show r=none by rw [← HR2.out];exact LG_err hc hbl h5)
      have HF2:=Lib.hid (show lexF s=([],5) by rw [HF.out,HR3.out];rfl)
      clear hk hc hbl h5 hks
      go_wp2_with (first|(go_at_call 71;(with_reducible refine (HW.out _ _ HM.out).mono ?_);rintro e W2 ⟨rfl,hM2⟩;have HM1:=Lib.hid hM2;clear hM2;clear HM;(try clear W1);rename World=>W1;have HM:=HM1;clear HM1)|(go_at_call 74;(with_reducible refine (HTk.out _ HM.out).mono ?_);rintro e W2 ⟨rfl,hb⟩;have HM1:=Lib.hid ((Mem.start w).next hb);clear hb;clear HM;(try clear W1);rename World=>W1;have HM:=HM1;clear HM1)|refine mP ?_|(refine hbxA HM rfl rfl ?_;clear HM;intro g1 W1 HM))
      go_ret2
      rw [HF2.out]
      exact ⟨none,0,rfl,HM.out.row0 _ _⟩
     ·simp only [if_neg h5] at HTk
      have hk2:=oneF_le hc h5
      have HR3:=Lib.hid (show LG s (oneF s k).2.1 (acc++[(oneF s k).1]) (bo || decide ((oneF s k).2.2=3)) (bf || decide ((oneF s k).2.2=17))=r by rw [← HR2.out];exact (LG_tok hc hbl h5).symm)
      obtain ⟨⟨t,k2,ee⟩,ho⟩:∃ x,oneF s k=x:=⟨_,rfl⟩
      rw [ho] at HTk HR3 hk2
      obtain ⟨bo2,hbo⟩:∃ b,(bo || decide (ee=3))=b:=⟨_,rfl⟩
      obtain ⟨bf2,hbf⟩:∃ b,(bf || decide (ee=17))=b:=⟨_,rfl⟩
      simp only [hbo,hbf] at HTk HR3
      have hk3:k < k2∧k2≤s.size:=hk2
      have hal:(acc++[t]).length=acc.length + 1:=by simp
      have HAl:=Lib.hid hal
      have hm1:=Lib.hid (show acc.length + 1≤k2 by omega)
      have hm2:=Lib.hid hk3
      have hm3:=Lib.hid hle
      clear hk hc hbl h5 hks ho hbo hbf hal hk2 hk3
      go_wp2_with (first|(go_at_call 71;(with_reducible refine (HW.out _ _ HM.out).mono ?_);rintro e W2 ⟨rfl,hM2⟩;have HM1:=Lib.hid hM2;clear hM2;clear HM;(try clear W1);rename World=>W1;have HM:=HM1;clear HM1)|(go_at_call 74;(with_reducible refine (HTk.out _ HM.out).mono ?_);rintro e W2 ⟨op2,oc2,rfl,hM2⟩;have HM1:=Lib.hid hM2;clear hM2;clear HM;(try clear W1);rename World=>W1;have HM:=HM1;clear HM1)|refine mP ?_|(refine hbxA HM rfl rfl ?_;clear HM;intro g1 W1 HM))
      go_roundw
      case rel=>exact ⟨k2,oc2,acc++[t],op2,bo2,bf2,hm2.out.2,by rw [HAl.out];exact hm1.out,HR3,Lib.hid (by rw [HAl.out];exact HM.out)⟩
      case measure=>have h1:=hm2.out;have h2:=hm3.out;rw [rd_at HM.out,HK.out];omega
end Go.Proofs.YtheimopjglkgjaaGreatDoor
