/- The reader's token: a name or a keyword. (fast) -/
import Derived.Test.YtnghlakllgkjlaaGreatDoorLexTokBase
namespace Go.Proofs.YtnghlakllgkjlaaGreatDoor
open Go.RowKit
set_option linter.unusedVariables false
set_option linter.unusedSimpArgs false
set_option maxRecDepth 100000
set_option maxHeartbeats 16000000 in
theorem token_name (w0 W:World) (R:Nat) (T:List Res) (s:ByteArray) (i oc:Nat) (op:Option Addr) (bo bf:Bool) (acc:List TokD) {c:UInt8} (HM0:Mem w0 W (.box R 265 [.string s,.int .i64 i,.slice op acc.length oc,.bool bo,.bool bf] :: .row op oc 297 8 acc.length (acc.flatMap TokD.cs) :: T)) (hc:s.data.toList[i]? = some c) (hd:dg c=false) (h34:c≠34) (h64:c≠64) (hl:lt1 c=true) (hs:s.size≤1000) (ha:acc.length≤1000) :
  Calls Tryz.prog 223 #[.pointer (some ⟨R,0,none⟩)] W (TPost (oneF s i) w0 R T s acc bo bf):=by
 have HM:=Lib.hid HM0
 have HC:=Lib.hid hc
 have hlen:s.data.toList.length=s.size:=by simp
 have hil:i < s.size:=by rw [← hlen];exact (List.getElem?_eq_some_iff.1 hc).1
 obtain ⟨av,hav⟩:∃ x,acc.flatMap TokD.cs=x:=⟨_,rfl⟩
 obtain ⟨m,hm⟩:∃ m,acc.length=m:=⟨_,rfl⟩
 have HAv:=Lib.hid (show ∀ (t:TokD) (cs:List Value),t.cs=cs→av.take (m * 8)++cs=acc.flatMap TokD.cs++t.cs from fun t cs h=>by rw [← hav,← hm,acc_take,← h])
 rw [hav,hm] at HM
 have HDg:=Lib.hid (fun W=>decB_no hd W)
 have HLt:=Lib.hid (fun W=>hl▸lLt c W)
 have q34:((c.toNat:Int) == 34)=false:=byte_eq (b:=34) h34
 have q64:((c.toNat:Int) == 64)=false:=byte_eq (b:=64) h64
 obtain ⟨E,hE⟩:∃ x,spanE wdB s.data.toList i=x:=⟨_,rfl⟩
 have hle:=spanE_le (p:=wdB) (l:=s.data.toList) (i:=i) (by omega)
 rw [hE,hlen] at hle
 obtain ⟨hiE,hEs⟩:=hle
 have HWh:=Lib.hid (fun W T (h:Mem w0 W (.box R 265 [.string s,.int .i64 i,.slice op m oc,.bool bo,.bool bf] :: T))=>hE▸whileWd w0 W R T s i m oc op bo bf h (by omega) hs)
 obtain ⟨x,hx⟩:∃ x,s.extract i E=x:=⟨_,rfl⟩
 have hxs:x.size=E - i:=by rw [← hx,ByteArray.size_extract];omega
 have HX:=Lib.hid hx
 obtain ⟨wb,hwb⟩:∃ b,wordB x.toList=b:=⟨_,rfl⟩
 have HWd:=Lib.hid (fun W=>hwb▸word_any x W)
 have ho:oneF s i=if 64 < x.size then (⟨0,⟨#[]⟩,0,0,0,i⟩,i,5) else (⟨if wb then 5 else 4,x,0,0,0,i⟩,E,0):=by
  unfold oneF
  rw [hc]
  simp only
  rw [if_neg (by rw [hd];simp),if_neg h34,if_neg h64,if_pos hl,hE,hx,hwb,hxs]
 have HAt5:=Lib.hid (HAv.out ⟨5,x,0,0,0,i⟩ [.int .i64 5,.string x,.bool false,.int .u64 0,.int .u64 0,.int .i64 0,.int .i64 0,.int .i64 i] (by simp [TokD.cs]))
 have HAt4:=Lib.hid (HAv.out ⟨4,x,0,0,0,i⟩ [.int .i64 4,.string x,.bool false,.int .u64 0,.int .u64 0,.int .i64 0,.int .i64 0,.int .i64 i] (by simp [TokD.cs]))
 rw [ho]
 unfold TPost
 rw [hm] at ha ⊢
 clear HM0 hc hd h34 h64 hl ho hav hm hE hx hwb hxs
 rcases Nat.lt_or_ge 64 x.size with h|h <;> cases wb <;> cases bo <;> cases bf
 all_goals
  first
  |(have g1:decide ((x.size:Int)≤64)=false:=decide_eq_false (by omega);have g2:decide (x.size≤64)=false:=decide_eq_false (by omega))
  |(have g1:decide ((x.size:Int)≤64)=true:=decide_eq_true (by omega);have g2:decide (x.size≤64)=true:=decide_eq_true (by omega))
  first
  | rw [if_pos h]
  | rw [if_neg (Nat.not_lt.2 h)]
  dsimp only
  clear h
  go_enter Tryz.func223,Tryz.ntmps223
  go_wp2_with (first|((with_reducible refine skip_op ?_ ?_);exact rfl)|refine mP ?_|(refine mS ?_;clear HM;intro W1 HM)|(refine hbs1A HM rfl rfl rfl rfl ?_;clear HM;intro g1 W1 HM)|(refine hal (dst:=some 3) HM rfl ?_;clear HM;intro g3 W1 HM))
  refine wp_region_mem (by kernel_rfl) (by kernel_rfl) HM.out ?_;intro hNE;(repeat (any_goals (first|((with_reducible refine skip_q ?_ ?_ ?_);(exact rfl);(rotate_left;(exact (hNE.elim fun p=>⟨p.W,p,rfl⟩))))|refine mQ ?_|((with_reducible refine qat 21 ?_);(refine qsix rfl rfl rfl HC.out ?_))|go_big_quiet_step (fail)|quiet_step (fail))));clear hNE;refine wpQuiet_nil ?_;intro W1 HM1;replace HM:=Lib.hid HM1;clear HM1
  go_wp2_with (first|(go_at_call 253;(with_reducible refine cB HM (HDg.out _) ?_);clear HM;intro W1 HM)|(go_at_call 256;(with_reducible refine (HLt.out _).mono ?_);rintro e W2 ⟨rfl,rfl⟩)|(go_at_call 221;(with_reducible refine (HWh.out _ _ (HM.out.perm (List.Perm.swap _ _ _))).mono ?_);rintro e W2 ⟨rfl,hM2⟩;have HM1:=Lib.hid (hM2.perm (List.Perm.swap _ _ _));clear hM2;clear HM;(try clear W1);rename World=>W1;have HM:=HM1;clear HM1)|((with_reducible refine skip_op ?_ ?_);exact rfl)|refine mP ?_|(refine mS ?_;clear HM;intro W1 HM)|(refine hbs1A HM rfl rfl rfl rfl ?_;clear HM;intro g1 W1 HM)|(refine hal (dst:=some 3) HM rfl ?_;clear HM;intro g3 W1 HM))
  refine wp_region_steps2 [(true,0),(true,1),(true,2),(true,3),(true,4),(true,6),(true,7),(true,8),(true,9),(false,5),(true,10),(true,11),(false,12),(true,13),(false,14)] (by kernel_rfl) (by kernel_rfl) rfl (by kernel_rfl) (fun _ _ _ _ _ h=>h) HM.out _ (.cons _ (.cons_cons _ (.cons _ (List.nil_sublist _)))) ?_
  intro hNE W1 HM1;replace HM:=Lib.hid HM1;clear HM1
  have HS0:=Lib.hid (HM.out.sub (.cons _ (.cons_cons _ (.cons _ (List.nil_sublist _)))))
  simp only [wpSteps,List.getElem?_cons_succ,List.getElem?_cons_zero]
  (repeat (first|refine mQ ?_|((with_reducible refine wpQuiet_nil ?_);(try dsimp only))|go_big_quiet_step (fail)|quiet_step (fail)))
  go_wp2_with (first|refine mP ?_)
  refine ⟨⟨⟨_,HM.out.sub msub⟩,rfl⟩,?_⟩
  (try dsimp only)
  (repeat (first|((with_reducible refine wpQuiet_nil ?_);(try dsimp only))|((with_reducible refine qat 87 ?_);(refine qssls rfl rfl rfl rfl rfl hiE hEs ?_))|go_big_quiet_step (fail)|quiet_step (fail)))
  go_wp2_with (first|(refine mS ?_;clear HM;intro W1 HM))
  refine ⟨⟨⟨_,HM.out.sub msub⟩,rfl⟩,?_⟩
  (try dsimp only)
  (repeat (first|((with_reducible refine wpQuiet_nil ?_);(try dsimp only))|go_big_quiet_step (fail)|quiet_step (fail)))
  go_wp2_with (first|(refine mS ?_;clear HM;intro W1 HM))
  refine ⟨⟨⟨_,HM.out.sub msub⟩,rfl⟩,?_⟩
  (try dsimp only)
  clear HS0 hNE
  rw [HX.out] at HM
  go_wp2_with (first|(go_at_call 192;(with_reducible refine (HWd.out _).mono ?_);rintro e W2 ⟨rfl,rfl⟩)|((with_reducible refine skip_op ?_ ?_);exact rfl)|refine mP ?_|(refine mS ?_;clear HM;intro W1 HM)|(refine hbs1A HM rfl rfl rfl rfl ?_;clear HM;intro g1 W1 HM)|(refine hal HM rfl ?_;clear HM;intro g1 W1 HM))
  refine wp_region_mem3 20 [(1,0),(1,1),(1,2),(1,3),(1,4),(0,5),(1,6),(1,7),(1,8),(1,9),(1,10),(1,11),(1,12),(0,13),(1,14),(1,15),(1,16),(1,17),(1,18),(1,19),(3,20),(1,21),(1,22),(3,23)] (by kernel_rfl) (by kernel_rfl) rfl (by kernel_rfl) (fun _ _ _ _ _ h=>h) HM.out _ (.cons_cons _ (.cons_cons _ (.cons _ (List.nil_sublist _)))) ?_
  intro hNE W1 HM1;replace HM:=Lib.hid HM1;clear HM1
  have HS0:=Lib.hid (HM.out.sub (.cons_cons _ (.cons_cons _ (.cons _ (List.nil_sublist _)))))
  simp only [wpSteps3,List.getElem?_cons_succ,List.getElem?_cons_zero]
  (repeat (first|((with_reducible refine skip_q ?_ ?_ ?_);(exact rfl);(rotate_left;(first|exact (hNE.elim fun p=>⟨p.W,p,rfl⟩)|exact ⟨_,trivial⟩)))|refine mQ ?_|((with_reducible refine wpQuiet_nil ?_);(try dsimp only))|go_big_quiet_step (fail)|quiet_step (fail)))
  go_wp2_with (first|(refine mS ?_;clear HM;intro W1 HM))
  refine ⟨trivial,?_⟩
  (try dsimp only)
  (repeat (first|refine mQ ?_|((with_reducible refine wpQuiet_nil ?_);(try dsimp only))|go_big_quiet_step (fail)|quiet_step (fail)))
  go_wp2_with (first|(refine mS ?_;clear HM;intro W1 HM))
  refine ⟨trivial,?_⟩
  (try dsimp only)
  clear HS0 hNE
  go_wp2_with fail
  refine wp_region_mem3 10 [(0,0),(0,1),(0,2),(0,3),(0,4),(0,5),(2,6),(2,7),(1,8),(1,9),(3,10)] (by kernel_rfl) (by kernel_rfl) rfl (by kernel_rfl) (fun _ _ _ _ _ h=>h) HM.out _ (.cons_cons _ (.cons_cons _ (.cons _ (List.nil_sublist _)))) ?_
  intro hNE W1 HM1;replace HM:=Lib.hid HM1;clear HM1
  have HS0:=Lib.hid (HM.out.sub (.cons_cons _ (.cons_cons _ (.cons _ (List.nil_sublist _)))))
  simp only [wpSteps3,List.getElem?_cons_succ,List.getElem?_cons_zero]
  (repeat (first|refine mQ ?_|((with_reducible refine wpQuiet_nil ?_);(try dsimp only))|go_big_quiet_step (fail)|quiet_step (fail)))
  go_wp2_with (first|(refine hbs1A HM rfl rfl rfl rfl ?_;clear HM;intro g1 W1 HM))
  refine ⟨⟨⟨_,HM.out.sub msub⟩,rfl⟩,?_⟩
  (try dsimp only)
  go_wp2_with (first|(refine apb rfl HM.out 3 0 rfl rfl rfl rfl rfl rfl (by omega) (by omega) (by omega) ?_;intro p1 cap1 W1 HM1;replace HM:=Lib.hid HM1;clear HM1;simp only [List.set] at HM))
  refine ⟨⟨⟨_,HM.out.sub msub⟩,rfl⟩,?_⟩
  (try dsimp only)
  (repeat (first|refine mQ ?_|((with_reducible refine wpQuiet_nil ?_);(try dsimp only))|go_big_quiet_step (fail)|quiet_step (fail)))
  go_wp2_with (first|(refine mS ?_;clear HM;intro W1 HM))
  refine ⟨trivial,?_⟩
  (try dsimp only)
  clear HS0 hNE
  go_wp2_with fail
  go_ret
  first
   | exact ⟨rfl,HM.out.below⟩
   |(refine ⟨rfl,p1,cap1,?_⟩;have h:=HM.out.sub (.cons _ (.cons _ (.refl _)));first|(rw [HAt4.out] at h;exact h)|(rw [HAt5.out] at h;exact h)|(rw [HAt4.out,acc_flat] at h;exact h)|(rw [HAt5.out,acc_flat] at h;exact h))
end Go.Proofs.YtnghlakllgkjlaaGreatDoor
