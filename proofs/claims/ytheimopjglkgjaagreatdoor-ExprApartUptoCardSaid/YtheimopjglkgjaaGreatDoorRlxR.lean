/- The reference's DocRead: all tokens; the same tokens. -/
import Derived.Test.YtheimopjglkgjaaGreatDoorRefOne
import Derived.Test.YtheimopjglkgjaaGreatDoorSepMac2
namespace Go.Proofs.YtheimopjglkgjaaGreatDoor
open Go.RowKit
set_option linter.unusedVariables false
set_option linter.unusedSimpArgs false
set_option maxRecDepth 100000
theorem blank_cases {c:UInt8} (h:blankB c=true):c=32∨c=9∨c=10∨c=13:=by
 unfold blankB at h
 simpa [or_assoc] using h
theorem blank_none {c:UInt8} (h:blankB c=false):((c.toNat:Int) == 32)=false∧((c.toNat:Int) == 9)=false∧((c.toNat:Int) == 10)=false∧((c.toNat:Int) == 13)=false:=by
 unfold blankB at h
 simp only [Bool.or_eq_false_iff,beq_eq_false_iff_ne] at h
 exact ⟨byte_eq (b:=32) h.1.1.1,byte_eq (b:=9) h.1.1.2,byte_eq (b:=10) h.1.2,byte_eq (b:=13) h.2⟩
set_option maxHeartbeats 8000000 in
theorem rlexRead_any (s:ByteArray) (w:World):Calls Tryz.prog 51 #[.string s] w (LexPost (lexF s) w):=by
 have HM:=Lib.hid (Mem.start w)
 have hlen:s.data.toList.length=s.size:=by simp
 have HL:=Lib.hid hlen
 by_cases hlong:1000 < s.size
 ·have HR:=Lib.hid (show lexF s=([],6) by unfold lexF;rw [if_pos hlong])
  have d1:decide ((1000:Int) < s.size)=true:=decide_eq_true (by omega)
  have d1' : decide (1000 < s.size)=true:=decide_eq_true hlong
  rw [HR.out]
  clear hlen
  go_enter Tryz.func51,Tryz.ntmps51
  go_wp2_with fail
  go_ret2
  exact ⟨none,0,rfl,HM.out.row0 _ _⟩
 ·have hs:s.size≤1000:=by omega
  have d1:decide ((1000:Int) < s.size)=false:=decide_eq_false (by omega)
  have d1' : decide (1000 < s.size)=false:=decide_eq_false hlong
  have HV:=Lib.hid (fun W=>rValid_any s W (by omega))
  cases ht:textB s with
  | false=>
   have HR:=Lib.hid (show lexF s=([],2) by unfold lexF;rw [if_neg hlong,if_pos ht])
   rw [ht] at HV
   rw [HR.out]
   clear hlen hlong ht
   go_enter Tryz.func51,Tryz.ntmps51
   go_wp2_with (first|(go_at_call 43;(with_reducible refine (HV.out _).mono ?_);refine cB1 HM ?_;clear HM;intro W1 HM))
   go_ret2
   exact ⟨none,0,rfl,HM.out.row0 _ _⟩
  | true=>
   rw [ht] at HV
   obtain ⟨r,hr⟩:∃ r,LG s 0 [] false false=r:=⟨_,rfl⟩
   have hF:lexF s=RdV r:=by rw [lexF_rd hlong ht,hr]
   have HF:=Lib.hid hF
   have HR:=Lib.hid hr
   clear hlen hlong ht hF hr
   go_enter Tryz.func51,Tryz.ntmps51
   go_wp2_with (first|(go_at_call 43;(with_reducible refine (HV.out _).mono ?_);refine cB1 HM ?_;clear HM;intro W1 HM))
   have HM2:=Lib.hid (HM.out.row0 123 8)
   go_loopw [7,4,5,6] (fun iv ov bv fv wr=>∃ (i oc:Nat) (acc:List TokD) (op:Option Addr) (bo bf:Bool),iv = .int .i64 i∧ov = .slice op acc.length oc∧bv = .bool bo∧fv = .bool bf∧i≤s.size∧acc.length≤i∧Hid (LG s i acc bo bf=r)∧Hid (Mem w wr [.row op oc 123 8 acc.length (acc.flatMap TokD.cs)])) (fun iv _ _ _ _=>s.size - (intOf iv).toNat)
   case atStart=>exact ⟨0,0,[],none,false,false,rfl,rfl,rfl,rfl,Nat.zero_le _,Nat.le_refl _,HR,HM2⟩
   case round=>
    clear HM HM2 HR
    obtain ⟨i,oc,acc,op,bo,bf,rfl,rfl,rfl,rfl,hi,ha,HR,HM⟩:=hrel
    by_cases hlt:i < s.size
    ·obtain ⟨c,hc⟩:∃ c,s.data.toList[i]? = some c:=⟨_,List.getElem?_eq_getElem (by rw [HL.out];exact hlt)⟩
     have HC:=Lib.hid hc
     have hlt3:=Lib.hid (show i + 1≤s.size from hlt)
     cases hbl:blankB c with
     | true=>
      have HR2:=Lib.hid (show LG s (i + 1) acc bo bf=r by rw [← HR.out];exact (LG_blank hc hbl).symm)
      have ha2:=Lib.hid (show acc.length≤i + 1 by omega)
      clear hc
      rcases blank_cases hbl with h|h|h|h <;> subst h
      all_goals
       clear hbl
       go_wp2_with (first|((with_reducible refine iat 23 ?_);(refine six rfl rfl rfl HC.out ?_))|((with_reducible refine iat 28 ?_);(refine six rfl rfl rfl HC.out ?_))|((with_reducible refine iat 34 ?_);(refine six rfl rfl rfl HC.out ?_))|((with_reducible refine iat 40 ?_);(refine six rfl rfl rfl HC.out ?_)))
       go_roundw
       case rel=>exact ⟨i + 1,oc,acc,op,bo,bf,by go_num,rfl,rfl,rfl,hlt3.out,ha2.out,HR2,HM⟩
       case measure=>have:=hlt3.out;simp [intOf];omega
     | false=>
      obtain ⟨q1,q2,q3,q4⟩:=blank_none hbl
      have HO:=Lib.hid (fun W=>rone_any s i W hc hs)
      by_cases h5:(oneF s i).2.2=5
      ·unfold RPost at HO
       simp only [if_pos h5] at HO
       have HR3:=Lib.hid (show r=none by rw [← HR.out];exact LG_err hc hbl h5)
       have HF2:=Lib.hid (show lexF s=([],5) by rw [HF.out,HR3.out];rfl)
       clear hc hbl h5
       go_wp2_with (first|((with_reducible refine iat 23 ?_);(refine six rfl rfl rfl HC.out ?_))|((with_reducible refine iat 28 ?_);(refine six rfl rfl rfl HC.out ?_))|((with_reducible refine iat 34 ?_);(refine six rfl rfl rfl HC.out ?_))|((with_reducible refine iat 40 ?_);(refine six rfl rfl rfl HC.out ?_))|(go_at_call 81;(with_reducible refine (HO.out _).mono ?_);rintro e W2 ⟨⟨t,k,rfl⟩,hb⟩;have HM1:=HM.out.next hb;clear hb;clear HM;(try clear W1);rename World=>W1;have HM:=Lib.hid HM1;clear HM1)|((with_reducible refine skip_op ?_ ?_);exact rfl)|refine mP ?_|(refine mS ?_;clear HM;intro W1 HM)|(refine hbs1A HM rfl rfl rfl rfl ?_;clear HM;intro g1 W1 HM)|(refine hal (dst:=some 8) HM rfl ?_;clear HM;intro g8 W1 HM))
       go_ret2
       rw [HF2.out]
       exact ⟨none,0,rfl,((Mem.start w).next HM.out.below).row0 _ _⟩
      ·have hk2:=oneF_le hc h5
       have HR3:=Lib.hid (show LG s (oneF s i).2.1 (acc++[(oneF s i).1]) (bo || decide ((oneF s i).2.2=3)) (bf || decide ((oneF s i).2.2=17))=r by rw [← HR.out];exact (LG_tok hc hbl h5).symm)
       unfold RPost at HO
       simp only [if_neg h5] at HO
       obtain ⟨⟨t,k2,ee⟩,ho⟩:∃ x,oneF s i=x:=⟨_,rfl⟩
       rw [ho] at HO HR3 hk2 h5
       have hk3:i < k2∧k2≤s.size:=hk2
       have q5:(ee == 5)=false:=by simpa using h5
       obtain ⟨b3,hb3⟩:∃ b,(ee == 3)=b:=⟨_,rfl⟩
       obtain ⟨b17,hb17⟩:∃ b,(ee == 17)=b:=⟨_,rfl⟩
       have e3:decide (ee=3)=b3:=by rw [← hb3];rfl
       have e17:decide (ee=17)=b17:=by rw [← hb17];rfl
       simp only [e3,e17] at HR3
       have hal:(acc++[t]).length=acc.length + 1:=by simp
       have HAl:=Lib.hid hal
       have hm2:=Lib.hid hk3
       have hm1:=Lib.hid (show acc.length + 1≤k2 by omega)
       have HTl:=Lib.hid (TokD.cs_len t)
       have HAc:=Lib.hid (show (acc.flatMap TokD.cs).take (acc.length * 8)++t.cs=(acc++[t]).flatMap TokD.cs by rw [acc_take,acc_flat])
       obtain ⟨m,hm⟩:∃ m,acc.length=m:=⟨_,rfl⟩
       have hma:m≤1000:=by omega
       have HTc:=Lib.hid (show t.cs=[.int .i64 t.kind,.string t.text,.bool false,.int .u64 (t.num / 18446744073709551616:Nat),.int .u64 (t.num % 18446744073709551616:Nat),.int .i64 t.sc,.int .i64 t.day,.int .i64 t.at_] from rfl)
       obtain ⟨kd,hkd⟩:∃ x,t.kind=x:=⟨_,rfl⟩
       obtain ⟨tx,htx⟩:∃ x,t.text=x:=⟨_,rfl⟩
       obtain ⟨nh,hnh⟩:∃ x,t.num / 18446744073709551616=x:=⟨_,rfl⟩
       obtain ⟨nl,hnl⟩:∃ x,t.num % 18446744073709551616=x:=⟨_,rfl⟩
       obtain ⟨sc,hsc⟩:∃ x,t.sc=x:=⟨_,rfl⟩
       obtain ⟨dy,hdy⟩:∃ x,t.day=x:=⟨_,rfl⟩
       obtain ⟨pa,hpa⟩:∃ x,t.at_=x:=⟨_,rfl⟩
       obtain ⟨av,hav⟩:∃ x,acc.flatMap TokD.cs=x:=⟨_,rfl⟩
       rw [hkd,htx,hnh,hnl,hsc,hdy,hpa] at HTc
       simp only [HTc.out] at HO
       rw [hav,hm,HTc.out] at HAc
       rw [hav,hm] at HM
       rw [hm] at HAl hm1 ⊢
       clear hc hbl h5 ho e3 e17 hal hk2 hk3 hkd htx hnh hnl hsc hdy hpa hm hav ha
       cases bo <;> cases bf
       all_goals
        go_wp2_with (first|((with_reducible refine iat 23 ?_);(refine six rfl rfl rfl HC.out ?_))|((with_reducible refine iat 28 ?_);(refine six rfl rfl rfl HC.out ?_))|((with_reducible refine iat 34 ?_);(refine six rfl rfl rfl HC.out ?_))|((with_reducible refine iat 40 ?_);(refine six rfl rfl rfl HC.out ?_))|(go_at_call 81;(with_reducible refine (HO.out _).mono ?_);refine cB1 HM ?_;clear HM;intro W1 HM)|(refine apb rfl HM.out 2 0 rfl rfl rfl rfl rfl rfl (by omega) (by omega) (by omega) ?_;intro p1 cap1 W1 HM1;replace HM:=Lib.hid HM1;clear HM1;simp only [List.set] at HM)|((with_reducible refine skip_op ?_ ?_);exact rfl)|refine mP ?_|(refine mS ?_;clear HM;intro W1 HM)|(refine hbs1A HM rfl rfl rfl rfl ?_;clear HM;intro g1 W1 HM)|(refine hal (dst:=some 8) HM rfl ?_;clear HM;intro g8 W1 HM))
        go_roundw
        case rel=>exact ⟨k2,_,acc++[t],_,_,_,rfl,by rw [HAl.out],rfl,rfl,hm2.out.2,by rw [HAl.out];exact hm1.out,HR3,Lib.hid (by rw [HAl.out];have h:=HM.out.sub (.cons _ (.cons _ (.refl _)));rw [HAc.out] at h;exact h)⟩
        case measure=>have h1:=hm2.out;simp [intOf];omega
    ·have HR3:=Lib.hid (show r=some (acc,bo,bf) by rw [← HR.out];exact LG_end (by omega))
     have d0:decide ((i:Int) < s.size)=false:=decide_eq_false (by omega)
     cases bo with
     | true=>
      have HF2:=Lib.hid (show lexF s=([],3) by rw [HF.out,HR3.out];rfl)
      go_wp2_with fail
      go_ret2
      rw [HF2.out]
      exact ⟨none,0,rfl,((Mem.start w).next HM.out.below).row0 _ _⟩
     | false=>
      cases bf with
      | true=>
       have HF2:=Lib.hid (show lexF s=([],17) by rw [HF.out,HR3.out];rfl)
       go_wp2_with fail
       go_ret2
       rw [HF2.out]
       exact ⟨none,0,rfl,((Mem.start w).next HM.out.below).row0 _ _⟩
      | false=>
       have HF2:=Lib.hid (show lexF s=(acc,0) by rw [HF.out,HR3.out];rfl)
       go_wp2_with fail
       go_ret2
       rw [HF2.out]
       exact ⟨op,oc,rfl,HM.out⟩
end Go.Proofs.YtheimopjglkgjaaGreatDoor
