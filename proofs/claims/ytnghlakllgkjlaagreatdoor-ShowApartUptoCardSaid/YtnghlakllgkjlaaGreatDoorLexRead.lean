/- lex.Read: all tokens. (fast) -/
import Derived.Test.YtnghlakllgkjlaaGreatDoorLexTokNum
import Derived.Test.YtnghlakllgkjlaaGreatDoorLexTokStr
import Derived.Test.YtnghlakllgkjlaaGreatDoorLexTokDate
import Derived.Test.YtnghlakllgkjlaaGreatDoorLexTokName
import Derived.Test.YtnghlakllgkjlaaGreatDoorLexTokSign
namespace Go.Proofs.YtnghlakllgkjlaaGreatDoor
open Go.RowKit
set_option linter.unusedVariables false
set_option linter.unusedSimpArgs false
set_option maxRecDepth 100000
theorem textF_le {s:ByteArray} {i k:Nat} {t:ByteArray} (h:textF s i=some (t,k)):i < k∧k≤s.size:=by
 unfold textF at h
 split at h
 ·split at h
  ·cases h
  ·rename_i k' hk
   have:=quoE_le _ _ _ hk
   have hl:s.data.toList.length=s.size:=by simp
   split at h
   ·cases h;omega
   ·cases h
 ·cases h
theorem signN_le {l:List UInt8} {i:Nat} (h:i < l.length):i + signN l i≤l.length:=by
 unfold signN
 cases h1:l[i + 1]? with
 | none=>
  rw [List.getElem?_eq_getElem h]
  simp only
  split <;> omega
 | some b=>
  have:=(List.getElem?_eq_some_iff.1 h1).1
  rw [List.getElem?_eq_getElem h]
  simp only
  split
  ·omega
  ·split <;> omega
theorem oneF_le {s:ByteArray} {i:Nat} {c:UInt8} (hc:s.data.toList[i]? = some c) (h:(oneF s i).2.2≠5):i < (oneF s i).2.1∧(oneF s i).2.1≤s.size:=by
 have hl:s.data.toList.length=s.size:=by simp
 have hil:i < s.size:=by rw [← hl];exact (List.getElem?_eq_some_iff.1 hc).1
 revert h
 unfold oneF
 rw [hc]
 simp only
 split
 ·rename_i hd
  intro _
  have:=num_parts hc hd
  show i < numE s.data.toList i∧numE s.data.toList i≤s.size
  exact ⟨this.1,by have:=this.2.1;omega⟩
 ·split
  ·cases hx:textF s i with
   | none=>intro h;exact absurd rfl h
   | some x=>
    obtain ⟨t,k⟩:=x
    intro _
    exact textF_le hx
  ·split
   ·cases hx:textF s (i + 1) with
    | none=>intro h;exact absurd rfl h
    | some x=>
     obtain ⟨t,k⟩:=x
     intro _
     have:=textF_le hx
     exact ⟨by show i < k;omega,this.2⟩
   ·split
    ·rename_i hlt
     split
     ·intro h;exact absurd rfl h
     ·intro _
      have h1:=spanE_yes (p:=wdB) hc (by unfold wdB;rw [hlt];rfl)
      have h2:=spanE_le (p:=wdB) (l:=s.data.toList) (i:=i + 1) (by omega)
      show i < spanE wdB s.data.toList i∧spanE wdB s.data.toList i≤s.size
      omega
    ·split
     ·intro h;exact absurd rfl h
     ·rename_i hs
      intro _
      have:=signN_le (l:=s.data.toList) (i:=i) (by omega)
      show i < i + signN s.data.toList i∧i + signN s.data.toList i≤s.size
      omega
theorem lexG_more (s:ByteArray):∀ (f g i:Nat) (acc:List TokD) (o r:Bool),s.size < f + i→s.size < g + i→lexG s f i acc o r=lexG s g i acc o r
 | 0,0,_,_,_,_,_,_=>rfl
 | 0,g + 1,i,acc,o,r,hf,_=>by
  unfold lexG
  rw [List.getElem?_eq_none (by have:s.data.toList.length=s.size:=by simp
                                omega)]
 | f + 1,0,i,acc,o,r,_,hg=>by
  unfold lexG
  rw [List.getElem?_eq_none (by have:s.data.toList.length=s.size:=by simp
                                omega)]
 | f + 1,g + 1,i,acc,o,r,hf,hg=>by
  unfold lexG
  cases hc:s.data.toList[i]? with
  | none=>rfl
  | some c=>
   simp only
   split
   ·exact lexG_more s f g (i + 1) acc o r (by omega) (by omega)
   ·split
    ·rfl
    ·rename_i h5
     have:=oneF_le hc h5
     exact lexG_more s f g _ _ _ _ (by omega) (by omega)
def LG (s:ByteArray) (i:Nat) (acc:List TokD) (o r:Bool):Option (List TokD × Bool × Bool):=lexG s (s.size + 1) i acc o r
theorem LG_end {s:ByteArray} {i:Nat} {acc:List TokD} {o r:Bool} (h:s.size≤i):LG s i acc o r=some (acc,o,r):=by
 unfold LG lexG
 rw [List.getElem?_eq_none (by have:s.data.toList.length=s.size:=by simp
                               omega)]
theorem LG_blank {s:ByteArray} {i:Nat} {acc:List TokD} {o r:Bool} {c:UInt8} (hc:s.data.toList[i]? = some c) (hb:blankB c=true):LG s i acc o r=LG s (i + 1) acc o r:=by
 have h1:LG s i acc o r=lexG s s.size (i + 1) acc o r:=by unfold LG lexG;rw [hc];simp only;rw [if_pos hb,← lexG.eq_def]
 rw [h1]
 exact lexG_more s _ _ _ _ _ _ (by omega) (by omega)
theorem LG_err {s:ByteArray} {i:Nat} {acc:List TokD} {o r:Bool} {c:UInt8} (hc:s.data.toList[i]? = some c) (hb:blankB c=false) (h:(oneF s i).2.2=5):LG s i acc o r=none:=by
 unfold LG lexG
 rw [hc]
 simp only
 rw [if_neg (by rw [hb];simp),if_pos h]
theorem LG_tok {s:ByteArray} {i:Nat} {acc:List TokD} {o r:Bool} {c:UInt8} (hc:s.data.toList[i]? = some c) (hb:blankB c=false) (h:(oneF s i).2.2≠5):LG s i acc o r=LG s (oneF s i).2.1 (acc++[(oneF s i).1]) (o || decide ((oneF s i).2.2=3)) (r || decide ((oneF s i).2.2=17)):=by
 have h1:LG s i acc o r=lexG s s.size (oneF s i).2.1 (acc++[(oneF s i).1]) (o || decide ((oneF s i).2.2=3)) (r || decide ((oneF s i).2.2=17)):=by
  unfold LG lexG
  rw [hc]
  simp only
  rw [if_neg (by rw [hb];simp),if_neg h,← lexG.eq_def]
 have:=oneF_le hc h
 rw [h1]
 exact lexG_more s _ _ _ _ _ _ (by omega) (by omega)
theorem LG_span {s:ByteArray} {acc:List TokD} {o r:Bool}:∀ (n i:Nat),s.size - i=n→LG s i acc o r=LG s (spanE blankB s.data.toList i) acc o r
 | n,i,hn=>by
  have hl:s.data.toList.length=s.size:=by simp
  by_cases hi:i < s.size
  ·obtain ⟨b,hb⟩:∃ b,s.data.toList[i]? = some b:=⟨_,List.getElem?_eq_getElem (by omega)⟩
   cases hp:blankB b with
   | false=>rw [spanE_no hb hp]
   | true=>rw [spanE_yes hb hp,LG_blank hb hp];exact LG_span (s.size - (i + 1)) (i + 1) rfl
  ·rw [spanE_end (by omega)]
termination_by n=>n
decreasing_by omega
theorem token_any (w0 W:World) (R:Nat) (T:List Res) (s:ByteArray) (i oc:Nat) (op:Option Addr) (bo bf:Bool) (acc:List TokD) {c:UInt8} (HM0:Mem w0 W (.box R 265 [.string s,.int .i64 i,.slice op acc.length oc,.bool bo,.bool bf] :: .row op oc 297 8 acc.length (acc.flatMap TokD.cs) :: T)) (hc:s.data.toList[i]? = some c) (hs:s.size≤1000) (ha:acc.length≤1000) (hT:U8 w0) :
  Calls Tryz.prog 223 #[.pointer (some ⟨R,0,none⟩)] W (TPost (oneF s i) w0 R T s acc bo bf):=by
 cases hd:dg c with
 | true=>exact token_num w0 W R T s i oc op bo bf acc HM0 hc hd hs ha
 | false=>
  by_cases h34:c=34
  ·exact token_str w0 W R T s i oc op bo bf acc HM0 hc h34 hs ha hT
  ·by_cases h64:c=64
   ·exact token_date w0 W R T s i oc op bo bf acc HM0 hc h64 hs ha hT
   ·cases hl:lt1 c with
    | true=>exact token_name w0 W R T s i oc op bo bf acc HM0 hc hd h34 h64 hl hs ha
    | false=>exact token_sign w0 W R T s i oc op bo bf acc HM0 hc hd h34 h64 hl hs ha
def RdV (r:Option (List TokD × Bool × Bool)):List TokD × Int:=match r with
 | none=>([],5)
 | some (ts,o,f)=>if o then ([],3) else if f then ([],17) else (ts,0)
theorem lexF_rd {s:ByteArray} (h:¬ 1000 < s.size) (ht:textB s=true):lexF s=RdV (LG s 0 [] false false):=by
 unfold lexF
 rw [if_neg h,if_neg (by rw [ht];simp)]
 rfl
def LexPost (r:List TokD × Int) (w:World) (e:Ending) (w' : World):Prop:=∃ (p:Option Addr) (oc:Nat),e = .returned (.tuple #[.slice p r.1.length oc,.int .i64 r.2])∧Mem w w' [.row p oc 297 8 r.1.length (r.1.flatMap TokD.cs)]
set_option maxHeartbeats 8000000 in
theorem lexRead_any (s:ByteArray) (w:World) (hT:U8 w):Calls Tryz.prog 183 #[.string s] w (LexPost (lexF s) w):=by
 have HM:=Lib.hid (Mem.start w)
 have HT:=Lib.hid hT
 have hlen:s.data.toList.length=s.size:=by simp
 have HL:=Lib.hid hlen
 by_cases hlong:1000 < s.size
 ·have HR:=Lib.hid (show lexF s=([],6) by unfold lexF;rw [if_pos hlong])
  have d1:decide ((1000:Int) < s.size)=true:=decide_eq_true (by omega)
  have d1' : decide (1000 < s.size)=true:=decide_eq_true hlong
  rw [HR.out]
  clear hT hlen
  go_enter Tryz.func183,Tryz.ntmps183
  go_wp2_with fail
  go_ret2
  exact ⟨none,0,rfl,HM.out.row0 _ _⟩
 ·have hs:s.size≤1000:=by omega
  have d1:decide ((1000:Int) < s.size)=false:=decide_eq_false (by omega)
  have d1' : decide (1000 < s.size)=false:=decide_eq_false hlong
  have HV:=Lib.hid (fun W hu=>valid_any s W (by omega) hu)
  cases ht:textB s with
  | false=>
   have HR:=Lib.hid (show lexF s=([],2) by unfold lexF;rw [if_neg hlong,if_pos ht])
   rw [ht] at HV
   rw [HR.out]
   clear hT hlen hlong ht
   go_enter Tryz.func183,Tryz.ntmps183
   go_wp2_with (first|(go_at_call 105;(with_reducible refine cB HM (HV.out _ (U8.below HT.out HM.out.below)) ?_);clear HM;intro W1 HM))
   go_ret2
   exact ⟨none,0,rfl,HM.out.row0 _ _⟩
  | true=>
   rw [ht] at HV
   obtain ⟨r,hr⟩:∃ r,LG s 0 [] false false=r:=⟨_,rfl⟩
   have hF:lexF s=RdV r:=by rw [lexF_rd hlong ht,hr]
   have HF:=Lib.hid hF
   have HR:=Lib.hid hr
   clear hT hlen hlong ht hF hr
   go_enter Tryz.func183,Tryz.ntmps183
   go_wp2_with (first|(go_at_call 105;(with_reducible refine cB HM (HV.out _ (U8.below HT.out HM.out.below)) ?_);clear HM;intro W1 HM)|refine mP ?_|(refine hbxA (dst:=some 13) HM rfl rfl ?_;clear HM;intro g13 W1 HM))
   have HM2:=Lib.hid ((HM.out.row0 297 8).perm (List.Perm.swap _ _ _))
   go_loopw [22] (fun _ wr=>∃ (i oc:Nat) (acc:List TokD) (op:Option Addr) (bo bf:Bool),i≤s.size∧acc.length≤i∧Hid (LG s i acc bo bf=r)∧Hid (Mem w wr [.box g13 265 [.string s,.int .i64 i,.slice op acc.length oc,.bool bo,.bool bf],.row op oc 297 8 acc.length (acc.flatMap TokD.cs)])) (fun _ wr=>s.size - (intOf ((wr.cell? ⟨g13,1,none⟩).getD undef)).toNat)
   case atStart=>exact ⟨0,0,[],none,false,false,Nat.zero_le _,Nat.le_refl _,HR,HM2⟩
   case round=>
    clear HM HM2 HR
    obtain ⟨i,oc,acc,op,bo,bf,hi,ha,HR,HM⟩:=hrel
    have HK:=Lib.hid (rd_at HM.out)
    obtain ⟨k,hk⟩:∃ k,spanE blankB s.data.toList i=k:=⟨_,rfl⟩
    have hle:=spanE_le (p:=blankB) (l:=s.data.toList) (i:=i) (by rw [HL.out];exact hi)
    rw [hk,HL.out] at hle
    have HW:=Lib.hid (fun W T (h:Mem w W (.box g13 265 [.string s,.int .i64 i,.slice op acc.length oc,.bool bo,.bool bf] :: T))=>hk▸whileBl w W g13 T s i acc.length oc op bo bf h hi hs)
    have HR2:=Lib.hid (show LG s k acc bo bf=r by rw [← HR.out,LG_span _ i rfl,hk])
    by_cases hks:k=s.size
    ·have HR3:=Lib.hid (show r=some (acc,bo,bf) by rw [← HR2.out];exact LG_end (by omega))
     have q1:((k:Int) == s.size)=true:=by rw [hks];simp
     clear hk
     cases bo with
     | true=>
      have HF2:=Lib.hid (show lexF s=([],3) by rw [HF.out,HR3.out];rfl)
      go_wp2_with (first|(go_at_call 221;(with_reducible refine (HW.out _ _ HM.out).mono ?_);rintro e W2 ⟨rfl,hM2⟩;have HM1:=Lib.hid hM2;clear hM2;clear HM;(try clear W1);rename World=>W1;have HM:=HM1;clear HM1)|refine mP ?_|(refine hbxA HM rfl rfl ?_;clear HM;intro g1 W1 HM))
      go_ret2
      rw [HF2.out]
      exact ⟨none,0,rfl,((Mem.start w).next HM.out.below).row0 _ _⟩
     | false=>
      cases bf with
      | true=>
       have HF2:=Lib.hid (show lexF s=([],17) by rw [HF.out,HR3.out];rfl)
       go_wp2_with (first|(go_at_call 221;(with_reducible refine (HW.out _ _ HM.out).mono ?_);rintro e W2 ⟨rfl,hM2⟩;have HM1:=Lib.hid hM2;clear hM2;clear HM;(try clear W1);rename World=>W1;have HM:=HM1;clear HM1)|refine mP ?_|(refine hbxA HM rfl rfl ?_;clear HM;intro g1 W1 HM))
       go_ret2
       rw [HF2.out]
       exact ⟨none,0,rfl,((Mem.start w).next HM.out.below).row0 _ _⟩
      | false=>
       have HF2:=Lib.hid (show lexF s=(acc,0) by rw [HF.out,HR3.out];rfl)
       go_wp2_with (first|(go_at_call 221;(with_reducible refine (HW.out _ _ HM.out).mono ?_);rintro e W2 ⟨rfl,hM2⟩;have HM1:=Lib.hid hM2;clear hM2;clear HM;(try clear W1);rename World=>W1;have HM:=HM1;clear HM1)|refine mP ?_|(refine hbxA HM rfl rfl ?_;clear HM;intro g1 W1 HM))
       go_ret2
       rw [HF2.out]
       exact ⟨op,oc,rfl,HM.out.sub (.cons _ (.refl _))⟩
    ·have hkl:k < s.size:=by omega
     have q1:((k:Int) == s.size)=false:=by simpa using fun e:(k:Int)=s.size=>hks (by omega)
     obtain ⟨c,hc⟩:∃ c,s.data.toList[k]? = some c:=⟨_,List.getElem?_eq_getElem (by rw [HL.out];exact hkl)⟩
     have hbl:blankB c=false:=spanE_stop _ i rfl c (by rw [hk];exact hc)
     have HTk:=Lib.hid (fun W (h:Mem w W [.box g13 265 [.string s,.int .i64 k,.slice op acc.length oc,.bool bo,.bool bf],.row op oc 297 8 acc.length (acc.flatMap TokD.cs)])=>token_any w W g13 [] s k oc op bo bf acc h hc hs (by omega) HT.out)
     unfold TPost at HTk
     by_cases h5:(oneF s k).2.2=5
     ·simp only [if_pos h5] at HTk
      have HR3:=Lib.hid (show r=none by rw [← HR2.out];exact LG_err hc hbl h5)
      have HF2:=Lib.hid (show lexF s=([],5) by rw [HF.out,HR3.out];rfl)
      clear hk hc hbl h5 hks
      go_wp2_with (first|(go_at_call 221;(with_reducible refine (HW.out _ _ HM.out).mono ?_);rintro e W2 ⟨rfl,hM2⟩;have HM1:=Lib.hid hM2;clear hM2;clear HM;(try clear W1);rename World=>W1;have HM:=HM1;clear HM1)|(go_at_call 223;(with_reducible refine (HTk.out _ HM.out).mono ?_);rintro e W2 ⟨rfl,hb⟩;have HM1:=Lib.hid ((Mem.start w).next hb);clear hb;clear HM;(try clear W1);rename World=>W1;have HM:=HM1;clear HM1)|refine mP ?_|(refine hbxA HM rfl rfl ?_;clear HM;intro g1 W1 HM))
      go_ret2
      rw [HF2.out]
      exact ⟨none,0,rfl,HM.out.row0 _ _⟩
     ·simp only [if_neg h5] at HTk
      have hk2:=oneF_le hc h5
      have HR3:=Lib.hid (show LG s (oneF s k).2.1 (acc++[(oneF s k).1]) (bo || decide ((oneF s k).2.2=3)) (bf || decide ((oneF s k).2.2=17))=r by rw [← HR2.out];exact (LG_tok hc hbl h5).symm)
      obtain ⟨⟨t,k2,ee⟩,ho⟩:∃ x,oneF s k=x:=⟨_,rfl⟩
      rw [ho] at HTk HR3 hk2
      obtain ⟨bo2,hbo⟩:∃ b,(bo || decide (ee=3))=b:=⟨_,rfl⟩
      obtain ⟨bf2,hbf⟩:∃ b,(bf || decide (ee=17))=b:=⟨_,rfl⟩
      simp only [hbo,hbf] at HTk HR3
      have hk3:k < k2∧k2≤s.size:=hk2
      have hal:(acc++[t]).length=acc.length + 1:=by simp
      have HAl:=Lib.hid hal
      have hm1:=Lib.hid (show acc.length + 1≤k2 by omega)
      have hm2:=Lib.hid hk3
      have hm3:=Lib.hid hle
      clear hk hc hbl h5 hks ho hbo hbf hal hk2 hk3
      go_wp2_with (first|(go_at_call 221;(with_reducible refine (HW.out _ _ HM.out).mono ?_);rintro e W2 ⟨rfl,hM2⟩;have HM1:=Lib.hid hM2;clear hM2;clear HM;(try clear W1);rename World=>W1;have HM:=HM1;clear HM1)|(go_at_call 223;(with_reducible refine (HTk.out _ HM.out).mono ?_);rintro e W2 ⟨op2,oc2,rfl,hM2⟩;have HM1:=Lib.hid hM2;clear hM2;clear HM;(try clear W1);rename World=>W1;have HM:=HM1;clear HM1)|refine mP ?_|(refine hbxA HM rfl rfl ?_;clear HM;intro g1 W1 HM))
      go_roundw
      case rel=>exact ⟨k2,oc2,acc++[t],op2,bo2,bf2,hm2.out.2,by rw [HAl.out];exact hm1.out,HR3,Lib.hid (by rw [HAl.out];exact HM.out)⟩
      case measure=>have h1:=hm2.out;have h2:=hm3.out;rw [rd_at HM.out,HK.out];omega
end Go.Proofs.YtnghlakllgkjlaaGreatDoor
