/- The reference's DocRead: all tokens; the same tokens. The tokens of a text: one behind the other, each of its kind; in plain Lean. -/
import Derived.Test.YtkackccmhghphaaGreatDoorRefOne
import Derived.Test.YtkackccmhghphaaGreatDoorSepMac2
import Derived.Test.YtkackccmhghphaaGreatDoorLexRead
namespace Go.Proofs.YtkackccmhghphaaGreatDoor
open Go.RowKit
set_option linter.unusedVariables false
set_option linter.unusedSimpArgs false
set_option maxRecDepth 100000

theorem blank_cases {c:UInt8} (h:blankB c=true):c=32∨c=9∨c=10∨c=13:=by
 unfold blankB at h
 simpa [or_assoc] using h
theorem blank_none {c:UInt8} (h:blankB c=false):((c.toNat:Int) == 32)=false∧((c.toNat:Int) == 9)=false∧((c.toNat:Int) == 10)=false∧((c.toNat:Int) == 13)=false:=by
 unfold blankB at h
 simp only [Bool.or_eq_false_iff,beq_eq_false_iff_ne] at h
 exact ⟨byte_eq (b:=32) h.1.1.1,byte_eq (b:=9) h.1.1.2,byte_eq (b:=10) h.1.2,byte_eq (b:=13) h.2⟩

set_option maxHeartbeats 8000000 in
theorem rlexRead_any (s:ByteArray) (w:World):Calls Tryz.prog 43 #[.string s] w (LexPost (lexF s) w):=by
 have HM:=Lib.hid (Mem.start w)
 have hlen:s.data.toList.length=s.size:=by simp
 have HL:=Lib.hid hlen
 by_cases hlong:1000 < s.size
 ·have HR:=Lib.hid (show lexF s=([],6) by unfold lexF;rw [if_pos hlong])
  have d1:decide ((1000:Int) < s.size)=true:=decide_eq_true (by omega)
  have d1' : decide (1000 < s.size)=true:=decide_eq_true hlong
  rw [HR.out]
  clear hlen
  go_enter Tryz.func43,Tryz.ntmps43
  go_wp2_with fail
  go_ret2
  exact ⟨none,0,rfl,HM.out.row0 _ _⟩
 ·have hs:s.size≤1000:=by omega
  have d1:decide ((1000:Int) < s.size)=false:=decide_eq_false (by omega)
  have d1' : decide (1000 < s.size)=false:=decide_eq_false hlong
  have HV:=Lib.hid (fun W=>rValid_any s W (by omega))
  cases ht:textB s with
  | false=>
   have HR:=Lib.hid (show lexF s=([],2) by unfold lexF;rw [if_neg hlong,if_pos ht])
   rw [ht] at HV
   rw [HR.out]
   clear hlen hlong ht
   go_enter Tryz.func43,Tryz.ntmps43
   go_wp2_with (first|(go_at_call 57;(with_reducible refine (HV.out _).mono ?_);refine cB1 HM ?_;clear HM;intro W1 HM))
   go_ret2
   exact ⟨none,0,rfl,HM.out.row0 _ _⟩
  | true=>
   rw [ht] at HV
   obtain ⟨r,hr⟩:∃ r,LG s 0 [] false false=r:=⟨_,rfl⟩
   have hF:lexF s=RdV r:=by rw [lexF_rd hlong ht,hr]
   have HF:=Lib.hid hF
   have HR:=Lib.hid hr
   clear hlen hlong ht hF hr
   go_enter Tryz.func43,Tryz.ntmps43
   go_wp2_with (first|(go_at_call 57;(with_reducible refine (HV.out _).mono ?_);refine cB1 HM ?_;clear HM;intro W1 HM))
   have HM2:=Lib.hid (HM.out.row0 107 8)
   go_loopw [7,4,5,6] (fun iv ov bv fv wr=>∃ (i oc:Nat) (acc:List TokD) (op:Option Addr) (bo bf:Bool),iv = .int .i64 i∧ov = .slice op acc.length oc∧bv = .bool bo∧fv = .bool bf∧i≤s.size∧acc.length≤i∧Hid (LG s i acc bo bf=r)∧Hid (Mem w wr [.row op oc 107 8 acc.length (acc.flatMap TokD.cs)])) (fun iv _ _ _ _=>s.size - (intOf iv).toNat)
   case atStart=>exact ⟨0,0,[],none,false,false,rfl,rfl,rfl,rfl,Nat.zero_le _,Nat.le_refl _,HR,HM2⟩
   case round=>
    clear HM HM2 HR
    obtain ⟨i,oc,acc,op,bo,bf,rfl,rfl,rfl,rfl,hi,ha,HR,HM⟩:=hrel
    by_cases hlt:i < s.size
    ·obtain ⟨c,hc⟩:∃ c,s.data.toList[i]? = some c:=⟨_,List.getElem?_eq_getElem (by rw [HL.out];exact hlt)⟩
     have HC:=Lib.hid hc
     have hlt3:=Lib.hid (show i + 1≤s.size from hlt)
     cases hbl:blankB c with
     | true=>
      have HR2:=Lib.hid (show LG s (i + 1) acc bo bf=r by rw [← HR.out];exact (LG_blank hc hbl).symm)
      have ha2:=Lib.hid (show acc.length≤i + 1 by omega)
      clear hc
      rcases blank_cases hbl with h|h|h|h <;> subst h
      all_goals
       clear hbl
       go_wp2_with (first|((with_reducible refine iat 23 ?_);(refine six rfl rfl rfl HC.out ?_))|((with_reducible refine iat 28 ?_);(refine six rfl rfl rfl HC.out ?_))|((with_reducible refine iat 34 ?_);(refine six rfl rfl rfl HC.out ?_))|((with_reducible refine iat 40 ?_);(refine six rfl rfl rfl HC.out ?_)))
       go_roundw
       case rel=>exact ⟨i + 1,oc,acc,op,bo,bf,by go_num,rfl,rfl,rfl,hlt3.out,ha2.out,HR2,HM⟩
       case measure=>have:=hlt3.out;simp [intOf];omega
     | false=>
      obtain ⟨q1,q2,q3,q4⟩:=blank_none hbl
      have HO:=Lib.hid (fun W=>rone_any s i W hc hs)
      by_cases h5:(oneF s i).2.2=5
      ·unfold RPost at HO
       simp only [if_pos h5] at HO
       have HR3:=Lib.hid (show r=none by rw [← HR.out];exact LG_err hc hbl h5)
       have HF2:=Lib.hid (show lexF s=([],5) by rw [HF.out,HR3.out];rfl)
       clear hc hbl h5
       go_wp2_with (first|((with_reducible refine iat 23 ?_);(refine six rfl rfl rfl HC.out ?_))|((with_reducible refine iat 28 ?_);(refine six rfl rfl rfl HC.out ?_))|((with_reducible refine iat 34 ?_);(refine six rfl rfl rfl HC.out ?_))|((with_reducible refine iat 40 ?_);(refine six rfl rfl rfl HC.out ?_))|(go_at_call 63;(with_reducible refine (HO.out _).mono ?_);rintro e W2 ⟨⟨t,k,rfl⟩,hb⟩;have HM1:=HM.out.next hb;clear hb;clear HM;(try clear W1);rename World=>W1;have HM:=Lib.hid HM1;clear HM1)|((with_reducible refine skip_op ?_ ?_);exact rfl)|refine mP ?_|(refine mS ?_;clear HM;intro W1 HM)|(refine hbs1A HM rfl rfl rfl rfl ?_;clear HM;intro g1 W1 HM)|(refine hal (dst:=some 8) HM rfl ?_;clear HM;intro g8 W1 HM))
       go_ret2
       rw [HF2.out]
       exact ⟨none,0,rfl,((Mem.start w).next HM.out.below).row0 _ _⟩
      ·have hk2:=oneF_le hc h5
       have HR3:=Lib.hid (show LG s (oneF s i).2.1 (acc++[(oneF s i).1]) (bo || decide ((oneF s i).2.2=3)) (bf || decide ((oneF s i).2.2=17))=r by rw [← HR.out];exact (LG_tok hc hbl h5).symm)
       unfold RPost at HO
       simp only [if_neg h5] at HO
       obtain ⟨⟨t,k2,ee⟩,ho⟩:∃ x,oneF s i=x:=⟨_,rfl⟩
       rw [ho] at HO HR3 hk2 h5
       have hk3:i < k2∧k2≤s.size:=hk2
       have q5:(ee == 5)=false:=by simpa using h5
       obtain ⟨b3,hb3⟩:∃ b,(ee == 3)=b:=⟨_,rfl⟩
       obtain ⟨b17,hb17⟩:∃ b,(ee == 17)=b:=⟨_,rfl⟩
       have e3:decide (ee=3)=b3:=by rw [← hb3];rfl
       have e17:decide (ee=17)=b17:=by rw [← hb17];rfl
       simp only [e3,e17] at HR3
       have hal:(acc++[t]).length=acc.length + 1:=by simp
       have HAl:=Lib.hid hal
       have hm2:=Lib.hid hk3
       have hm1:=Lib.hid (show acc.length + 1≤k2 by omega)
       have HTl:=Lib.hid (TokD.cs_len t)
       have HAc:=Lib.hid (show (acc.flatMap TokD.cs).take (acc.length * 8)++t.cs=(acc++[t]).flatMap TokD.cs by rw [acc_take,acc_flat])
       obtain ⟨m,hm⟩:∃ m,acc.length=m:=⟨_,rfl⟩
       have hma:m≤1000:=by omega
       have HTc:=Lib.hid (show t.cs=[.int .i64 t.kind,.string t.text,.bool false,.int .u64 (t.num / 18446744073709551616:Nat),.int .u64 (t.num % 18446744073709551616:Nat),.int .i64 t.sc,.int .i64 t.day,.int .i64 t.at_] from rfl)
       obtain ⟨kd,hkd⟩:∃ x,t.kind=x:=⟨_,rfl⟩
       obtain ⟨tx,htx⟩:∃ x,t.text=x:=⟨_,rfl⟩
       obtain ⟨nh,hnh⟩:∃ x,t.num / 18446744073709551616=x:=⟨_,rfl⟩
       obtain ⟨nl,hnl⟩:∃ x,t.num % 18446744073709551616=x:=⟨_,rfl⟩
       obtain ⟨sc,hsc⟩:∃ x,t.sc=x:=⟨_,rfl⟩
       obtain ⟨dy,hdy⟩:∃ x,t.day=x:=⟨_,rfl⟩
       obtain ⟨pa,hpa⟩:∃ x,t.at_=x:=⟨_,rfl⟩
       obtain ⟨av,hav⟩:∃ x,acc.flatMap TokD.cs=x:=⟨_,rfl⟩
       rw [hkd,htx,hnh,hnl,hsc,hdy,hpa] at HTc
       simp only [HTc.out] at HO
       rw [hav,hm,HTc.out] at HAc
       rw [hav,hm] at HM
       rw [hm] at HAl hm1 ⊢
       clear hc hbl h5 ho e3 e17 hal hk2 hk3 hkd htx hnh hnl hsc hdy hpa hm hav ha
       cases bo <;> cases bf
       all_goals
        go_wp2_with (first|((with_reducible refine iat 23 ?_);(refine six rfl rfl rfl HC.out ?_))|((with_reducible refine iat 28 ?_);(refine six rfl rfl rfl HC.out ?_))|((with_reducible refine iat 34 ?_);(refine six rfl rfl rfl HC.out ?_))|((with_reducible refine iat 40 ?_);(refine six rfl rfl rfl HC.out ?_))|(go_at_call 63;(with_reducible refine (HO.out _).mono ?_);refine cB1 HM ?_;clear HM;intro W1 HM)|(refine apb rfl HM.out 2 0 rfl rfl rfl rfl rfl rfl (by omega) (by omega) (by omega) ?_;intro p1 cap1 W1 HM1;replace HM:=Lib.hid HM1;clear HM1;simp only [List.set] at HM)|((with_reducible refine skip_op ?_ ?_);exact rfl)|refine mP ?_|(refine mS ?_;clear HM;intro W1 HM)|(refine hbs1A HM rfl rfl rfl rfl ?_;clear HM;intro g1 W1 HM)|(refine hal (dst:=some 8) HM rfl ?_;clear HM;intro g8 W1 HM))
        go_roundw
        case rel=>exact ⟨k2,_,acc++[t],_,_,_,rfl,by rw [HAl.out],rfl,rfl,hm2.out.2,by rw [HAl.out];exact hm1.out,HR3,Lib.hid (by rw [HAl.out];have h:=HM.out.sub (.cons _ (.cons _ (.refl _)));rw [HAc.out] at h;exact h)⟩
        case measure=>have h1:=hm2.out;simp [intOf];omega
    ·have HR3:=Lib.hid (show r=some (acc,bo,bf) by rw [← HR.out];exact LG_end (by omega))
     have d0:decide ((i:Int) < s.size)=false:=decide_eq_false (by omega)
     cases bo with
     | true=>
      have HF2:=Lib.hid (show lexF s=([],3) by rw [HF.out,HR3.out];rfl)
      go_wp2_with fail
      go_ret2
      rw [HF2.out]
      exact ⟨none,0,rfl,((Mem.start w).next HM.out.below).row0 _ _⟩
     | false=>
      cases bf with
      | true=>
       have HF2:=Lib.hid (show lexF s=([],17) by rw [HF.out,HR3.out];rfl)
       go_wp2_with fail
       go_ret2
       rw [HF2.out]
       exact ⟨none,0,rfl,((Mem.start w).next HM.out.below).row0 _ _⟩
      | false=>
       have HF2:=Lib.hid (show lexF s=(acc,0) by rw [HF.out,HR3.out];rfl)
       go_wp2_with fail
       go_ret2
       rw [HF2.out]
       exact ⟨op,oc,rfl,HM.out⟩
end Go.Proofs.YtkackccmhghphaaGreatDoor

namespace Go.Proofs.YtkackccmhghphaaGreatDoor
open Go.RowKit
set_option linter.unusedVariables false

/-- A token of the text s. -/
def TokOk (s:ByteArray) (t:TokD):Prop:=t.at_ < s.size∧1≤t.kind∧t.kind≤6∧(t.kind=4→nameB t.text=true)∧(t.kind=5→wordB t.text.toList=true)
/-- One behind the other, from lo on. -/
def ChainOk (s:ByteArray):Nat→List TokD→Prop
 | _,[]=>True
 | lo,t :: ts=>lo≤t.at_∧TokOk s t∧ChainOk s (t.at_ + 1) ts
theorem ChainOk.mono {s:ByteArray}:∀ {ts:List TokD} {lo lo' : Nat},ChainOk s lo ts→lo'≤lo→ChainOk s lo' ts
 | [],_,_,_,_=>trivial
 | t :: ts,lo,lo',h,hl=>⟨Nat.le_trans hl h.1,h.2⟩
theorem ChainOk.ok {s:ByteArray}:∀ {ts:List TokD} {lo i:Nat} {t:TokD},ChainOk s lo ts→ts[i]? = some t→TokOk s t∧lo≤t.at_
 | [],_,_,_,_,h=>by simp at h
 | u :: ts,lo,0,t,h,hi=>by
  simp only [List.getElem?_cons_zero,Option.some.injEq] at hi
  subst hi
  exact ⟨h.2.1,h.1⟩
 | u :: ts,lo,i + 1,t,h,hi=>by
  have:=ChainOk.ok h.2.2 (i:=i) (t:=t) (by simpa using hi)
  exact ⟨this.1,by have:=this.2;have:=h.1;omega⟩
theorem ChainOk.next {s:ByteArray}:∀ {ts:List TokD} {lo i:Nat} {t u:TokD},ChainOk s lo ts→ts[i]? = some t→ts[i + 1]? = some u→t.at_ < u.at_
 | [],_,_,_,_,_,h,_=>by simp at h
 | v :: ts,lo,0,t,u,h,hi,hj=>by
  simp only [List.getElem?_cons_zero,Option.some.injEq] at hi
  subst hi
  have:=(ChainOk.ok h.2.2 (i:=0) (t:=u) (by simpa using hj)).2
  omega
 | v :: ts,lo,i + 1,t,u,h,hi,hj=>ChainOk.next h.2.2 (i:=i) (by simpa using hi) (by simpa using hj)
theorem name_text {s:ByteArray} {i E:Nat} {c:UInt8} (hc:s.data.toList[i]? = some c) (hl:lt1 c=true) (hE:spanE wdB s.data.toList i=E) (h64:¬ 64 < E - i) (hw:wordB (s.extract i E).toList=false):nameB (s.extract i E)=true:=by
 have hlen:s.data.toList.length=s.size:=by simp
 have hil:i < s.size:=by rw [← hlen];exact (List.getElem?_eq_some_iff.1 hc).1
 have h1:=spanE_yes (p:=wdB) hc (by unfold wdB;rw [hl];rfl)
 have h2:=spanE_le (p:=wdB) (l:=s.data.toList) (i:=i + 1) (by omega)
 rw [← h1,hE,hlen] at h2
 have hx:=ext_list s i E
 have hin:∀ b ∈ (s.extract i E).data.toList,wdB b=true:=by
  rw [hx]
  exact take_at _ i (E - i) (by omega) wdB (fun j hj1 hj2=>spanE_in _ i j rfl hj1 (by rw [hE];omega))
 have hne:(s.extract i E).data.toList=c :: ((s.data.toList.drop (i + 1)).take (E - i - 1)):=by
  rw [hx,drop_cons hc,show E - i=(E - i - 1) + 1 by omega,List.take_succ_cons]
  rfl
 have hsz:(s.extract i E).size=E - i:=by rw [ByteArray.size_extract];omega
 unfold nameB
 rw [hw,hsz]
 have e1:(s.extract i E).toList.isEmpty=false:=by rw [ByteArray.toList_eq,hne];rfl
 have e2:decide (E - i≤64)=true:=decide_eq_true (by omega)
 have e3:restB (s.extract i E).data.toList=true:=by
  unfold restB
  rw [List.all_eq_true]
  intro b hb
  have:=hin b hb
  unfold wdB lt1 at this
  rw [← decB_dg] at this
  exact this
 rw [e1,e2,e3,hne]
 simp only [List.take_succ_cons,List.take_zero,List.all_cons,List.all_nil]
 show (true && true && true && (letB (c.toNat:Int) && true) && true)=true
 have:letB (c.toNat:Int)=true:=hl
 rw [this];rfl
theorem oneF_ok {s:ByteArray} {i:Nat} {c:UInt8} (hc:s.data.toList[i]? = some c) (h5:(oneF s i).2.2≠5):(oneF s i).1.at_=i∧TokOk s (oneF s i).1:=by
 have hlen:s.data.toList.length=s.size:=by simp
 have hil:i < s.size:=by rw [← hlen];exact (List.getElem?_eq_some_iff.1 hc).1
 revert h5
 unfold oneF
 rw [hc]
 simp only
 split
 ·intro _
  exact ⟨rfl,hil,(by decide:(1:Int)≤1),(by decide:(1:Int)≤6),(fun h=>absurd h (by decide:¬ (1:Int)=4)),(fun h=>absurd h (by decide:¬ (1:Int)=5))⟩
 ·split
  ·cases hx:textF s i with
   | none=>intro h;exact absurd rfl h
   | some x=>
    intro _
    exact ⟨rfl,hil,(by decide:(1:Int)≤2),(by decide:(2:Int)≤6),(fun h=>absurd h (by decide:¬ (2:Int)=4)),(fun h=>absurd h (by decide:¬ (2:Int)=5))⟩
  ·split
   ·cases hx:textF s (i + 1) with
    | none=>intro h;exact absurd rfl h
    | some x=>
     intro _
     exact ⟨rfl,hil,(by decide:(1:Int)≤3),(by decide:(3:Int)≤6),(fun h=>absurd h (by decide:¬ (3:Int)=4)),(fun h=>absurd h (by decide:¬ (3:Int)=5))⟩
   ·split
    ·rename_i hlt
     split
     ·intro h;exact absurd rfl h
     ·rename_i h64
      intro _
      cases hw:wordB (s.extract i (spanE wdB s.data.toList i)).toList with
      | true=>exact ⟨rfl,hil,(by decide:(1:Int)≤5),(by decide:(5:Int)≤6),(fun h=>absurd h (by decide:¬ (5:Int)=4)),(fun _=>hw)⟩
      | false=>exact ⟨rfl,hil,(by decide:(1:Int)≤4),(by decide:(4:Int)≤6),(fun _=>name_text hc hlt rfl h64 hw),(fun h=>absurd h (by decide:¬ (4:Int)=5))⟩
    ·split
     ·intro h;exact absurd rfl h
     ·intro _
      exact ⟨rfl,hil,(by decide:(1:Int)≤6),(by decide:(6:Int)≤6),(fun h=>absurd h (by decide:¬ (6:Int)=4)),(fun h=>absurd h (by decide:¬ (6:Int)=5))⟩
theorem lexG_chain (s:ByteArray):∀ (f i:Nat) (acc:List TokD) (o r:Bool) (ts:List TokD) (o' r' : Bool),lexG s f i acc o r=some (ts,o',r')→∃ new,ts=acc++new∧ChainOk s i new
 | 0,i,acc,o,r,ts,o',r',h=>by
  unfold lexG at h
  cases h
  exact ⟨[],by simp,trivial⟩
 | f + 1,i,acc,o,r,ts,o',r',h=>by
  unfold lexG at h
  cases hc:s.data.toList[i]? with
  | none=>
   rw [hc] at h
   cases h
   exact ⟨[],by simp,trivial⟩
  | some c=>
   rw [hc] at h
   simp only at h
   split at h
   ·obtain ⟨new,h1,h2⟩:=lexG_chain s f (i + 1) acc o r ts o' r' h
    exact ⟨new,h1,h2.mono (by omega)⟩
   ·split at h
    ·cases h
    ·rename_i h5
     obtain ⟨new,h1,h2⟩:=lexG_chain s f _ _ _ _ ts o' r' h
     have hk:=oneF_le hc h5
     obtain ⟨ha,hok⟩:=oneF_ok hc h5
     refine ⟨(oneF s i).1 :: new,by rw [h1];simp,by rw [ha];exact Nat.le_refl _,hok,?_⟩
     rw [ha]
     exact h2.mono hk.1
/-- Tokens begin one behind the other within the text; a name is a name, a word is a keyword; where an error is, no token is. -/
theorem lexF_chain (s:ByteArray):((lexF s).2≠0→(lexF s).1=[])∧ChainOk s 0 (lexF s).1:=by
 unfold lexF
 split
 ·exact ⟨fun _=>rfl,trivial⟩
 ·split
  ·exact ⟨fun _=>rfl,trivial⟩
  ·cases hg:lexG s (s.size + 1) 0 [] false false with
   | none=>exact ⟨fun _=>rfl,trivial⟩
   | some x=>
    obtain ⟨ts,o,r⟩:=x
    simp only
    split
    ·exact ⟨fun _=>rfl,trivial⟩
    ·split
     ·exact ⟨fun _=>rfl,trivial⟩
     ·obtain ⟨new,h1,h2⟩:=lexG_chain s _ _ _ _ _ _ _ _ hg
      rw [List.nil_append] at h1
      subst h1
      exact ⟨fun h=>absurd rfl h,h2⟩
theorem ChainOk.len {s:ByteArray}:∀ {ts:List TokD} {lo:Nat},lo≤s.size→ChainOk s lo ts→ts.length + lo≤s.size
 | [],lo,hl,_=>by simpa using hl
 | t :: ts,lo,_,h=>by
  have h1:=h.2.1.1
  have:=ChainOk.len (lo:=t.at_ + 1) h1 h.2.2
  have h2:=h.1
  rw [List.length_cons]
  omega
theorem lexF_small (s:ByteArray):(lexF s).1.length≤1000:=by
 by_cases hl:1000 < s.size
 ·unfold lexF;rw [if_pos hl];exact Nat.zero_le _
 ·have:=ChainOk.len (Nat.zero_le _) (lexF_chain s).2
  omega
end Go.Proofs.YtkackccmhghphaaGreatDoor
