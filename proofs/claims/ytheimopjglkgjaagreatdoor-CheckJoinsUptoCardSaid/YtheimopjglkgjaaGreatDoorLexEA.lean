/- A text within a text: its tokens are the same, at other places; in plain Lean. Texts put together out of pieces: the tokens of the whole are those of the pieces; in plain Lean. -/
import Derived.Test.YtheimopjglkgjaaGreatDoorLexChain
import Derived.Test.YtheimopjglkgjaaGreatDoorEmbA
namespace Go.Proofs.YtheimopjglkgjaaGreatDoor
open Go.RowKit
set_option linter.unusedVariables false

def stpB (b:UInt8):Bool:=blankB b || b == 41
/-- The text s lies in u from d on, and behind it u ends, or a blank or a closing bracket stands. -/
structure Emb (u:ByteArray) (d:Nat) (s:ByteArray):Prop where
 at_:∀ j b,s.data.toList[j]? = some b→u.data.toList[d + j]? = some b
 end_ : ∀ b, u.data.toList[d + s.size]? = some b → stpB b = true
theorem stp_is {b:UInt8} (h:stpB b=true):b=32∨b=9∨b=10∨b=13∨b=41:=by
 unfold stpB blankB at h
 simpa [or_assoc] using h
theorem stp_dg {b:UInt8} (h:stpB b=true):dg b=false:=by rcases stp_is h with rfl|rfl|rfl|rfl|rfl <;> decide
theorem stp_wd {b:UInt8} (h:stpB b=true):wdB b=false:=by rcases stp_is h with rfl|rfl|rfl|rfl|rfl <;> decide
theorem stp_sgn {a b:UInt8} (h:stpB b=true):sgn2 a b=false:=by
 unfold sgn2
 rcases stp_is h with rfl|rfl|rfl|rfl|rfl <;> simp
theorem stp_46 {b:UInt8} (h:stpB b=true):b≠46:=by rcases stp_is h with rfl|rfl|rfl|rfl|rfl <;> decide
section
variable {u s:ByteArray} {d:Nat}
theorem Emb.st (h:Emb u d s) {i:Nat} {b:UInt8} (hb:s.data.toList[i]? = some b):u.data.toList[d + i]? = some b:=h.at_ i b hb
theorem Emb.le (h:Emb u d s) (h0:0 < s.size):d + s.size≤u.size:=by
 have hl:s.data.toList.length=s.size:=by simp
 have hu:u.data.toList.length=u.size:=by simp
 obtain ⟨b,hb⟩:∃ b,s.data.toList[s.size - 1]? = some b:=⟨_,List.getElem?_eq_getElem (by omega)⟩
 have:=(List.getElem?_eq_some_iff.1 (h.at_ _ b hb)).1
 omega
theorem spanE_emb {p:UInt8→Bool} (h:Emb u d s) (hp:∀ b,stpB b=true→p b=false):∀ (n i:Nat),s.size - i=n→i≤s.size→spanE p u.data.toList (d + i)=d + spanE p s.data.toList i
 | n,i,hn,hi=>by
  have hl:s.data.toList.length=s.size:=by simp
  by_cases hlt:i < s.size
  ·obtain ⟨b,hb⟩:∃ b,s.data.toList[i]? = some b:=⟨_,List.getElem?_eq_getElem (by omega)⟩
   cases hpb:p b with
   | true=>
    rw [spanE_yes hb hpb,spanE_yes (h.at_ i b hb) hpb,Nat.add_assoc]
    exact spanE_emb h hp (s.size - (i + 1)) (i + 1) rfl hlt
   | false=>rw [spanE_no hb hpb,spanE_no (h.at_ i b hb) hpb]
  ·have hie:i=s.size:=by omega
   subst hie
   rw [spanE_end (l:=s.data.toList) (by omega)]
   cases hb:u.data.toList[d + s.size]? with
   | none=>exact spanE_end (List.getElem?_eq_none_iff.1 hb)
   | some b=>exact spanE_no hb (hp b (h.end_ b hb))
termination_by n=>n
decreasing_by omega
theorem take_emb (h:Emb u d s) {i m:Nat} (him:i + m≤s.size):(u.data.toList.drop (d + i)).take m=(s.data.toList.drop i).take m:=by
 have hl:s.data.toList.length=s.size:=by simp
 apply List.ext_getElem?
 intro j
 by_cases hj:j < m
 ·rw [List.getElem?_take_of_lt hj,List.getElem?_take_of_lt hj,List.getElem?_drop,List.getElem?_drop]
  obtain ⟨b,hb⟩:∃ b,s.data.toList[i + j]? = some b:=⟨_,List.getElem?_eq_getElem (by omega)⟩
  rw [hb,Nat.add_assoc,h.at_ _ b hb]
 ·rw [List.getElem?_eq_none (by rw [List.length_take];omega),List.getElem?_eq_none (by rw [List.length_take];omega)]
theorem ext_emb (h:Emb u d s) {i k:Nat} (hk:k≤s.size):u.extract (d + i) (d + k)=s.extract i k:=by
 have he:(u.extract (d + i) (d + k)).data.toList=(s.extract i k).data.toList:=by
  rw [ext_list,ext_list,show d + k - (d + i)=k - i by omega]
  by_cases hik:i≤k
  ·exact take_emb h (by omega)
  ·rw [show k - i=0 by omega,List.take_zero,List.take_zero]
 rcases hA:u.extract (d + i) (d + k) with ⟨⟨a⟩⟩
 rcases hB:s.extract i k with ⟨⟨b⟩⟩
 rw [hA,hB] at he
 simp at he
 rw [he]
theorem next_emb (h:Emb u d s) {k:Nat} (hk:k≤s.size) {P:UInt8→Prop} (hP:∀ b,stpB b=true→¬ P b):(∃ b,u.data.toList[d + k]? = some b∧P b)↔(∃ b,s.data.toList[k]? = some b∧P b):=by
 have hl:s.data.toList.length=s.size:=by simp
 constructor
 ·rintro ⟨b,hb,hp⟩
  by_cases hlt:k < s.size
  ·obtain ⟨c,hc⟩:∃ c,s.data.toList[k]? = some c:=⟨_,List.getElem?_eq_getElem (by omega)⟩
   have:=h.at_ k c hc
   rw [hb] at this
   cases this
   exact ⟨b,hc,hp⟩
  ·have hke:k=s.size:=by omega
   subst hke
   exact absurd hp (hP b (h.end_ b hb))
 ·rintro ⟨b,hb,hp⟩
  exact ⟨b,h.at_ k b hb,hp⟩
theorem numE_emb (h:Emb u d s) {i:Nat} (hi:i≤s.size):numE u.data.toList (d + i)=d + numE s.data.toList i:=by
 have hl:s.data.toList.length=s.size:=by simp
 have hsp:=spanE_emb (p:=dg) h (fun b hb=>stp_dg hb) _ i rfl hi
 have hle:=spanE_le (p:=dg) (l:=s.data.toList) (i:=i) (by omega)
 unfold numE
 simp only
 rw [hsp]
 generalize spanE dg s.data.toList i=k at hle ⊢
 have h1:=next_emb h (k:=k) (by omega) (P:=fun b=>b=46) (fun b hb=>stp_46 hb)
 have h1' : (u.data.toList[d + k]? = Option.some 46)↔(s.data.toList[k]? = Option.some 46):=by simpa using h1
 by_cases h46:s.data.toList[k]? = Option.some 46
 ·have hks:k < s.size:=by rw [← hl];exact (List.getElem?_eq_some_iff.1 h46).1
  have h2:=next_emb h (k:=k + 1) (by omega) (P:=fun b=>dg b=true) (fun b hb=>by rw [stp_dg hb];simp)
  have h2' : (u.data.toList[d + k + 1]?.map dg=Option.some true)↔(s.data.toList[k + 1]?.map dg=Option.some true):=by
   rw [Option.map_eq_some_iff,Option.map_eq_some_iff]
   exact h2
  by_cases hd2:s.data.toList[k + 1]?.map dg=Option.some true
  ·rw [if_pos ⟨h1'.2 h46,h2'.2 hd2⟩,if_pos ⟨h46,hd2⟩]
   exact spanE_emb (p:=dg) h (fun b hb=>stp_dg hb) _ (k + 1) rfl (by omega)
  ·rw [if_neg (fun x=>hd2 (h2'.1 x.2)),if_neg (fun x=>hd2 x.2)]
 ·rw [if_neg (fun x=>h46 (h1'.1 x.1)),if_neg (fun x=>h46 x.1)]
theorem numD_emb (h:Emb u d s) {i:Nat} (hi:i≤s.size):numD u.data.toList (d + i)=numD s.data.toList i:=by
 have hl:s.data.toList.length=s.size:=by simp
 have hsp:=spanE_emb (p:=dg) h (fun b hb=>stp_dg hb) _ i rfl hi
 have hle:=spanE_le (p:=dg) (l:=s.data.toList) (i:=i) (by omega)
 unfold spanE at hsp hle
 unfold numD
 rw [show spanL dg (u.data.toList.drop (d + i))=spanL dg (s.data.toList.drop i) by omega]
 exact take_emb h (by omega)
theorem numE_le {l:List UInt8} {i:Nat} (hi:i≤l.length):spanE dg l i≤numE l i∧numE l i≤l.length:=by
 have hle:=spanE_le (p:=dg) (l:=l) (i:=i) hi
 unfold numE
 simp only
 split
 ·rename_i h46
  have hk:=(List.getElem?_eq_some_iff.1 h46.1).1
  have h3:=spanE_le (p:=dg) (l:=l) (i:=spanE dg l i + 1) (by omega)
  omega
 ·omega
theorem numF_emb (h:Emb u d s) {i:Nat} (hi:i≤s.size):numF u.data.toList (d + i)=numF s.data.toList i:=by
 have hl:s.data.toList.length=s.size:=by simp
 have hsp:=spanE_emb (p:=dg) h (fun b hb=>stp_dg hb) _ i rfl hi
 have hle:=numE_le (l:=s.data.toList) (i:=i) (by omega)
 unfold numF
 rw [numE_emb h hi,hsp]
 by_cases he:numE s.data.toList i=spanE dg s.data.toList i
 ·rw [if_pos (by omega),if_pos he]
 ·rw [if_neg (by omega),if_neg he,show d + numE s.data.toList i - (d + spanE dg s.data.toList i + 1)=numE s.data.toList i - (spanE dg s.data.toList i + 1) by omega,Nat.add_assoc]
  exact take_emb h (by omega)
theorem quoE_up {l:List UInt8}:∀ (f g k e:Nat),quoE l f k=Option.some e→f≤g→quoE l g k=Option.some e
 | f + 1,g + 1,k,e,h,hg=>by
  unfold quoE at h ⊢
  cases hk:l[k]? with
  | none=>rw [hk] at h;cases h
  | some b=>
   rw [hk] at h
   simp only at h ⊢
   split at h
   ·rename_i h92;rw [if_pos h92];exact quoE_up f g _ e h (by omega)
   ·rename_i h92
    rw [if_neg h92]
    split at h
    ·rename_i h34;rw [if_pos h34];exact h
    ·rename_i h34;rw [if_neg h34];exact quoE_up f g _ e h (by omega)
theorem quoE_emb (h:Emb u d s):∀ (f k e:Nat),quoE s.data.toList f k=Option.some e→quoE u.data.toList f (d + k)=Option.some (d + e)
 | f + 1,k,e,hq=>by
  unfold quoE at hq ⊢
  cases hk:s.data.toList[k]? with
  | none=>rw [hk] at hq;cases hq
  | some b=>
   rw [hk] at hq
   rw [h.at_ k b hk]
   simp only at hq ⊢
   split at hq
   ·rename_i h92;rw [if_pos h92];exact quoE_emb h f _ e hq
   ·rename_i h92
    rw [if_neg h92]
    split at hq
    ·rename_i h34;rw [if_pos h34];cases hq;rfl
    ·rename_i h34;rw [if_neg h34];exact quoE_emb h f _ e hq
theorem textF_emb (h:Emb u d s) {i k:Nat} {t:ByteArray} (ht:textF s i=Option.some (t,k)):textF u (d + i)=Option.some (t,d + k):=by
 have hl:s.data.toList.length=s.size:=by simp
 unfold textF at ht ⊢
 split at ht
 ·rename_i h34
  rw [if_pos (h.at_ i 34 h34)]
  cases hq:quoE s.data.toList (s.size + 1) (i + 1) with
  | none=>rw [hq] at ht;cases ht
  | some e=>
   rw [hq] at ht
   have hel:=quoE_le _ _ _ hq
   have hul:=h.le (by omega)
   have hq2:=quoE_up _ (u.size + 1) _ _ (quoE_emb h _ _ _ hq) (by omega)
   rw [← Nat.add_assoc] at hq2
   rw [hq2]
   simp only at ht ⊢
   rw [ext_emb h (by omega)]
   split at ht
   ·rename_i h0;cases ht;rw [if_pos h0]
   ·cases ht
 ·cases ht
theorem signN_emb (h:Emb u d s) {i:Nat} {c:UInt8} (hc:s.data.toList[i]? = Option.some c):signN u.data.toList (d + i)=signN s.data.toList i:=by
 have hl:s.data.toList.length=s.size:=by simp
 have hi:i < s.size:=by rw [← hl];exact (List.getElem?_eq_some_iff.1 hc).1
 unfold signN
 rw [hc,h.at_ i c hc]
 cases hn:s.data.toList[i + 1]? with
 | some b=>rw [Nat.add_assoc,h.at_ _ b hn]
 | none=>
  have hie:i + 1=s.size:=by have:=List.getElem?_eq_none_iff.1 hn;omega
  cases hu:u.data.toList[d + i + 1]? with
  | none=>rfl
  | some b=>
   have hb:=h.end_ b (by rw [← hie,← Nat.add_assoc];exact hu)
   simp only
   rw [stp_sgn hb]
   simp
/-- A token at another place. -/
def shiftT (d:Nat) (t:TokD):TokD:={ t with at_:=d + t.at_}
theorem oneF_emb (h:Emb u d s) {i:Nat} {c:UInt8} (hc:s.data.toList[i]? = Option.some c) (h5:(oneF s i).2.2≠5):oneF u (d + i)=(shiftT d (oneF s i).1,d + (oneF s i).2.1,(oneF s i).2.2):=by
 have hl:s.data.toList.length=s.size:=by simp
 have hi:i < s.size:=by rw [← hl];exact (List.getElem?_eq_some_iff.1 hc).1
 revert h5
 unfold oneF
 rw [hc,h.at_ i c hc]
 simp only
 by_cases hd:dg c=true
 ·rw [if_pos hd,if_pos hd]
  intro _
  rw [numD_emb h (by omega),numF_emb h (by omega),numE_emb h (by omega)]
  rfl
 ·rw [if_neg hd,if_neg hd]
  by_cases h34:c=34
  ·rw [if_pos h34,if_pos h34]
   cases hx:textF s i with
   | none=>intro h;exact absurd rfl h
   | some x=>
    obtain ⟨t,k⟩:=x
    intro _
    rw [textF_emb h hx]
    rfl
  ·rw [if_neg h34,if_neg h34]
   by_cases h64:c=64
   ·rw [if_pos h64,if_pos h64]
    cases hx:textF s (i + 1) with
    | none=>intro h;exact absurd rfl h
    | some x=>
     obtain ⟨t,k⟩:=x
     intro _
     have h2:=textF_emb h hx
     rw [← Nat.add_assoc] at h2
     rw [h2]
     rfl
   ·rw [if_neg h64,if_neg h64]
    by_cases hlt:lt1 c=true
    ·rw [if_pos hlt,if_pos hlt]
     have hsp:=spanE_emb (p:=wdB) h (fun b hb=>stp_wd hb) _ i rfl (by omega)
     have hle:=spanE_le (p:=wdB) (l:=s.data.toList) (i:=i) (by omega)
     rw [hsp,ext_emb h (by omega),show d + spanE wdB s.data.toList i - (d + i)=spanE wdB s.data.toList i - i by omega]
     split
     ·intro h;exact absurd rfl h
     ·intro _;rfl
    ·rw [if_neg hlt,if_neg hlt,signN_emb h hc]
     have hsg:=signN_le (l:=s.data.toList) (i:=i) (by omega)
     split
     ·intro h;exact absurd rfl h
     ·intro _
      rw [Nat.add_assoc,ext_emb h (by omega)]
      rfl
theorem LG_emb (h:Emb u d s):∀ (n i:Nat),s.size - i=n→i≤s.size→∀ (acc0:List TokD) (o r:Bool) (ts:List TokD) (o' r' : Bool),LG s i acc0 o r=Option.some (ts,o',r')→∃ new,ts=acc0++new∧∀ acc,LG u (d + i) acc o r=LG u (d + s.size) (acc++new.map (shiftT d)) o' r'
 | n,i,hn,hi,acc0,o,r,ts,o',r',hg=>by
  have hl:s.data.toList.length=s.size:=by simp
  by_cases hlt:i < s.size
  ·obtain ⟨c,hc⟩:∃ c,s.data.toList[i]? = Option.some c:=⟨_,List.getElem?_eq_getElem (by omega)⟩
   cases hbl:blankB c with
   | true=>
    rw [LG_blank hc hbl] at hg
    obtain ⟨new,h1,h2⟩:=LG_emb h (s.size - (i + 1)) (i + 1) rfl hlt acc0 o r ts o' r' hg
    exact ⟨new,h1,fun acc=>by rw [LG_blank (h.at_ i c hc) hbl,Nat.add_assoc];exact h2 acc⟩
   | false=>
    by_cases h5:(oneF s i).2.2=5
    ·rw [LG_err hc hbl h5] at hg;cases hg
    ·have hk:=oneF_le hc h5
     have ho:=oneF_emb h hc h5
     rw [LG_tok hc hbl h5] at hg
     obtain ⟨new,h1,h2⟩:=LG_emb h (s.size - (oneF s i).2.1) (oneF s i).2.1 rfl hk.2 _ _ _ ts o' r' hg
     refine ⟨(oneF s i).1 :: new,by rw [h1];simp,fun acc=>?_⟩
     rw [LG_tok (h.at_ i c hc) hbl (by rw [ho];exact h5),ho]
     simp only
     rw [h2]
     simp
  ·have hie:i=s.size:=by omega
   subst hie
   rw [LG_end (Nat.le_refl _)] at hg
   cases hg
   exact ⟨[],by simp,fun acc=>by simp⟩
termination_by n=>n
decreasing_by
 ·omega
 ·omega
end
theorem chars_app {a b:List UInt8} (ha:(chars a).isSome=true) (hb:(chars b).isSome=true):(chars (a++b)).isSome=true:=by
 cases h1:chars a with
 | none=>rw [h1] at ha;cases ha
 | some x=>
  cases h2:chars b with
  | none=>rw [h2] at hb;cases hb
  | some y=>
   obtain ⟨e1,f1⟩:=chars_bytes _ a x (Nat.le_refl _) h1
   obtain ⟨e2,f2⟩:=chars_bytes _ b y (Nat.le_refl _) h2
   rw [e1,e2,← List.flatMap_append,chars_of _ (fun c hc=>by
    rcases List.mem_append.1 hc with hc|hc
    ·exact f1 c hc
    ·exact f2 c hc)]
   rfl
theorem lexF_ok {s:ByteArray} {ts:List TokD} (h:lexF s=(ts,0)):s.size≤1000∧textB s=true∧LG s 0 [] false false=some (ts,false,false):=by
 by_cases hl:1000 < s.size
 ·unfold lexF at h;rw [if_pos hl] at h;cases h
 ·cases ht:textB s with
  | false=>unfold lexF at h;rw [if_neg hl,if_pos ht] at h;cases h
  | true=>
   refine ⟨by omega,rfl,?_⟩
   rw [lexF_rd hl ht] at h
   generalize LG s 0 [] false false=r at h ⊢
   cases r with
   | none=>cases h
   | some x=>
    obtain ⟨ts',o,f⟩:=x
    unfold RdV at h
    simp only at h
    cases o with
    | true=>cases h
    | false=>
     cases f with
     | true=>cases h
     | false=>cases h;rfl
end Go.Proofs.YtheimopjglkgjaaGreatDoor

namespace Go.Proofs.YtheimopjglkgjaaGreatDoor
open Go.RowKit
set_option linter.unusedVariables false

/-- A piece of a text: a text with its tokens, an opening bracket, a blank. -/
inductive Pc where
 | txt (s:ByteArray) (ts:List TokD)
 | opn
 | blk
def Pc.bs:Pc→List UInt8
 | .txt s _=>s.data.toList
 | .opn=>[40]
 | .blk=>[32]
def Pc.ts:Pc→List TokD
 | .txt _ ts=>ts
 | .opn=>[⟨6,⟨#[40]⟩,0,0,0,0⟩]
 | .blk=>[]
def stopO (o:Option UInt8):Bool:=match o with
 | some b=>stpB b
 | none=>true
def pcsOk:List Pc→Prop
 | []=>True
 | .txt s ts :: r=>lexF s=(ts,0)∧stopO (r.flatMap Pc.bs).head? = true∧pcsOk r
 | _ :: r=>pcsOk r
theorem get_drop {α:Type} {l m:List α} {d:Nat} (h:l.drop d=m) (j:Nat):l[d + j]? = m[j]?:=by rw [← h,List.getElem?_drop]
theorem LG_pcs {u:ByteArray}:∀ (l:List Pc) (d:Nat) (acc:List TokD),pcsOk l→u.data.toList.drop d=l.flatMap Pc.bs→∃ new,new.map noAt=(l.flatMap Pc.ts).map noAt∧LG u d acc false false=some (acc++new,false,false)
 | [],d,acc,hok,hu=>by
  have hl:u.data.toList.length=u.size:=by simp
  have:u.size≤d:=by
   have:=congrArg List.length hu
   rw [List.length_drop] at this
   simp at this
   omega
  exact ⟨[],rfl,by rw [LG_end this,List.append_nil]⟩
 | .blk :: r,d,acc,hok,hu=>by
  have hu1:u.data.toList.drop d=32 :: r.flatMap Pc.bs:=hu
  have h0:u.data.toList[d]? = some 32:=by have:=get_drop hu1 0;simpa using this
  obtain ⟨new,h1,h2⟩:=LG_pcs r (d + 1) acc hok (by rw [← List.drop_drop,hu1];rfl)
  exact ⟨new,h1,by rw [LG_blank h0 (by decide)];exact h2⟩
 | .opn :: r,d,acc,hok,hu=>by
  have hl:u.data.toList.length=u.size:=by simp
  have hu1:u.data.toList.drop d=40 :: r.flatMap Pc.bs:=hu
  have h0:u.data.toList[d]? = some 40:=by have:=get_drop hu1 0;simpa using this
  have hd:d < u.size:=by rw [← hl];exact (List.getElem?_eq_some_iff.1 h0).1
  have hsg:signN u.data.toList d=1:=by
   unfold signN
   rw [h0]
   cases u.data.toList[d + 1]? with
   | none=>rfl
   | some b=>
    simp only
    rw [show sgn2 40 b=false by unfold sgn2;simp]
    rfl
  have hone:oneF u d=(⟨6,u.extract d (d + 1),0,0,0,d⟩,d + 1,0):=by
   unfold oneF
   rw [h0]
   simp only
   rw [if_neg (by decide),if_neg (by decide),if_neg (by decide),if_neg (by decide),hsg,if_neg (by decide)]
  have htx:u.extract d (d + 1)=⟨#[40]⟩:=by
   have he:(u.extract d (d + 1)).data.toList=[40]:=by
    rw [ext_list,show d + 1 - d=1 by omega,hu1]
    rfl
   rcases hA:u.extract d (d + 1) with ⟨⟨a⟩⟩
   rw [hA] at he
   simp at he
   rw [he]
  obtain ⟨new,h1,h2⟩:=LG_pcs r (d + 1) (acc++[⟨6,⟨#[40]⟩,0,0,0,d⟩]) hok (by rw [← List.drop_drop,hu1];rfl)
  refine ⟨⟨6,⟨#[40]⟩,0,0,0,d⟩ :: new,?_,?_⟩
  ·rw [List.map_cons,List.flatMap_cons,List.map_append,h1]
   rfl
  ·rw [LG_tok h0 (by decide) (by rw [hone];show ¬ (0:Int)=5;decide),hone,htx]
   show LG u (d + 1) (acc++[_]) (false || decide ((0:Int)=3)) (false || decide ((0:Int)=17))=_
   rw [show (false || decide ((0:Int)=3))=false from rfl,show (false || decide ((0:Int)=17))=false from rfl,h2,List.append_assoc]
   rfl
 | .txt s ts :: r,d,acc,hok,hu=>by
  have hsl:s.data.toList.length=s.size:=by simp
  obtain ⟨hs,hst,hok'⟩:=hok
  have hu1:u.data.toList.drop d=s.data.toList++r.flatMap Pc.bs:=hu
  have hE:Emb u d s:=by
   refine ⟨fun j x hx=>?_,fun x hx=>?_⟩
   ·rw [get_drop hu1 j,List.getElem?_append_left (List.getElem?_eq_some_iff.1 hx).1]
    exact hx
   ·rw [get_drop hu1 s.size,List.getElem?_append_right (by omega),hsl,Nat.sub_self,← List.head?_eq_getElem?] at hx
    rw [hx] at hst
    exact hst
  obtain ⟨-,-,ga⟩:=lexF_ok hs
  obtain ⟨na,e1,f1⟩:=LG_emb hE _ 0 rfl (Nat.zero_le _) [] false false ts false false ga
  rw [List.nil_append] at e1
  subst e1
  obtain ⟨new,h1,h2⟩:=LG_pcs r (d + s.size) (acc++ts.map (shiftT d)) hok' (by rw [← List.drop_drop,hu1,← hsl,List.drop_left])
  refine ⟨ts.map (shiftT d)++new,?_,?_⟩
  ·rw [List.map_append,List.flatMap_cons,List.map_append,h1,List.map_map]
   congr 1
  ·have g1:=f1 acc
   rw [Nat.add_zero] at g1
   rw [g1,h2,List.append_assoc]
theorem chars_one {b:UInt8} (h:b=40∨b=32):(chars [b]).isSome=true:=by
 rcases h with rfl|rfl <;> kernel_rfl
theorem chars_pcs:∀ (l:List Pc),pcsOk l→(chars (l.flatMap Pc.bs)).isSome=true
 | [],_=>rfl
 | .blk :: r,h=>chars_app (a:=[32]) (chars_one (.inr rfl)) (chars_pcs r h)
 | .opn :: r,h=>chars_app (a:=[40]) (chars_one (.inl rfl)) (chars_pcs r h)
 | .txt s ts :: r,h=>by
  obtain ⟨hs,-,hr⟩:=h
  obtain ⟨-,ht,-⟩:=lexF_ok hs
  rw [textB_chars] at ht
  exact chars_app ht (chars_pcs r hr)
/-- THE LAW: but for their places, the tokens of the whole are those of the pieces. -/
theorem lexF_pcs {u:ByteArray} {l:List Pc} (hu:u.data.toList=l.flatMap Pc.bs) (hs:u.size≤1000) (hok:pcsOk l):∃ ts,lexF u=(ts,0)∧ts.map noAt=(l.flatMap Pc.ts).map noAt:=by
 obtain ⟨new,h1,h2⟩:=LG_pcs (u:=u) l 0 [] hok (by rw [List.drop_zero];exact hu)
 refine ⟨new,?_,h1⟩
 have htu:textB u=true:=by
  rw [textB_chars,hu]
  exact chars_pcs l hok
 rw [lexF_rd (by omega) htu,h2]
 rfl
end Go.Proofs.YtheimopjglkgjaaGreatDoor
