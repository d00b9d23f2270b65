/- The tokens of a text: one behind the other, each of its kind; in plain Lean. -/
import Derived.Test.YtnghlakllgkjlaaGreatDoorLexRead
namespace Go.Proofs.YtnghlakllgkjlaaGreatDoor
open Go.RowKit
set_option linter.unusedVariables false
def TokOk (s:ByteArray) (t:TokD):Prop:=t.at_ < s.size∧1≤t.kind∧t.kind≤6∧(t.kind=4→nameB t.text=true)∧(t.kind=5→wordB t.text.toList=true)
def ChainOk (s:ByteArray):Nat→List TokD→Prop
 | _,[]=>True
 | lo,t :: ts=>lo≤t.at_∧TokOk s t∧ChainOk s (t.at_ + 1) ts
theorem ChainOk.mono {s:ByteArray}:∀ {ts:List TokD} {lo lo' : Nat},ChainOk s lo ts→lo'≤lo→ChainOk s lo' ts
 | [],_,_,_,_=>trivial
 | t :: ts,lo,lo',h,hl=>⟨Nat.le_trans hl h.1,h.2⟩
theorem ChainOk.ok {s:ByteArray}:∀ {ts:List TokD} {lo i:Nat} {t:TokD},ChainOk s lo ts→ts[i]? = some t→TokOk s t∧lo≤t.at_
 | [],_,_,_,_,h=>by simp at h
 | u :: ts,lo,0,t,h,hi=>by
  simp only [List.getElem?_cons_zero,Option.some.injEq] at hi
  subst hi
  exact ⟨h.2.1,h.1⟩
 | u :: ts,lo,i + 1,t,h,hi=>by
  have:=ChainOk.ok h.2.2 (i:=i) (t:=t) (by simpa using hi)
  exact ⟨this.1,by have:=this.2;have:=h.1;omega⟩
theorem ChainOk.next {s:ByteArray}:∀ {ts:List TokD} {lo i:Nat} {t u:TokD},ChainOk s lo ts→ts[i]? = some t→ts[i + 1]? = some u→t.at_ < u.at_
 | [],_,_,_,_,_,h,_=>by simp at h
 | v :: ts,lo,0,t,u,h,hi,hj=>by
  simp only [List.getElem?_cons_zero,Option.some.injEq] at hi
  subst hi
  have:=(ChainOk.ok h.2.2 (i:=0) (t:=u) (by simpa using hj)).2
  omega
 | v :: ts,lo,i + 1,t,u,h,hi,hj=>ChainOk.next h.2.2 (i:=i) (by simpa using hi) (by simpa using hj)
theorem name_text {s:ByteArray} {i E:Nat} {c:UInt8} (hc:s.data.toList[i]? = some c) (hl:lt1 c=true) (hE:spanE wdB s.data.toList i=E) (h64:¬ 64 < E - i) (hw:wordB (s.extract i E).toList=false):nameB (s.extract i E)=true:=by
 have hlen:s.data.toList.length=s.size:=by simp
 have hil:i < s.size:=by rw [← hlen];exact (List.getElem?_eq_some_iff.1 hc).1
 have h1:=spanE_yes (p:=wdB) hc (by unfold wdB;rw [hl];rfl)
 have h2:=spanE_le (p:=wdB) (l:=s.data.toList) (i:=i + 1) (by omega)
 rw [← h1,hE,hlen] at h2
 have hx:=ext_list s i E
 have hin:∀ b ∈ (s.extract i E).data.toList,wdB b=true:=by
  rw [hx]
  exact take_at _ i (E - i) (by omega) wdB (fun j hj1 hj2=>spanE_in _ i j rfl hj1 (by rw [hE];omega))
 have hne:(s.extract i E).data.toList=c :: ((s.data.toList.drop (i + 1)).take (E - i - 1)):=by
  rw [hx,drop_cons hc,show E - i=(E - i - 1) + 1 by omega,List.take_succ_cons]
  rfl
 have hsz:(s.extract i E).size=E - i:=by rw [ByteArray.size_extract];omega
 unfold nameB
 rw [hw,hsz]
 have e1:(s.extract i E).toList.isEmpty=false:=by rw [ByteArray.toList_eq,hne];rfl
 have e2:decide (E - i≤64)=true:=decide_eq_true (by omega)
 have e3:restB (s.extract i E).data.toList=true:=by
  unfold restB
  rw [List.all_eq_true]
  intro b hb
  have:=hin b hb
  unfold wdB lt1 at this
  rw [← decB_dg] at this
  exact this
 rw [e1,e2,e3,hne]
 simp only [List.take_succ_cons,List.take_zero,List.all_cons,List.all_nil]
 show (true && true && true && (letB (c.toNat:Int) && true) && true)=true
 have:letB (c.toNat:Int)=true:=hl
 rw [this];rfl
theorem oneF_ok {s:ByteArray} {i:Nat} {c:UInt8} (hc:s.data.toList[i]? = some c) (h5:(oneF s i).2.2≠5):(oneF s i).1.at_=i∧TokOk s (oneF s i).1:=by
 have hlen:s.data.toList.length=s.size:=by simp
 have hil:i < s.size:=by rw [← hlen];exact (List.getElem?_eq_some_iff.1 hc).1
 revert h5
 unfold oneF
 rw [hc]
 simp only
 split
 ·intro _
  exact ⟨rfl,hil,(by decide:(1:Int)≤1),(by decide:(1:Int)≤6),(fun h=>absurd h (by decide:¬ (1:Int)=4)),(fun h=>absurd h (by decide:¬ (1:Int)=5))⟩
 ·split
  ·cases hx:textF s i with
   | none=>intro h;exact absurd rfl h
   | some x=>
    intro _
    exact ⟨rfl,hil,(by decide:(1:Int)≤2),(by decide:(2:Int)≤6),(fun h=>absurd h (by decide:¬ (2:Int)=4)),(fun h=>absurd h (by decide:¬ (2:Int)=5))⟩
  ·split
   ·cases hx:textF s (i + 1) with
    | none=>intro h;exact absurd rfl h
    | some x=>
     intro _
     exact ⟨rfl,hil,(by decide:(1:Int)≤3),(by decide:(3:Int)≤6),(fun h=>absurd h (by decide:¬ (3:Int)=4)),(fun h=>absurd h (by decide:¬ (3:Int)=5))⟩
   ·split
    ·rename_i hlt
     split
     ·intro h;exact absurd rfl h
     ·rename_i h64
      intro _
      cases hw:wordB (s.extract i (spanE wdB s.data.toList i)).toList with
      | true=>exact ⟨rfl,hil,(by decide:(1:Int)≤5),(by decide:(5:Int)≤6),(fun h=>absurd h (by decide:¬ (5:Int)=4)),(fun _=>hw)⟩
      | false=>exact ⟨rfl,hil,(by decide:(1:Int)≤4),(by decide:(4:Int)≤6),(fun _=>name_text hc hlt rfl h64 hw),(fun h=>absurd h (by decide:¬ (4:Int)=5))⟩
    ·split
     ·intro h;exact absurd rfl h
     ·intro _
      exact ⟨rfl,hil,(by decide:(1:Int)≤6),(by decide:(6:Int)≤6),(fun h=>absurd h (by decide:¬ (6:Int)=4)),(fun h=>absurd h (by decide:¬ (6:Int)=5))⟩
theorem lexG_chain (s:ByteArray):∀ (f i:Nat) (acc:List TokD) (o r:Bool) (ts:List TokD) (o' r' : Bool),lexG s f i acc o r=some (ts,o',r')→∃ new,ts=acc++new∧ChainOk s i new
 | 0,i,acc,o,r,ts,o',r',h=>by
  unfold lexG at h
  cases h
  exact ⟨[],by simp,trivial⟩
 | f + 1,i,acc,o,r,ts,o',r',h=>by
  unfold lexG at h
  cases hc:s.data.toList[i]? with
  | none=>
   rw [hc] at h
   cases h
   exact ⟨[],by simp,trivial⟩
  | some c=>
   rw [hc] at h
   simp only at h
   split at h
   ·obtain ⟨new,h1,h2⟩:=lexG_chain s f (i + 1) acc o r ts o' r' h
    exact ⟨new,h1,h2.mono (by omega)⟩
   ·split at h
    ·cases h
    ·rename_i h5
     obtain ⟨new,h1,h2⟩:=lexG_chain s f _ _ _ _ ts o' r' h
     have hk:=oneF_le hc h5
     obtain ⟨ha,hok⟩:=oneF_ok hc h5
     refine ⟨(oneF s i).1 :: new,by rw [h1];simp,by rw [ha];exact Nat.le_refl _,hok,?_⟩
     rw [ha]
     exact h2.mono hk.1
theorem lexF_chain (s:ByteArray):((lexF s).2≠0→(lexF s).1=[])∧ChainOk s 0 (lexF s).1:=by
 unfold lexF
 split
 ·exact ⟨fun _=>rfl,trivial⟩
 ·split
  ·exact ⟨fun _=>rfl,trivial⟩
  ·cases hg:lexG s (s.size + 1) 0 [] false false with
   | none=>exact ⟨fun _=>rfl,trivial⟩
   | some x=>
    obtain ⟨ts,o,r⟩:=x
    simp only
    split
    ·exact ⟨fun _=>rfl,trivial⟩
    ·split
     ·exact ⟨fun _=>rfl,trivial⟩
     ·obtain ⟨new,h1,h2⟩:=lexG_chain s _ _ _ _ _ _ _ _ hg
      rw [List.nil_append] at h1
      subst h1
      exact ⟨fun h=>absurd rfl h,h2⟩
theorem ChainOk.len {s:ByteArray}:∀ {ts:List TokD} {lo:Nat},lo≤s.size→ChainOk s lo ts→ts.length + lo≤s.size
 | [],lo,hl,_=>by simpa using hl
 | t :: ts,lo,_,h=>by
  have h1:=h.2.1.1
  have:=ChainOk.len (lo:=t.at_ + 1) h1 h.2.2
  have h2:=h.1
  rw [List.length_cons]
  omega
theorem lexF_small (s:ByteArray):(lexF s).1.length≤1000:=by
 by_cases hl:1000 < s.size
 ·unfold lexF;rw [if_pos hl];exact Nat.zero_le _
 ·have:=ChainOk.len (Nat.zero_le _) (lexF_chain s).2
  omega
end Go.Proofs.YtnghlakllgkjlaaGreatDoor
