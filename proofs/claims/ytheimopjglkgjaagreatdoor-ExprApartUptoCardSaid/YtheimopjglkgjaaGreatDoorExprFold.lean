/- What checking nodes comes to, put together out of parts, and taken apart; in plain Lean. -/
import Derived.Test.YtheimopjglkgjaaGreatDoorPlainA
namespace Go.Proofs.YtheimopjglkgjaaGreatDoor
open Go.RowKit
set_option linter.unusedVariables false
set_option linter.unusedSimpArgs false
def foldC (ns:List NodeD):List NodeD→Nat→List ThingD→Int→Option (List ThingD × Int)
 | [],_,st,deep=>some (st,deep)
 | n :: rest,i,st,deep=>(stepC ns st i n).elim none fun x=>foldC ns rest (i + 1) x.1 (max deep x.2)
structure StepOk (ns:List NodeD) (st:List ThingD) (i:Nat) (n:NodeD) (x:List ThingD × Int) (d:Int):Prop where
 fl:fieldsB n=true
 kb:kidsB n.op n.kids=true
 le:n.kids.toNat≤st.length
 pa:partsF n.op 0 0 (st.drop (st.length - n.kids.toNat))=some d
 un:¬ (n.op=27∧unlikeB (textsOf ns (st.drop (st.length - n.kids.toNat)))=false)
 eq:x=(st.take (st.length - n.kids.toNat)++[⟨sortI n.op,d + 1,i⟩],d + 1)
theorem step_ok {ns:List NodeD} {st:List ThingD} {i:Nat} {n:NodeD} {x:List ThingD × Int} (h:stepC ns st i n=some x):∃ d,StepOk ns st i n x d:=by
 unfold stepC at h
 split at h
 ·rename_i hg
  rw [Bool.and_eq_true,Bool.and_eq_true] at hg
  have hle:=of_decide_eq_true hg.2
  have h0:=kidsB_nonneg hg.1.2
  cases hp:partsF n.op 0 0 (st.drop (st.length - n.kids.toNat)) with
  | none=>rw [hp] at h;cases h
  | some d=>
   rw [hp] at h
   simp only at h
   split at h
   ·cases h
   ·rename_i hu
    exact ⟨d,hg.1.1,hg.1.2,by omega,hp,hu,(Option.some.inj h).symm⟩
 ·cases h
theorem StepOk.step {ns:List NodeD} {st:List ThingD} {i:Nat} {n:NodeD} {x:List ThingD × Int} {d:Int} (h:StepOk ns st i n x d):stepC ns st i n=some x:=by
 have h0:=kidsB_nonneg h.kb
 unfold stepC
 rw [if_pos (by rw [h.fl,h.kb,decide_eq_true (show n.kids≤st.length by have:=h.le;omega)];rfl),h.pa]
 simp only
 rw [if_neg h.un,h.eq]
structure FInv (st:List ThingD) (deep:Int) (i:Nat):Prop where
 nn:0≤deep
 dep:∀ t,t ∈ st→0≤t.depth∧t.depth≤deep
 att:deep=0∨∃ t,t ∈ st∧t.depth=deep
 at_:∀ t,t ∈ st→t.at_ < i
 last:i=0∨∃ l t,st=l++[t]∧t.at_ + 1=i
theorem FInv.nil:FInv [] 0 0:=⟨Int.le_refl _,fun t h=>(by cases h),.inl rfl,fun t h=>(by cases h),.inl rfl⟩
theorem partsF_max {op:Int}:∀ (l:List ThingD) (k:Nat) (d r:Int),partsF op k d l=some r→d≤r∧∀ t,t ∈ l→t.depth≤r
 | [],k,d,r,h=>by
  simp only [partsF,Option.some.injEq] at h
  exact ⟨by omega,fun t ht=>by cases ht⟩
 | t :: l,k,d,r,h=>by
  rw [partsF_cons] at h
  split at h
  ·have:=partsF_max l (k + 1) _ r h
   refine ⟨by omega,fun u hu=>?_⟩
   rcases List.mem_cons.1 hu with rfl|hu
   ·omega
   ·exact this.2 u hu
  ·cases h
theorem FInv.step {ns:List NodeD} {st:List ThingD} {deep:Int} {i:Nat} {n:NodeD} {x:List ThingD × Int} (hI:FInv st deep i) (h:stepC ns st i n=some x):FInv x.1 (max deep x.2) (i + 1):=by
 obtain ⟨d,h⟩:=step_ok h
 have hp:=partsF_max _ _ _ _ h.pa
 have hn:=hI.nn
 rw [h.eq]
 refine ⟨by show 0≤max deep (d + 1);omega,fun t ht=>?_,?_,fun t ht=>?_,.inr ⟨_,_,rfl,rfl⟩⟩
 ·rcases List.mem_append.1 ht with ht|ht
  ·have:=hI.dep t (List.mem_of_mem_take ht)
   show _∧_≤max deep (d + 1)
   omega
  ·rw [List.mem_singleton.1 ht]
   show 0≤d + 1∧d + 1≤max deep (d + 1)
   omega
 ·refine .inr ?_
  show ∃ t:ThingD,t ∈ _∧t.depth=max deep (d + 1)
  by_cases hd:deep≤d + 1
  ·exact ⟨⟨sortI n.op,d + 1,i⟩,List.mem_append_right _ (List.mem_singleton.2 rfl),by show d + 1=_;omega⟩
  ·rcases hI.att with h0 | ⟨t,ht,e⟩
   ·omega
   ·refine ⟨t,List.mem_append_left _ ?_,by omega⟩
    rw [← List.take_append_drop (st.length - n.kids.toNat) st] at ht
    rcases List.mem_append.1 ht with ht|ht
    ·exact ht
    ·have:=hp.2 t ht
     omega
 ·rcases List.mem_append.1 ht with ht|ht
  ·have:=hI.at_ t (List.mem_of_mem_take ht)
   omega
  ·rw [List.mem_singleton.1 ht]
   exact Nat.lt_succ_self i
def foldA (l:List NodeD):Option (List ThingD × Int):=foldC l l 0 [] 0
end Go.Proofs.YtheimopjglkgjaaGreatDoor
