/- What checking nodes comes to, put together out of parts, and taken apart; in plain Lean. Brackets around an expression change nothing; a row of sums is read from the left; what is a sum is a test: in plain Lean. A choice between two expressions, a comparison, a list of tests: how they are read when they are put together of texts; in plain Lean. What the types of an expression that is put together come to; in plain Lean. -/
import Derived.Test.YtheimopjglkgjaaGreatDoorPlainA
import Derived.Test.YtheimopjglkgjaaGreatDoorEmbA
import Derived.Test.YtheimopjglkgjaaGreatDoorLexEA
import Derived.Test.YtheimopjglkgjaaGreatDoorChkE
namespace Go.Proofs.YtheimopjglkgjaaGreatDoor
open Go.RowKit
set_option linter.unusedVariables false
set_option linter.unusedSimpArgs false

def foldC (ns:List NodeD):List NodeD→Nat→List ThingD→Int→Option (List ThingD × Int)
 | [],_,st,deep=>some (st,deep)
 | n :: rest,i,st,deep=>(stepC ns st i n).elim none fun x=>foldC ns rest (i + 1) x.1 (max deep x.2)
theorem foldC_cons (ns:List NodeD) (n:NodeD) (rest:List NodeD) (i:Nat) (st:List ThingD) (deep:Int):foldC ns (n :: rest) i st deep=(stepC ns st i n).elim none fun x=>foldC ns rest (i + 1) x.1 (max deep x.2):=rfl
theorem runC_fold (ns:List NodeD) (tests:Bool):∀ (l:List NodeD) (i:Nat) (st:List ThingD) (deep:Int),runC ns tests l i st deep=(foldC ns l i st deep).elim 2 fun x=>endC tests x.1 x.2
 | [],i,st,deep=>rfl
 | n :: rest,i,st,deep=>by
  rw [runC_cons,foldC_cons]
  cases stepC ns st i n with
  | none=>rfl
  | some x=>exact runC_fold ns tests rest (i + 1) x.1 (max deep x.2)
theorem foldC_app (ns:List NodeD):∀ (a b:List NodeD) (i:Nat) (st:List ThingD) (deep:Int),foldC ns (a++b) i st deep=(foldC ns a i st deep).elim none fun x=>foldC ns b (i + a.length) x.1 x.2
 | [],b,i,st,deep=>rfl
 | n :: a,b,i,st,deep=>by
  rw [List.cons_append,foldC_cons,foldC_cons]
  cases stepC ns st i n with
  | none=>rfl
  | some x=>
   show foldC ns (a++b) (i + 1) x.1 (max deep x.2)=(foldC ns a (i + 1) x.1 (max deep x.2)).elim none fun x=>foldC ns b (i + (a.length + 1)) x.1 x.2
   rw [foldC_app ns a b (i + 1),show i + 1 + a.length=i + (a.length + 1) by omega]
/-- A thing at another place. -/
def sh (o:Nat) (t:ThingD):ThingD:={ t with at_:=o + t.at_}
theorem partsF_sh (op:Int) (o:Nat):∀ (ts:List ThingD) (k:Nat) (d:Int),partsF op k d (ts.map (sh o))=partsF op k d ts
 | [],k,d=>rfl
 | t :: ts,k,d=>by
  rw [List.map_cons,partsF_cons,partsF_cons,partsF_sh op o ts]
  rfl
theorem textsOf_sh {p l q:List NodeD} {ts:List ThingD} (h:∀ t,t ∈ ts→t.at_ < l.length):textsOf (p++l++q) (ts.map (sh p.length))=textsOf l ts:=by
 unfold textsOf
 rw [List.map_map]
 apply List.map_congr_left
 intro t ht
 show textAt (p++l++q) (p.length + t.at_)=textAt l t.at_
 unfold textAt
 rw [List.append_assoc,List.getElem?_append_right (by omega),show p.length + t.at_ - p.length=t.at_ by omega,List.getElem?_append_left (h t ht)]
/-- A step that finds its parts. -/
structure StepOk (ns:List NodeD) (st:List ThingD) (i:Nat) (n:NodeD) (x:List ThingD × Int) (d:Int):Prop where
 fl:fieldsB n=true
 kb:kidsB n.op n.kids=true
 le:n.kids.toNat≤st.length
 pa:partsF n.op 0 0 (st.drop (st.length - n.kids.toNat))=some d
 un:¬ (n.op=27∧unlikeB (textsOf ns (st.drop (st.length - n.kids.toNat)))=false)
 eq:x=(st.take (st.length - n.kids.toNat)++[⟨sortI n.op,d + 1,i⟩],d + 1)
theorem step_ok {ns:List NodeD} {st:List ThingD} {i:Nat} {n:NodeD} {x:List ThingD × Int} (h:stepC ns st i n=some x):∃ d,StepOk ns st i n x d:=by
 unfold stepC at h
 split at h
 ·rename_i hg
  rw [Bool.and_eq_true,Bool.and_eq_true] at hg
  have hle:=of_decide_eq_true hg.2
  have h0:=kidsB_nonneg hg.1.2
  cases hp:partsF n.op 0 0 (st.drop (st.length - n.kids.toNat)) with
  | none=>rw [hp] at h;cases h
  | some d=>
   rw [hp] at h
   simp only at h
   split at h
   ·cases h
   ·rename_i hu
    exact ⟨d,hg.1.1,hg.1.2,by omega,hp,hu,(Option.some.inj h).symm⟩
 ·cases h
theorem StepOk.step {ns:List NodeD} {st:List ThingD} {i:Nat} {n:NodeD} {x:List ThingD × Int} {d:Int} (h:StepOk ns st i n x d):stepC ns st i n=some x:=by
 have h0:=kidsB_nonneg h.kb
 unfold stepC
 rw [if_pos (by rw [h.fl,h.kb,decide_eq_true (show n.kids≤st.length by have:=h.le;omega)];rfl),h.pa]
 simp only
 rw [if_neg h.un,h.eq]
theorem drop_base {α:Type} (b m:List α) (j:Nat):(b++m).drop (b.length + j)=m.drop j:=by
 rw [← List.drop_drop,List.drop_left]
theorem take_base {α:Type} (b m:List α) (j:Nat):(b++m).take (b.length + j)=b++m.take j:=by
 rw [List.take_append,List.take_of_length_le (by omega),show b.length + j - b.length=j by omega]
theorem step_local {p l q:List NodeD} {base st:List ThingD} {i:Nat} {n:NodeD} (hk:n.kids.toNat≤st.length) (hat:∀ t,t ∈ st→t.at_ < l.length) :
  stepC (p++l++q) (base++st.map (sh p.length)) (p.length + i) n=(stepC l st i n).map fun x=>(base++x.1.map (sh p.length),x.2):=by
 unfold stepC
 have hlen:(base++st.map (sh p.length)).length - n.kids.toNat=base.length + (st.length - n.kids.toNat):=by rw [List.length_append,List.length_map];omega
 by_cases hg:(fieldsB n && kidsB n.op n.kids)=true
 ·have hg2:=hg
  rw [Bool.and_eq_true] at hg2
  have h0:=kidsB_nonneg hg2.2
  rw [if_pos (by rw [hg,decide_eq_true (by rw [List.length_append,List.length_map];omega)];rfl),if_pos (by rw [hg,decide_eq_true (by omega)];rfl),hlen,drop_base,take_base,← List.map_drop,← List.map_take,partsF_sh,textsOf_sh (fun t ht=>hat t (List.mem_of_mem_drop ht))]
  cases partsF n.op 0 0 (st.drop (st.length - n.kids.toNat)) with
  | none=>rfl
  | some d=>
   simp only
   split
   ·rfl
   ·rw [List.append_assoc]
    simp [sh]
 ·rw [if_neg (by rw [Bool.and_eq_true];exact fun x=>hg x.1),if_neg (by rw [Bool.and_eq_true];exact fun x=>hg x.1)]
  rfl
theorem step_pre {l q:List NodeD} {st:List ThingD} {i:Nat} {n:NodeD} (hat:∀ t,t ∈ st→t.at_ < l.length):stepC (l++q) st i n=stepC l st i n:=by
 unfold stepC
 have h:textsOf (l++q) (st.drop (st.length - n.kids.toNat))=textsOf l (st.drop (st.length - n.kids.toNat)):=by
  unfold textsOf
  apply List.map_congr_left
  intro t ht
  unfold textAt
  rw [List.getElem?_append_left (hat t (List.mem_of_mem_drop ht))]
 rw [h]
/-- What holds of a stack behind i nodes. -/
structure FInv (st:List ThingD) (deep:Int) (i:Nat):Prop where
 nn:0≤deep
 dep:∀ t,t ∈ st→0≤t.depth∧t.depth≤deep
 att:deep=0∨∃ t,t ∈ st∧t.depth=deep
 at_:∀ t,t ∈ st→t.at_ < i
 last:i=0∨∃ l t,st=l++[t]∧t.at_ + 1=i
theorem FInv.nil:FInv [] 0 0:=⟨Int.le_refl _,fun t h=>(by cases h),.inl rfl,fun t h=>(by cases h),.inl rfl⟩
theorem partsF_max {op:Int}:∀ (l:List ThingD) (k:Nat) (d r:Int),partsF op k d l=some r→d≤r∧∀ t,t ∈ l→t.depth≤r
 | [],k,d,r,h=>by
  simp only [partsF,Option.some.injEq] at h
  exact ⟨by omega,fun t ht=>by cases ht⟩
 | t :: l,k,d,r,h=>by
  rw [partsF_cons] at h
  split at h
  ·have:=partsF_max l (k + 1) _ r h
   refine ⟨by omega,fun u hu=>?_⟩
   rcases List.mem_cons.1 hu with rfl|hu
   ·omega
   ·exact this.2 u hu
  ·cases h
theorem FInv.step {ns:List NodeD} {st:List ThingD} {deep:Int} {i:Nat} {n:NodeD} {x:List ThingD × Int} (hI:FInv st deep i) (h:stepC ns st i n=some x):FInv x.1 (max deep x.2) (i + 1):=by
 obtain ⟨d,h⟩:=step_ok h
 have hp:=partsF_max _ _ _ _ h.pa
 have hn:=hI.nn
 rw [h.eq]
 refine ⟨by show 0≤max deep (d + 1);omega,fun t ht=>?_,?_,fun t ht=>?_,.inr ⟨_,_,rfl,rfl⟩⟩
 ·rcases List.mem_append.1 ht with ht|ht
  ·have:=hI.dep t (List.mem_of_mem_take ht)
   show _∧_≤max deep (d + 1)
   omega
  ·rw [List.mem_singleton.1 ht]
   show 0≤d + 1∧d + 1≤max deep (d + 1)
   omega
 ·refine .inr ?_
  show ∃ t:ThingD,t ∈ _∧t.depth=max deep (d + 1)
  by_cases hd:deep≤d + 1
  ·exact ⟨⟨sortI n.op,d + 1,i⟩,List.mem_append_right _ (List.mem_singleton.2 rfl),by show d + 1=_;omega⟩
  ·rcases hI.att with h0 | ⟨t,ht,e⟩
   ·omega
   ·refine ⟨t,List.mem_append_left _ ?_,by omega⟩
    rw [← List.take_append_drop (st.length - n.kids.toNat) st] at ht
    rcases List.mem_append.1 ht with ht|ht
    ·exact ht
    ·have:=hp.2 t ht
     omega
 ·rcases List.mem_append.1 ht with ht|ht
  ·have:=hI.at_ t (List.mem_of_mem_take ht)
   omega
  ·rw [List.mem_singleton.1 ht]
   exact Nat.lt_succ_self i
theorem FInv.fold {ns:List NodeD}:∀ (r:List NodeD) (i:Nat) (st:List ThingD) (deep:Int) (x:List ThingD × Int),FInv st deep i→foldC ns r i st deep=some x→FInv x.1 x.2 (i + r.length)
 | [],i,st,deep,x,hI,h=>by
  cases h
  exact hI
 | n :: r,i,st,deep,x,hI,h=>by
  rw [foldC_cons] at h
  cases hs:stepC ns st i n with
  | none=>rw [hs] at h;cases h
  | some y=>
   rw [hs] at h
   have:=FInv.fold r (i + 1) y.1 (max deep y.2) x (hI.step hs) h
   rw [List.length_cons,show i + (r.length + 1)=i + 1 + r.length by omega]
   exact this
theorem fold_local {p l q:List NodeD} {base:List ThingD} {D:Int}:∀ (r:List NodeD) (i:Nat) (st:List ThingD) (deep:Int) (x:List ThingD × Int),FInv st deep i→i + r.length≤l.length→foldC l r i st deep=some x→
  foldC (p++l++q) r (p.length + i) (base++st.map (sh p.length)) (max D deep)=some (base++x.1.map (sh p.length),max D x.2)
 | [],i,st,deep,x,hI,hl,h=>by
  cases h
  rfl
 | n :: r,i,st,deep,x,hI,hl,h=>by
  rw [foldC_cons] at h ⊢
  rw [List.length_cons] at hl
  cases hs:stepC l st i n with
  | none=>rw [hs] at h;cases h
  | some y=>
   rw [hs] at h
   obtain ⟨d,hk⟩:=step_ok hs
   rw [step_local hk.le (fun t ht=>by have:=hI.at_ t ht;omega),hs]
   have:=fold_local (p:=p) (q:=q) (base:=base) (D:=D) r (i + 1) y.1 (max deep y.2) x (hI.step hs) (by omega) h
   show foldC (p++l++q) r (p.length + i + 1) (base++y.1.map (sh p.length)) (max (max D deep) y.2)=_
   rw [show max (max D deep) y.2=max D (max deep y.2) by omega]
   exact this
theorem fold_pre {l q:List NodeD}:∀ (r:List NodeD) (i:Nat) (st:List ThingD) (deep:Int),FInv st deep i→i + r.length≤l.length→foldC (l++q) r i st deep=foldC l r i st deep
 | [],i,st,deep,hI,hl=>rfl
 | n :: r,i,st,deep,hI,hl=>by
  rw [List.length_cons] at hl
  rw [foldC_cons,foldC_cons,step_pre (fun t ht=>by have:=hI.at_ t ht;omega)]
  cases hs:stepC l st i n with
  | none=>rfl
  | some y=>exact fold_pre r (i + 1) y.1 (max deep y.2) (hI.step hs) (by omega)
def foldA (l:List NodeD):Option (List ThingD × Int):=foldC l l 0 [] 0
theorem foldA_inv {l:List NodeD} {x:List ThingD × Int} (h:foldA l=some x):FInv x.1 x.2 l.length:=by
 have:=FInv.fold l 0 [] 0 x .nil h
 rw [Nat.zero_add] at this
 exact this
theorem foldA_snoc (p:List NodeD) (n:NodeD):foldA (p++[n])=(foldA p).elim none fun x=>(stepC p x.1 p.length n).elim none fun y=>some (y.1,max x.2 y.2):=by
 unfold foldA
 rw [foldC_app,fold_pre p 0 [] 0 .nil (by omega)]
 cases hf:foldC p p 0 [] 0 with
 | none=>rfl
 | some x=>
  have hI:=foldA_inv (l:=p) hf
  show foldC (p++[n]) [n] (0 + p.length) x.1 x.2=(stepC p x.1 p.length n).elim none fun y=>some (y.1,max x.2 y.2)
  rw [foldC_cons,Nat.zero_add,step_pre hI.at_]
  cases stepC p x.1 p.length n <;> rfl
/-- One text's nodes behind another's. -/
theorem foldA_app {a b:List NodeD} {x y:List ThingD × Int} (ha:foldA a=some x) (hb:foldA b=some y):foldA (a++b)=some (x.1++y.1.map (sh a.length),max x.2 y.2):=by
 have hI:=foldA_inv ha
 have h1:=fold_local (p:=a) (q:=[]) (base:=x.1) (D:=x.2) b 0 [] 0 y .nil (by omega) hb
 rw [List.append_nil,Nat.add_zero,List.map_nil,List.append_nil] at h1
 unfold foldA
 rw [foldC_app,fold_pre a 0 [] 0 .nil (by omega),show foldC a a 0 [] 0=some x from ha]
 show foldC (a++b) b (0 + a.length) x.1 x.2=_
 rw [Nat.zero_add,show x.2=max x.2 0 by have:=hI.nn;omega,h1]
 have:=hI.nn
 have:=(foldA_inv hb).nn
 congr 2
 omega
/-- The nodes are one thing, by themselves. -/
def Alone (l:List NodeD) (s d:Int):Prop:=foldA l=some ([⟨s,d,l.length - 1⟩],d)
theorem alone_of {l:List NodeD} {t:ThingD} {D:Int} (h:foldA l=some ([t],D)):Alone l t.sort t.depth∧t.depth=D∧l≠[]:=by
 have hI:=foldA_inv h
 have hne:l≠[]:=by intro e;subst e;cases h
 have hl:l.length≠0:=fun e=>hne (List.length_eq_zero_iff.1 e)
 have hat:t.at_=l.length - 1:=by
  rcases hI.last with e | ⟨l',t',e,ht⟩
  ·exact absurd e hl
  ·have:=List.append_inj_right' (s₁:=[]) (t₁:=[t]) e rfl
   cases this
   omega
 have hd:t.depth=D:=by
  have h1:=hI.dep t (List.mem_singleton.2 rfl)
  rcases hI.att with e | ⟨u,hu,e⟩
  ·simp only at h1;omega
  ·rw [List.mem_singleton.1 hu] at e
   exact e
 refine ⟨?_,hd,hne⟩
 unfold Alone
 rw [h,← hat,← hd]
/-- Which sorts are right at the end. -/
def endS (tests:Bool) (s:Int):Prop:=if tests then s=4∨s=5 else s=1
theorem check_alone {l:List NodeD} {tests:Bool} {s d:Int} (h:Alone l s d) (hl:l.length≤300) (hs:endS tests s):checkC l tests=if 40 < d then 7 else 0:=by
 unfold checkC
 rw [if_neg (by omega),runC_fold,show foldC l l 0 [] 0=some ([⟨s,d,l.length - 1⟩],d) from h]
 show endC tests [⟨s,d,l.length - 1⟩] d=_
 unfold endC
 exact if_pos hs
theorem check_zero {l:List NodeD} {tests:Bool} (h:checkC l tests=0):∃ s d,Alone l s d∧endS tests s∧d≤40∧0≤d∧l.length≤300∧l≠[]:=by
 unfold checkC at h
 split at h
 ·cases h
 ·rename_i hl
  rw [runC_fold] at h
  cases hf:foldC l l 0 [] 0 with
  | none=>rw [hf] at h;cases h
  | some x=>
   rw [hf] at h
   obtain ⟨st,D⟩:=x
   have h' : endC tests st D=0:=h
   unfold endC at h'
   match st,hf,h' with
   | [t],hf,h'=>
    obtain ⟨h1,h2,h3⟩:=alone_of (l:=l) hf
    simp only at h'
    have hI:=foldA_inv (l:=l) hf
    have hn:=hI.nn
    by_cases hs:(if tests then t.sort=4∨t.sort=5 else t.sort=1)
    ·rw [if_pos hs] at h'
     refine ⟨t.sort,t.depth,h1,hs,?_,by omega,by omega,h3⟩
     by_cases h40:40 < D
     ·rw [if_pos h40] at h';cases h'
     ·omega
    ·rw [if_neg hs] at h';cases h'
   | [],_,h'=>cases h'
   | _ :: _ :: _,_,h'=>cases h'
end Go.Proofs.YtheimopjglkgjaaGreatDoor

namespace Go.Proofs.YtheimopjglkgjaaGreatDoor
open Go.RowKit
set_option linter.unusedVariables false
set_option linter.unusedSimpArgs false

theorem len_snoc (l:List NodeD) (n:NodeD):(l++[n]).length=l.length + 1:=by rw [List.length_append];rfl
theorem partsF_one {op:Int} {k:Nat} {d:Int} (t:ThingD) {l:List ThingD} (h:t.sort=wantI op k):partsF op k d (t :: l)=partsF op (k + 1) (max d t.depth) l:=by rw [partsF_cons,if_pos h]
section
variable {a b c:List NodeD} {s s1 s2 s3 d d1 d2 d3 op:Int}
theorem alone_nn (h:Alone a s d):0≤d:=(foldA_inv h).nn
theorem alone_leaf {n:NodeD} (h1:fieldsB n=true) (h2:kidsB n.op n.kids=true) (h3:n.kids=0) (h4:n.op≠27):Alone [n] (sortI n.op) 1:=by
 have hst:stepC [n] [] 0 n=some ([⟨sortI n.op,0 + 1,0⟩],0 + 1):=StepOk.step (d:=0) ⟨h1,h2,by rw [h3];exact Nat.le_refl _,by simp [partsF],fun x=>h4 x.1,by simp⟩
 show foldC [n] [n] 0 [] 0=_
 rw [foldC_cons,hst]
 rfl
theorem alone_two {n:NodeD} (ha:Alone a s1 d1) (hb:Alone b s2 d2) (h1:fieldsB n=true) (h2:kidsB n.op n.kids=true) (h3:n.kids=2) (h4:n.op≠27) (w1:s1=wantI n.op 0) (w2:s2=wantI n.op 1):Alone (a++b++[n]) (sortI n.op) (max d1 d2 + 1):=by
 have hn:=alone_nn ha
 have hm:=alone_nn hb
 have hab:=foldA_app ha hb
 have hst:stepC (a++b) ([⟨s1,d1,a.length - 1⟩]++[⟨s2,d2,b.length - 1⟩].map (sh a.length)) (a++b).length n=some ([⟨sortI n.op,max d1 d2 + 1,(a++b).length⟩],max d1 d2 + 1):=StepOk.step (d:=max d1 d2) ⟨h1,h2,by rw [h3];exact Nat.le_refl _,by
  rw [h3]
  show partsF n.op 0 0 [⟨s1,d1,a.length - 1⟩,sh a.length ⟨s2,d2,b.length - 1⟩]=_
  rw [partsF_one ⟨s1,d1,a.length - 1⟩ w1,partsF_one (sh a.length ⟨s2,d2,b.length - 1⟩) w2]
  show some (max (max 0 d1) d2)=some (max d1 d2)
  rw [show max (max 0 d1) d2=max d1 d2 by omega],fun x=>h4 x.1,by rw [h3];rfl⟩
 unfold Alone
 rw [foldA_snoc,hab]
 show (stepC (a++b) ([⟨s1,d1,a.length - 1⟩]++[⟨s2,d2,b.length - 1⟩].map (sh a.length)) (a++b).length n).elim none (fun y=>some (y.1,max (max d1 d2) y.2))=_
 rw [hst,len_snoc (a++b) n]
 show (some ([(⟨sortI n.op,max d1 d2 + 1,(a++b).length⟩:ThingD)],max (max d1 d2) (max d1 d2 + 1)):Option (List ThingD × Int))=_
 rw [show max (max d1 d2) (max d1 d2 + 1)=max d1 d2 + 1 by omega,Nat.add_sub_cancel]
theorem alone_three {n:NodeD} (ha:Alone a s1 d1) (hb:Alone b s2 d2) (hc:Alone c s3 d3) (h1:fieldsB n=true) (h2:kidsB n.op n.kids=true) (h3:n.kids=3) (h4:n.op≠27) (w1:s1=wantI n.op 0) (w2:s2=wantI n.op 1) (w3:s3=wantI n.op 2):Alone (a++b++c++[n]) (sortI n.op) (max (max d1 d2) d3 + 1):=by
 have hn:=alone_nn ha
 have hm:=alone_nn hb
 have hm3:=alone_nn hc
 have habc:=foldA_app (foldA_app ha hb) hc
 have hst:stepC (a++b++c) (([⟨s1,d1,a.length - 1⟩]++[⟨s2,d2,b.length - 1⟩].map (sh a.length))++[⟨s3,d3,c.length - 1⟩].map (sh (a++b).length)) (a++b++c).length n=some ([⟨sortI n.op,max (max d1 d2) d3 + 1,(a++b++c).length⟩],max (max d1 d2) d3 + 1):=StepOk.step (d:=max (max d1 d2) d3) ⟨h1,h2,by rw [h3];exact Nat.le_refl _,by
  rw [h3]
  show partsF n.op 0 0 [⟨s1,d1,a.length - 1⟩,sh a.length ⟨s2,d2,b.length - 1⟩,sh (a++b).length ⟨s3,d3,c.length - 1⟩]=_
  rw [partsF_one ⟨s1,d1,a.length - 1⟩ w1,partsF_one (sh a.length ⟨s2,d2,b.length - 1⟩) w2,partsF_one (sh (a++b).length ⟨s3,d3,c.length - 1⟩) w3]
  show some (max (max (max 0 d1) d2) d3)=some (max (max d1 d2) d3)
  rw [show max (max (max 0 d1) d2) d3=max (max d1 d2) d3 by omega],fun x=>h4 x.1,by rw [h3];rfl⟩
 unfold Alone
 rw [foldA_snoc,habc]
 show (stepC (a++b++c) (([⟨s1,d1,a.length - 1⟩]++[⟨s2,d2,b.length - 1⟩].map (sh a.length))++[⟨s3,d3,c.length - 1⟩].map (sh (a++b).length)) (a++b++c).length n).elim none (fun y=>some (y.1,max (max (max d1 d2) d3) y.2))=_
 rw [hst,len_snoc (a++b++c) n]
 show (some ([(⟨sortI n.op,max (max d1 d2) d3 + 1,(a++b++c).length⟩:ThingD)],max (max (max d1 d2) d3) (max (max d1 d2) d3 + 1)):Option (List ThingD × Int))=_
 rw [show max (max (max d1 d2) d3) (max (max d1 d2) d3 + 1)=max (max d1 d2) d3 + 1 by omega,Nat.add_sub_cancel]
end
def tOp:TokD:=⟨6,⟨#[40]⟩,0,0,0,0⟩
def tCl:TokD:=⟨6,⟨#[41]⟩,0,0,0,0⟩
theorem lex_cl:lexF ⟨#[41]⟩=([tCl],0):=by kernel_rfl
section
variable {L:List TokD} {i:Nat} {t:TokD} {s:List UInt8}
theorem isT_at (h:L[i]? = some t) (h5:5≤t.kind) (hx:t.text.data.toList=s):isT L i s=true:=by
 unfold isT sgT
 rw [h]
 simp only
 rw [if_pos h5,ByteArray.toList_eq,hx]
 exact beq_self_eq_true _
theorem FinT.end_ (h:L.length≤i):FinT L i:=.inl (by rw [sgT_none h,ByteArray.toList_eq])
end
end Go.Proofs.YtheimopjglkgjaaGreatDoor

namespace Go.Proofs.YtheimopjglkgjaaGreatDoor
open Go.RowKit
set_option linter.unusedVariables false
set_option linter.unusedSimpArgs false

def tIf:TokD:=⟨5,⟨#[105,102]⟩,0,0,0,0⟩
def tTr:TokD:=⟨5,⟨#[116,114,117,101]⟩,0,0,0,0⟩
def tTh:TokD:=⟨5,⟨#[116,104,101,110]⟩,0,0,0,0⟩
def tEl:TokD:=⟨5,⟨#[101,108,115,101]⟩,0,0,0,0⟩
def tIn:TokD:=⟨5,⟨#[105,110]⟩,0,0,0,0⟩
def tEq:TokD:=⟨6,⟨#[61]⟩,0,0,0,0⟩
theorem lex_if:lexF ⟨#[105,102]⟩=([tIf],0):=by kernel_rfl
theorem lex_tr:lexF ⟨#[116,114,117,101]⟩=([tTr],0):=by kernel_rfl
theorem lex_th:lexF ⟨#[116,104,101,110]⟩=([tTh],0):=by kernel_rfl
theorem lex_el:lexF ⟨#[101,108,115,101]⟩=([tEl],0):=by kernel_rfl
theorem lex_in:lexF ⟨#[105,110]⟩=([tIn],0):=by kernel_rfl
theorem lex_eq:lexF ⟨#[61]⟩=([tEq],0):=by kernel_rfl
section
variable {s t u v:ByteArray} {a b:List NodeD}
/-- What two expressions that are right come to alone. -/
theorem two_alone (hs:parseF s false=(a,0)):∃ d,Alone a 1 d∧d≤40∧0≤d:=by
 obtain ⟨n,-,-,hc⟩:=parse_ok hs
 obtain ⟨s',d,hAl,hs',hd,hd0,-,-⟩:=check_zero hc
 have hs1:s' = 1:=hs'
 subst hs1
 exact ⟨d,hAl,hd,hd0⟩
/-- if true then (s) else (t). -/
theorem join_if {d e:Int} (hs:parseF s false=(a,0)) (ht:parseF t false=(b,0)) (h1:s.size≤300) (h2:t.size≤300) (hab:a.length + b.length≤200) (ha:Alone a 1 d) (hb:Alone b 1 e)
  (hu:u.data.toList=[105,102,32,116,114,117,101,32,116,104,101,110,32,40]++s.data.toList++[41,32,101,108,115,101,32,40]++t.data.toList++[41]) :
  parseF u false=if 40 < max (max 1 d) e + 1 then ([],7) else ([nOp 2 0]++a++b++[nOp 21 3],0):=by
 obtain ⟨n,hl,hg,hc⟩:=parse_ok hs
 obtain ⟨m,hl',hg',hc'⟩:=parse_ok ht
 have hK:=lexF_knd s
 have hK':=lexF_knd t
 generalize (lexF s).1=T at hl hg hK
 generalize (lexF t).1=T' at hl' hg' hK'
 have hsl:s.data.toList.length=s.size:=by simp
 have htl:t.data.toList.length=t.size:=by simp
 have hul:u.data.toList.length=u.size:=by simp
 obtain ⟨ts,x1,x2⟩:=lexF_pcs (u:=u) (l:=[.txt ⟨#[105,102]⟩ [tIf],.blk,.txt ⟨#[116,114,117,101]⟩ [tTr],.blk,.txt ⟨#[116,104,101,110]⟩ [tTh],.blk,.opn,.txt s T,.txt ⟨#[41]⟩ [tCl],.blk,.txt ⟨#[101,108,115,101]⟩ [tEl],.blk,.opn,.txt t T',.txt ⟨#[41]⟩ [tCl]]) (by rw [hu];simp [Pc.bs]) (by rw [← hul,hu];simp;omega) ⟨lex_if,rfl,lex_tr,rfl,lex_th,rfl,hl,rfl,lex_cl,rfl,lex_el,rfl,hl',rfl,lex_cl,rfl,trivial⟩
 obtain ⟨L,hL⟩:∃ L,L=[tIf,tTr,tTh,tOp]++(T++tCl :: (tEl :: tOp :: (T'++tCl :: []))):=⟨_,rfl⟩
 have hx:ts.map noAt=L.map noAt:=by rw [x2,hL];simp [Pc.ts];rfl
 have hlen:L.length=T.length + T'.length + 8:=by rw [hL];simp;omega
 have hL2:L=([tIf,tTr,tTh,tOp]++T++[tCl,tEl,tOp])++(T'++tCl :: []):=by rw [hL];simp
 have hE1:Ev L .expr 4 a n (4 + T.length) (T.length * 16 + 12):=ev_mid (N:=.expr) (f:=T.length * 16 + 12) hK ⟨rfl,rfl⟩ trivial (by simp) hg hL rfl rfl
 have hE2:Ev L .expr (T.length + 7) b m (T.length + 7 + T'.length) (T'.length * 16 + 12):=ev_mid (N:=.expr) (f:=T'.length * 16 + 12) hK' ⟨rfl,rfl⟩ trivial (by simp) hg' hL2 (by simp) (by simp)
 have g:∀ k,L[4 + T.length + k]? = (tCl :: (tEl :: tOp :: (T'++tCl :: [])))[k]?:=fun k=>by
  rw [hL,List.getElem?_append_right (by simp;omega),show 4 + T.length + k - [tIf,tTr,tTh,tOp].length=T.length + k by simp;omega,List.getElem?_append_right (by omega),show T.length + k - T.length=k by omega]
 have g2:∀ k,L[T.length + 7 + T'.length + k]? = (tCl :: ([]:List TokD))[k]?:=fun k=>by
  rw [hL2,List.getElem?_append_right (by simp;omega),show T.length + 7 + T'.length + k - ([tIf,tTr,tTh,tOp]++T++[tCl,tEl,tOp]).length=T'.length + k by simp;omega,List.getElem?_append_right (by omega),show T'.length + k - T'.length=k by omega]
 have i0:isT L 0 [105,102]=true:=isT_at (t:=tIf) (by rw [hL];rfl) (by decide) rfl
 have i1:isT L 1 [116,114,117,101]=true:=isT_at (t:=tTr) (by rw [hL];rfl) (by decide) rfl
 have i2:isT L 2 [116,104,101,110]=true:=isT_at (t:=tTh) (by rw [hL];rfl) (by decide) rfl
 have i3:isT L 3 [40]=true:=isT_at (t:=tOp) (by rw [hL];rfl) (by decide) rfl
 have j0:isT L (4 + T.length) [41]=true:=isT_at (t:=tCl) (g 0) (by decide) rfl
 have j1:isT L (4 + T.length + 1) [101,108,115,101]=true:=isT_at (t:=tEl) (g 1) (by decide) rfl
 have j2:isT L (4 + T.length + 1 + 1) [40]=true:=isT_at (t:=tOp) (g 2) (by decide) rfl
 have k0:isT L (T.length + 7 + T'.length) [41]=true:=isT_at (t:=tCl) (g2 0) (by decide) rfl
 have hF:FinT L (T.length + 7 + T'.length + 1):=FinT.end_ (by rw [hlen];omega)
 have P0:=ev_all (ev_true i1) (.inr (.inr (.inl (beq_iff_eq.1 i2)))) (isT_not i1 (by decide)) (isT_not i1 (by decide))
 have P1:=ev_all (ev_par i3 hE1 j0) (.inr (.inr (.inr (beq_iff_eq.1 j1)))) (isT_not i3 (by decide)) (isT_not i3 (by decide))
 have P2:Ev L .expr (4 + T.length + 1 + 1) b 0 (T.length + 7 + T'.length + 1) (T'.length * 16 + 12 + 1 + 11):=
  ev_all (ev_par j2 (by rw [show 4 + T.length + 1 + 1 + 1=T.length + 7 by omega];exact hE2) k0) hF (isT_not j2 (by decide)) (isT_not j2 (by decide))
 have hA:=ev_if i0 P0 i2 P1 j1 P2
 have hp:=parse_of (tests:=false) (n:=0) (f:=(T.length + T'.length) * 16 + 60) ⟨ts,x1,hx⟩ (by rw [hlen,show T.length + T'.length + 8=T.length + 7 + T'.length + 1 by omega];exact hA.mono (by omega)) (by rw [hlen];omega)
 have hal:Alone ([nOp 2 0]++a++b++[nOp 21 3]) 1 (max (max 1 d) e + 1):=alone_three (n:=nOp 21 3) (alone_leaf (n:=nOp 2 0) (by kernel_rfl) (by kernel_rfl) rfl (by decide)) ha hb (by kernel_rfl) (by kernel_rfl) rfl (by decide) rfl rfl rfl
 have hck:=check_alone (tests:=false) hal (by simp;omega) rfl
 rw [hp,hck]
 by_cases h40:40 < max (max 1 d) e + 1
 ·rw [if_pos h40,if_neg (by decide),if_pos h40]
 ·rw [if_neg h40,if_pos rfl,if_neg h40]
/-- (s) = (t). -/
theorem join_eq {d e:Int} (hs:parseF s false=(a,0)) (ht:parseF t false=(b,0)) (h1:s.size≤300) (h2:t.size≤300) (hab:a.length + b.length≤200) (ha:Alone a 1 d) (hb:Alone b 1 e)
  (hu:u.data.toList=[40]++s.data.toList++[41,32,61,32,40]++t.data.toList++[41]) :
  parseF u false=if 40 < max d e + 1 then ([],7) else (a++b++[nOp 13 2],0):=by
 obtain ⟨n,hl,hg,hc⟩:=parse_ok hs
 obtain ⟨m,hl',hg',hc'⟩:=parse_ok ht
 have hK:=lexF_knd s
 have hK':=lexF_knd t
 generalize (lexF s).1=T at hl hg hK
 generalize (lexF t).1=T' at hl' hg' hK'
 have hsl:s.data.toList.length=s.size:=by simp
 have htl:t.data.toList.length=t.size:=by simp
 have hul:u.data.toList.length=u.size:=by simp
 obtain ⟨ts,x1,x2⟩:=lexF_pcs (u:=u) (l:=[.opn,.txt s T,.txt ⟨#[41]⟩ [tCl],.blk,.txt ⟨#[61]⟩ [tEq],.blk,.opn,.txt t T',.txt ⟨#[41]⟩ [tCl]]) (by rw [hu];simp [Pc.bs]) (by rw [← hul,hu];simp;omega) ⟨hl,rfl,lex_cl,rfl,lex_eq,rfl,hl',rfl,lex_cl,rfl,trivial⟩
 obtain ⟨L,hL⟩:∃ L,L=[tOp]++(T++tCl :: (tEq :: tOp :: (T'++tCl :: []))):=⟨_,rfl⟩
 have hx:ts.map noAt=L.map noAt:=by rw [x2,hL];simp [Pc.ts];rfl
 have hlen:L.length=T.length + T'.length + 5:=by rw [hL];simp;omega
 have hL2:L=([tOp]++T++[tCl,tEq,tOp])++(T'++tCl :: []):=by rw [hL];simp
 have hE1:Ev L .expr 1 a n (1 + T.length) (T.length * 16 + 12):=ev_mid (N:=.expr) (f:=T.length * 16 + 12) hK ⟨rfl,rfl⟩ trivial (by simp) hg hL rfl rfl
 have hE2:Ev L .expr (T.length + 4) b m (T.length + 4 + T'.length) (T'.length * 16 + 12):=ev_mid (N:=.expr) (f:=T'.length * 16 + 12) hK' ⟨rfl,rfl⟩ trivial (by simp) hg' hL2 (by simp) (by simp)
 have g:∀ k,L[1 + T.length + k]? = (tCl :: (tEq :: tOp :: (T'++tCl :: [])))[k]?:=fun k=>by
  rw [hL,List.getElem?_append_right (by simp;omega),show 1 + T.length + k - [tOp].length=T.length + k by simp;omega,List.getElem?_append_right (by omega),show T.length + k - T.length=k by omega]
 have g2:∀ k,L[T.length + 4 + T'.length + k]? = (tCl :: ([]:List TokD))[k]?:=fun k=>by
  rw [hL2,List.getElem?_append_right (by simp;omega),show T.length + 4 + T'.length + k - ([tOp]++T++[tCl,tEq,tOp]).length=T'.length + k by simp;omega,List.getElem?_append_right (by omega),show T'.length + k - T'.length=k by omega]
 have i0:isT L 0 [40]=true:=isT_at (t:=tOp) (by rw [hL];rfl) (by decide) rfl
 have j0:isT L (1 + T.length) [41]=true:=isT_at (t:=tCl) (g 0) (by decide) rfl
 have j1:isT L (1 + T.length + 1) [61]=true:=isT_at (t:=tEq) (g 1) (by decide) rfl
 have j2:isT L (1 + T.length + 1 + 1) [40]=true:=isT_at (t:=tOp) (g 2) (by decide) rfl
 have k0:isT L (T.length + 4 + T'.length) [41]=true:=isT_at (t:=tCl) (g2 0) (by decide) rfl
 have hF:FinT L (T.length + 4 + T'.length + 1):=FinT.end_ (by rw [hlen];omega)
 have hrel:relT L (1 + T.length + 1)=13:=by unfold relT;rw [show (sgT L (1 + T.length + 1)).toList=[61] from beq_iff_eq.1 j1];rfl
 have P1:Ev L .sum 0 a 0 (1 + T.length + 1) (max (T.length * 16 + 12 + 1 + 2 + 2) 1 + 1):=ev_sum (ev_prod (ev_sgn (ev_par i0 hE1 j0) (isT_not i0 (by decide)) (isT_not j1 (by decide))) (isT_not j1 (by decide)) (isT_not j1 (by decide))) (ev_sumL_end (isT_not j1 (by decide)) (isT_not j1 (by decide)))
 have P2:Ev L .sum (1 + T.length + 1 + 1) b 0 (T.length + 4 + T'.length + 1) (T'.length * 16 + 12 + 1 + 2 + 3):=
  ev_sum_of (ev_sgn (ev_par j2 (by rw [show 1 + T.length + 1 + 1 + 1=T.length + 4 by omega];exact hE2) k0) (isT_not j2 (by decide)) (hF.no (by decide))) hF
 have hC:=ev_cmp_rel P1 (by rw [hrel];decide) P2
 rw [hrel] at hC
 have hA:=ev_expr_of hC hF (isT_not i0 (by decide))
 have hp:=parse_of (tests:=false) (n:=0) (f:=(T.length + T'.length) * 16 + 50) ⟨ts,x1,hx⟩ (by rw [hlen,show T.length + T'.length + 5=T.length + 4 + T'.length + 1 by omega];exact hA.mono (by omega)) (by rw [hlen];omega)
 have hal:Alone (a++b++[nOp 13 2]) 1 (max d e + 1):=alone_two (n:=nOp 13 2) ha hb (by kernel_rfl) (by kernel_rfl) rfl (by decide) rfl rfl
 have hck:=check_alone (tests:=false) hal (by simp;omega) rfl
 rw [hp,hck]
 by_cases h40:40 < max d e + 1
 ·rw [if_pos h40,if_neg (by decide),if_pos h40]
 ·rw [if_neg h40,if_pos rfl,if_neg h40]
/-- Tests that are a list. -/
theorem un_tests {T:List TokD} {f n j:Nat} {l:List NodeD} (h:G T f .unary 0 = .ok l n j) (hl:∃ p x,l=p++[x]∧x.op=36):∃ g,f=g + 1∧G T g .tests 0 = .ok l n j:=by
 obtain ⟨p,x,rfl,hx⟩:=hl
 cases f with
 | zero=>cases h
 | succ g=>
  refine ⟨g,rfl,?_⟩
  simp only [G] at h
  split at h
  ·rename_i h0
   simp only [PR.ok.injEq] at h
   have:=congrArg List.getLast? h.1
   simp at this
   rw [← this] at hx
   exact absurd hx (by decide)
  split at h
  ·cases hg:G T g .grp 1 with
   | out=>rw [hg] at h;cases h
   | no=>rw [hg] at h;cases h
   | ok a n' j'=>
    rw [hg] at h
    have h' : PR.ok (a++[nOp 37 1]) 0 j' = PR.ok (p++[x]) n j:=h
    simp only [PR.ok.injEq] at h'
    have:=congrArg List.getLast? h'.1
    simp at this
    rw [← this] at hx
    exact absurd hx (by decide)
  ·exact h
/-- (s) in (t). -/
theorem join_in {d e:Int} {p:List NodeD} {x:NodeD} (hs:parseF s false=(a,0)) (ht:parseF t true=(b,0)) (hx:b=p++[x]) (hx36:x.op=36) (h1:s.size≤300) (h2:t.size≤300) (hab:a.length + b.length≤200) (ha:Alone a 1 d) (hb:Alone b 4 e)
  (hu:u.data.toList=[40]++s.data.toList++[41,32,105,110,32,40]++t.data.toList++[41]) :
  parseF u false=if 40 < max d e + 1 then ([],7) else (a++b++[nOp 23 2],0):=by
 obtain ⟨n,hl,hg,hc⟩:=parse_ok hs
 obtain ⟨m,hl',hg0,hc'⟩:=parse_ok ht
 have hK:=lexF_knd s
 have hK':=lexF_knd t
 generalize (lexF s).1=T at hl hg hK
 generalize (lexF t).1=T' at hl' hg0 hK'
 obtain ⟨f',hf',hg'⟩:=un_tests (f:=T'.length * 16 + 12) hg0 ⟨p,x,hx,hx36⟩
 have hsl:s.data.toList.length=s.size:=by simp
 have htl:t.data.toList.length=t.size:=by simp
 have hul:u.data.toList.length=u.size:=by simp
 obtain ⟨ts,x1,x2⟩:=lexF_pcs (u:=u) (l:=[.opn,.txt s T,.txt ⟨#[41]⟩ [tCl],.blk,.txt ⟨#[105,110]⟩ [tIn],.blk,.opn,.txt t T',.txt ⟨#[41]⟩ [tCl]]) (by rw [hu];simp [Pc.bs]) (by rw [← hul,hu];simp;omega) ⟨hl,rfl,lex_cl,rfl,lex_in,rfl,hl',rfl,lex_cl,rfl,trivial⟩
 obtain ⟨L,hL⟩:∃ L,L=[tOp]++(T++tCl :: (tIn :: tOp :: (T'++tCl :: []))):=⟨_,rfl⟩
 have hx2:ts.map noAt=L.map noAt:=by rw [x2,hL];simp [Pc.ts];rfl
 have hlen:L.length=T.length + T'.length + 5:=by rw [hL];simp;omega
 have hL2:L=([tOp]++T++[tCl,tIn,tOp])++(T'++tCl :: []):=by rw [hL];simp
 have hE1:Ev L .expr 1 a n (1 + T.length) (T.length * 16 + 12):=ev_mid (N:=.expr) (f:=T.length * 16 + 12) hK ⟨rfl,rfl⟩ trivial (by simp) hg hL rfl rfl
 have hE2:Ev L .tests (T.length + 4) b m (T.length + 4 + T'.length) f':=ev_mid (N:=.tests) (f:=f') hK' ⟨rfl,rfl⟩ trivial (by simp) hg' hL2 (by simp) (by simp)
 have g:∀ k,L[1 + T.length + k]? = (tCl :: (tIn :: tOp :: (T'++tCl :: [])))[k]?:=fun k=>by
  rw [hL,List.getElem?_append_right (by simp;omega),show 1 + T.length + k - [tOp].length=T.length + k by simp;omega,List.getElem?_append_right (by omega),show T.length + k - T.length=k by omega]
 have g2:∀ k,L[T.length + 4 + T'.length + k]? = (tCl :: ([]:List TokD))[k]?:=fun k=>by
  rw [hL2,List.getElem?_append_right (by simp;omega),show T.length + 4 + T'.length + k - ([tOp]++T++[tCl,tIn,tOp]).length=T'.length + k by simp;omega,List.getElem?_append_right (by omega),show T'.length + k - T'.length=k by omega]
 have i0:isT L 0 [40]=true:=isT_at (t:=tOp) (by rw [hL];rfl) (by decide) rfl
 have j0:isT L (1 + T.length) [41]=true:=isT_at (t:=tCl) (g 0) (by decide) rfl
 have j1:isT L (1 + T.length + 1) [105,110]=true:=isT_at (t:=tIn) (g 1) (by decide) rfl
 have j2:isT L (1 + T.length + 1 + 1) [40]=true:=isT_at (t:=tOp) (g 2) (by decide) rfl
 have k0:isT L (T.length + 4 + T'.length) [41]=true:=isT_at (t:=tCl) (g2 0) (by decide) rfl
 have hF:FinT L (T.length + 4 + T'.length + 1):=FinT.end_ (by rw [hlen];omega)
 have P1:Ev L .sum 0 a 0 (1 + T.length + 1) (max (T.length * 16 + 12 + 1 + 2 + 2) 1 + 1):=ev_sum (ev_prod (ev_sgn (ev_par i0 hE1 j0) (isT_not i0 (by decide)) (isT_not j1 (by decide))) (isT_not j1 (by decide)) (isT_not j1 (by decide))) (ev_sumL_end (isT_not j1 (by decide)) (isT_not j1 (by decide)))
 have P2:Ev L .grp (1 + T.length + 1 + 1) b 0 (T.length + 4 + T'.length + 1) (f' + 1):=ev_grp j2 (by rw [show 1 + T.length + 1 + 1 + 1=T.length + 4 by omega];exact hE2) k0
 have hC:=ev_cmp_in P1 j1 P2
 have hA:=ev_expr_of hC hF (isT_not i0 (by decide))
 have hp:=parse_of (tests:=false) (n:=0) (f:=(T.length + T'.length) * 16 + 50) ⟨ts,x1,hx2⟩ (by rw [hlen,show T.length + T'.length + 5=T.length + 4 + T'.length + 1 by omega];exact hA.mono (by omega)) (by rw [hlen];omega)
 have hal:Alone (a++b++[nOp 23 2]) 1 (max d e + 1):=alone_two (n:=nOp 23 2) ha hb (by kernel_rfl) (by kernel_rfl) rfl (by decide) rfl rfl
 have hck:=check_alone (tests:=false) hal (by simp;omega) rfl
 rw [hp,hck]
 by_cases h40:40 < max d e + 1
 ·rw [if_pos h40,if_neg (by decide),if_pos h40]
 ·rw [if_neg h40,if_pos rfl,if_neg h40]
end
end Go.Proofs.YtheimopjglkgjaaGreatDoor

namespace Go.Proofs.YtheimopjglkgjaaGreatDoor
open Go.RowKit
set_option linter.unusedVariables false
set_option linter.unusedSimpArgs false

section
variable {L:List SymD}
theorem parts_base {n:NodeD} {base ds:List ThD} (h:n.kids.toNat≤ds.length):partsD n (base++ds)=partsD n ds:=by
 unfold partsD
 rw [show (base++ds).length - n.kids.toNat=base.length + (ds.length - n.kids.toNat) by rw [List.length_append];omega,drop_base]
theorem stepT_base {n:NodeD} {base ds:List ThD} (h:n.kids.toNat≤ds.length):stepT L (base++ds) n=stepT L ds n:=by
 unfold stepT
 rw [parts_base h]
theorem nextT_base {n:NodeD} {base ds:List ThD} (h:n.kids.toNat≤ds.length):nextT L (base++ds) n=base++nextT L ds n:=by
 unfold nextT
 rw [stepT_base h,show (base++ds).length - n.kids.toNat=base.length + (ds.length - n.kids.toNat) by rw [List.length_append];omega,take_base,List.append_assoc]
/-- The machine's run, its stack told. -/
def runE (L:List SymD):List NodeD→List ThD→List ThD × Int
 | [],ds=>(ds,0)
 | n :: ns,ds=>if (stepT L ds n).2=0 then runE L ns (nextT L ds n) else ([],(stepT L ds n).2)
theorem runT_runE:∀ (r:List NodeD) (ds:List ThD),runT L r ds=if (runE L r ds).2=0 then ((runE L r ds).1.headD ⟨⟨0,0⟩,[]⟩,0) else (⟨⟨0,0⟩,[]⟩,(runE L r ds).2)
 | [],ds=>rfl
 | n :: r,ds=>by
  rw [runT,runE]
  by_cases h:(stepT L ds n).2=0
  ·rw [if_pos h,if_pos h];exact runT_runE r _
  ·rw [if_neg h,if_neg h,if_neg h]
theorem runE_app:∀ (a b:List NodeD) (ds:List ThD),runE L (a++b) ds=if (runE L a ds).2=0 then runE L b (runE L a ds).1 else ([],(runE L a ds).2)
 | [],b,ds=>rfl
 | n :: a,b,ds=>by
  rw [List.cons_append,runE,runE]
  by_cases h:(stepT L ds n).2=0
  ·rw [if_pos h,if_pos h];exact runE_app a b _
  ·rw [if_neg h,if_neg h,if_neg h]
theorem runE_form (hl:∀ s,s ∈ L→s.t.form):∀ (r:List NodeD) (ds:List ThD),(∀ d,d ∈ ds→ThForm d)→∀ d,d ∈ (runE L r ds).1→ThForm d
 | [],ds,h=>h
 | n :: r,ds,h=>by
  rw [runE]
  split
  ·exact runE_form hl r _ (nextT_form hl ds n h)
  ·intro d hd;cases hd
theorem runE_base {l:List NodeD}:∀ (r:List NodeD) (i:Nat) (st:List ThingD) (deep:Int) (x:List ThingD × Int) (ds base:List ThD),foldC l r i st deep=some x→st.length=ds.length→
  runE L r (base++ds)=(if (runE L r ds).2=0 then (base++(runE L r ds).1,0) else ([],(runE L r ds).2))∧((runE L r ds).2=0→(runE L r ds).1.length=x.1.length)
 | [],i,st,deep,x,ds,base,h,hl=>by
  cases h
  exact ⟨rfl,fun _=>hl.symm⟩
 | n :: r,i,st,deep,x,ds,base,h,hl=>by
  rw [foldC_cons] at h
  cases hs:stepC l st i n with
  | none=>rw [hs] at h;cases h
  | some y=>
   rw [hs] at h
   obtain ⟨d,hk⟩:=step_ok hs
   have hle:n.kids.toNat≤ds.length:=by have:=hk.le;omega
   have hnl:y.1.length=(nextT L ds n).length:=by
    rw [hk.eq]
    unfold nextT
    simp only [List.length_append,List.length_take,List.length_singleton,hl]
   rw [runE,runE,stepT_base hle,nextT_base hle]
   by_cases h0:(stepT L ds n).2=0
   ·rw [if_pos h0,if_pos h0]
    exact runE_base r _ _ _ _ _ base h hnl
   ·rw [if_neg h0,if_neg h0]
    exact ⟨by rw [if_neg h0],fun h=>absurd h h0⟩
theorem alone_run {a:List NodeD} {s d:Int} (h:Alone a s d) (base:List ThD):runE L a base=(if (runE L a []).2=0 then (base++(runE L a []).1,0) else ([],(runE L a []).2))∧((runE L a []).2=0→∃ th,(runE L a []).1=[th]):=by
 obtain ⟨h1,h2⟩:=runE_base (L:=L) a 0 [] 0 _ [] base h rfl
 rw [List.append_nil] at h1
 refine ⟨h1,fun h0=>?_⟩
 have:=h2 h0
 match hq:(runE L a []).1,this with
 | [th],_=>exact ⟨th,rfl⟩
/-- What it says that an expression has a type. -/
theorem exprF_ok {a:List NodeD} {d:Int} {x:TyD} (ha:Alone a 1 d) (h:exprF a L=(x,0)):namesF L=0∧∃ th,runE L a []=([th],0)∧th.t=x:=by
 unfold exprF at h
 split at h
 ·rename_i h0
  exact absurd (congrArg Prod.snd h) h0
 split at h
 ·rename_i h0
  exact absurd (congrArg Prod.snd h) h0
 ·rename_i hn
  have hn:namesF L=0:=Classical.not_not.1 hn
  refine ⟨hn,?_⟩
  rw [runT_runE] at h
  by_cases h0:(runE L a []).2=0
  ·rw [if_pos h0] at h
   obtain ⟨th,hth⟩:=(alone_run ha []).2 h0
   rw [hth] at h
   refine ⟨th,Prod.ext hth h0,congrArg Prod.fst h⟩
  ·rw [if_neg h0] at h
   exact absurd (congrArg Prod.snd h) h0
theorem exprF_run {c:List NodeD} (hc:checkC c false=0) (hn:namesF L=0):exprF c L=((runT L c []).1.t,(runT L c []).2):=by
 unfold exprF
 rw [if_neg (by rw [hc];decide),if_neg (by rw [hn];decide)]
theorem form_of {a:List NodeD} {th:ThD} (hn:namesF L=0) (h:runE L a []=([th],0)):formB th.t.k th.t.o=true:=by
 have:=runE_form (namesF_form hn) a [] (by intro d hd;cases hd) th (by rw [h];simp)
 exact this.1
theorem step_21 (x y:ThD):stepT L [⟨⟨1,0⟩,[]⟩,x,y] (nOp 21 3)=(⟨⟨(joinT x.t.k x.t.o y.t.k y.t.o).1,(joinT x.t.k x.t.o y.t.k y.t.o).2⟩,[]⟩,0):=rfl
theorem step_2:stepT L [] (nOp 2 0)=(⟨⟨1,0⟩,[]⟩,0):=rfl
theorem step_13 (x y:ThD):stepT L [x,y] (nOp 13 2)=(⟨(toldF (meetB x.t.k x.t.o y.t.k y.t.o) ⟨1,0⟩).1,[]⟩,(toldF (meetB x.t.k x.t.o y.t.k y.t.o) ⟨1,0⟩).2):=rfl
theorem step_23 (x y:ThD):stepT L [x,y] (nOp 23 2)=(⟨(toldF (asksB x.t y.qs) ⟨1,0⟩).1,[]⟩,(toldF (asksB x.t y.qs) ⟨1,0⟩).2):=rfl
theorem next_all {ds:List ThD} {n:NodeD} (h:ds.length=n.kids.toNat):nextT L ds n=[(stepT L ds n).1]:=by
 unfold nextT
 rw [h,Nat.sub_self]
 rfl
theorem expr_if {a b:List NodeD} {d e:Int} {x y:TyD} (ha:Alone a 1 d) (hb:Alone b 1 e) (hx:exprF a L=(x,0)) (hy:exprF b L=(y,0)) (hc:checkC ([nOp 2 0]++a++b++[nOp 21 3]) false=0) :
  exprF ([nOp 2 0]++a++b++[nOp 21 3]) L=(⟨(joinT x.k x.o y.k y.o).1,(joinT x.k x.o y.k y.o).2⟩,0):=by
 obtain ⟨hn,tx,h1,rfl⟩:=exprF_ok ha hx
 obtain ⟨-,ty,h2,rfl⟩:=exprF_ok hb hy
 rw [exprF_run hc hn,runT_runE]
 have e1:runE L [nOp 2 0] []=([⟨⟨1,0⟩,[]⟩],0):=by rw [runE,step_2,if_pos rfl,next_all rfl,step_2];rfl
 have e2:=(alone_run (L:=L) ha [⟨⟨1,0⟩,[]⟩]).1
 rw [h1,if_pos rfl] at e2
 have e3:=(alone_run (L:=L) hb ([⟨⟨1,0⟩,[]⟩]++[tx])).1
 rw [h2,if_pos rfl] at e3
 have e4:runE L [nOp 21 3] ([⟨⟨1,0⟩,[]⟩]++[tx]++[ty])=([⟨⟨(joinT tx.t.k tx.t.o ty.t.k ty.t.o).1,(joinT tx.t.k tx.t.o ty.t.k ty.t.o).2⟩,[]⟩],0):=by
  show runE L [nOp 21 3] [⟨⟨1,0⟩,[]⟩,tx,ty]=_
  rw [runE,step_21,if_pos rfl,next_all rfl,step_21];rfl
 rw [runE_app,runE_app,runE_app,e1,if_pos rfl]
 dsimp only
 rw [e2,if_pos rfl]
 dsimp only
 rw [e3,if_pos rfl]
 dsimp only
 rw [e4,if_pos rfl]
 rfl
theorem expr_eq {a b:List NodeD} {d e:Int} {x y:TyD} (ha:Alone a 1 d) (hb:Alone b 1 e) (hx:exprF a L=(x,0)) (hy:exprF b L=(y,0)) (hc:checkC (a++b++[nOp 13 2]) false=0) :
  exprF (a++b++[nOp 13 2]) L=if meetB x.k x.o y.k y.o then (⟨1,0⟩,0) else (⟨0,0⟩,9):=by
 obtain ⟨hn,tx,h1,rfl⟩:=exprF_ok ha hx
 obtain ⟨-,ty,h2,rfl⟩:=exprF_ok hb hy
 rw [exprF_run hc hn,runT_runE]
 have e3:=(alone_run (L:=L) hb [tx]).1
 rw [h2,if_pos rfl] at e3
 have e4:runE L [nOp 13 2] ([tx]++[ty])=if meetB tx.t.k tx.t.o ty.t.k ty.t.o then ([⟨⟨1,0⟩,[]⟩],0) else ([],9):=by
  show runE L [nOp 13 2] [tx,ty]=_
  rw [runE,step_13,next_all rfl,step_13]
  unfold toldF
  cases meetB tx.t.k tx.t.o ty.t.k ty.t.o <;> rfl
 rw [runE_app,runE_app,h1,if_pos rfl]
 dsimp only
 rw [e3,if_pos rfl]
 dsimp only
 rw [e4]
 cases meetB tx.t.k tx.t.o ty.t.k ty.t.o <;> rfl
theorem expr_in {a b:List NodeD} {d e:Int} {x:TyD} (ha:Alone a 1 d) (hb:Alone b 4 e) (hx:exprF a L=(x,0)) (hcb:checkC b true=0) (hc:checkC (a++b++[nOp 23 2]) false=0) :
  ∃ z,exprF (a++b++[nOp 23 2]) L=(z,testsF b x L)∧(testsF b x L=0→z=⟨1,0⟩):=by
 obtain ⟨hn,tx,h1,rfl⟩:=exprF_ok ha hx
 have hf:=form_of hn h1
 have ht:testsF b tx.t L=if (runE L b []).2=0 then (if asksB tx.t ((runE L b []).1.headD ⟨⟨0,0⟩,[]⟩).qs then 0 else 9) else (runE L b []).2:=by
  unfold testsF
  rw [if_neg (by rw [hcb];decide),if_neg (by rw [hn];decide),if_neg (by rw [hf];decide),runT_runE]
  by_cases h0:(runE L b []).2=0
  ·rw [if_pos h0,if_pos h0]
   rfl
  ·rw [if_neg h0,if_neg h0]
   dsimp only
   rw [if_pos h0]
 rw [exprF_run hc hn,runT_runE,ht]
 obtain ⟨e3,e5⟩:=alone_run (L:=L) hb [tx]
 rw [runE_app,runE_app,h1,if_pos rfl]
 dsimp only
 rw [e3]
 by_cases h0:(runE L b []).2=0
 ·obtain ⟨ty,hty⟩:=e5 h0
  have e4:runE L [nOp 23 2] ([tx]++[ty])=if asksB tx.t ty.qs then ([⟨⟨1,0⟩,[]⟩],0) else ([],9):=by
   show runE L [nOp 23 2] [tx,ty]=_
   rw [runE,step_23,next_all rfl,step_23]
   unfold toldF
   cases asksB tx.t ty.qs <;> rfl
  simp only [if_pos h0,hty,List.headD,e4]
  cases asksB tx.t ty.qs with
  | true=>exact ⟨⟨1,0⟩,rfl,fun _=>rfl⟩
  | false=>exact ⟨⟨0,0⟩,rfl,fun h=>by cases h⟩
 ·simp only [if_neg h0]
  exact ⟨⟨0,0⟩,rfl,fun h=>absurd h h0⟩
theorem alone_sort {p:List NodeD} {x:NodeD} {s d:Int} (h:Alone (p++[x]) s d):s=sortI x.op:=by
 unfold Alone at h
 rw [foldA_snoc] at h
 cases hp:foldA p with
 | none=>rw [hp] at h;cases h
 | some y=>
  rw [hp] at h
  have h1:((stepC p y.1 p.length x).elim none fun z=>some (z.1,max y.2 z.2))=some ([(⟨s,d,(p++[x]).length - 1⟩:ThingD)],d):=h
  cases hs:stepC p y.1 p.length x with
  | none=>rw [hs] at h1;cases h1
  | some z=>
   rw [hs] at h1
   obtain ⟨e,hk⟩:=step_ok hs
   have h2:z.1=[(⟨s,d,(p++[x]).length - 1⟩:ThingD)]:=congrArg Prod.fst (Option.some.inj h1)
   rw [hk.eq] at h2
   have h3:=congrArg List.getLast? h2
   simp at h3
   exact h3.1.symm
end
theorem jn_wf {l:List NodeD} (h:NodesOk l):∀ (i:Nat) (n:NodeD),l[i]? = some n→n.wf:=fun i n hi=>(h n (List.mem_of_getElem? hi)).wf
theorem jn_has {B:Nat} {W:World} {p:Option Addr} {cap k n:Nat} {e:TypeId} {cs:List Value} (h:(Res.row p cap e k n cs).holds B W) (hn:0 < n):∃ b,p=some b:=by
 obtain ⟨g,rfl⟩:=row_some h hn
 exact ⟨_,rfl⟩
theorem jn_el {B:Nat} {W:World} {b:Addr} {cap i:Nat} {e:TypeId} {l:List NodeD} {x:NodeD} (h:(Res.row (some b) cap e 8 l.length (l.flatMap NodeD.cs)).holds B W) (hx:l[i]? = some x):Cells W (b.add (i * 8)) x.cs:=((sl_row NodeD.cs 8 NodeD.cs_len h).2 b rfl).elem NodeD.cs 8 NodeD.cs_len hx
theorem uIf_list (s t:ByteArray):(((((⟨#[105,102,32,116,114,117,101,32,116,104,101,110,32,40]⟩:ByteArray)++s)++⟨#[41,32,101,108,115,101,32,40]⟩)++t)++⟨#[41]⟩).data.toList=[105,102,32,116,114,117,101,32,116,104,101,110,32,40]++s.data.toList++[41,32,101,108,115,101,32,40]++t.data.toList++[41]:=by
 simp [ByteArray.data_append]
theorem uEq_list (s t:ByteArray):(((((⟨#[40]⟩:ByteArray)++s)++⟨#[41,32,61,32,40]⟩)++t)++⟨#[41]⟩).data.toList=[40]++s.data.toList++[41,32,61,32,40]++t.data.toList++[41]:=by
 simp [ByteArray.data_append]
theorem uIn_list (s t:ByteArray):(((((⟨#[40]⟩:ByteArray)++s)++⟨#[41,32,105,110,32,40]⟩)++t)++⟨#[41]⟩).data.toList=[40]++s.data.toList++[41,32,105,110,32,40]++t.data.toList++[41]:=by
 simp [ByteArray.data_append]
end Go.Proofs.YtheimopjglkgjaaGreatDoor
