/- The text of nodes, in plain words. -/
import Derived.Test.YtnghlakllgkjlaaGreatDoorStackA
import Derived.Test.YtnghlakllgkjlaaGreatDoorDecA
import Derived.Test.YtnghlakllgkjlaaGreatDoorDigE
import Derived.Test.YtnghlakllgkjlaaGreatDoorReplA
import Derived.Test.YtnghlakllgkjlaaGreatDoorDateA
import Derived.Lib.Join
namespace Go.Proofs.YtnghlakllgkjlaaGreatDoor
open Go.RowKit
set_option linter.unusedVariables false
set_option linter.unusedSimpArgs false
noncomputable section
abbrev Tx:=List UInt8
def padT (s:Tx) (sc:Nat):Tx:=if s.length≤sc then List.replicate (sc + 1 - s.length) 48++s else s
def dotT (s:Tx) (sc:Nat):Tx:=if 0 < sc then s.take (s.length - sc)++46 :: s.drop (s.length - sc) else s
def dcmT (neg:Bool) (n:Nat) (sc:Int):Tx:=(if neg then [45] else [])++dotT (padT (txt n) sc.toNat) sc.toNat
def lvlF (op:Int):Int:=
 if op=21 then 0 else if op=20 then 1 else if op=19 then 2 else if (13≤op∧op≤18)∨op=22∨op=23 then 3 else if op=9∨op=10 then 4 else if op=11∨op=12 then 5 else if op=8 then 6 else 7
def askF (op:Int) (i:Nat):Int:=
 if op=20 then 1 + i else if op=19 then 2 + i else if (13≤op∧op≤18)∨op=22∨op=23∨(30≤op∧op≤35) then 4 else if op=9∨op=10 then 4 + i else if op=11∨op=12 then 5 + i else if op=8 then 6 else if op=24 then 7 else 0
def atF (t:Tx) (has want:Int):Tx:=if has < want then 40 :: (t++[41]) else t
def barsF (op:Int):Nat→List (Tx × Int)→List Tx
 | _,[]=>[]
 | i,p :: ps=>atF p.1 (lvlF p.2) (askF op i) :: barsF op (i + 1) ps
def rowF (l:List Tx):Tx:=Lib.join l [44,32]
def signF (op:Int):Tx:=
 if op=1 then [110,117,108,108] else if op=2 then [116,114,117,101] else if op=3 then [102,97,108,115,101] else if op=9 then [32,43,32] else if op=10 then [32,45,32] else if op=11 then [32,42,32] else if op=12 then [32,47,32]
 else if op=13 then [32,61,32] else if op=14 then [32,33,61,32] else if op=15 then [32,60,32] else if op=16 then [32,60,61,32] else if op=17 then [32,62,32] else if op=18 then [32,62,61,32] else if op=19 then [32,97,110,100,32] else if op=20 then [32,111,114,32]
 else if op=31 then [60,32] else if op=32 then [60,61,32] else if op=33 then [62,32] else if op=34 then [62,61,32] else []
def tellF (n:NodeD) (l:List Tx):Tx:=
 let a:=l.getD 0 []
 let b:=l.getD 1 []
 let c:=l.getD 2 []
 let t:=n.text.data.toList
 if n.op=4 then dcmT n.neg n.num n.sc
 else if n.op=5 then quotedL t
 else if n.op=6 then [64,34]++(dayB n.day).data.toList++[34]
 else if n.op=7 then t
 else if n.op=8 then [45]++a
 else if n.op=21 then [105,102,32]++a++[32,116,104,101,110,32]++b++[32,101,108,115,101,32]++c
 else if n.op=22 then a++[32,98,101,116,119,101,101,110,32]++b++[32,97,110,100,32]++c
 else if n.op=23 then a++[32,105,110,32,40]++b++[41]
 else if n.op=24 then a++[46]++t
 else if n.op=25 then t++[40]++rowF l++[41]
 else if n.op=26 then [91]++rowF l++[93]
 else if n.op=27 then [123]++rowF l++[125]
 else if n.op=28 then t++[58,32]++a
 else if n.op=29 then [45]
 else if n.op=30 then a
 else if n.op=35 then t.take 1++a++[46,46]++b++t.drop 1
 else if n.op=36 then rowF l
 else if n.op=37 then [110,111,116,40]++a++[41]
 else if 31≤n.op then signF n.op++a
 else a++signF n.op++b
def pushF (n:NodeD) (st:List (Tx × Int)):Tx:=tellF n (barsF n.op 0 (st.drop (st.length - n.kids.toNat)))
def showF:List NodeD→List (Tx × Int)→Option (List (Tx × Int))
 | [],st=>some st
 | n :: rest,st=>if 1000 < (pushF n st).length then none else showF rest (st.take (st.length - n.kids.toNat)++[(pushF n st,n.op)])
def outF (r:Option (List (Tx × Int))):Tx × Int:=
 match r with
 | none=>([],6)
 | some st=>((st.getD 0 ([],0)).1,0)
def printF (ns:List NodeD) (tests:Bool):Tx × Int:=if checkC ns tests=0 then outF (showF ns []) else ([],checkC ns tests)
def Fit:List NodeD→List Int→Prop
 | [],st=>st.length=1
 | n :: rest,st=>fieldsB n=true∧kidsB n.op n.kids=true∧n.kids≤st.length∧(n.op=23→∃ x,st.drop (st.length - n.kids.toNat)=[x,36])∧Fit rest (st.take (st.length - n.kids.toNat)++[n.op])
theorem sort_four {op:Int} (h:sortI op=4):op=36:=by
 unfold sortI at h
 split at h
 ·omega
 ·split at h
  ·omega
  ·split at h
   ·omega
   ·split at h
    ·assumption
    ·omega
theorem parts_two {d r:Int} {l:List ThingD} (h:partsF 23 0 d l=some r) (h2:l.length=2):∃ a b,l=[a,b]∧b.sort=4:=by
 match l,h2 with
 | [a,b],_=>
  refine ⟨a,b,rfl,?_⟩
  rw [partsF_cons] at h
  split at h
  ·rw [partsF_cons] at h
   split at h
   ·rename_i h1
    rw [h1];rfl
   ·cases h
  ·cases h
theorem fit_run (ns:List NodeD) (tests:Bool):∀ (rest:List NodeD) (i:Nat) (st:List ThingD) (deep:Int),ns.drop i=rest→(∀ t ∈ st,t.sort=sortI (opAt ns t.at_))→runC ns tests rest i st deep=0→Fit rest (st.map fun t=>opAt ns t.at_)
 | [],i,st,deep,hd,hs,h=>by
  show (st.map _).length=1
  rw [List.length_map]
  have h' : endC tests st deep=0:=h
  match st with
  | []=>cases h'
  | [t]=>rfl
  | t :: u :: l=>cases h'
 | n :: rest,i,st,deep,hd,hs,h=>by
  have hn:ns[i]? = some n:=by rw [← List.head?_drop,hd];rfl
  have hd' : ns.drop (i + 1)=rest:=by rw [← List.drop_drop,hd];rfl
  rw [runC_cons] at h
  unfold stepC at h
  split at h
  ·rename_i hg
   rw [Bool.and_eq_true,Bool.and_eq_true,decide_eq_true_eq] at hg
   cases hp:partsF n.op 0 0 (st.drop (st.length - n.kids.toNat)) with
   | none=>rw [hp] at h;cases h
   | some d=>
    rw [hp] at h
    have h' : (if n.op=27∧unlikeB (textsOf ns (st.drop (st.length - n.kids.toNat)))=false then none else some (st.take (st.length - n.kids.toNat)++[(⟨sortI n.op,d + 1,i⟩:ThingD)],d + 1)).elim 2 (fun x=>runC ns tests rest (i + 1) x.1 (max deep x.2))=0:=h
    split at h'
    ·cases h'
    ·have ih:=fit_run ns tests rest (i + 1) _ _ hd' (fun t ht=>by
      rcases List.mem_append.1 ht with ht|ht
      ·exact hs t (List.mem_of_mem_take ht)
      ·rw [List.mem_singleton.1 ht]
       show sortI n.op=sortI (opAt ns i)
       rw [opAt_of hn]) h'
     have h0:=kidsB_nonneg hg.1.2
     refine ⟨hg.1.1,hg.1.2,by rw [List.length_map];exact hg.2,fun h23=>?_,?_⟩
     ·rw [h23] at hp
      have h2:n.kids=2:=by
       have:=hg.1.2
       rw [h23] at this
       unfold kidsB at this
       have:=of_decide_eq_true this
       have e:arI 23=(2,2):=by decide
       rw [e] at this
       omega
      obtain ⟨a,b,hab,hb⟩:=parts_two hp (by rw [List.length_drop];omega)
      refine ⟨opAt ns a.at_,?_⟩
      have hbm:b ∈ st:=List.mem_of_mem_drop (i:=st.length - n.kids.toNat) (by rw [hab];simp)
      rw [List.length_map,← List.map_drop,hab]
      show [_,opAt ns b.at_]=_
      rw [sort_four ((hs b hbm).symm.trans hb)]
     ·rw [List.map_append,List.map_take] at ih
      rw [List.length_map]
      have e:(List.map (fun t:ThingD=>opAt ns t.at_) [⟨sortI n.op,d + 1,i⟩])=[n.op]:=by
       show [opAt ns i]=_
       rw [opAt_of hn]
      rw [e] at ih
      exact ih
  ·cases h
theorem fit_check {ns:List NodeD} {tests:Bool} (h:checkC ns tests=0):Fit ns []∧ns.length≤300:=by
 unfold checkC at h
 split at h
 ·cases h
 ·exact ⟨fit_run ns tests ns 0 [] 0 rfl (fun t ht=>by cases ht) h,by omega⟩
def partF (ns:List NodeD) (ts:List Tx) (l:List Nat):List (Tx × Int):=l.map fun p=>(ts.getD p [],opAt ns p)
def toldR (ns:List NodeD) (P:List (List Nat)):Nat→Nat→List Tx→Option (List Tx)
 | 0,_,ts=>some ts
 | m + 1,i,ts=>match ns[i]? with
  | none=>none
  | some n=>if 1000 < (tellF n (barsF n.op 0 (partF ns ts (P.getD i [])))).length then none else toldR ns P m (i + 1) (ts++[tellF n (barsF n.op 0 (partF ns ts (P.getD i [])))])
theorem toldR_succ {ns:List NodeD} {P:List (List Nat)} {m i:Nat} {ts:List Tx} {n:NodeD} (hn:ns[i]? = some n):toldR ns P (m + 1) i ts=if 1000 < (tellF n (barsF n.op 0 (partF ns ts (P.getD i [])))).length then none else toldR ns P m (i + 1) (ts++[tellF n (barsF n.op 0 (partF ns ts (P.getD i [])))]):=by
 conv=>lhs;unfold toldR
 rw [hn]
structure ShNode (ns:List NodeD) (parts:List (List Nat)) (i:Nat) (n:NodeD):Prop where
 fields:fieldsB n=true
 kids:kidsB n.op n.kids=true
 parts:∃ l,parts[i]? = some l∧(l.length:Int)=n.kids∧∀ p ∈ l,p < i
theorem getD_grown {ts:List Tx} {s:Tx} {p:Nat} (h:p < ts.length):(ts++[s]).getD p []=ts.getD p []:=by
 rw [List.getD_eq_getElem?_getD,List.getD_eq_getElem?_getD,List.getElem?_append_left h]
theorem getD_last {ts:List Tx} {s:Tx}:(ts++[s]).getD ts.length []=s:=by
 rw [List.getD_eq_getElem?_getD,List.getElem?_append_right (Nat.le_refl _),Nat.sub_self];rfl
theorem partF_grown {ns:List NodeD} {ts:List Tx} {s:Tx} {l:List Nat} (h:∀ p ∈ l,p < ts.length):partF ns (ts++[s]) l=partF ns ts l:=
 List.map_congr_left fun p hp=>by rw [getD_grown (h p hp)]
theorem place_law (ns:List NodeD):∀ (rest:List NodeD) (i:Nat) (hv:List Nat) (ps:List (List Nat)),ns.drop i=rest→i≤ns.length→ps.length=i→(∀ p ∈ hv,p < i)→(∀ l x,hv=l++[x]→x + 1=i)→Fit rest (hv.map (opAt ns))→
  ∃ parts,placeF ns rest.length i hv ps=some (parts,[ns.length - 1])∧(∀ j,j < i→parts[j]? = ps[j]?)∧parts.length=ns.length∧(∀ j n,i≤j→ns[j]? = some n→ShNode ns parts j n)∧
   ∀ ts:List Tx,ts.length=i→(showF rest (partF ns ts hv)=none∧toldR ns parts rest.length i ts=none)∨∃ ts',toldR ns parts rest.length i ts=some ts'∧ts'.length=ns.length∧showF rest (partF ns ts hv)=some (partF ns ts' [ns.length - 1])
 | [],i,hv,ps,hd,hi,hps,hlt,hlast,hF=>by
  have hi2:i=ns.length:=by
   have:=congrArg List.length hd
   simp at this
   omega
  have h1:(hv.map (opAt ns)).length=1:=hF
  rw [List.length_map] at h1
  obtain ⟨x,rfl⟩:=List.length_eq_one_iff.1 h1
  have hx:=hlast [] x rfl
  obtain rfl:x=ns.length - 1:=by omega
  refine ⟨ps,rfl,fun _ _=>rfl,by omega,fun j n hj hn=>?_,fun ts hts=>Or.inr ⟨ts,rfl,by omega,rfl⟩⟩
  have:=(List.getElem?_eq_some_iff.1 hn).1
  omega
 | n :: rest,i,hv,ps,hd,hi,hps,hlt,hlast,hF=>by
  have hn:ns[i]? = some n:=by rw [← List.head?_drop,hd];rfl
  have hil:i < ns.length:=(List.getElem?_eq_some_iff.1 hn).1
  have hd' : ns.drop (i + 1)=rest:=by rw [← List.drop_drop,hd];rfl
  obtain ⟨f1,f2,f3,-,f5⟩:=hF
  rw [List.length_map] at f3 f5
  obtain ⟨cut,hcut⟩:∃ c,hv.length - n.kids.toNat=c:=⟨_,rfl⟩
  rw [hcut] at f5
  have hk0:=kidsB_nonneg f2
  have h5:Fit rest ((hv.take cut++[i]).map (opAt ns)):=by
   rw [List.map_append,List.map_take]
   show Fit rest (_++[opAt ns i])
   rw [opAt_of hn]
   exact f5
  obtain ⟨parts,g1,g2,g3,g4,g5⟩:=place_law ns rest (i + 1) (hv.take cut++[i]) (ps++[hv.drop cut]) hd' hil (by simp [hps]) (fun p hp=>by
   rcases List.mem_append.1 hp with hp|hp
   ·have:=hlt p (List.mem_of_mem_take hp)
    omega
   ·rw [List.mem_singleton.1 hp];omega) (fun l x e=>by
   have:=List.append_inj_right' e rfl
   cases this
   rfl) h5
  have hp:placeF ns (n :: rest).length i hv ps=some (parts,[ns.length - 1]):=by
   rw [List.length_cons]
   unfold placeF
   rw [hn]
   show (if kidsB n.op n.kids && decide (n.kids≤hv.length) then _ else none)=_
   rw [f2,decide_eq_true f3,if_pos (by rfl),hcut]
   exact g1
  have hpi:parts[i]? = some (hv.drop cut):=by
   rw [g2 i (by omega),List.getElem?_append_right (by omega),hps,Nat.sub_self]
   rfl
  refine ⟨parts,hp,fun j hj=>by rw [g2 j (by omega),List.getElem?_append_left (by omega)],g3,fun j m hj hm=>?_,fun ts hts=>?_⟩
  ·rcases Nat.eq_or_lt_of_le hj with rfl|hj
   ·rw [hn] at hm
    cases hm
    exact ⟨f1,f2,_,hpi,by rw [List.length_drop];omega,fun p hp=>hlt p (List.mem_of_mem_drop hp)⟩
   ·exact g4 j m hj hm
  ·have hgd:parts.getD i []=hv.drop cut:=by rw [List.getD_eq_getElem?_getD,hpi];rfl
   have hpush:pushF n (partF ns ts hv)=tellF n (barsF n.op 0 (partF ns ts (hv.drop cut))):=by
    unfold pushF partF
    rw [List.length_map,hcut,List.map_drop]
   obtain ⟨s,hs⟩:∃ s,tellF n (barsF n.op 0 (partF ns ts (hv.drop cut)))=s:=⟨_,rfl⟩
   have hT:toldR ns parts (n :: rest).length i ts=if 1000 < s.length then none else toldR ns parts rest.length (i + 1) (ts++[s]):=by
    rw [List.length_cons,toldR_succ hn,hgd,hs]
   have hS:showF (n :: rest) (partF ns ts hv)=if 1000 < s.length then none else showF rest (partF ns (ts++[s]) (hv.take cut++[i])):=by
    show (if 1000 < (pushF n (partF ns ts hv)).length then none else showF rest ((partF ns ts hv).take ((partF ns ts hv).length - n.kids.toNat)++[(pushF n (partF ns ts hv),n.op)]))=_
    rw [hpush,hs]
    have e:partF ns (ts++[s]) (hv.take cut++[i])=(partF ns ts hv).take ((partF ns ts hv).length - n.kids.toNat)++[(s,n.op)]:=by
     have e1:partF ns (ts++[s]) (hv.take cut++[i])=partF ns (ts++[s]) (hv.take cut)++partF ns (ts++[s]) [i]:=List.map_append
     rw [e1,partF_grown (fun p hp=>by rw [hts];exact hlt p (List.mem_of_mem_take hp))]
     have e2:partF ns (ts++[s]) [i]=[(s,n.op)]:=by
      show [((ts++[s]).getD i [],opAt ns i)]=_
      rw [← hts,getD_last,hts,opAt_of hn]
     rw [e2]
     unfold partF
     rw [List.length_map,hcut,List.map_take]
    rw [e]
   rw [hT,hS]
   split
   ·exact Or.inl ⟨rfl,rfl⟩
   ·exact g5 (ts++[s]) (by simp [hts])
theorem told_law {ns:List NodeD} {tests:Bool} (h:checkC ns tests=0):∃ parts,placeF ns ns.length 0 [] []=some (parts,[ns.length - 1])∧parts.length=ns.length∧(∀ j n,ns[j]? = some n→ShNode ns parts j n)∧
  ((showF ns []=none∧toldR ns parts ns.length 0 []=none)∨∃ ts,toldR ns parts ns.length 0 []=some ts∧ts.length=ns.length∧showF ns []=some (partF ns ts [ns.length - 1])):=by
 obtain ⟨parts,g1,-,g3,g4,g5⟩:=place_law ns ns 0 [] [] rfl (Nat.zero_le _) rfl (fun p hp=>by cases hp) (fun l x e=>by cases l <;> cases e) (fit_check h).1
 exact ⟨parts,g1,g3,fun j n=>g4 j n (Nat.zero_le _),g5 [] rfl⟩
theorem lens_bd (m:Nat):∀ (l:List Tx),(∀ x ∈ l,x.length≤m)→Lib.lens l≤m * l.length
 | [],_=>by simp [Lib.lens]
 | x :: r,h=>by
  have h1:=lens_bd m r (fun y hy=>h y (List.mem_cons_of_mem _ hy))
  have h2:=h x List.mem_cons_self
  have e:Lib.lens (x :: r)=x.length + Lib.lens r:=by simp [Lib.lens]
  rw [e,List.length_cons,Nat.mul_succ]
  omega
theorem rowF_bd {m:Nat} {l:List Tx} (h:∀ x ∈ l,x.length≤m):(rowF l).length≤(m + 2) * l.length:=by
 cases l with
 | nil=>simp [rowF,Lib.join_nil]
 | cons x r=>
  have h1:=lens_bd m (x :: r) h
  unfold rowF
  rw [Lib.join_length]
  rw [List.length_cons] at h1 ⊢
  simp only [List.length_cons,List.length_nil]
  have e:(m + 2) * (r.length + 1)=m * (r.length + 1) + 2 * (r.length + 1):=Nat.add_mul ..
  rw [e]
  omega
theorem rowF_take {l:List Tx} {k:Nat} {x:Tx} (h:l[k]? = some x):rowF (l.take (k + 1))=if k=0 then x else rowF (l.take k)++[44,32]++x:=by
 cases l with
 | nil=>simp at h
 | cons y r=>
  cases k with
  | zero=>
   cases h
   rw [if_pos rfl]
   exact Lib.join_one _ _
  | succ k=>
   rw [if_neg (by omega),List.take_succ_cons,List.take_succ_cons]
   unfold rowF
   rw [Lib.join_cons,Lib.join_cons,Lib.joinTail_take_succ _ _ _ x (by simpa using h)]
   simp [List.append_assoc]
theorem barsF_len (op:Int):∀ (ps:List (Tx × Int)) (i:Nat),(barsF op i ps).length=ps.length
 | [],_=>rfl
 | _ :: ps,i=>by rw [barsF,List.length_cons,List.length_cons,barsF_len op ps]
theorem lvlF_bd (op:Int):0≤lvlF op∧lvlF op≤7:=by
 unfold lvlF
 repeat' split
 all_goals omega
theorem atF_low {t:Tx} {a b:Int} (h:¬ a < b):atF t a b=t:=if_neg h
theorem atF_high {t:Tx} {a b:Int} (h:a < b):atF t a b=40 :: (t++[41]):=if_pos h
theorem atF_bd (t:Tx) (a b:Int):(atF t a b).length≤t.length + 2:=by
 unfold atF
 split
 ·simp
 ·omega
theorem barsF_plain {op:Int} (h:∀ i,askF op i=0):∀ (ps:List (Tx × Int)) (i:Nat),barsF op i ps=ps.map (·.1)
 | [],_=>rfl
 | p :: ps,i=>by
  rw [barsF,barsF_plain h ps,h,atF_low (by have:=(lvlF_bd p.2).1;omega)]
  rfl
theorem ask_zero {op:Int} (h:op=21∨25≤op∧op≤29∨36≤op):∀ i,askF op i=0:=by
 intro i
 unfold askF
 repeat (rw [if_neg (by omega)])
theorem txt_dig {n:Nat} (hn:n≠0):txt n=((dig n).map d48).reverse:=by
 induction n using Nat.strongRecOn with
 | ind n ih=>
  rw [dig_pos hn,List.map_cons,List.reverse_cons]
  by_cases h:n < 10
  ·rw [txt_small h,show n / 10=0 by omega,dig_zero,Nat.mod_eq_of_lt h];rfl
  ·rw [txt_big h,ih (n / 10) (by omega) (by omega)]
theorem txt_len (n:Nat):0 < (txt n).length:=by
 rw [txt]
 split <;> simp
theorem txt_bd:∀ (k n:Nat),n < 10 ^ k→(txt n).length≤k + 1
 | 0,n,h=>by rw [txt_small (show n < 10 by simp at h;omega)];simp
 | k + 1,n,h=>by
  by_cases h1:n < 10
  ·rw [txt_small h1];simp
  ·have:=txt_bd k (n / 10) (by rw [Nat.pow_succ] at h;omega)
   rw [txt_big h1,List.length_append]
   simp
   omega
theorem padT_len (s:Tx) (sc:Nat):sc < (padT s sc).length:=by
 unfold padT
 split
 ·simp;omega
 ·omega
theorem padT_bd (s:Tx) (sc:Nat):(padT s sc).length≤s.length + sc + 1:=by
 unfold padT
 split
 ·simp;omega
 ·omega
end
end Go.Proofs.YtnghlakllgkjlaaGreatDoor
