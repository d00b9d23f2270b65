/- The stack of check's machine as it lies; small laws. The machine in plain words: its types are in form, its stack is small; its height is that of expr.Check. step of check: an expression. Printed by wip/tools/gen_step.py. step of check: tests together. Printed by wip/tools/gen_step.py. step of check: tests. Printed by wip/tools/gen_step.py. -/
import Derived.Test.YtheimopjglkgjaaGreatDoorChkT
import Derived.Test.YtheimopjglkgjaaGreatDoorSepA
namespace Go.Proofs.YtheimopjglkgjaaGreatDoor
open Go.RowKit
set_option linter.unusedVariables false
set_option linter.unusedSimpArgs false

/-- A thing as it lies: its tests in a row of their own, or none. -/
def StIn (T:List Res) (x:ThT) (d:ThD):Prop:=x.t=d.t∧x.n=d.qs.length∧(Res.row x.q x.c 104 3 d.qs.length (d.qs.flatMap AskD.cs) ∈ T∨(x.q=none∧d.qs=[]))
def StOk (T:List Res):List ThT→List ThD→Prop
 | [],[]=>True
 | x :: ts,d :: ds=>StIn T x d∧StOk T ts ds
 | _,_=>False
theorem StIn.mono {T T' : List Res} {x:ThT} {d:ThD} (h:StIn T x d) (hT:∀ r,r ∈ T→r ∈ T'):StIn T' x d:=⟨h.1,h.2.1,h.2.2.imp (hT _) id⟩
theorem StOk.mono {T T' : List Res} (hT:∀ r,r ∈ T→r ∈ T'):∀ {ts:List ThT} {ds:List ThD},StOk T ts ds→StOk T' ts ds
 | [],[],_=>trivial
 | x :: ts,d :: ds,h=>⟨StIn.mono h.1 hT,StOk.mono hT h.2⟩
 | [],_ :: _,h=>h.elim
 | _ :: _,[],h=>h.elim
theorem StOk.len {T:List Res}:∀ {ts:List ThT} {ds:List ThD},StOk T ts ds→ts.length=ds.length
 | [],[],_=>rfl
 | x :: ts,d :: ds,h=>by rw [List.length_cons,List.length_cons,StOk.len h.2]
 | [],_ :: _,h=>h.elim
 | _ :: _,[],h=>h.elim
theorem StOk.drop {T:List Res}:∀ (k:Nat) {ts:List ThT} {ds:List ThD},StOk T ts ds→StOk T (ts.drop k) (ds.drop k)
 | 0,_,_,h=>h
 | _ + 1,[],[],_=>trivial
 | k + 1,_ :: _,_ :: _,h=>StOk.drop k h.2
 | _ + 1,[],_ :: _,h=>h.elim
 | _ + 1,_ :: _,[],h=>h.elim
theorem StOk.take {T:List Res}:∀ (k:Nat) {ts:List ThT} {ds:List ThD},StOk T ts ds→StOk T (ts.take k) (ds.take k)
 | 0,_,_,_=>trivial
 | _ + 1,[],[],_=>trivial
 | k + 1,_ :: _,_ :: _,h=>⟨h.1,StOk.take k h.2⟩
 | _ + 1,[],_ :: _,h=>h.elim
 | _ + 1,_ :: _,[],h=>h.elim
theorem StOk.push {T:List Res}:∀ {ts:List ThT} {ds:List ThD} {x:ThT} {d:ThD},StOk T ts ds→StIn T x d→StOk T (ts++[x]) (ds++[d])
 | [],[],_,_,_,h=>⟨h,trivial⟩
 | _ :: _,_ :: _,_,_,h,h'=>⟨h.1,StOk.push h.2 h'⟩
 | [],_ :: _,_,_,h,_=>h.elim
 | _ :: _,[],_,_,h,_=>h.elim
theorem StOk.at_ {T:List Res}:∀ {ts:List ThT} {ds:List ThD} {k:Nat} {x:ThT},StOk T ts ds→ts[k]? = some x→∃ d,ds[k]? = some d∧StIn T x d
 | [],_,k,x,_,h=>by simp at h
 | y :: ts,d :: ds,0,x,h,hx=>by
  simp only [List.getElem?_cons_zero,Option.some.injEq] at hx
  subst hx
  exact ⟨d,rfl,h.1⟩
 | y :: ts,d :: ds,k + 1,x,h,hx=>StOk.at_ (k:=k) h.2 (by simpa using hx)
 | _ :: _,[],_,_,h,_=>h.elim
theorem StIn.sl {T:List Res} {x:ThT} {d:ThD} (h:StIn T x d) {B:Nat} {W:World} (hT:∀ r,r ∈ T→r.holds B W):Sl W x.q (d.qs.flatMap AskD.cs):=by
 rcases h.2.2 with hm | ⟨h1,h2⟩
 ·exact sl_row AskD.cs 3 AskD.cs_len (hT _ hm)
 ·rw [h1,h2]
  exact ⟨fun _=>rfl,fun a e=>by cases e⟩
theorem StIn.ok {T:List Res} {x:ThT} {d:ThD} (h:StIn T x d) {B:Nat} {W:World} (hT:∀ r,r ∈ T→r.holds B W):ThOk W x d:=⟨h.1,h.2.1,h.sl hT⟩
theorem StOk.ths {T:List Res} {B:Nat} {W:World} (hT:∀ r,r ∈ T→r.holds B W):∀ {ts:List ThT} {ds:List ThD},StOk T ts ds→ThsOk W ts ds
 | [],[],_=>trivial
 | x :: ts,d :: ds,h=>⟨StIn.ok h.1 hT,StOk.ths hT h.2⟩
 | [],_ :: _,h=>h.elim
 | _ :: _,[],h=>h.elim
theorem Mem.chk {w0 W:World} {L:List Res} (h:Mem w0 W L) {gc gm:Nat} {t:TypeId} {sv:Value} {l:List SymD} (i j:Nat) (hi:L[i]? = some (.box gc t [.map (some gm),sv])) (hj:L[j]? = some (.map gm (mapEs (symE l)) (symE l).length)):CheckerAt W gc gm sv l:=
 ⟨box_cells (h.get hi) 0,(h.get hj).2⟩
/-- What a step leaves. -/
def StepPost (w0:World) (gc gm:Nat) (T:List Res) (l:List SymD) (nds:List ThD) (r:Int) (e:Ending) (w' : World):Prop:=
 e = .returned (.int .i64 r)∧∃ sq cap st R,Mem w0 w' (.box gc 73 [.map (some gm),.slice sq st.length cap] :: .row sq cap 76 3 st.length (st.flatMap ThT.cs) :: .map gm (mapEs (symE l)) (symE l).length :: (R++T))∧StOk (R++T) st nds
theorem sizeT_cons (d:ThD) (ds:List ThD):sizeT (d :: ds)=d.qs.length + 1 + sizeT ds:=by unfold sizeT;rw [List.map_cons,List.sum_cons]
theorem sizeT_append (a b:List ThD):sizeT (a++b)=sizeT a + sizeT b:=by unfold sizeT;rw [List.map_append,List.sum_append]
theorem sizeT_drop (ds:List ThD) (k:Nat):sizeT (ds.take k) + sizeT (ds.drop k)=sizeT ds:=by rw [← sizeT_append,List.take_append_drop]
theorem sizeT_len (ds:List ThD):ds.length≤sizeT ds:=by
 induction ds with
 | nil=>exact Nat.zero_le _
 | cons d ds ih=>rw [sizeT_cons,List.length_cons];omega
theorem sizeT_flat (ds:List ThD):(ds.flatMap ThD.qs).length + ds.length=sizeT ds:=by
 induction ds with
 | nil=>rfl
 | cons d ds ih=>rw [sizeT_cons,List.flatMap_cons,List.length_append,List.length_cons];omega
theorem sizeT_mem {ds:List ThD} {d:ThD} (h:d ∈ ds):d.qs.length≤sizeT ds:=by
 induction ds with
 | nil=>cases h
 | cons x ds ih=>
  rw [sizeT_cons]
  rcases List.mem_cons.1 h with rfl|h
  ·omega
  ·have:=ih h;omega
theorem stack_flat (st:List ThT) (x:ThT) (cut:Nat):(st.flatMap ThT.cs).take (cut * 3)++x.cs=(st.take cut++[x]).flatMap ThT.cs:=by
 rw [flat_take ThT.cs 3 ThT.cs_len,List.flatMap_append,List.flatMap_singleton]
theorem stack_len {st:List ThT} {cut:Nat} (x:ThT) (h:cut≤st.length):(st.take cut++[x]).length=cut + 1:=by rw [List.length_append,List.length_take];simp;omega
end Go.Proofs.YtheimopjglkgjaaGreatDoor

namespace Go.Proofs.YtheimopjglkgjaaGreatDoor
open Go.RowKit
set_option linter.unusedVariables false
set_option linter.unusedSimpArgs false

theorem form_zero:TyD.form ⟨0,0⟩:=by unfold TyD.form;decide
theorem toldF_form {ok:Bool} {t:TyD} (h:t.form):(toldF ok t).1.form:=by unfold toldF;split;exact h;exact form_zero
theorem joinT_form {k o k' o' : Int} (h:formB k o=true) (h' : formB k' o' = true):formB (joinT k o k' o').1 (joinT k o k' o').2=true:=by
 rw [← joinF_eq h h']
 exact joinF_form k o k' o' 10 (Nat.le_refl _)
theorem itemsG_form:∀ (l:List TyD) (i:Nat) (k:Int),0≤k∧k≤4→(itemsG i k l).form
 | [],i,k,h=>by unfold TyD.form;exact (formB_iff _ _).2 (Or.inr ⟨rfl,h⟩)
 | t :: l,i,k,h=>by
  rw [itemsG_cons]
  split
  ·unfold TyD.form;decide
  ·rename_i hc
   exact itemsG_form l (i + 1) t.k (by omega)
theorem lookT_form {l:List SymD} (h:∀ s,s ∈ l→s.t.form) (n:ByteArray) {t:TyD} (ht:lookT n l=some t):t.form:=by
 induction l with
 | nil=>cases ht
 | cons s l ih=>
  unfold lookT at ht
  split at ht
  ·cases ht;exact h s (by simp)
  ·exact ih (fun s hs=>h s (by simp [hs])) ht
theorem leafF_form {l:List SymD} (h:∀ s,s ∈ l→s.t.form) (op:Int) (n:ByteArray):(leafF l op n).1.form:=by
 unfold leafF
 split
 ·show TyD.form ⟨1,0⟩;unfold TyD.form;decide
 split
 ·show TyD.form ⟨2,0⟩;unfold TyD.form;decide
 split
 ·show TyD.form ⟨3,0⟩;unfold TyD.form;decide
 split
 ·show TyD.form ⟨4,0⟩;unfold TyD.form;decide
 split
 ·split
  ·rename_i t ht
   exact lookT_form h n ht
  ·exact form_zero
 ·exact form_zero
theorem callF_form (s:List UInt8) (ts:List TyD):(callF (fnF s) ts).1.form:=by
 unfold callF
 split
 ·exact form_zero
 ·rename_i tk g hf
  split
  ·split
   ·exact (fnF_form hf).2
   ·exact form_zero
  ·exact form_zero
theorem addF_form (ts:List TyD):(addF ts).1.form:=by
 unfold addF
 split
 ·exact form_zero
 split
 ·show TyD.form ⟨3,0⟩;unfold TyD.form;decide
 ·exact toldF_form (by unfold TyD.form;decide)
theorem typedF_form {l:List SymD} (h:∀ s,s ∈ l→s.t.form) (op:Int) (n:ByteArray) (ds:List ThD) (hd:∀ d,d ∈ ds→ThForm d):(typedF l op n ds).1.form:=by
 have h1:TyD.form ⟨1,0⟩:=by unfold TyD.form;decide
 have h2:TyD.form ⟨2,0⟩:=by unfold TyD.form;decide
 unfold typedF
 split
 ·exact toldF_form h2
 split
 ·exact addF_form _
 split
 ·split
  ·exact toldF_form h1
  ·exact form_zero
 split
 ·split
  ·exact toldF_form h1
  ·exact form_zero
 split
 ·exact toldF_form h1
 split
 ·split
  ·rename_i x y z
   exact toldF_form (joinT_form (hd y (by simp)).1 (hd z (by simp)).1)
  ·exact form_zero
 split
 ·split
  ·exact toldF_form h1
  ·exact form_zero
 split
 ·split
  ·exact toldF_form h1
  ·exact form_zero
 split
 ·split
  ·exact toldF_form form_zero
  ·exact form_zero
 split
 ·exact callF_form _ _
 split
 ·exact itemsG_form _ 0 0 (by omega)
 ·exact leafF_form h _ _
theorem stepT_form {l:List SymD} (h:∀ s,s ∈ l→s.t.form) (ds:List ThD) (n:NodeD) (hd:∀ d,d ∈ ds→ThForm d):ThForm (stepT l ds n).1:=by
 have hp:∀ d,d ∈ partsD n ds→ThForm d:=fun d hm=>hd d (List.mem_of_mem_drop hm)
 unfold stepT
 split
 ·refine ⟨form_zero,fun a ha=>?_⟩
  obtain ⟨d,hm,ha'⟩:=List.mem_flatMap.1 ha
  exact (hp d hm).2 a ha'
 split
 ·refine ⟨form_zero,fun a ha=>?_⟩
  obtain ⟨d,hm,rfl⟩:=List.mem_map.1 ha
  exact (hp d hm).1
 ·exact ⟨typedF_form h _ _ _ hp,fun a ha=>by cases ha⟩
theorem nextT_form {l:List SymD} (h:∀ s,s ∈ l→s.t.form) (ds:List ThD) (n:NodeD) (hd:∀ d,d ∈ ds→ThForm d):∀ d,d ∈ nextT l ds n→ThForm d:=fun d hm=>by
 unfold nextT at hm
 rcases List.mem_append.1 hm with hm|hm
 ·exact hd d (List.mem_of_mem_take hm)
 ·rw [List.mem_singleton.1 hm]
  exact stepT_form h ds n hd
theorem nextT_size (l:List SymD) (ds:List ThD) (n:NodeD):sizeT (nextT l ds n)≤sizeT ds + 1:=by
 have h1:=sizeT_drop ds (ds.length - n.kids.toNat)
 have h2:=sizeT_flat (partsD n ds)
 have h3:=sizeT_len (partsD n ds)
 have h4:sizeT (partsD n ds)=sizeT (ds.drop (ds.length - n.kids.toNat)):=rfl
 unfold nextT
 rw [sizeT_append,sizeT_cons]
 have h5:(stepT l ds n).1.qs.length≤sizeT (partsD n ds):=by
  unfold stepT
  split
  ·show ((partsD n ds).flatMap ThD.qs).length≤_;omega
  split
  ·show ((partsD n ds).map _).length≤_;rw [List.length_map];exact h3
  ·exact Nat.zero_le _
 have h6:sizeT ([]:List ThD)=0:=rfl
 omega
theorem nextT_len (l:List SymD) (ds:List ThD) (n:NodeD):(nextT l ds n).length=ds.length - n.kids.toNat + 1:=by
 unfold nextT
 rw [List.length_append,List.length_take]
 simp
/-- Of a step of expr.Check that goes on. -/
theorem stepC_ok {ns:List NodeD} {st st' : List ThingD} {i:Nat} {n:NodeD} {d:Int} (h:stepC ns st i n=some (st',d)):kidsB n.op n.kids=true∧n.kids≤st.length∧st'.length=st.length - n.kids.toNat + 1:=by
 unfold stepC at h
 split at h
 ·rename_i hc
  simp only [Bool.and_eq_true,decide_eq_true_eq] at hc
  split at h
  ·cases h
  ·split at h
   ·cases h
   ·cases h
    refine ⟨hc.1.2,hc.2,?_⟩
    rw [List.length_append,List.length_take]
    simp
 ·cases h
theorem runC_next {ns:List NodeD} {tests:Bool} {n:NodeD} {rest:List NodeD} {i:Nat} {st:List ThingD} {deep:Int} (h:runC ns tests (n :: rest) i st deep=0):kidsB n.op n.kids=true∧n.kids≤st.length∧∃ st' deep',st'.length=st.length - n.kids.toNat + 1∧runC ns tests rest (i + 1) st' deep' = 0:=by
 rw [runC_cons] at h
 cases hs:stepC ns st i n with
 | none=>rw [hs] at h;cases h
 | some x=>
  obtain ⟨st',d⟩:=x
  rw [hs] at h
  obtain ⟨h1,h2,h3⟩:=stepC_ok hs
  exact ⟨h1,h2,st',_,h3,h⟩
theorem runC_end {ns:List NodeD} {tests:Bool} {i:Nat} {st:List ThingD} {deep:Int} (h:runC ns tests [] i st deep=0):st.length=1:=by
 have h1:endC tests st deep=0:=h
 unfold endC at h1
 match st,h1 with
 | [t],_=>rfl
 | [],h=>simp at h
 | _ :: _ :: _,h=>simp at h
theorem checkC_ok {ns:List NodeD} {tests:Bool} (h:checkC ns tests=0):ns.length≤300∧runC ns tests ns 0 [] 0=0:=by
 unfold checkC at h
 split at h
 ·cases h
 ·exact ⟨by omega,h⟩
/-- What a run that goes through leaves. -/
theorem runT_inv {l:List SymD} (hl:∀ s,s ∈ l→s.t.form) {ns:List NodeD} {tests:Bool}:∀ (rest:List NodeD) (i:Nat) (ds:List ThD) (cst:List ThingD) (deep:Int),cst.length=ds.length→runC ns tests rest i cst deep=0→sizeT ds≤i→(∀ d,d ∈ ds→ThForm d)→ThForm (runT l rest ds).1∧(runT l rest ds).1.qs.length≤i + rest.length
 | [],i,ds,cst,deep,hc,hr,hz,hf=>by
  obtain ⟨d,rfl⟩:=one_of (hc▸runC_end hr)
  refine ⟨hf d (by simp),?_⟩
  rw [sizeT_cons] at hz
  show d.qs.length≤i + 0
  omega
 | n :: rest,i,ds,cst,deep,hc,hr,hz,hf=>by
  obtain ⟨hk,hkl,cst',deep',hcl',hcr'⟩:=runC_next hr
  unfold runT
  split
  ·have h:=runT_inv hl rest (i + 1) (nextT l ds n) cst' deep' (by rw [hcl',nextT_len,hc]) hcr' (Nat.le_trans (nextT_size l ds n) (Nat.succ_le_succ hz)) (nextT_form hl ds n hf)
   rw [List.length_cons]
   exact ⟨h.1,by omega⟩
  ·exact ⟨⟨form_zero,fun a ha=>by cases ha⟩,Nat.zero_le _⟩
theorem runT_good {l:List SymD} (hl:∀ s,s ∈ l→s.t.form) {ns:List NodeD} {tests:Bool} (h:ns.length≤300) (hr:runC ns tests ns 0 [] 0=0):(∀ a,a ∈ (runT l ns []).1.qs→a.t.form)∧(runT l ns []).1.qs.length≤301:=by
 have h1:=runT_inv hl ns 0 [] [] 0 rfl hr (Nat.zero_le _) (fun d hd=>by cases hd)
 exact ⟨h1.1.2,by omega⟩
end Go.Proofs.YtheimopjglkgjaaGreatDoor

namespace Go.Proofs.YtheimopjglkgjaaGreatDoor
open Go.RowKit
set_option linter.unusedVariables false
set_option linter.unusedSimpArgs false
set_option maxRecDepth 100000

set_option maxHeartbeats 8000000 in
theorem step_E (w0 W:World) (gc gm cap:Nat) (sq:Option Addr) (T:List Res) (l:List SymD) (st:List ThT) (ds:List ThD) (n:NodeD) (hop:n.op < 30)
  (HM0:Mem w0 W (.box gc 73 [.map (some gm),.slice sq st.length cap] :: .row sq cap 76 3 st.length (st.flatMap ThT.cs) :: .map gm (mapEs (symE l)) (symE l).length :: T))
  (hO:StOk T st ds) (hF:∀ d,d ∈ ds→ThForm d) (hk:kidsB n.op n.kids=true) (hkl:n.kids≤st.length) (hz:sizeT ds≤300) :
  Calls Tryz.prog 54 #[.pointer (some ⟨gc,0,none⟩),.agg n.cs.toArray] W (StepPost w0 gc gm T l (nextT l ds n) (stepT l ds n).2):=by
 obtain ⟨op,kids,text,neg,hi,lo,sc,day⟩:=n
 have hkn:0≤kids:=kidsB_nonneg hk
 obtain ⟨m,rfl⟩:∃ m:Nat,kids=m:=⟨kids.toNat,by omega⟩
 have hml:m≤st.length:=by have h:(m:Int)≤st.length:=hkl;omega
 have hlen:=hO.len
 have hst300:st.length≤300:=by have:=sizeT_len ds;omega
 obtain ⟨cut,hcut⟩:∃ cut,st.length - m=cut:=⟨_,rfl⟩
 have hcm:cut + m=st.length:=by omega
 have hN:nextT l ds ⟨op,m,text,neg,hi,lo,sc,day⟩=ds.take cut++[(stepT l ds ⟨op,m,text,neg,hi,lo,sc,day⟩).1]:=by unfold nextT;rw [← hlen];show ds.take (st.length - ((m:Int)).toNat)++_=_;rw [Int.toNat_natCast,hcut]
 have hP:partsD ⟨op,m,text,neg,hi,lo,sc,day⟩ ds=ds.drop cut:=by unfold partsD;rw [← hlen];show ds.drop (st.length - ((m:Int)).toNat)=_;rw [Int.toNat_natCast,hcut]
 have hsz:=sizeT_drop ds cut
 have hdl:(st.drop cut).length=m:=by rw [List.length_drop];omega
 have hcap0:=(row_cap (HM0.get (k:=1) rfl))
 obtain ⟨⟨⟨rk,ro⟩,re⟩,hr⟩:∃ r,typedF l op text (ds.drop cut)=r:=⟨_,rfl⟩
 have hS1:stepT l ds ⟨op,m,text,neg,hi,lo,sc,day⟩=(⟨⟨rk,ro⟩,[]⟩,re):=by
  unfold stepT
  have h:op < 30:=hop
  rw [if_neg (show ¬ (op=36∨op=37) by omega),if_neg (show ¬ (30≤op∧op≤35) by omega),hP]
  show ((⟨(typedF l op text (ds.drop cut)).1,[]⟩:ThD),(typedF l op text (ds.drop cut)).2)=_
  rw [hr]
 rw [hS1] at hN
 rw [hS1,hN]
 have HT:=Lib.hid (fun W (q:Option Addr) (c:Nat) (h1:CheckerAt W gc gm (.slice sq st.length cap) l) (h2:Sl W q ((st.drop cut).flatMap ThT.cs)) (h3:ThsOk W (st.drop cut) (ds.drop cut)) (hc:m≤c)=>(show Calls Tryz.prog 86 #[.pointer (some ⟨gc,0,none⟩),.agg (NodeD.cs ⟨op,m,text,neg,hi,lo,sc,day⟩).toArray,.slice q m c] W fun e w'=>e = .returned (.tuple #[.agg #[.int .i64 rk,.int .i64 ro],.int .i64 re])∧Below W.heap.size W w' from by
  have h4:=typed_any gc gm (.slice sq st.length cap) l ⟨op,m,text,neg,hi,lo,sc,day⟩ q c (st.drop cut) (ds.drop cut) W h1 h2 h3 (fun d hd=>hF d (List.mem_of_mem_drop hd)) (by rw [hdl];exact hk) (by rw [hdl];exact hc) (by rw [hdl];omega) (fun d hd=>by have h5:=sizeT_mem hd;omega)
  rw [hdl,show typedF l (NodeD.op ⟨op,m,text,neg,hi,lo,sc,day⟩) (NodeD.text ⟨op,m,text,neg,hi,lo,sc,day⟩) (ds.drop cut)=((⟨rk,ro⟩,re):TyD × Int) from hr] at h4
  exact h4))
 have HO:=Lib.hid hO
 have HOd:=Lib.hid (hO.drop cut)
 have HM:=Lib.hid HM0
 have HCM:=Lib.hid hcm
 have hcap:=Lib.hid (row_cap (HM0.get (k:=1) rfl)).1
 have hmx:=(row_cap (HM0.get (k:=1) rfl)).2.1
 unfold maxLen at hmx
 have HZ:=Lib.hid hz
 have HSZ:=Lib.hid hsz
 have HDL:=Lib.hid hdl
 have h30:op < 30:=hop
 have b36:(op == 36)=false:=beq_false_of_ne (by omega)
 have b37:(op == 37)=false:=beq_false_of_ne (by omega)
 have HWR:=Lib.hid (show IntKind.i64.wrap ((st.length:Int) - (m:Int))=(cut:Int) by
  rw [show (st.length:Int) - (m:Int)=(cut:Int) by omega]
  exact IntWalk.i64_in _ (by omega))
 clear hO hF hk hkl hz hsz hdl hP HM0 hop hkn hlen hcut hr hS1 hN hcap0
 go_enter Tryz.func54,Tryz.ntmps54
 go_wp2_with (first|((with_reducible refine skip_op ?_ ?_);exact rfl)|refine mP ?_|(refine mS ?_;clear HM;intro W1 HM)|(refine hbs1A HM rfl rfl rfl rfl ?_;clear HM;intro g1 W1 HM)|(refine hbxA (dst:=some 3) HM rfl rfl ?_;clear HM;intro g3 W1 HM)|(refine hal (dst:=some 7) HM rfl ?_;clear HM;intro g7 W1 HM)|(refine hal HM rfl ?_;clear HM;intro g1 W1 HM))
 have HWR1:=HWR.out
 have hcm2:cut + m≤st.length:=Nat.le_of_eq HCM.out
 have hcm3:st.length≤cut + m:=Nat.le_of_eq HCM.out.symm
 refine wp_region_steps2 [(true,0),(true,1),(true,2),(true,3),(true,4),(true,5),(true,6),(true,7),(true,8)] (by kernel_rfl) (by kernel_rfl) rfl (by kernel_rfl) (fun _ _ _ _ _ h=>h) HM.out _ (.cons_cons _ (.cons_cons _ (List.nil_sublist _))) ?_
 intro hNE W1 HM1;replace HM:=Lib.hid HM1;clear HM1
 have HS0:=Lib.hid (HM.out.sub (.cons_cons _ (.cons_cons _ (List.nil_sublist _))))
 simp only [wpSteps,List.getElem?_cons_succ,List.getElem?_cons_zero]
 (repeat (first|refine mQ ?_|((with_reducible refine wpQuiet_nil ?_);(try dsimp only))|go_big_quiet_step (fail)|quiet_step (fail)))
 clear HS0 hNE
 clear HWR1
 go_upto_region 5 with (first|((with_reducible refine iat 26 ?_);(refine slf rfl rfl (m:=cut) (l:=m) rfl (by omega) hcap.out (by omega) ?_;intro q2 hq2;have HQ2:=Lib.hid hq2;clear hq2))|((with_reducible refine igd ?_);(with_reducible refine skip_op ?_ ?_);(exact rfl))|((with_reducible refine inilCheck ?_);(refine lnil rfl ?_))|((with_reducible refine iload ?_);first|refine ldb1 HM.out 0 rfl rfl rfl ?_|refine ldb1 HM.out 1 rfl rfl rfl ?_|refine ldb1 HM.out 2 rfl rfl rfl ?_|refine ldb1 HM.out 3 rfl rfl rfl ?_|refine ldbW HM.out 0 rfl rfl rfl ?_|refine ldbW HM.out 1 rfl rfl rfl ?_|refine ldbW HM.out 2 rfl rfl rfl ?_|refine ldbW HM.out 3 rfl rfl rfl ?_|((first|refine ldbS HM.out 0 rfl rfl rfl ?_|refine ldbS HM.out 1 rfl rfl rfl ?_|refine ldbS HM.out 2 rfl rfl rfl ?_|refine ldbS HM.out 3 rfl rfl rfl ?_);simp only [List.take,List.drop]))|((with_reducible refine istore ?_);(first|((first|refine stb1 (v:=.slice _ _ _) rfl HM.out 0 rfl rfl rfl rfl rfl ?_|refine stb1 (v:=.slice _ _ _) rfl HM.out 1 rfl rfl rfl rfl rfl ?_|refine stb1 (v:=.slice _ _ _) rfl HM.out 2 rfl rfl rfl rfl rfl ?_|refine stb1 (v:=.slice _ _ _) rfl HM.out 3 rfl rfl rfl rfl rfl ?_|refine stbW rfl HM.out 0 rfl rfl rfl rfl rfl rfl ?_|refine stbW rfl HM.out 1 rfl rfl rfl rfl rfl rfl ?_|refine stbW rfl HM.out 2 rfl rfl rfl rfl rfl rfl ?_|refine stbW rfl HM.out 3 rfl rfl rfl rfl rfl rfl ?_);intro W1 HM1;replace HM:=Lib.hid HM1;clear HM1;simp only [List.set] at HM)|((first|refine stbS rfl HM.out 0 rfl rfl rfl rfl rfl rfl ?_|refine stbS rfl HM.out 1 rfl rfl rfl rfl rfl rfl ?_|refine stbS rfl HM.out 2 rfl rfl rfl rfl rfl rfl ?_|refine stbS rfl HM.out 3 rfl rfl rfl rfl rfl rfl ?_);intro W1 HM1;replace HM:=Lib.hid HM1;clear HM1;simp only [lss,Nat.reduceAdd] at HM)))|((with_reducible refine ibuildSlice ?_);refine bs1A rfl HM.out rfl rfl rfl ?_;intro g1 W1 HM1;replace HM:=Lib.hid HM1;clear HM1)|((with_reducible refine ibox (d:=some 3) ?_);refine bxA rfl HM.out rfl ?_;intro g3 W1 HM1;replace HM:=Lib.hid HM1;clear HM1)|((with_reducible refine ialloc (d:=some 7) ?_);refine alb rfl HM.out ?_;intro g7 W1 HM1;replace HM:=Lib.hid HM1;clear HM1)|((with_reducible refine ialloc ?_);refine alb rfl HM.out ?_;intro g1 W1 HM1;replace HM:=Lib.hid HM1;clear HM1))
 have HSl:=Lib.hid (fun W B (h:(Res.row sq cap 76 3 st.length (st.flatMap ThT.cs)).holds B W)=>HQ2.out▸sl_from ThT.cs 3 ThT.cs_len h (m:=cut) (by omega))
 go_wp2_with (first|(go_at_call 86;(with_reducible refine (HT.out _ _ _ (HM.out.chk 2 4 rfl rfl) (HSl.out _ _ (HM.out.get (k:=3) rfl)) (HOd.out.ths (fun r hr=>HM.out.holds r (by simp [hr]))) (by have h:=hcap.out;omega)).mono ?_);rintro e W1 ⟨rfl,hb⟩;replace HM:=Lib.hid (HM.out.next hb);clear hb)|((with_reducible refine skip_op ?_ ?_);exact rfl)|refine mP ?_|(refine mS ?_;clear HM;intro W1 HM)|(refine hbs1A HM rfl rfl rfl rfl ?_;clear HM;intro g1 W1 HM)|(refine hal HM rfl ?_;clear HM;intro g1 W1 HM)|(refine hbxA HM rfl rfl ?_;clear HM;intro g1 W1 HM))
 refine wp_region_fork [(true,0),(true,1),(true,2),(true,3),(true,5),(true,7)] [(false,4),(true,6),(false,8),(false,9),(true,10),(true,11),(false,12)] [(false,8),(false,4),(true,6),(false,9),(true,10),(true,11),(false,12)] (by kernel_rfl) (by kernel_rfl) rfl (by kernel_rfl) (fun _ _ _ _ _ h=>h) HM.out _ (.cons_cons _ (List.nil_sublist _)) ?_
 intro hNE W1 HM1;replace HM:=Lib.hid HM1;clear HM1
 have HS0:=Lib.hid (HM.out.sub (.cons_cons _ (List.nil_sublist _)))
 simp only [wpFork,wpSteps,List.getElem?_cons_succ,List.getElem?_cons_zero]
 (repeat (first|refine mQ ?_|((with_reducible refine wpQuiet_nil ?_);(try dsimp only))|((with_reducible refine qat 90 ?_);(refine qslt (m:=cut) rfl rfl rfl (by have h:=hcap.out;omega) ?_))|go_big_quiet_step (fail)|quiet_step (fail)))
 refine ⟨?_,?_⟩
 ·go_wp2_with (first|refine mP ?_)
  refine ⟨⟨⟨_,HM.out.sub msub⟩,rfl⟩,?_⟩
  (try dsimp only)
  (repeat (first|((with_reducible refine wpQuiet_nil ?_);(try dsimp only))|((with_reducible refine qat 90 ?_);(refine qslt (m:=cut) rfl rfl rfl (by have h:=hcap.out;omega) ?_))|go_big_quiet_step (fail)|quiet_step (fail)))
  go_wp2_with (first|(refine hbs1A HM rfl rfl rfl rfl ?_;clear HM;intro g1 W1 HM))
  refine ⟨⟨⟨_,HM.out.sub msub⟩,rfl⟩,?_⟩
  (try dsimp only)
  go_wp2_with (first|(refine apb rfl HM.out 4 0 rfl rfl rfl rfl rfl rfl (by omega) (by omega) (by omega) ?_;intro p1 cap1 W1 HM1;replace HM:=Lib.hid HM1;clear HM1;simp only [List.set] at HM))
  refine ⟨⟨⟨_,HM.out.sub msub⟩,rfl⟩,?_⟩
  (try dsimp only)
  (repeat (first|refine mQ ?_|((with_reducible refine wpQuiet_nil ?_);(try dsimp only))|go_big_quiet_step (fail)|quiet_step (fail)))
  go_wp2_with (first|(refine mS ?_;clear HM;intro W1 HM))
  refine ⟨⟨⟨_,HM.out.sub msub⟩,rfl⟩,?_⟩
  (try dsimp only)
  clear HS0 hNE
  go_wp2_with fail
  go_ret
  refine ⟨rfl,p1,cap1,st.take cut++[⟨⟨rk,ro⟩,none,0,0⟩],[],?_,(HO.out.take cut).push ⟨rfl,rfl,Or.inr ⟨rfl,rfl⟩⟩⟩
  rw [stack_len _ (by omega),← stack_flat]
  exact HM.out.sub (.cons _ (.cons _ (.cons _ (.refl _))))
 ·go_wp2_with (first|(refine hbs1A HM rfl rfl rfl rfl ?_;clear HM;intro g1 W1 HM))
  refine ⟨⟨⟨_,HM.out.sub msub⟩,rfl⟩,?_⟩
  (try dsimp only)
  go_wp2_with (first|refine mP ?_)
  refine ⟨⟨⟨_,HM.out.sub msub⟩,rfl⟩,?_⟩
  (try dsimp only)
  (repeat (first|((with_reducible refine wpQuiet_nil ?_);(try dsimp only))|((with_reducible refine qat 90 ?_);(refine qslt (m:=cut) rfl rfl rfl (by have h:=hcap.out;omega) ?_))|go_big_quiet_step (fail)|quiet_step (fail)))
  go_wp2_with (first|(refine apb rfl HM.out 4 0 rfl rfl rfl rfl rfl rfl (by omega) (by omega) (by omega) ?_;intro p1 cap1 W1 HM1;replace HM:=Lib.hid HM1;clear HM1;simp only [List.set] at HM))
  refine ⟨⟨⟨_,HM.out.sub msub⟩,rfl⟩,?_⟩
  (try dsimp only)
  (repeat (first|refine mQ ?_|((with_reducible refine wpQuiet_nil ?_);(try dsimp only))|go_big_quiet_step (fail)|quiet_step (fail)))
  go_wp2_with (first|(refine mS ?_;clear HM;intro W1 HM))
  refine ⟨⟨⟨_,HM.out.sub msub⟩,rfl⟩,?_⟩
  (try dsimp only)
  clear HS0 hNE
  go_wp2_with fail
  go_ret
  refine ⟨rfl,p1,cap1,st.take cut++[⟨⟨rk,ro⟩,none,0,0⟩],[],?_,(HO.out.take cut).push ⟨rfl,rfl,Or.inr ⟨rfl,rfl⟩⟩⟩
  rw [stack_len _ (by omega),← stack_flat]
  exact HM.out.sub (.cons _ (.cons _ (.cons _ (.refl _))))
end Go.Proofs.YtheimopjglkgjaaGreatDoor

namespace Go.Proofs.YtheimopjglkgjaaGreatDoor
open Go.RowKit
set_option linter.unusedVariables false
set_option linter.unusedSimpArgs false
set_option maxRecDepth 100000

theorem ask_one (l:List AskD):∀ u ∈ l.flatMap AskD.cs,u.oneCell' = true:=by
 intro u hu
 obtain ⟨a,_,ha⟩:=List.mem_flatMap.1 hu
 simp only [AskD.cs,List.mem_cons,List.not_mem_nil,or_false] at ha
 rcases ha with rfl|rfl|rfl <;> rfl

set_option maxHeartbeats 8000000 in
theorem step_S (w0 W:World) (gc gm cap:Nat) (sq:Option Addr) (T:List Res) (l:List SymD) (st:List ThT) (ds:List ThD) (n:NodeD) (hop:n.op=36∨n.op=37)
  (HM0:Mem w0 W (.box gc 73 [.map (some gm),.slice sq st.length cap] :: .row sq cap 76 3 st.length (st.flatMap ThT.cs) :: .map gm (mapEs (symE l)) (symE l).length :: T))
  (hO:StOk T st ds) (hF:∀ d,d ∈ ds→ThForm d) (hk:kidsB n.op n.kids=true) (hkl:n.kids≤st.length) (hz:sizeT ds≤300) :
  Calls Tryz.prog 54 #[.pointer (some ⟨gc,0,none⟩),.agg n.cs.toArray] W (StepPost w0 gc gm T l (nextT l ds n) (stepT l ds n).2):=by
 obtain ⟨op,kids,text,neg,hi,lo,sc,day⟩:=n
 have hkn:0≤kids:=kidsB_nonneg hk
 obtain ⟨m,rfl⟩:∃ m:Nat,kids=m:=⟨kids.toNat,by omega⟩
 have hml:m≤st.length:=by have h:(m:Int)≤st.length:=hkl;omega
 have hlen:=hO.len
 have hst300:st.length≤300:=by have:=sizeT_len ds;omega
 obtain ⟨cut,hcut⟩:∃ cut,st.length - m=cut:=⟨_,rfl⟩
 have hcm:cut + m=st.length:=by omega
 have hN:nextT l ds ⟨op,m,text,neg,hi,lo,sc,day⟩=ds.take cut++[(stepT l ds ⟨op,m,text,neg,hi,lo,sc,day⟩).1]:=by unfold nextT;rw [← hlen];show ds.take (st.length - ((m:Int)).toNat)++_=_;rw [Int.toNat_natCast,hcut]
 have hP:partsD ⟨op,m,text,neg,hi,lo,sc,day⟩ ds=ds.drop cut:=by unfold partsD;rw [← hlen];show ds.drop (st.length - ((m:Int)).toNat)=_;rw [Int.toNat_natCast,hcut]
 have hsz:=sizeT_drop ds cut
 have hdl:(st.drop cut).length=m:=by rw [List.length_drop];omega
 have HO:=Lib.hid hO
 have HOd:=Lib.hid (hO.drop cut)
 have HM:=Lib.hid HM0
 have HCM:=Lib.hid hcm
 have hcap:=Lib.hid (row_cap (HM0.get (k:=1) rfl)).1
 have hmx:=(row_cap (HM0.get (k:=1) rfl)).2.1
 unfold maxLen at hmx
 have HZ:=Lib.hid hz
 have HSZ:=Lib.hid hsz
 have HDL:=Lib.hid hdl
 obtain ⟨acc0,hacc⟩:∃ a,(ds.drop cut).flatMap ThD.qs=a:=⟨_,rfl⟩
 have hS1:stepT l ds ⟨op,m,text,neg,hi,lo,sc,day⟩=(⟨⟨0,0⟩,acc0⟩,0):=by
  unfold stepT
  rw [if_pos hop,hP,hacc]
 rw [hS1] at hN
 rw [hS1,hN]
 have HA:=Lib.hid hacc
 have hb36:op=36∨op=37:=hop
 have hb:(op == 36)=true∨((op == 36)=false∧(op == 37)=true):=by
  rcases hb36 with rfl|rfl
  ·exact Or.inl rfl
  ·exact Or.inr ⟨rfl,rfl⟩
 have HWR:=Lib.hid (show IntKind.i64.wrap ((st.length:Int) - (m:Int))=(cut:Int) by
  rw [show (st.length:Int) - (m:Int)=(cut:Int) by omega]
  exact IntWalk.i64_in _ (by omega))
 clear hO hF hk hkl hz hsz hdl hP HM0 hop hkn hlen hcut hS1 hN hacc hb36
 rcases hb with b36 | ⟨b36,b37⟩
 all_goals
  go_enter Tryz.func54,Tryz.ntmps54
  go_wp2_with (first|((with_reducible refine skip_op ?_ ?_);exact rfl)|refine mP ?_|(refine mS ?_;clear HM;intro W1 HM)|(refine hbs1A HM rfl rfl rfl rfl ?_;clear HM;intro g1 W1 HM)|(refine hbxA (dst:=some 3) HM rfl rfl ?_;clear HM;intro g3 W1 HM)|(refine hal (dst:=some 7) HM rfl ?_;clear HM;intro g7 W1 HM)|(refine hal HM rfl ?_;clear HM;intro g1 W1 HM))
  have HWR1:=HWR.out
  have hcm2:cut + m≤st.length:=Nat.le_of_eq HCM.out
  have hcm3:st.length≤cut + m:=Nat.le_of_eq HCM.out.symm
  refine wp_region_steps2 [(true,0),(true,1),(true,2),(true,3),(true,4),(true,5),(true,6),(true,7),(true,8)] (by kernel_rfl) (by kernel_rfl) rfl (by kernel_rfl) (fun _ _ _ _ _ h=>h) HM.out _ (.cons_cons _ (.cons_cons _ (List.nil_sublist _))) ?_
  intro hNE W1 HM1;replace HM:=Lib.hid HM1;clear HM1
  have HS0:=Lib.hid (HM.out.sub (.cons_cons _ (.cons_cons _ (List.nil_sublist _))))
  simp only [wpSteps,List.getElem?_cons_succ,List.getElem?_cons_zero]
  (repeat (first|refine mQ ?_|((with_reducible refine wpQuiet_nil ?_);(try dsimp only))|go_big_quiet_step (fail)|quiet_step (fail)))
  clear HS0 hNE
  clear HWR1
  go_wp2_with (first|((with_reducible refine iat 26 ?_);(refine slf rfl rfl (m:=cut) (l:=m) rfl (by omega) hcap.out (by omega) ?_;intro q2 hq2;have HQ2:=Lib.hid hq2;clear hq2))|((with_reducible refine skip_op ?_ ?_);exact rfl)|refine mP ?_|(refine mS ?_;clear HM;intro W1 HM)|(refine hbs1A HM rfl rfl rfl rfl ?_;clear HM;intro g1 W1 HM)|(refine hbxA (dst:=some 3) HM rfl rfl ?_;clear HM;intro g3 W1 HM)|(refine hal (dst:=some 7) HM rfl ?_;clear HM;intro g7 W1 HM)|(refine hal HM rfl ?_;clear HM;intro g1 W1 HM))
  have HM1:=Lib.hid (HM.out.row0 104 3)
  clear HM
  have HM:=HM1
  clear HM1
  go_loopw [46] (fun kv wr=>∃ (k:Nat) (xq:Option Addr) (xc:Nat) (acc:List AskD),kv = .int .i64 k∧k≤m∧Hid (acc++((ds.drop cut).drop k).flatMap ThD.qs=acc0)∧Hid (acc.length + sizeT ((ds.drop cut).drop k)≤300)∧Hid (Mem w0 wr (.row xq xc 104 3 acc.length (acc.flatMap AskD.cs) :: .box g7 76 [.int .i64 0,.int .i64 0,.slice xq acc.length xc] :: .box g3 36 (NodeD.cs ⟨op,m,text,neg,hi,lo,sc,day⟩) :: .box gc 73 [.map (some gm),.slice sq st.length cap] :: .row sq cap 76 3 st.length (st.flatMap ThT.cs) :: .map gm (mapEs (symE l)) (symE l).length :: T))) (fun kv _=>m - (intOf kv).toNat)
  case atStart=>exact ⟨0,none,0,[],rfl,by omega,HA,Lib.hid (show 0 + sizeT (ds.drop cut)≤300 by have h1:=HSZ.out;have h2:=HZ.out;omega),HM⟩
  case round=>
   clear HM
   obtain ⟨k,xq,xc,acc,rfl,hkm,HI,HB,HM⟩:=hrel
   by_cases hlt:k < m
   ·obtain ⟨g,hq,hq2⟩:=from_some (HM.out.get (k:=4) rfl) (m:=cut) (by omega)
    rw [HQ2.out] at hq2
    subst hq hq2
    obtain ⟨y,hy⟩:∃ y,(st.drop cut)[k]? = some y:=⟨_,List.getElem?_eq_getElem (by rw [HDL.out];exact hlt)⟩
    obtain ⟨d,hd,hin⟩:=HOd.out.at_ hy
    have HYk:=Lib.hid hy
    obtain ⟨⟨yk,yo⟩,yq,yn,yc⟩:=y
    obtain rfl:yn=d.qs.length:=hin.2.1
    have hdt:(⟨yk,yo⟩:TyD)=d.t:=hin.1
    have HSY:=Lib.hid (fun W B (h:∀ r,r ∈ T→r.holds B W)=>(hin.sl h:Sl W yq (d.qs.flatMap AskD.cs)))
    have HI2:=Lib.hid (show (acc++d.qs)++((ds.drop cut).drop (k + 1)).flatMap ThD.qs=acc0 by rw [← HI.out,drop_atC hd,List.flatMap_cons,List.append_assoc])
    have HB2:=Lib.hid (show (acc++d.qs).length + sizeT ((ds.drop cut).drop (k + 1))≤300 by have h:=HB.out;rw [drop_atC hd,sizeT_cons] at h;rw [List.length_append];omega)
    have hb1:acc.length + d.qs.length≤300:=by have h:=HB2.out;rw [List.length_append] at h;omega
    have d2:decide ((k:Int) < m)=true:=decide_eq_true (by omega)
    clear hy hd hin hdt HI HB
    go_wp2_with (first|((with_reducible refine iat 48 ?_);(refine ixa rfl rfl rfl hlt ?_))|((with_reducible refine iat 49 ?_);(refine ldxW (vs:=[.int .i64 yk,.int .i64 yo,.slice yq d.qs.length yc]) ((row_view ThT.cs 3 ThT.cs_len (HM.out.get (k:=4) rfl) cut).elem ThT.cs 3 ThT.cs_len HYk.out) rfl rfl ?_))|((with_reducible refine iat 54 ?_);(refine apr (news:=d.qs.flatMap AskD.cs) rfl HM.out 1 rfl rfl rfl (flat_len _ 3 AskD.cs_len _) (fun e=>(HSY.out _ _ (fun r hr=>HM.out.holds r (by simp [hr]))).nil_len AskD.cs_len (by decide) e) (fun b e=>(HSY.out _ _ (fun r hr=>HM.out.holds r (by simp [hr]))).2 b e) (ask_one _) (by unfold maxLen;omega) (by omega) ?_;intro p1 cap1 W1 HM1 _;replace HM:=Lib.hid HM1;clear HM1;simp only [List.set] at HM))|((with_reducible refine skip_op ?_ ?_);exact rfl)|refine mP ?_|(refine mS ?_;clear HM;intro W1 HM)|(refine hbs1A HM rfl rfl rfl rfl ?_;clear HM;intro g1 W1 HM)|(refine hal (dst:=some 10) HM rfl ?_;clear HM;intro g10 W1 HM)|(refine hal HM rfl ?_;clear HM;intro g1 W1 HM)|(refine hbxA HM rfl rfl ?_;clear HM;intro g1 W1 HM))
    go_roundw
    case rel=>exact ⟨k + 1,p1,cap1,acc++d.qs,by go_num,by omega,HI2,HB2,Lib.hid (by rw [List.length_append,List.flatMap_append];exact HM.out.sub (.cons _ (.refl _)))⟩
    case measure=>simp [intOf];omega
   ·obtain rfl:m=k:=by omega
    obtain rfl:acc=acc0:=by rw [← HI.out,List.drop_of_length_le (by have h:=HO.out.len;have h2:=HDL.out;rw [List.length_drop] at h2 ⊢;omega)];exact (List.append_nil acc).symm
    have d2:decide ((m:Int) < m)=false:=by simp
    clear HI HB
    go_wp2_with (first|((with_reducible refine skip_op ?_ ?_);exact rfl)|refine mP ?_|(refine mS ?_;clear HM;intro W1 HM)|(refine hbs1A HM rfl rfl rfl rfl ?_;clear HM;intro g1 W1 HM)|(refine hal HM rfl ?_;clear HM;intro g1 W1 HM)|(refine hbxA HM rfl rfl ?_;clear HM;intro g1 W1 HM))
    refine wp_region_fork [(true,0),(true,1),(true,2),(true,3),(true,5),(true,7)] [(false,4),(true,6),(false,8),(false,9),(true,10),(true,11),(false,12)] [(false,8),(false,4),(true,6),(false,9),(true,10),(true,11),(false,12)] (by kernel_rfl) (by kernel_rfl) rfl (by kernel_rfl) (fun _ _ _ _ _ h=>h) HM.out _ (.cons _ (.cons_cons _ (List.nil_sublist _))) ?_
    intro hNE W1 HM1;replace HM:=Lib.hid HM1;clear HM1
    have HS0:=Lib.hid (HM.out.sub (.cons _ (.cons_cons _ (List.nil_sublist _))))
    simp only [wpFork,wpSteps,List.getElem?_cons_succ,List.getElem?_cons_zero]
    (repeat (first|refine mQ ?_|((with_reducible refine wpQuiet_nil ?_);(try dsimp only))|((with_reducible refine qat 90 ?_);(refine qslt (m:=cut) rfl rfl rfl (by have h:=hcap.out;omega) ?_))|go_big_quiet_step (fail)|quiet_step (fail)))
    refine ⟨?_,?_⟩
    ·go_wp2_with (first|refine mP ?_)
     refine ⟨⟨⟨_,HM.out.sub msub⟩,rfl⟩,?_⟩
     (try dsimp only)
     (repeat (first|((with_reducible refine wpQuiet_nil ?_);(try dsimp only))|((with_reducible refine qat 90 ?_);(refine qslt (m:=cut) rfl rfl rfl (by have h:=hcap.out;omega) ?_))|go_big_quiet_step (fail)|quiet_step (fail)))
     go_wp2_with (first|(refine hbs1A HM rfl rfl rfl rfl ?_;clear HM;intro g1 W1 HM))
     refine ⟨⟨⟨_,HM.out.sub msub⟩,rfl⟩,?_⟩
     (try dsimp only)
     go_wp2_with (first|(refine apb rfl HM.out 5 0 rfl rfl rfl rfl rfl rfl (by omega) (by omega) (by omega) ?_;intro p1 cap1 W1 HM1;replace HM:=Lib.hid HM1;clear HM1;simp only [List.set] at HM))
     refine ⟨⟨⟨_,HM.out.sub msub⟩,rfl⟩,?_⟩
     (try dsimp only)
     (repeat (first|refine mQ ?_|((with_reducible refine wpQuiet_nil ?_);(try dsimp only))|go_big_quiet_step (fail)|quiet_step (fail)))
     go_wp2_with (first|(refine mS ?_;clear HM;intro W1 HM))
     refine ⟨⟨⟨_,HM.out.sub msub⟩,rfl⟩,?_⟩
     (try dsimp only)
     clear HS0 hNE
     go_wp2_with fail
     go_ret
     refine ⟨rfl,p1,cap1,st.take cut++[⟨⟨0,0⟩,xq,acc.length,xc⟩],[.row xq xc 104 3 acc.length (acc.flatMap AskD.cs)],?_,((HO.out.take cut).mono (fun r hr=>List.mem_cons_of_mem _ hr)).push ⟨rfl,rfl,Or.inl (List.mem_cons_self ..)⟩⟩
     rw [stack_len _ (by omega),← stack_flat]
     exact (HM.out.sub (.cons _ (.cons_cons _ (.cons _ (.cons _ (.refl _)))))).perm (List.perm_middle (l₁:=[_,_,_])).symm
    ·go_wp2_with (first|(refine hbs1A HM rfl rfl rfl rfl ?_;clear HM;intro g1 W1 HM))
     refine ⟨⟨⟨_,HM.out.sub msub⟩,rfl⟩,?_⟩
     (try dsimp only)
     go_wp2_with (first|refine mP ?_)
     refine ⟨⟨⟨_,HM.out.sub msub⟩,rfl⟩,?_⟩
     (try dsimp only)
     (repeat (first|((with_reducible refine wpQuiet_nil ?_);(try dsimp only))|((with_reducible refine qat 90 ?_);(refine qslt (m:=cut) rfl rfl rfl (by have h:=hcap.out;omega) ?_))|go_big_quiet_step (fail)|quiet_step (fail)))
     go_wp2_with (first|(refine apb rfl HM.out 5 0 rfl rfl rfl rfl rfl rfl (by omega) (by omega) (by omega) ?_;intro p1 cap1 W1 HM1;replace HM:=Lib.hid HM1;clear HM1;simp only [List.set] at HM))
     refine ⟨⟨⟨_,HM.out.sub msub⟩,rfl⟩,?_⟩
     (try dsimp only)
     (repeat (first|refine mQ ?_|((with_reducible refine wpQuiet_nil ?_);(try dsimp only))|go_big_quiet_step (fail)|quiet_step (fail)))
     go_wp2_with (first|(refine mS ?_;clear HM;intro W1 HM))
     refine ⟨⟨⟨_,HM.out.sub msub⟩,rfl⟩,?_⟩
     (try dsimp only)
     clear HS0 hNE
     go_wp2_with fail
     go_ret
     refine ⟨rfl,p1,cap1,st.take cut++[⟨⟨0,0⟩,xq,acc.length,xc⟩],[.row xq xc 104 3 acc.length (acc.flatMap AskD.cs)],?_,((HO.out.take cut).mono (fun r hr=>List.mem_cons_of_mem _ hr)).push ⟨rfl,rfl,Or.inl (List.mem_cons_self ..)⟩⟩
     rw [stack_len _ (by omega),← stack_flat]
     exact (HM.out.sub (.cons _ (.cons_cons _ (.cons _ (.cons _ (.refl _)))))).perm (List.perm_middle (l₁:=[_,_,_])).symm
end Go.Proofs.YtheimopjglkgjaaGreatDoor

namespace Go.Proofs.YtheimopjglkgjaaGreatDoor
open Go.RowKit
set_option linter.unusedVariables false
set_option linter.unusedSimpArgs false
set_option maxRecDepth 100000

set_option maxHeartbeats 8000000 in
theorem step_T (w0 W:World) (gc gm cap:Nat) (sq:Option Addr) (T:List Res) (l:List SymD) (st:List ThT) (ds:List ThD) (n:NodeD) (hop:30≤n.op∧n.op≤35)
  (HM0:Mem w0 W (.box gc 73 [.map (some gm),.slice sq st.length cap] :: .row sq cap 76 3 st.length (st.flatMap ThT.cs) :: .map gm (mapEs (symE l)) (symE l).length :: T))
  (hO:StOk T st ds) (hF:∀ d,d ∈ ds→ThForm d) (hk:kidsB n.op n.kids=true) (hkl:n.kids≤st.length) (hz:sizeT ds≤300) :
  Calls Tryz.prog 54 #[.pointer (some ⟨gc,0,none⟩),.agg n.cs.toArray] W (StepPost w0 gc gm T l (nextT l ds n) (stepT l ds n).2):=by
 obtain ⟨op,kids,text,neg,hi,lo,sc,day⟩:=n
 have hkn:0≤kids:=kidsB_nonneg hk
 obtain ⟨m,rfl⟩:∃ m:Nat,kids=m:=⟨kids.toNat,by omega⟩
 have hml:m≤st.length:=by have h:(m:Int)≤st.length:=hkl;omega
 have hlen:=hO.len
 have hst300:st.length≤300:=by have:=sizeT_len ds;omega
 obtain ⟨cut,hcut⟩:∃ cut,st.length - m=cut:=⟨_,rfl⟩
 have hcm:cut + m=st.length:=by omega
 have hN:nextT l ds ⟨op,m,text,neg,hi,lo,sc,day⟩=ds.take cut++[(stepT l ds ⟨op,m,text,neg,hi,lo,sc,day⟩).1]:=by unfold nextT;rw [← hlen];show ds.take (st.length - ((m:Int)).toNat)++_=_;rw [Int.toNat_natCast,hcut]
 have hP:partsD ⟨op,m,text,neg,hi,lo,sc,day⟩ ds=ds.drop cut:=by unfold partsD;rw [← hlen];show ds.drop (st.length - ((m:Int)).toNat)=_;rw [Int.toNat_natCast,hcut]
 have hsz:=sizeT_drop ds cut
 have hdl:(st.drop cut).length=m:=by rw [List.length_drop];omega
 have HO:=Lib.hid hO
 have HOd:=Lib.hid (hO.drop cut)
 have HM:=Lib.hid HM0
 have HCM:=Lib.hid hcm
 have hcap:=Lib.hid (row_cap (HM0.get (k:=1) rfl)).1
 have hmx:=(row_cap (HM0.get (k:=1) rfl)).2.1
 unfold maxLen at hmx
 have HZ:=Lib.hid hz
 have HSZ:=Lib.hid hsz
 have HDL:=Lib.hid hdl
 obtain ⟨ob,hob⟩:∃ ob,(op != 30)=ob:=⟨_,rfl⟩
 obtain ⟨acc0,hacc⟩:∃ a,((ds.drop cut).map fun y=>(⟨ob,y.t⟩:AskD))=a:=⟨_,rfl⟩
 have hS1:stepT l ds ⟨op,m,text,neg,hi,lo,sc,day⟩=(⟨⟨0,0⟩,acc0⟩,0):=by
  unfold stepT
  have h:30≤op∧op≤35:=hop
  rw [if_neg (show ¬ (op=36∨op=37) by omega),if_pos h,hP,← hacc,← hob]
 rw [hS1] at hN
 rw [hS1,hN]
 have HA:=Lib.hid hacc
 have h30:30≤op:=hop.1
 have h35:op≤35:=hop.2
 have b36:(op == 36)=false:=beq_false_of_ne (by omega)
 have b37:(op == 37)=false:=beq_false_of_ne (by omega)
 have HWR:=Lib.hid (show IntKind.i64.wrap ((st.length:Int) - (m:Int))=(cut:Int) by
  rw [show (st.length:Int) - (m:Int)=(cut:Int) by omega]
  exact IntWalk.i64_in _ (by omega))
 clear hO hF hk hkl hz hsz hdl hP HM0 hop hkn hlen hcut hS1 hN hacc
 all_goals
  go_enter Tryz.func54,Tryz.ntmps54
  go_wp2_with (first|((with_reducible refine skip_op ?_ ?_);exact rfl)|refine mP ?_|(refine mS ?_;clear HM;intro W1 HM)|(refine hbs1A HM rfl rfl rfl rfl ?_;clear HM;intro g1 W1 HM)|(refine hbxA (dst:=some 3) HM rfl rfl ?_;clear HM;intro g3 W1 HM)|(refine hal (dst:=some 7) HM rfl ?_;clear HM;intro g7 W1 HM)|(refine hal HM rfl ?_;clear HM;intro g1 W1 HM))
  have HWR1:=HWR.out
  have hcm2:cut + m≤st.length:=Nat.le_of_eq HCM.out
  have hcm3:st.length≤cut + m:=Nat.le_of_eq HCM.out.symm
  refine wp_region_steps2 [(true,0),(true,1),(true,2),(true,3),(true,4),(true,5),(true,6),(true,7),(true,8)] (by kernel_rfl) (by kernel_rfl) rfl (by kernel_rfl) (fun _ _ _ _ _ h=>h) HM.out _ (.cons_cons _ (.cons_cons _ (List.nil_sublist _))) ?_
  intro hNE W1 HM1;replace HM:=Lib.hid HM1;clear HM1
  have HS0:=Lib.hid (HM.out.sub (.cons_cons _ (.cons_cons _ (List.nil_sublist _))))
  simp only [wpSteps,List.getElem?_cons_succ,List.getElem?_cons_zero]
  (repeat (first|refine mQ ?_|((with_reducible refine wpQuiet_nil ?_);(try dsimp only))|go_big_quiet_step (fail)|quiet_step (fail)))
  clear HS0 hNE
  clear HWR1
  go_wp2_with (first|((with_reducible refine iat 26 ?_);(refine slf rfl rfl (m:=cut) (l:=m) rfl (by omega) hcap.out (by omega) ?_;intro q2 hq2;have HQ2:=Lib.hid hq2;clear hq2))|((with_reducible refine skip_op ?_ ?_);exact rfl)|refine mP ?_|(refine mS ?_;clear HM;intro W1 HM)|(refine hbs1A HM rfl rfl rfl rfl ?_;clear HM;intro g1 W1 HM)|(refine hbxA (dst:=some 3) HM rfl rfl ?_;clear HM;intro g3 W1 HM)|(refine hal (dst:=some 7) HM rfl ?_;clear HM;intro g7 W1 HM)|(refine hal HM rfl ?_;clear HM;intro g1 W1 HM))
  have HM1:=Lib.hid (HM.out.row0 104 3)
  clear HM
  have HM:=HM1
  clear HM1
  go_loopw [68] (fun kv wr=>∃ (k:Nat) (xq:Option Addr) (xc:Nat) (acc:List AskD),kv = .int .i64 k∧k≤m∧Hid (acc++((ds.drop cut).drop k).map (fun y=>(⟨ob,y.t⟩:AskD))=acc0)∧Hid (acc.length=k)∧Hid (Mem w0 wr (.row xq xc 104 3 acc.length (acc.flatMap AskD.cs) :: .box g7 76 [.int .i64 0,.int .i64 0,.slice xq acc.length xc] :: .box g3 36 (NodeD.cs ⟨op,m,text,neg,hi,lo,sc,day⟩) :: .box gc 73 [.map (some gm),.slice sq st.length cap] :: .row sq cap 76 3 st.length (st.flatMap ThT.cs) :: .map gm (mapEs (symE l)) (symE l).length :: T))) (fun kv _=>m - (intOf kv).toNat)
  case atStart=>exact ⟨0,none,0,[],rfl,by omega,HA,Lib.hid rfl,HM⟩
  case round=>
   clear HM
   obtain ⟨k,xq,xc,acc,rfl,hkm,HI,HB,HM⟩:=hrel
   by_cases hlt:k < m
   ·obtain ⟨g,hq,hq2⟩:=from_some (HM.out.get (k:=4) rfl) (m:=cut) (by omega)
    rw [HQ2.out] at hq2
    subst hq hq2
    obtain ⟨y,hy⟩:∃ y,(st.drop cut)[k]? = some y:=⟨_,List.getElem?_eq_getElem (by rw [HDL.out];exact hlt)⟩
    obtain ⟨d,hd,hin⟩:=HOd.out.at_ hy
    have HYk:=Lib.hid hy
    obtain ⟨⟨yk,yo⟩,yq,yn,yc⟩:=y
    obtain rfl:yn=d.qs.length:=hin.2.1
    have hdt:(⟨yk,yo⟩:TyD)=d.t:=hin.1
    have HI2:=Lib.hid (show (acc++[⟨ob,⟨yk,yo⟩⟩])++((ds.drop cut).drop (k + 1)).map (fun y=>(⟨ob,y.t⟩:AskD))=acc0 by rw [← HI.out,drop_atC hd,List.map_cons,← hdt,List.append_assoc];rfl)
    have HB2:=Lib.hid (show (acc++[(⟨ob,⟨yk,yo⟩⟩:AskD)]).length=k + 1 by rw [List.length_append,HB.out];rfl)
    have hb1:acc.length + 1≤301:=by have h:=HB.out;omega
    have d2:decide ((k:Int) < m)=true:=decide_eq_true (by omega)
    clear hy hd hin hdt HI HB
    go_wp2_with (first|((with_reducible refine iat 70 ?_);(refine ixa rfl rfl rfl hlt ?_))|((with_reducible refine iat 71 ?_);(refine ldxW (vs:=[.int .i64 yk,.int .i64 yo,.slice yq d.qs.length yc]) ((row_view ThT.cs 3 ThT.cs_len (HM.out.get (k:=4) rfl) cut).elem ThT.cs 3 ThT.cs_len HYk.out) rfl rfl ?_))|(refine apb rfl HM.out 2 0 rfl rfl rfl rfl rfl rfl (by omega) (by omega) (by omega) ?_;intro p1 cap1 W1 HM1;replace HM:=Lib.hid HM1;clear HM1;simp only [List.set] at HM)|((with_reducible refine skip_op ?_ ?_);exact rfl)|refine mP ?_|(refine mS ?_;clear HM;intro W1 HM)|(refine hbs1A HM rfl rfl rfl rfl ?_;clear HM;intro g1 W1 HM)|(refine hal (dst:=some 12) HM rfl ?_;clear HM;intro g12 W1 HM)|(refine hal HM rfl ?_;clear HM;intro g1 W1 HM)|(refine hbxA HM rfl rfl ?_;clear HM;intro g1 W1 HM))
    go_roundw
    case rel=>exact ⟨k + 1,p1,cap1,acc++[⟨ob,⟨yk,yo⟩⟩],by go_num,by omega,HI2,HB2,Lib.hid (by rw [List.length_append,List.flatMap_append];have h:=HM.out;rw [List.take_of_length_le (by rw [flat_len AskD.cs 3 AskD.cs_len];omega)] at h;exact h.sub (.cons _ (.cons _ (.refl _))))⟩
    case measure=>simp [intOf];omega
   ·obtain rfl:m=k:=by omega
    obtain rfl:acc=acc0:=by rw [← HI.out,List.drop_of_length_le (by have h:=HO.out.len;have h2:=HDL.out;rw [List.length_drop] at h2 ⊢;omega)];exact (List.append_nil acc).symm
    have d2:decide ((m:Int) < m)=false:=by simp
    clear HI HB
    go_wp2_with (first|((with_reducible refine skip_op ?_ ?_);exact rfl)|refine mP ?_|(refine mS ?_;clear HM;intro W1 HM)|(refine hbs1A HM rfl rfl rfl rfl ?_;clear HM;intro g1 W1 HM)|(refine hal HM rfl ?_;clear HM;intro g1 W1 HM)|(refine hbxA HM rfl rfl ?_;clear HM;intro g1 W1 HM))
    refine wp_region_fork [(true,0),(true,1),(true,2),(true,3),(true,5),(true,7)] [(false,4),(true,6),(false,8),(false,9),(true,10),(true,11),(false,12)] [(false,8),(false,4),(true,6),(false,9),(true,10),(true,11),(false,12)] (by kernel_rfl) (by kernel_rfl) rfl (by kernel_rfl) (fun _ _ _ _ _ h=>h) HM.out _ (.cons _ (.cons_cons _ (List.nil_sublist _))) ?_
    intro hNE W1 HM1;replace HM:=Lib.hid HM1;clear HM1
    have HS0:=Lib.hid (HM.out.sub (.cons _ (.cons_cons _ (List.nil_sublist _))))
    simp only [wpFork,wpSteps,List.getElem?_cons_succ,List.getElem?_cons_zero]
    (repeat (first|refine mQ ?_|((with_reducible refine wpQuiet_nil ?_);(try dsimp only))|((with_reducible refine qat 90 ?_);(refine qslt (m:=cut) rfl rfl rfl (by have h:=hcap.out;omega) ?_))|go_big_quiet_step (fail)|quiet_step (fail)))
    refine ⟨?_,?_⟩
    ·go_wp2_with (first|refine mP ?_)
     refine ⟨⟨⟨_,HM.out.sub msub⟩,rfl⟩,?_⟩
     (try dsimp only)
     (repeat (first|((with_reducible refine wpQuiet_nil ?_);(try dsimp only))|((with_reducible refine qat 90 ?_);(refine qslt (m:=cut) rfl rfl rfl (by have h:=hcap.out;omega) ?_))|go_big_quiet_step (fail)|quiet_step (fail)))
     go_wp2_with (first|(refine hbs1A HM rfl rfl rfl rfl ?_;clear HM;intro g1 W1 HM))
     refine ⟨⟨⟨_,HM.out.sub msub⟩,rfl⟩,?_⟩
     (try dsimp only)
     go_wp2_with (first|(refine apb rfl HM.out 5 0 rfl rfl rfl rfl rfl rfl (by omega) (by omega) (by omega) ?_;intro p1 cap1 W1 HM1;replace HM:=Lib.hid HM1;clear HM1;simp only [List.set] at HM))
     refine ⟨⟨⟨_,HM.out.sub msub⟩,rfl⟩,?_⟩
     (try dsimp only)
     (repeat (first|refine mQ ?_|((with_reducible refine wpQuiet_nil ?_);(try dsimp only))|go_big_quiet_step (fail)|quiet_step (fail)))
     go_wp2_with (first|(refine mS ?_;clear HM;intro W1 HM))
     refine ⟨⟨⟨_,HM.out.sub msub⟩,rfl⟩,?_⟩
     (try dsimp only)
     clear HS0 hNE
     go_wp2_with fail
     go_ret
     refine ⟨rfl,p1,cap1,st.take cut++[⟨⟨0,0⟩,xq,acc.length,xc⟩],[.row xq xc 104 3 acc.length (acc.flatMap AskD.cs)],?_,((HO.out.take cut).mono (fun r hr=>List.mem_cons_of_mem _ hr)).push ⟨rfl,rfl,Or.inl (List.mem_cons_self ..)⟩⟩
     rw [stack_len _ (by omega),← stack_flat]
     exact (HM.out.sub (.cons _ (.cons_cons _ (.cons _ (.cons _ (.refl _)))))).perm (List.perm_middle (l₁:=[_,_,_])).symm
    ·go_wp2_with (first|(refine hbs1A HM rfl rfl rfl rfl ?_;clear HM;intro g1 W1 HM))
     refine ⟨⟨⟨_,HM.out.sub msub⟩,rfl⟩,?_⟩
     (try dsimp only)
     go_wp2_with (first|refine mP ?_)
     refine ⟨⟨⟨_,HM.out.sub msub⟩,rfl⟩,?_⟩
     (try dsimp only)
     (repeat (first|((with_reducible refine wpQuiet_nil ?_);(try dsimp only))|((with_reducible refine qat 90 ?_);(refine qslt (m:=cut) rfl rfl rfl (by have h:=hcap.out;omega) ?_))|go_big_quiet_step (fail)|quiet_step (fail)))
     go_wp2_with (first|(refine apb rfl HM.out 5 0 rfl rfl rfl rfl rfl rfl (by omega) (by omega) (by omega) ?_;intro p1 cap1 W1 HM1;replace HM:=Lib.hid HM1;clear HM1;simp only [List.set] at HM))
     refine ⟨⟨⟨_,HM.out.sub msub⟩,rfl⟩,?_⟩
     (try dsimp only)
     (repeat (first|refine mQ ?_|((with_reducible refine wpQuiet_nil ?_);(try dsimp only))|go_big_quiet_step (fail)|quiet_step (fail)))
     go_wp2_with (first|(refine mS ?_;clear HM;intro W1 HM))
     refine ⟨⟨⟨_,HM.out.sub msub⟩,rfl⟩,?_⟩
     (try dsimp only)
     clear HS0 hNE
     go_wp2_with fail
     go_ret
     refine ⟨rfl,p1,cap1,st.take cut++[⟨⟨0,0⟩,xq,acc.length,xc⟩],[.row xq xc 104 3 acc.length (acc.flatMap AskD.cs)],?_,((HO.out.take cut).mono (fun r hr=>List.mem_cons_of_mem _ hr)).push ⟨rfl,rfl,Or.inl (List.mem_cons_self ..)⟩⟩
     rw [stack_len _ (by omega),← stack_flat]
     exact (HM.out.sub (.cons _ (.cons_cons _ (.cons _ (.cons _ (.refl _)))))).perm (List.perm_middle (l₁:=[_,_,_])).symm
end Go.Proofs.YtheimopjglkgjaaGreatDoor
