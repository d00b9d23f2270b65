/- The brackets of what the grammar of expressions reads are balanced; so whether a bracket is an interval's is told within what is read; in plain Lean. The grammar of expressions over tokens that lie among others: it reads the same; in plain Lean. How the grammar of expressions reads what is put together: brackets, sums, comparisons, choices; in plain Lean. -/
import Derived.Test.YtheimopjglkgjaaGreatDoorRdA
namespace Go.Proofs.YtheimopjglkgjaaGreatDoor
open Go.RowKit
set_option linter.unusedVariables false
set_option linter.unusedSimpArgs false

def opnS (s:List UInt8):Bool:=s == [40] || s == [91] || s == [123]
def clsS (s:List UInt8):Bool:=s == [41] || s == [93] || s == [125]
def opn (t:TokD):Bool:=decide (t.kind=6) && opnS t.text.toList
def cls (t:TokD):Bool:=decide (t.kind=6) && clsS t.text.toList
def dots (t:TokD):Bool:=decide (t.kind=6) && t.text.toList == [46,46]
/-- The scan for an interval's dots: what it tells, or how deep it stands. -/
def scanL:List TokD→Int→Bool ⊕ Int
 | [],d=>.inr d
 | t :: r,d=>if opn t then scanL r (d + 1) else if cls t then (if d - 1=0 then .inl false else scanL r (d - 1)) else if dots t && decide (d=1) then .inl true else scanL r d
def scanK (x:Bool ⊕ Int) (b:List TokD):Bool ⊕ Int:=match x with
 | .inl v=>.inl v
 | .inr e=>scanL b e
theorem scanL_app:∀ (a b:List TokD) (d:Int),scanL (a++b) d=scanK (scanL a d) b
 | [],b,d=>rfl
 | t :: r,b,d=>by
  rw [List.cons_append]
  unfold scanL
  split
  ·exact scanL_app r b (d + 1)
  ·split
   ·split
    ·rfl
    ·exact scanL_app r b (d - 1)
   ·split
    ·rfl
    ·exact scanL_app r b d
theorem opnS_iff (s:List UInt8):opnS s=true↔(s=[40]∨s=[91]∨s=[123]):=by simp [opnS,or_assoc]
theorem clsS_iff (s:List UInt8):clsS s=true↔(s=[41]∨s=[93]∨s=[125]):=by simp [clsS,or_assoc]
theorem drop_tok {T:List TokD} {i:Nat} {t:TokD} (h:T[i]? = some t):T.drop i=t :: T.drop (i + 1):=by
 obtain ⟨hk,he⟩:=List.getElem?_eq_some_iff.1 h
 rw [List.drop_eq_getElem_cons hk,he]
def toldB (x:Bool ⊕ Int):Bool:=match x with
 | .inl b=>b
 | .inr _=>false
theorem ivlF_scan (T:List TokD):∀ (f i:Nat) (d:Int),T.length - i≤f→ivlF T f i d=toldB (scanL (T.drop i) d)
 | 0,i,d,h=>by
  rw [List.drop_of_length_le (by omega)]
  rfl
 | f + 1,i,d,h=>by
  cases ht:T[i]? with
  | none=>
   rw [List.drop_of_length_le (List.getElem?_eq_none_iff.1 ht)]
   unfold ivlF
   rw [ht]
   rfl
  | some t=>
   have hi:=(List.getElem?_eq_some_iff.1 ht).1
   rw [drop_tok ht]
   unfold ivlF scanL
   rw [ht]
   simp only
   have e1:=ivlF_scan T f (i + 1) (d + 1) (by omega)
   have e2:=ivlF_scan T f (i + 1) (d - 1) (by omega)
   have e3:=ivlF_scan T f (i + 1) d (by omega)
   unfold opn cls dots
   by_cases h6:t.kind=6
   ·rw [if_pos h6,decide_eq_true h6,Bool.true_and,Bool.true_and,Bool.true_and]
    by_cases ho:opnS t.text.toList=true
    ·rw [if_pos ((opnS_iff _).1 ho),if_pos ho];exact e1
    ·rw [if_neg (fun x=>ho ((opnS_iff _).2 x)),if_neg ho]
     by_cases hc:clsS t.text.toList=true
     ·rw [if_pos ((clsS_iff _).1 hc),if_pos hc]
      split
      ·rfl
      ·exact e2
     ·rw [if_neg (fun x=>hc ((clsS_iff _).2 x)),if_neg hc]
      by_cases hd:t.text.toList=[46,46]
      ·rw [if_pos hd,hd]
       by_cases h1:d=1
       ·rw [if_pos h1,if_pos (by simp [h1])];rfl
       ·rw [if_neg h1,if_neg (by simp [h1])];exact e3
      ·rw [if_neg hd,if_neg (by simp [hd])];exact e3
   ·rw [if_neg h6,decide_eq_false h6]
    simp only [Bool.false_and,Bool.false_eq_true,if_false]
    exact e3
theorem ivl_scan (T:List TokD) (i:Nat):ivl T i=toldB (scanL (T.drop i) 0):=ivlF_scan T _ i 0 (Nat.le_refl _)

/-- The tokens from i to j. -/
def seg (T:List TokD) (i j:Nat):List TokD:=(T.drop i).take (j - i)
section
variable {T:List TokD} {i j k:Nat} {t:TokD}
theorem seg_app (h1:i≤j) (h2:j≤k):seg T i k=seg T i j++seg T j k:=by
 unfold seg
 rw [show k - i=(j - i) + (k - j) by omega,List.take_add,List.drop_drop,show i + (j - i)=j by omega]
theorem seg_one (h:T[i]? = some t):seg T i (i + 1)=[t]:=by
 unfold seg
 rw [drop_tok h,show i + 1 - i=1 by omega]
 rfl
theorem seg_nil:seg T i i=[]:=by
 unfold seg
 rw [Nat.sub_self,List.take_zero]
def Bal (T:List TokD) (i j:Nat):Prop:=i≤j∧∀ d:Int,1≤d→(d=1∧scanL (seg T i j) d = .inl true)∨scanL (seg T i j) d = .inr d
def BalC (T:List TokD) (i j:Nat):Prop:=i≤j∧∀ d:Int,1≤d→(d=1∧scanL (seg T i j) d = .inl true)∨scanL (seg T i j) d=if d - 1=0 then .inl false else .inr (d - 1)
def Dec (T:List TokD) (i j:Nat):Prop:=∃ b,scanL (seg T i j) 0 = .inl b
theorem Bal.nil:Bal T i i:=⟨Nat.le_refl _,fun d _=>.inr (by rw [seg_nil];rfl)⟩
theorem Bal.trans (h1:Bal T i j) (h2:Bal T j k):Bal T i k:=by
 refine ⟨Nat.le_trans h1.1 h2.1,fun d hd=>?_⟩
 rw [seg_app h1.1 h2.1,scanL_app]
 rcases h1.2 d hd with ⟨e0,e⟩|e
 ·rw [e];exact .inl ⟨e0,rfl⟩
 ·rw [e];exact h2.2 d hd
theorem Bal.transC (h1:Bal T i j) (h2:BalC T j k):BalC T i k:=by
 refine ⟨Nat.le_trans h1.1 h2.1,fun d hd=>?_⟩
 rw [seg_app h1.1 h2.1,scanL_app]
 rcases h1.2 d hd with ⟨e0,e⟩|e
 ·rw [e];exact .inl ⟨e0,rfl⟩
 ·rw [e];exact h2.2 d hd
theorem scan_one (t:TokD) (d:Int):scanL [t] d=if opn t then .inr (d + 1) else if cls t then (if d - 1=0 then .inl false else .inr (d - 1)) else if dots t && decide (d=1) then .inl true else .inr d:=rfl
theorem Bal.tok (h:T[i]? = some t) (h1:opn t=false) (h2:cls t=false):Bal T i (i + 1):=by
 refine ⟨Nat.le_succ _,fun d hd=>?_⟩
 rw [seg_one h,scan_one,h1,h2]
 simp only [Bool.false_eq_true,if_false]
 split
 ·rename_i h
  rw [Bool.and_eq_true,decide_eq_true_eq] at h
  exact .inl ⟨h.2,rfl⟩
 ·exact .inr rfl
theorem cls_opn (h:cls t=true):opn t=false:=by
 unfold cls at h
 unfold opn
 rw [Bool.and_eq_true] at h
 have:=(clsS_iff _).1 h.2
 rcases this with e|e|e <;> rw [e] <;> simp [opnS]
theorem BalC.tok (h:T[i]? = some t) (h2:cls t=true):BalC T i (i + 1):=by
 refine ⟨Nat.le_succ _,fun d hd=>?_⟩
 rw [seg_one h,scan_one,cls_opn h2,h2]
 exact .inr rfl
theorem Bal.br (h:T[i]? = some t) (h1:opn t=true) (h2:BalC T (i + 1) j):Bal T i j:=by
 refine ⟨by have:=h2.1;omega,fun d hd=>?_⟩
 rw [seg_app (Nat.le_succ i) h2.1,seg_one h,scanL_app,scan_one,h1]
 show (d=1∧scanL (seg T (i + 1) j) (d + 1)=_)∨scanL (seg T (i + 1) j) (d + 1)=_
 rcases h2.2 (d + 1) (by omega) with ⟨e0,e⟩|e
 ·omega
 ·refine .inr ?_
  rw [e,if_neg (by omega),show d + 1 - 1=d by omega]
theorem Dec.br (h:T[i]? = some t) (h1:opn t=true) (h2:BalC T (i + 1) j):Dec T i j:=by
 unfold Dec
 rw [seg_app (Nat.le_succ i) h2.1,seg_one h,scanL_app,scan_one,h1]
 show ∃ b,scanL (seg T (i + 1) j) (0 + 1)=_
 rcases h2.2 (0 + 1) (by omega) with ⟨e0,e⟩|e
 ·exact ⟨_,e⟩
 ·exact ⟨false,e⟩
theorem Dec.trans (h:Dec T i j) (h1:i≤j) (h2:j≤k):Dec T i k:=by
 obtain ⟨b,e⟩:=h
 refine ⟨b,?_⟩
 rw [seg_app h1 h2,scanL_app,e]
 rfl
theorem isT_tok {s:List UInt8} (h:isT T i s=true) (hs:s≠[]):∃ t,T[i]? = some t∧5≤t.kind∧t.text.toList=s:=by
 unfold isT sgT at h
 cases ht:T[i]? with
 | none=>
  rw [ht,beq_iff_eq,ByteArray.toList_eq] at h
  exact absurd h.symm hs
 | some t=>
  rw [ht] at h
  simp only at h
  split at h
  ·rename_i h5
   exact ⟨t,rfl,h5,beq_iff_eq.1 h⟩
  ·rw [beq_iff_eq,ByteArray.toList_eq] at h
   exact absurd h.symm hs
theorem isT_ne {s s' : List UInt8} (h:isT T i s=true) (h' : isT T i s' = true):s=s':=by
 unfold isT at h h'
 rw [← beq_iff_eq.1 h,← beq_iff_eq.1 h']
theorem Bal.word {s:List UInt8} (h:isT T i s=true) (hs:s≠[]∧opnS s=false∧clsS s=false):Bal T i (i + 1):=by
 obtain ⟨t,ht,-,e⟩:=isT_tok h hs.1
 exact .tok ht (by unfold opn;rw [e,hs.2.1,Bool.and_false]) (by unfold cls;rw [e,hs.2.2,Bool.and_false])
theorem br_kind (hK:KndOk T) {s:List UInt8} (ht:T[i]? = some t) (h5:5≤t.kind) (e:t.text.toList=s) (hs:wordB s=false):t.kind=6:=by
 obtain ⟨-,h6,hw⟩:=hK t (List.mem_of_getElem? ht)
 by_cases h:t.kind=5
 ·have:=hw h
  rw [e,hs] at this
  cases this
 ·omega
theorem word_br {s:List UInt8} (h:opnS s=true∨clsS s=true):wordB s=false:=by
 rw [opnS_iff,clsS_iff] at h
 rcases h with (rfl|rfl|rfl)|(rfl|rfl|rfl) <;> decide
theorem isT_opn (hK:KndOk T) {s:List UInt8} (h:isT T i s=true) (hs:opnS s=true):∃ t,T[i]? = some t∧opn t=true:=by
 obtain ⟨t,ht,h5,e⟩:=isT_tok h (by intro e;rw [e] at hs;cases hs)
 exact ⟨t,ht,by unfold opn;rw [br_kind hK ht h5 e (word_br (.inl hs)),e,hs];rfl⟩
theorem isT_cls (hK:KndOk T) {s:List UInt8} (h:isT T i s=true) (hs:clsS s=true):∃ t,T[i]? = some t∧cls t=true:=by
 obtain ⟨t,ht,h5,e⟩:=isT_tok h (by intro e;rw [e] at hs;cases hs)
 exact ⟨t,ht,by unfold cls;rw [br_kind hK ht h5 e (word_br (.inr hs)),e,hs];rfl⟩
theorem rel_nb {s:List UInt8} (h:relL s≠0):s≠[]∧opnS s=false∧clsS s=false:=by
 unfold relL at h
 by_cases h1:(s == [61])=true
 ·rw [beq_iff_eq.1 h1];decide
 by_cases h2:(s == [33,61])=true
 ·rw [beq_iff_eq.1 h2];decide
 by_cases h3:(s == [60])=true
 ·rw [beq_iff_eq.1 h3];decide
 by_cases h4:(s == [60,61])=true
 ·rw [beq_iff_eq.1 h4];decide
 by_cases h5:(s == [62])=true
 ·rw [beq_iff_eq.1 h5];decide
 by_cases h6:(s == [62,61])=true
 ·rw [beq_iff_eq.1 h6];decide
 rw [if_neg h1,if_neg h2,if_neg h3,if_neg h4,if_neg h5,if_neg h6] at h
 exact absurd rfl h
theorem isT_self:isT T i (sgT T i).toList=true:=beq_self_eq_true _
theorem Bal.rel (h:relT T i≠0):Bal T i (i + 1):=.word isT_self (rel_nb h)
theorem Bal.knd (h:T[i]? = some t) (hk:t.kind≠6):Bal T i (i + 1):=.tok h (by unfold opn;rw [decide_eq_false hk];rfl) (by unfold cls;rw [decide_eq_false hk];rfl)
theorem bind_inv {r:PR} {k:List NodeD→Nat→Nat→PR} {l:List NodeD} {n j:Nat} (h:r.bind k = .ok l n j):∃ a m p,r = .ok a m p∧k a m p = .ok l n j:=by
 cases r with
 | out=>cases h
 | no=>cases h
 | ok a m p=>exact ⟨a,m,p,rfl,h⟩
end
def NT.cl:NT→Bool
 | .list _ | .listL _ _ _ | .ctx | .ctxL _ _=>true
 | _=>false
def NT.cOk:NT→Prop
 | .list e | .listL e _ _=>e=41∨e=93
 | _=>True
/-- Rules that begin with a thing by itself. -/
def NT.st:NT→Bool
 | .expr | .or | .and | .cmp | .sum | .prod | .sgn | .sing | .test=>true
 | _=>false
def isO (T:List TokD) (i:Nat):Bool:=isT T i [91] || isT T i [40]
structure GB (T:List TokD) (N:NT) (i j:Nat):Prop where
 cl:N.cl=true→BalC T i j
 op:N.cl=false→Bal T i j
 dec:N.st=true→isO T i=true→Dec T i j
theorem isO_not {T:List TokD} {i:Nat} {s:List UInt8} (h:isT T i s=true) (hs:opnS s=false):isO T i=false:=by
 cases ho:isO T i with
 | false=>rfl
 | true=>
  unfold isO at ho
  rw [Bool.or_eq_true] at ho
  rcases ho with ho|ho <;> (have:=isT_ne h ho;subst this;cases hs)
theorem isO_knd {T:List TokD} {i:Nat} {t:TokD} (h:T[i]? = some t) (hk:t.kind < 5):isO T i=false:=by
 unfold isO isT sgT
 rw [h]
 simp only
 rw [if_neg (by omega),ByteArray.toList_eq]
 rfl
section
variable {T:List TokD} {i j:Nat} {N:NT}
theorem GB.bal (hb:Bal T i j) (hc:N.cl=false) (hd:N.st=true→isO T i=true→Dec T i j):GB T N i j:=⟨fun h=>(by rw [hc] at h;cases h),fun _=>hb,hd⟩
theorem GB.balN (hb:Bal T i j) (hc:N.cl=false) (hd:isO T i=false):GB T N i j:=.bal hb hc (fun _ h=>by rw [hd] at h;cases h)
theorem GB.balS (hb:Bal T i j) (hc:N.cl=false) (hd:N.st=false):GB T N i j:=.bal hb hc (fun h=>by rw [hd] at h;cases h)
theorem GB.balC (hb:BalC T i j) (hc:N.cl=true) (hd:N.st=false):GB T N i j:=⟨fun _=>hb,fun h=>(by rw [hc] at h;cases h),fun h=>by rw [hd] at h;cases h⟩
end
set_option maxHeartbeats 1000000 in
theorem G_bal {T:List TokD} (hK:KndOk T):∀ (f:Nat) (N:NT) (i:Nat) (l:List NodeD) (n j:Nat),N.cOk→N≠.unary→G T f N i = .ok l n j→GB T N i j:=by
 intro f
 induction f with
 | zero=>intro N i l n j _ _ h;cases h
 | succ f ih=>
  intro N i l n j hN hu h
  have ih' : ∀ {N:NT} {i:Nat} {l:List NodeD} {n j:Nat},G T f N i = .ok l n j→N.cOk→N≠.unary→GB T N i j:=fun h a b=>ih _ _ _ _ _ a b h
  cases N with
  | expr=>
   simp only [G] at h
   split at h
   ·rename_i h1
    obtain ⟨a,_,p,ha,h⟩:=bind_inv h
    split at h
    ·rename_i h2
     obtain ⟨b,_,q,hb,h⟩:=bind_inv h
     split at h
     ·rename_i h3
      obtain ⟨c,_,r,hc,h⟩:=bind_inv h
      cases h
      exact .balN ((((((Bal.word h1 (by decide)).trans ((ih' ha trivial (by simp)).op rfl)).trans (Bal.word h2 (by decide))).trans ((ih' hb trivial (by simp)).op rfl)).trans (Bal.word h3 (by decide))).trans ((ih' hc trivial (by simp)).op rfl)) rfl (isO_not h1 rfl)
     ·cases h
    ·cases h
   ·have:=ih' h trivial (by simp)
    exact .bal (this.op rfl) rfl (fun _=>this.dec rfl)
  | or=>
   simp only [G] at h
   obtain ⟨a,_,p,ha,h⟩:=bind_inv h
   have A:=ih' ha trivial (by simp)
   have B:=ih' h trivial (by simp)
   exact .bal ((A.op rfl).trans (B.op rfl)) rfl (fun _ ho=>(A.dec rfl ho).trans (A.op rfl).1 (B.op rfl).1)
  | and=>
   simp only [G] at h
   obtain ⟨a,_,p,ha,h⟩:=bind_inv h
   have A:=ih' ha trivial (by simp)
   have B:=ih' h trivial (by simp)
   exact .bal ((A.op rfl).trans (B.op rfl)) rfl (fun _ ho=>(A.dec rfl ho).trans (A.op rfl).1 (B.op rfl).1)
  | sum=>
   simp only [G] at h
   obtain ⟨a,_,p,ha,h⟩:=bind_inv h
   have A:=ih' ha trivial (by simp)
   have B:=ih' h trivial (by simp)
   exact .bal ((A.op rfl).trans (B.op rfl)) rfl (fun _ ho=>(A.dec rfl ho).trans (A.op rfl).1 (B.op rfl).1)
  | prod=>
   simp only [G] at h
   obtain ⟨a,_,p,ha,h⟩:=bind_inv h
   have A:=ih' ha trivial (by simp)
   have B:=ih' h trivial (by simp)
   exact .bal ((A.op rfl).trans (B.op rfl)) rfl (fun _ ho=>(A.dec rfl ho).trans (A.op rfl).1 (B.op rfl).1)
  | orL a=>
   simp only [G] at h
   split at h
   ·rename_i h1
    obtain ⟨b,_,p,hb,h⟩:=bind_inv h
    exact .balS (((Bal.word h1 (by decide)).trans ((ih' hb trivial (by simp)).op rfl)).trans ((ih' h trivial (by simp)).op rfl)) rfl rfl
   ·cases h;exact .balS .nil rfl rfl
  | andL a=>
   simp only [G] at h
   split at h
   ·rename_i h1
    obtain ⟨b,_,p,hb,h⟩:=bind_inv h
    exact .balS (((Bal.word h1 (by decide)).trans ((ih' hb trivial (by simp)).op rfl)).trans ((ih' h trivial (by simp)).op rfl)) rfl rfl
   ·cases h;exact .balS .nil rfl rfl
  | sumL a=>
   simp only [G] at h
   split at h
   ·rename_i h1
    obtain ⟨b,_,p,hb,h⟩:=bind_inv h
    exact .balS (((Bal.word h1 (by decide)).trans ((ih' hb trivial (by simp)).op rfl)).trans ((ih' h trivial (by simp)).op rfl)) rfl rfl
   ·split at h
    ·rename_i h1
     obtain ⟨b,_,p,hb,h⟩:=bind_inv h
     exact .balS (((Bal.word h1 (by decide)).trans ((ih' hb trivial (by simp)).op rfl)).trans ((ih' h trivial (by simp)).op rfl)) rfl rfl
    ·cases h;exact .balS .nil rfl rfl
  | prodL a=>
   simp only [G] at h
   split at h
   ·rename_i h1
    obtain ⟨b,_,p,hb,h⟩:=bind_inv h
    exact .balS (((Bal.word h1 (by decide)).trans ((ih' hb trivial (by simp)).op rfl)).trans ((ih' h trivial (by simp)).op rfl)) rfl rfl
   ·split at h
    ·rename_i h1
     obtain ⟨b,_,p,hb,h⟩:=bind_inv h
     exact .balS (((Bal.word h1 (by decide)).trans ((ih' hb trivial (by simp)).op rfl)).trans ((ih' h trivial (by simp)).op rfl)) rfl rfl
    ·cases h;exact .balS .nil rfl rfl
  | cmp=>
   simp only [G] at h
   obtain ⟨a,_,p,ha,h⟩:=bind_inv h
   have A:=ih' ha trivial (by simp)
   have AB:=A.op rfl
   have key:∀ q,Bal T p q→GB T .cmp i q:=fun q hq=>.bal (AB.trans hq) rfl (fun _ ho=>(A.dec rfl ho).trans AB.1 hq.1)
   split at h
   ·rename_i h1
    obtain ⟨b,_,q,hb,h⟩:=bind_inv h
    cases h
    exact key _ ((Bal.rel h1).trans ((ih' hb trivial (by simp)).op rfl))
   ·split at h
    ·rename_i h1
     obtain ⟨b,_,q,hb,h⟩:=bind_inv h
     split at h
     ·rename_i h2
      obtain ⟨c,_,r,hc,h⟩:=bind_inv h
      cases h
      exact key _ ((((Bal.word h1 (by decide)).trans ((ih' hb trivial (by simp)).op rfl)).trans (Bal.word h2 (by decide))).trans ((ih' hc trivial (by simp)).op rfl))
     ·cases h
    ·split at h
     ·rename_i h1
      obtain ⟨b,_,q,hb,h⟩:=bind_inv h
      cases h
      exact key _ ((Bal.word h1 (by decide)).trans ((ih' hb trivial (by simp)).op rfl))
     ·cases h
      exact key _ .nil
  | sgn=>
   simp only [G] at h
   split at h
   ·rename_i h1
    obtain ⟨b,_,p,hb,h⟩:=bind_inv h
    cases h
    exact .balN ((Bal.word h1 (by decide)).trans ((ih' hb trivial (by simp)).op rfl)) rfl (isO_not h1 rfl)
   ·obtain ⟨a,_,p,ha,h⟩:=bind_inv h
    have A:=ih' ha trivial (by simp)
    have B:=ih' h trivial (by simp)
    exact .bal ((A.op rfl).trans (B.op rfl)) rfl (fun _ ho=>(A.dec rfl ho).trans (A.op rfl).1 (B.op rfl).1)
  | pathL a=>
   simp only [G] at h
   split at h
   ·rename_i h1
    split at h
    ·rename_i t ht
     split at h
     ·rename_i h4
      exact .balS (((Bal.word h1 (by decide)).trans (Bal.knd ht (by omega))).trans ((ih' h trivial (by simp)).op rfl)) rfl rfl
     ·cases h
    ·cases h
   ·cases h;exact .balS .nil rfl rfl
  | sing=>
   simp only [G] at h
   split at h
   ·cases h
   ·rename_i t ht
    have one:∀ {s:List UInt8},isT T i s=true→(s≠[]∧opnS s=false∧clsS s=false)→GB T .sing i (i + 1):=fun h1 h2=>.balN (Bal.word h1 h2) rfl (isO_not h1 h2.2.1)
    have knd:t.kind < 5→GB T .sing i (i + 1):=fun hk=>.balN (Bal.knd ht (by omega)) rfl (isO_knd ht hk)
    have br:∀ {s:List UInt8} {q:Nat},isT T i s=true→opnS s=true→BalC T (i + 1) q→GB T .sing i q:=fun h1 h2 hq=>by
     obtain ⟨u,hu,ho⟩:=isT_opn hK h1 h2
     exact .bal (.br hu ho hq) rfl (fun _ _=>.br hu ho hq)
    split at h
    ·cases h;exact knd (by omega)
    ·split at h
     ·cases h;exact knd (by omega)
     ·split at h
      ·cases h;exact knd (by omega)
      ·split at h
       ·rename_i h4
        split at h
        ·rename_i h1
         obtain ⟨a,m,p,ha,h⟩:=bind_inv h
         split at h
         ·cases h
         ·cases h
          have A:=(ih' ha (.inl rfl) (by simp)).cl rfl
          obtain ⟨u,hu,ho⟩:=isT_opn hK h1 rfl
          exact .balN ((Bal.knd ht (by omega)).trans (.br hu ho A)) rfl (isO_knd ht (by omega))
        ·cases h;exact knd (by omega)
       ·split at h
        ·rename_i h1;cases h;exact one h1 (by decide)
        ·split at h
         ·rename_i h1;cases h;exact one h1 (by decide)
         ·split at h
          ·rename_i h1;cases h;exact one h1 (by decide)
          ·split at h
           ·rename_i h1
            obtain ⟨a,m,p,ha,h⟩:=bind_inv h
            split at h
            ·rename_i h2
             cases h
             obtain ⟨u,hu,hc⟩:=isT_cls hK h2 rfl
             exact br h1 rfl (((ih' ha trivial (by simp)).op rfl).transC (.tok hu hc))
            ·cases h
           ·split at h
            ·rename_i h1
             obtain ⟨a,m,p,ha,h⟩:=bind_inv h
             cases h
             exact br h1 rfl ((ih' ha (.inr rfl) (by simp)).cl rfl)
            ·split at h
             ·rename_i h1
              obtain ⟨a,m,p,ha,h⟩:=bind_inv h
              cases h
              exact br h1 rfl ((ih' ha trivial (by simp)).cl rfl)
             ·cases h
  | list e=>
   simp only [G] at h
   have hb:clsS [e]=true:=by rcases hN with rfl|rfl <;> rfl
   split at h
   ·rename_i h1
    cases h
    obtain ⟨u,hu,hc⟩:=isT_cls hK h1 hb
    exact .balC (.tok hu hc) rfl rfl
   ·exact .balC ((ih' h hN (by simp)).cl rfl) rfl rfl
  | listL e a m=>
   simp only [G] at h
   have hb:clsS [e]=true:=by rcases hN with rfl|rfl <;> rfl
   obtain ⟨b,_,p,hb',h⟩:=bind_inv h
   have B:=(ih' hb' trivial (by simp)).op rfl
   split at h
   ·rename_i h1
    cases h
    obtain ⟨u,hu,hc⟩:=isT_cls hK h1 hb
    exact .balC (B.transC (.tok hu hc)) rfl rfl
   ·split at h
    ·rename_i h1
     exact .balC (B.transC ((Bal.word h1 (by decide)).transC ((ih' h hN (by simp)).cl rfl))) rfl rfl
    ·cases h
  | ctx=>
   simp only [G] at h
   split at h
   ·rename_i h1
    cases h
    obtain ⟨u,hu,hc⟩:=isT_cls hK h1 rfl
    exact .balC (.tok hu hc) rfl rfl
   ·exact .balC ((ih' h trivial (by simp)).cl rfl) rfl rfl
  | ctxL a ns=>
   simp only [G] at h
   split at h
   ·cases h
   ·rename_i t ht
    split at h
    ·rename_i h4
     split at h
     ·cases h
     ·split at h
      ·rename_i h1
       obtain ⟨b,_,p,hb',h⟩:=bind_inv h
       have B:=(((Bal.knd ht (by omega)).trans (Bal.word h1 (by decide))).trans ((ih' hb' trivial (by simp)).op rfl))
       split at h
       ·rename_i h2
        cases h
        obtain ⟨u,hu,hc⟩:=isT_cls hK h2 rfl
        exact .balC (B.transC (.tok hu hc)) rfl rfl
       ·split at h
        ·rename_i h2
         exact .balC (B.transC ((Bal.word h2 (by decide)).transC ((ih' h trivial (by simp)).cl rfl))) rfl rfl
        ·cases h
      ·cases h
    ·cases h
  | grp=>
   simp only [G] at h
   split at h
   ·rename_i h1
    obtain ⟨a,m,p,ha,h⟩:=bind_inv h
    split at h
    ·rename_i h2
     cases h
     obtain ⟨u,hu,ho⟩:=isT_opn hK h1 rfl
     obtain ⟨v,hv,hc⟩:=isT_cls hK h2 rfl
     exact .balS (.br hu ho (((ih' ha trivial (by simp)).op rfl).transC (.tok hv hc))) rfl rfl
    ·cases h
   ·cases h
  | tests=>
   simp only [G] at h
   obtain ⟨a,_,p,ha,h⟩:=bind_inv h
   exact .balS (((ih' ha trivial (by simp)).op rfl).trans ((ih' h trivial (by simp)).op rfl)) rfl rfl
  | testsL a m=>
   simp only [G] at h
   split at h
   ·rename_i h1
    obtain ⟨b,_,p,hb,h⟩:=bind_inv h
    exact .balS (((Bal.word h1 (by decide)).trans ((ih' hb trivial (by simp)).op rfl)).trans ((ih' h trivial (by simp)).op rfl)) rfl rfl
   ·cases h;exact .balS .nil rfl rfl
  | test=>
   simp only [G] at h
   split at h
   ·rename_i h1
    obtain ⟨b,_,p,hb,h⟩:=bind_inv h
    cases h
    have hr:relT T i≠0:=by omega
    exact .balN ((Bal.rel hr).trans ((ih' hb trivial (by simp)).op rfl)) rfl (isO_not isT_self (rel_nb hr).2.1)
   ·split at h
    ·rename_i h1
     obtain ⟨b,_,p,hb,h⟩:=bind_inv h
     split at h
     ·rename_i h2
      obtain ⟨c,_,q,hc,h⟩:=bind_inv h
      split at h
      ·rename_i h3
       cases h
       have ho:∃ t,T[i]? = some t∧opn t=true:=by
        rw [Bool.and_eq_true,Bool.or_eq_true] at h1
        rcases h1.1 with h|h
        ·exact isT_opn hK h rfl
        ·exact isT_opn hK h rfl
       have hk:∃ t,T[q]? = some t∧cls t=true:=by
        rw [Bool.or_eq_true] at h3
        rcases h3 with h|h
        ·exact isT_cls hK h rfl
        ·exact isT_cls hK h rfl
       obtain ⟨u,hu,ho⟩:=ho
       obtain ⟨v,hv,hc'⟩:=hk
       have hin:=(((((ih' hb trivial (by simp)).op rfl).trans (Bal.word h2 (by decide))).trans ((ih' hc trivial (by simp)).op rfl)).transC (.tok hv hc'))
       exact .bal (.br hu ho hin) rfl (fun _ _=>.br hu ho hin)
      ·cases h
     ·cases h
    ·obtain ⟨b,_,p,hb,h⟩:=bind_inv h
     cases h
     have B:=ih' hb trivial (by simp)
     exact .bal (B.op rfl) rfl (fun _=>B.dec rfl)
  | unary=>exact absurd rfl hu
end Go.Proofs.YtheimopjglkgjaaGreatDoor

namespace Go.Proofs.YtheimopjglkgjaaGreatDoor
open Go.RowKit
set_option linter.unusedVariables false
set_option linter.unusedSimpArgs false

/-- The tokens T lie among U from d on, but for the places that they tell; behind them U ends, or a closing bracket stands, or a token that is no sign and no keyword. -/
structure TEmb (U:List TokD) (d:Nat) (T:List TokD):Prop where
 at_:∀ (i:Nat) (t:TokD),T[i]? = some t→∃ a,U[d + i]? = some { t with at_:=a}
 end_ : ∀ s, isT U (d + T.length) s = true → s = [] ∨ s = [41]
def noAt (t:TokD):TokD:={ t with at_:=0}
theorem scanL_no:∀ (l:List TokD) (d:Int),scanL (l.map noAt) d=scanL l d
 | [],d=>rfl
 | t :: r,d=>by
  rw [List.map_cons]
  unfold scanL
  rw [scanL_no r (d + 1),scanL_no r (d - 1),scanL_no r d]
  rfl
section
variable {U T:List TokD} {d i j x:Nat}
theorem TEmb.sg (h:TEmb U d T) (hx:x=d + i) (hi:i < T.length):sgT U x=sgT T i:=by
 subst hx
 obtain ⟨t,ht⟩:∃ t,T[i]? = some t:=⟨_,List.getElem?_eq_getElem hi⟩
 obtain ⟨a,ha⟩:=h.at_ i t ht
 unfold sgT
 rw [ht,ha]
theorem TEmb.isl (h:TEmb U d T) {s:List UInt8} (hx:x=d + i) (hi:i < T.length):isT U x s=isT T i s:=by
 unfold isT
 rw [h.sg hx hi]
theorem TEmb.is (h:TEmb U d T) {s:List UInt8} (hx:x=d + i) (hi:i≤T.length) (hs:s≠[]∧s≠[41]):isT U x s=isT T i s:=by
 by_cases hlt:i < T.length
 ·exact h.isl hx hlt
 ·have hie:i=T.length:=by omega
  have h0:isT T i s=false:=by
   cases hb:isT T i s with
   | false=>rfl
   | true=>
    obtain ⟨t,ht,-⟩:=isT_tok hb hs.1
    exact absurd (List.getElem?_eq_some_iff.1 ht).1 hlt
  rw [h0]
  cases hb:isT U x s with
  | false=>rfl
  | true=>
   subst hx hie
   rcases h.end_ s hb with e|e
   ·exact absurd e hs.1
   ·exact absurd e hs.2
theorem relL_mem {s:List UInt8} (h:relL s≠0):s≠[]∧s≠[41]:=by
 have h1:=rel_nb h
 refine ⟨h1.1,fun e=>?_⟩
 rw [e] at h1
 cases h1.2.2
theorem TEmb.rel (h:TEmb U d T) (hx:x=d + i) (hi:i≤T.length):relT U x=relT T i:=by
 by_cases hlt:i < T.length
 ·unfold relT
  rw [h.sg hx hlt]
 ·have hie:i=T.length:=by omega
  have h0:relT T i=0:=by
   unfold relT
   rw [sgT_none (by omega),ByteArray.toList_eq]
   rfl
  rw [h0]
  by_cases hr:relT U x=0
  ·exact hr
  ·subst hx hie
   have h1:=relL_mem (s:=(sgT U (d + T.length)).toList) hr
   rcases h.end_ _ isT_self with e|e
   ·exact absurd e h1.1
   ·exact absurd e h1.2
theorem TEmb.seg (h:TEmb U d T) (hij:i≤j) (hj:j≤T.length):(seg U (d + i) (d + j)).map noAt=(Go.Proofs.YtheimopjglkgjaaGreatDoor.seg T i j).map noAt:=by
 unfold Go.Proofs.YtheimopjglkgjaaGreatDoor.seg
 apply List.ext_getElem?
 intro k
 rw [List.getElem?_map,List.getElem?_map]
 by_cases hk:k < j - i
 ·rw [List.getElem?_take_of_lt (by omega),List.getElem?_take_of_lt hk,List.getElem?_drop,List.getElem?_drop]
  obtain ⟨t,ht⟩:∃ t,T[i + k]? = some t:=⟨_,List.getElem?_eq_getElem (by omega)⟩
  obtain ⟨a,ha⟩:=h.at_ _ t ht
  rw [Nat.add_assoc,ht,ha]
  rfl
 ·rw [List.getElem?_eq_none (by rw [List.length_take];omega),List.getElem?_eq_none (by rw [List.length_take];omega)]
theorem seg_drop (hij:i≤j):T.drop i=Go.Proofs.YtheimopjglkgjaaGreatDoor.seg T i j++T.drop j:=by
 unfold Go.Proofs.YtheimopjglkgjaaGreatDoor.seg
 rw [show T.drop j=(T.drop i).drop (j - i) by rw [List.drop_drop,show i + (j - i)=j by omega],List.take_append_drop]
theorem TEmb.ivl (h:TEmb U d T) (hx:x=d + i) (hd:Dec T i j) (hij:i≤j) (hj:j≤T.length):ivl U x=Go.Proofs.YtheimopjglkgjaaGreatDoor.ivl T i:=by
 subst hx
 obtain ⟨b,hb⟩:=hd
 have h2:scanL (Go.Proofs.YtheimopjglkgjaaGreatDoor.seg U (d + i) (d + j)) 0 = .inl b:=by rw [← scanL_no,h.seg hij hj,scanL_no,hb]
 rw [ivl_scan,ivl_scan,seg_drop (T:=U) (i:=d + i) (j:=d + j) (by omega),seg_drop (T:=T) hij,scanL_app,scanL_app,hb,h2]
 rfl
theorem TEmb.ivc (h:TEmb U d T) (hx:x=d + i) (hi:i≤T.length) (hd:isO T i=true→Dec T i j) (hij:i≤j) (hj:j≤T.length):((isT U x [91] || isT U x [40]) && Go.Proofs.YtheimopjglkgjaaGreatDoor.ivl U x)=((isT T i [91] || isT T i [40]) && Go.Proofs.YtheimopjglkgjaaGreatDoor.ivl T i):=by
 rw [h.is hx hi (by decide),h.is hx hi (by decide)]
 cases ho:(isT T i [91] || isT T i [40]) with
 | false=>rfl
 | true=>rw [h.ivl hx (hd ho) hij hj]
theorem isT_end {s:List UInt8} (h:isT T i s=true) (hs:s≠[]):i < T.length:=by
 obtain ⟨t,ht,-⟩:=isT_tok h hs
 exact (List.getElem?_eq_some_iff.1 ht).1
end
set_option maxHeartbeats 2000000 in
theorem G_emb {U T:List TokD} {d:Nat} (hK:KndOk T) (hE:TEmb U d T):∀ (f:Nat) (N:NT) (i:Nat) (l:List NodeD) (n j:Nat),i≤T.length→N.cOk→N≠.unary→G T f N i = .ok l n j→∀ (g x:Nat),f≤g→x=d + i→G U g N x = .ok l n (d + j):=by
 intro f
 induction f with
 | zero=>intro N i l n j _ _ _ h;cases h
 | succ f ih=>
  intro N i l n j hi hN hu h g x hg hx
  have hw:=h
  cases g with
  | zero=>omega
  | succ g=>
  have hg' : f≤g:=by omega
  have ih' : ∀ {N:NT} {i:Nat} {l:List NodeD} {n j:Nat},G T f N i = .ok l n j→i≤T.length→N.cOk→N≠.unary→∀ (g x:Nat),f≤g→x=d + i→G U g N x = .ok l n (d + j):=fun h hi a b=>ih _ _ _ _ _ hi a b h
  have gto:∀ {N:NT} {i:Nat} {l:List NodeD} {n j:Nat},i≤T.length→N≠.unary→G T f N i = .ok l n j→i + N.pg≤j∧j≤T.length:=fun hi hN h=>by
   have:=G_ok h hi (fun e=>absurd e hN)
   exact ⟨this.from_,this.to_⟩
  have next:∀ {i y:Nat},y=d + i→y + 1=d + (i + 1):=fun h=>by omega
  cases N with
  | expr=>
   simp only [G] at h ⊢
   rw [hE.is hx hi (by decide)]
   split at h
   ·rename_i h1
    rw [if_pos h1]
    obtain ⟨a,_,p,ha,h⟩:=bind_inv h
    have l1:=isT_end h1 (by decide)
    have t1:=gto l1 (by simp) ha
    rw [ih' ha l1 trivial (by simp) g _ hg' (next hx)]
    split at h
    ·rename_i h2
     obtain ⟨b,_,q,hb,h⟩:=bind_inv h
     have l2:=isT_end h2 (by decide)
     have t2:=gto l2 (by simp) hb
     show (if isT U (d + p) _=true then _ else _)=_
     rw [hE.is rfl t1.2 (by decide),if_pos h2,ih' hb l2 trivial (by simp) g _ hg' (next rfl)]
     split at h
     ·rename_i h3
      obtain ⟨c,_,r,hc,h⟩:=bind_inv h
      have l3:=isT_end h3 (by decide)
      show (if isT U (d + q) _=true then _ else _)=_
      rw [hE.is rfl t2.2 (by decide),if_pos h3,ih' hc l3 trivial (by simp) g _ hg' (next rfl)]
      cases h
      rfl
     ·cases h
    ·cases h
   ·rename_i h1
    rw [if_neg h1]
    exact ih' h hi trivial (by simp) g _ hg' hx
  | or=>
   simp only [G] at h ⊢
   obtain ⟨a,_,p,ha,h⟩:=bind_inv h
   rw [ih' ha hi trivial (by simp) g _ hg' hx]
   exact ih' h (gto hi (by simp) ha).2 trivial (by simp) g _ hg' rfl
  | and=>
   simp only [G] at h ⊢
   obtain ⟨a,_,p,ha,h⟩:=bind_inv h
   rw [ih' ha hi trivial (by simp) g _ hg' hx]
   exact ih' h (gto hi (by simp) ha).2 trivial (by simp) g _ hg' rfl
  | sum=>
   simp only [G] at h ⊢
   obtain ⟨a,_,p,ha,h⟩:=bind_inv h
   rw [ih' ha hi trivial (by simp) g _ hg' hx]
   exact ih' h (gto hi (by simp) ha).2 trivial (by simp) g _ hg' rfl
  | prod=>
   simp only [G] at h ⊢
   obtain ⟨a,_,p,ha,h⟩:=bind_inv h
   rw [ih' ha hi trivial (by simp) g _ hg' hx]
   exact ih' h (gto hi (by simp) ha).2 trivial (by simp) g _ hg' rfl
  | tests=>
   simp only [G] at h ⊢
   obtain ⟨a,_,p,ha,h⟩:=bind_inv h
   rw [ih' ha hi trivial (by simp) g _ hg' hx]
   exact ih' h (gto hi (by simp) ha).2 trivial (by simp) g _ hg' rfl
  | orL a=>
   simp only [G] at h ⊢
   rw [hE.is hx hi (by decide)]
   split at h
   ·rename_i h1
    obtain ⟨b,_,p,hb,h⟩:=bind_inv h
    have l1:=isT_end h1 (by decide)
    rw [if_pos h1,ih' hb l1 trivial (by simp) g _ hg' (next hx)]
    exact ih' h (gto l1 (by simp) hb).2 trivial (by simp) g _ hg' rfl
   ·rename_i h1;rw [if_neg h1];cases h;rw [hx]
  | andL a=>
   simp only [G] at h ⊢
   rw [hE.is hx hi (by decide)]
   split at h
   ·rename_i h1
    obtain ⟨b,_,p,hb,h⟩:=bind_inv h
    have l1:=isT_end h1 (by decide)
    rw [if_pos h1,ih' hb l1 trivial (by simp) g _ hg' (next hx)]
    exact ih' h (gto l1 (by simp) hb).2 trivial (by simp) g _ hg' rfl
   ·rename_i h1;rw [if_neg h1];cases h;rw [hx]
  | sumL a=>
   simp only [G] at h ⊢
   rw [hE.is hx hi (by decide),hE.is hx hi (by decide)]
   split at h
   ·rename_i h1
    obtain ⟨b,_,p,hb,h⟩:=bind_inv h
    have l1:=isT_end h1 (by decide)
    rw [if_pos h1,ih' hb l1 trivial (by simp) g _ hg' (next hx)]
    exact ih' h (gto l1 (by simp) hb).2 trivial (by simp) g _ hg' rfl
   ·rename_i h0
    rw [if_neg h0]
    split at h
    ·rename_i h1
     obtain ⟨b,_,p,hb,h⟩:=bind_inv h
     have l1:=isT_end h1 (by decide)
     rw [if_pos h1,ih' hb l1 trivial (by simp) g _ hg' (next hx)]
     exact ih' h (gto l1 (by simp) hb).2 trivial (by simp) g _ hg' rfl
    ·rename_i h1;rw [if_neg h1];cases h;rw [hx]
  | prodL a=>
   simp only [G] at h ⊢
   rw [hE.is hx hi (by decide),hE.is hx hi (by decide)]
   split at h
   ·rename_i h1
    obtain ⟨b,_,p,hb,h⟩:=bind_inv h
    have l1:=isT_end h1 (by decide)
    rw [if_pos h1,ih' hb l1 trivial (by simp) g _ hg' (next hx)]
    exact ih' h (gto l1 (by simp) hb).2 trivial (by simp) g _ hg' rfl
   ·rename_i h0
    rw [if_neg h0]
    split at h
    ·rename_i h1
     obtain ⟨b,_,p,hb,h⟩:=bind_inv h
     have l1:=isT_end h1 (by decide)
     rw [if_pos h1,ih' hb l1 trivial (by simp) g _ hg' (next hx)]
     exact ih' h (gto l1 (by simp) hb).2 trivial (by simp) g _ hg' rfl
    ·rename_i h1;rw [if_neg h1];cases h;rw [hx]
  | cmp=>
   simp only [G] at h ⊢
   obtain ⟨a,_,p,ha,h⟩:=bind_inv h
   have hp:=(gto hi (by simp) ha).2
   rw [ih' ha hi trivial (by simp) g _ hg' hx]
   show (if relT U (d + p)≠0 then (G U g .sum (d + p + 1)).bind (fun b _ k=>.ok (a++b++[nOp (relT U (d + p)) 2]) 0 k) else _)=_
   rw [hE.rel rfl hp,hE.is rfl hp (by decide),hE.is rfl hp (by decide)]
   split at h
   ·rename_i h1
    obtain ⟨b,_,q,hb,h⟩:=bind_inv h
    have l1:=relT_lt h1
    rw [if_pos h1,ih' hb l1 trivial (by simp) g _ hg' (next rfl)]
    cases h
    rfl
   ·rename_i h0
    rw [if_neg h0]
    split at h
    ·rename_i h1
     obtain ⟨b,_,q,hb,h⟩:=bind_inv h
     have l1:=isT_end h1 (by decide)
     rw [if_pos h1,ih' hb l1 trivial (by simp) g _ hg' (next rfl)]
     split at h
     ·rename_i h2
      obtain ⟨c,_,r,hc,h⟩:=bind_inv h
      have l2:=isT_end h2 (by decide)
      show (if isT U (d + q) _=true then _ else _)=_
      rw [hE.is rfl (gto l1 (by simp) hb).2 (by decide),if_pos h2,ih' hc l2 trivial (by simp) g _ hg' (next rfl)]
      cases h
      rfl
     ·cases h
    ·rename_i h0'
     rw [if_neg h0']
     split at h
     ·rename_i h1
      obtain ⟨b,_,q,hb,h⟩:=bind_inv h
      have l1:=isT_end h1 (by decide)
      rw [if_pos h1,ih' hb l1 trivial (by simp) g _ hg' (next rfl)]
      cases h
      rfl
     ·rename_i h1;rw [if_neg h1];cases h;rfl
  | sgn=>
   simp only [G] at h ⊢
   rw [hE.is hx hi (by decide)]
   split at h
   ·rename_i h1
    obtain ⟨b,_,p,hb,h⟩:=bind_inv h
    have l1:=isT_end h1 (by decide)
    rw [if_pos h1,ih' hb l1 trivial (by simp) g _ hg' (next hx)]
    cases h
    rfl
   ·rename_i h1
    rw [if_neg h1]
    obtain ⟨a,_,p,ha,h⟩:=bind_inv h
    rw [ih' ha hi trivial (by simp) g _ hg' hx]
    exact ih' h (gto hi (by simp) ha).2 trivial (by simp) g _ hg' rfl
  | pathL a=>
   simp only [G] at h ⊢
   rw [hE.is hx hi (by decide)]
   split at h
   ·rename_i h1
    rw [if_pos h1]
    split at h
    ·rename_i t ht
     obtain ⟨b,hb⟩:=hE.at_ _ t ht
     rw [show x + 1=d + (i + 1) by omega,hb]
     split at h
     ·rename_i h4
      show (if t.kind=4 then G U g (.pathL (a++[nTx 24 1 t.text])) (x + 2) else _)=_
      rw [if_pos h4]
      exact ih' h (some_lt ht) trivial (by simp) g _ hg' (by omega)
     ·cases h
    ·cases h
   ·rename_i h1;rw [if_neg h1];cases h;rw [hx]
  | sing=>
   simp only [G] at h ⊢
   split at h
   ·cases h
   ·rename_i t ht
    obtain ⟨b,hb⟩:=hE.at_ _ t ht
    have l0:=some_lt ht
    rw [hx,hb]
    simp only
    rw [hE.is rfl hi (by decide),hE.is rfl hi (by decide),hE.is rfl hi (by decide),hE.is rfl hi (by decide),hE.is rfl hi (by decide),hE.is rfl hi (by decide),hE.is (x:=d + i + 1) (i:=i + 1) rfl l0 (by decide)]
    split at h
    ·rename_i hk;rw [if_pos hk];cases h;rfl
    ·rename_i hk
     rw [if_neg hk]
     clear hk
     split at h
     ·rename_i hk;rw [if_pos hk];cases h;rfl
     ·rename_i hk
      rw [if_neg hk]
      clear hk
      split at h
      ·rename_i hk;rw [if_pos hk];cases h;rfl
      ·rename_i hk
       rw [if_neg hk]
       clear hk
       split at h
       ·rename_i hk
        rw [if_pos hk]
        split at h
        ·rename_i h1
         rw [if_pos h1]
         obtain ⟨a,m,p,ha,h⟩:=bind_inv h
         have l1:=isT_end h1 (by decide)
         rw [ih' ha l1 (.inl rfl) (by simp) g _ hg' (by omega)]
         split at h
         ·cases h
         ·rename_i h8
          show (if 8 < m then _ else _)=_
          rw [if_neg h8]
          cases h
          rfl
        ·rename_i h1;rw [if_neg h1];cases h;rfl
       ·rename_i hk
        rw [if_neg hk]
        clear hk
        split at h
        ·rename_i hk;rw [if_pos hk];cases h;rfl
        ·rename_i hk
         rw [if_neg hk]
         clear hk
         split at h
         ·rename_i hk;rw [if_pos hk];cases h;rfl
         ·rename_i hk
          rw [if_neg hk]
          clear hk
          split at h
          ·rename_i hk;rw [if_pos hk];cases h;rfl
          ·rename_i hk
           rw [if_neg hk]
           clear hk
           split at h
           ·rename_i hk
            rw [if_pos hk]
            obtain ⟨a,m,p,ha,h⟩:=bind_inv h
            rw [ih' ha l0 trivial (by simp) g _ hg' (by omega)]
            split at h
            ·rename_i h2
             show (if isT U (d + p) _=true then _ else _)=_
             rw [hE.isl rfl (isT_end h2 (by decide)),if_pos h2]
             cases h
             rfl
            ·cases h
           ·rename_i hk
            rw [if_neg hk]
            clear hk
            split at h
            ·rename_i hk
             rw [if_pos hk]
             obtain ⟨a,m,p,ha,h⟩:=bind_inv h
             rw [ih' ha l0 (.inr rfl) (by simp) g _ hg' (by omega)]
             cases h
             rfl
            ·rename_i hk
             rw [if_neg hk]
             clear hk
             split at h
             ·rename_i hk
              rw [if_pos hk]
              obtain ⟨a,m,p,ha,h⟩:=bind_inv h
              rw [ih' ha l0 trivial (by simp) g _ hg' (by omega)]
              cases h
              rfl
             ·cases h
  | list e=>
   have hlt:i < T.length:=by
    have:=G_ok hw hi (fun e=>absurd e (by simp))
    have h1:=this.from_
    have h2:=this.to_
    simp only [NT.pg] at h1
    omega
   simp only [G] at h ⊢
   rw [hE.isl hx hlt]
   split at h
   ·rename_i h1;rw [if_pos h1];cases h;rw [hx];rfl
   ·rename_i h1
    rw [if_neg h1]
    exact ih' h hi hN (by simp) g _ hg' hx
  | listL e a m=>
   simp only [G] at h ⊢
   obtain ⟨b,_,p,hb,h⟩:=bind_inv h
   have hp:=(gto hi (by simp) hb).2
   rw [ih' hb hi trivial (by simp) g _ hg' hx]
   show (if isT U (d + p) _=true then _ else if isT U (d + p) _=true then _ else _)=_
   rw [hE.is (s:=[44]) rfl hp (by decide)]
   split at h
   ·rename_i h1
    rw [hE.isl rfl (isT_end h1 (by simp)),if_pos h1]
    cases h
    rfl
   ·rename_i h1
    split at h
    ·rename_i h2
     rw [hE.isl rfl (isT_end h2 (by simp)),if_neg h1,if_pos h2]
     exact ih' h (isT_end h2 (by simp)) hN (by simp) g _ hg' (next rfl)
    ·cases h
  | ctx=>
   simp only [G] at h ⊢
   rw [hE.is hx hi (by decide)]
   split at h
   ·rename_i h1;rw [if_pos h1];cases h;rw [hx];rfl
   ·rename_i h1
    rw [if_neg h1]
    exact ih' h hi trivial (by simp) g _ hg' hx
  | ctxL a ns=>
   simp only [G] at h ⊢
   split at h
   ·cases h
   ·rename_i t ht
    obtain ⟨c,hc⟩:=hE.at_ _ t ht
    have l0:=some_lt ht
    rw [hx,hc]
    simp only
    rw [hE.is (x:=d + i + 1) (i:=i + 1) rfl l0 (by decide)]
    split at h
    ·rename_i h4
     rw [if_pos h4]
     split at h
     ·cases h
     ·rename_i hn
      rw [if_neg hn]
      split at h
      ·rename_i h1
       rw [if_pos h1]
       obtain ⟨b,_,p,hb,h⟩:=bind_inv h
       have l1:=isT_end h1 (by decide)
       have hp:=(gto l1 (by simp) hb).2
       rw [ih' hb l1 trivial (by simp) g _ hg' (by omega)]
       show (if isT U (d + p) _=true then _ else if isT U (d + p) _=true then _ else _)=_
       rw [hE.is rfl hp (by decide),hE.is rfl hp (by decide)]
       split at h
       ·rename_i h2;rw [if_pos h2];cases h;rfl
       ·rename_i h2
        rw [if_neg h2]
        split at h
        ·rename_i h3
         rw [if_pos h3]
         exact ih' h (isT_end h3 (by decide)) trivial (by simp) g _ hg' (next rfl)
        ·cases h
      ·cases h
    ·cases h
  | grp=>
   simp only [G] at h ⊢
   rw [hE.is hx hi (by decide)]
   split at h
   ·rename_i h1
    obtain ⟨a,m,p,ha,h⟩:=bind_inv h
    have l1:=isT_end h1 (by decide)
    rw [if_pos h1,ih' ha l1 trivial (by simp) g _ hg' (next hx)]
    split at h
    ·rename_i h2
     show (if isT U (d + p) _=true then _ else _)=_
     rw [hE.isl rfl (isT_end h2 (by decide)),if_pos h2]
     cases h
     rfl
    ·cases h
   ·cases h
  | testsL a m=>
   simp only [G] at h ⊢
   rw [hE.is hx hi (by decide)]
   split at h
   ·rename_i h1
    obtain ⟨b,_,p,hb,h⟩:=bind_inv h
    have l1:=isT_end h1 (by decide)
    rw [if_pos h1,ih' hb l1 trivial (by simp) g _ hg' (next hx)]
    exact ih' h (gto l1 (by simp) hb).2 trivial (by simp) g _ hg' rfl
   ·rename_i h1;rw [if_neg h1];cases h;rw [hx]
  | test=>
   have hB:GB T .test i j:=G_bal hK _ _ _ _ _ _ trivial (by simp) hw
   have hj:=(G_ok hw hi (fun e=>absurd e (by simp))).to_
   simp only [G] at h ⊢
   rw [hE.rel hx hi,hE.ivc hx hi (hB.dec rfl) (hB.op rfl).1 hj]
   split at h
   ·rename_i h1
    obtain ⟨b,_,q,hb,h⟩:=bind_inv h
    have l1:=relT_lt (T:=T) (i:=i) (by omega)
    rw [if_pos h1,ih' hb l1 trivial (by simp) g _ hg' (next hx)]
    cases h
    rfl
   ·rename_i h0
    rw [if_neg h0]
    split at h
    ·rename_i h1
     rw [if_pos h1]
     obtain ⟨b,_,p,hb,h⟩:=bind_inv h
     have l0:i < T.length:=by
      rw [Bool.and_eq_true,Bool.or_eq_true] at h1
      rcases h1.1 with h|h
      ·exact isT_end h (by decide)
      ·exact isT_end h (by decide)
     have hp:=(gto l0 (by simp) hb).2
     rw [ih' hb l0 trivial (by simp) g _ hg' (next hx)]
     split at h
     ·rename_i h2
      obtain ⟨c,_,q,hc,h⟩:=bind_inv h
      have l2:=isT_end h2 (by decide)
      show (if isT U (d + p) _=true then _ else _)=_
      rw [hE.is rfl hp (by decide),if_pos h2,ih' hc l2 trivial (by simp) g _ hg' (next rfl)]
      split at h
      ·rename_i h3
       have l3:q < T.length:=by
        rw [Bool.or_eq_true] at h3
        rcases h3 with h|h
        ·exact isT_end h (by decide)
        ·exact isT_end h (by decide)
       show (if (isT U (d + q) _ || isT U (d + q) _)=true then PR.ok (b++c++[nTx 35 2 (sgT U x++sgT U (d + q))]) 0 (d + q + 1) else _)=_
       rw [hE.isl rfl l3,hE.isl rfl l3,if_pos h3,hE.sg hx l0,hE.sg rfl l3]
       cases h
       rfl
      ·cases h
     ·cases h
    ·rename_i h1
     rw [if_neg h1]
     obtain ⟨b,_,p,hb,h⟩:=bind_inv h
     rw [ih' hb hi trivial (by simp) g _ hg' hx]
     cases h
     rfl
  | unary=>exact absurd rfl hu
end Go.Proofs.YtheimopjglkgjaaGreatDoor

namespace Go.Proofs.YtheimopjglkgjaaGreatDoor
open Go.RowKit
set_option linter.unusedVariables false
set_option linter.unusedSimpArgs false

section
variable {T:List TokD}
theorem sg_no (i:Nat):sgT (T.map noAt) i=sgT T i:=by
 unfold sgT
 rw [List.getElem?_map]
 cases T[i]? <;> rfl
theorem isT_no (i:Nat) (s:List UInt8):isT (T.map noAt) i s=isT T i s:=by
 unfold isT
 rw [sg_no]
theorem relT_no (i:Nat):relT (T.map noAt) i=relT T i:=by
 unfold relT
 rw [sg_no]
theorem ivl_no (i:Nat):ivl (T.map noAt) i=ivl T i:=by
 rw [ivl_scan,ivl_scan,← List.map_drop,scanL_no]
theorem G_no:∀ (f:Nat) (N:NT) (i:Nat),G (T.map noAt) f N i=G T f N i:=by
 intro f
 induction f with
 | zero=>intro N i;rfl
 | succ f ih=>
  intro N i
  have ih' : ∀ N,G (T.map noAt) f N=G T f N:=fun N=>funext fun i=>ih N i
  cases N <;> simp only [G,isT_no,relT_no,ivl_no,sg_no,ih',List.length_map,List.getElem?_map]
  ·cases T[i]? <;> rfl
  ·cases T[i + 1]? <;> rfl
  ·cases T[i]? <;> rfl
end
/-- With so much fuel or more the grammar reads that. -/
def Ev (L:List TokD) (N:NT) (i:Nat) (l:List NodeD) (n j f:Nat):Prop:=∀ g,f≤g→G L g N i = .ok l n j
/-- What may stand behind a whole expression: nothing, a closing bracket, then, else. -/
def FinT (L:List TokD) (j:Nat):Prop:=(sgT L j).toList=[]∨(sgT L j).toList=[41]∨(sgT L j).toList=[116,104,101,110]∨(sgT L j).toList=[101,108,115,101]
section
variable {L:List TokD} {N:NT} {i j k q f f' f'' n m:Nat} {l a b c r:List NodeD}
theorem Ev.mono (h:Ev L N i l n j f) (hf:f≤f'):Ev L N i l n j f':=fun g hg=>h g (Nat.le_trans hf hg)
theorem isT_not {s s' : List UInt8} (h:isT L i s=true) (hs:s≠s'):isT L i s' = false:=by
 cases hb:isT L i s' with
 | false=>rfl
 | true=>exact absurd (isT_ne h hb) hs
theorem FinT.no (h:FinT L j) {s:List UInt8} (hs:s≠[]∧s≠[41]∧s≠[116,104,101,110]∧s≠[101,108,115,101]):isT L j s=false:=by
 cases hb:isT L j s with
 | false=>rfl
 | true=>
  unfold isT at hb
  have e:=beq_iff_eq.1 hb
  rcases h with h|h|h|h <;> (rw [h] at e;first|exact absurd e.symm hs.1|exact absurd e.symm hs.2.1|exact absurd e.symm hs.2.2.1|exact absurd e.symm hs.2.2.2)
theorem FinT.rel (h:FinT L j):relT L j=0:=by
 unfold relT
 rcases h with h|h|h|h <;> (rw [h];rfl)
theorem FinT.of (h:isT L j [41]=true):FinT L j:=.inr (.inl (beq_iff_eq.1 h))
theorem rel_zero {s:List UInt8} (h:isT L j s=true) (hs:relL s=0):relT L j=0:=by
 unfold relT
 rw [show (sgT L j).toList=s from beq_iff_eq.1 h]
 exact hs
theorem ev_par (h1:isT L i [40]=true) (hE:Ev L .expr (i + 1) l n j f) (h2:isT L j [41]=true):Ev L .sing i l 0 (j + 1) (f + 1):=by
 intro g hg
 obtain ⟨g,rfl⟩:∃ k,g=k + 1:=⟨g - 1,by omega⟩
 obtain ⟨t,ht,h5,-⟩:=isT_tok h1 (by decide)
 simp only [G]
 rw [ht]
 simp only
 rw [if_neg (by omega),if_neg (by omega),if_neg (by omega),if_neg (by omega),isT_not h1 (by decide:([40]:List UInt8)≠[110,117,108,108]),isT_not h1 (by decide:([40]:List UInt8)≠[116,114,117,101]),isT_not h1 (by decide:([40]:List UInt8)≠[102,97,108,115,101]),if_neg (by decide),if_neg (by decide),if_neg (by decide),if_pos h1,hE g (by omega)]
 show (if isT L j [41]=true then PR.ok l 0 (j + 1) else PR.no)=_
 rw [if_pos h2]
theorem ev_true (h1:isT L i [116,114,117,101]=true):Ev L .sing i [nOp 2 0] 0 (i + 1) 1:=by
 intro g hg
 obtain ⟨g,rfl⟩:∃ k,g=k + 1:=⟨g - 1,by omega⟩
 obtain ⟨t,ht,h5,-⟩:=isT_tok h1 (by decide)
 simp only [G]
 rw [ht]
 simp only
 rw [if_neg (by omega),if_neg (by omega),if_neg (by omega),if_neg (by omega),isT_not h1 (by decide:([116,114,117,101]:List UInt8)≠[110,117,108,108]),if_neg (by decide),if_pos h1]
theorem ev_pathL_end (h:isT L j [46]=false):Ev L (.pathL a) j a 0 j 1:=by
 intro g hg
 obtain ⟨g,rfl⟩:∃ k,g=k + 1:=⟨g - 1,by omega⟩
 simp only [G]
 rw [if_neg (by rw [h];decide)]
theorem ev_prodL_end (h1:isT L j [42]=false) (h2:isT L j [47]=false):Ev L (.prodL a) j a 0 j 1:=by
 intro g hg
 obtain ⟨g,rfl⟩:∃ k,g=k + 1:=⟨g - 1,by omega⟩
 simp only [G]
 rw [if_neg (by rw [h1];decide),if_neg (by rw [h2];decide)]
theorem ev_andL_end (h:isT L j [97,110,100]=false):Ev L (.andL a) j a 0 j 1:=by
 intro g hg
 obtain ⟨g,rfl⟩:∃ k,g=k + 1:=⟨g - 1,by omega⟩
 simp only [G]
 rw [if_neg (by rw [h];decide)]
theorem ev_orL_end (h:isT L j [111,114]=false):Ev L (.orL a) j a 0 j 1:=by
 intro g hg
 obtain ⟨g,rfl⟩:∃ k,g=k + 1:=⟨g - 1,by omega⟩
 simp only [G]
 rw [if_neg (by rw [h];decide)]
theorem ev_sgn (h:Ev L .sing i l n j f) (h1:isT L i [45]=false) (h2:isT L j [46]=false):Ev L .sgn i l 0 j (f + 2):=by
 intro g hg
 obtain ⟨g,rfl⟩:∃ k,g=k + 1:=⟨g - 1,by omega⟩
 simp only [G]
 rw [if_neg (by rw [h1];decide),h g (by omega)]
 exact ev_pathL_end h2 g (by omega)
theorem ev_prod (h:Ev L .sgn i l n j f) (h1:isT L j [42]=false) (h2:isT L j [47]=false):Ev L .prod i l 0 j (f + 2):=by
 intro g hg
 obtain ⟨g,rfl⟩:∃ k,g=k + 1:=⟨g - 1,by omega⟩
 simp only [G]
 rw [h g (by omega)]
 exact ev_prodL_end h1 h2 g (by omega)
theorem ev_sumL_end (h1:isT L j [43]=false) (h2:isT L j [45]=false):Ev L (.sumL a) j a 0 j 1:=by
 intro g hg
 obtain ⟨g,rfl⟩:∃ k,g=k + 1:=⟨g - 1,by omega⟩
 simp only [G]
 rw [if_neg (by rw [h1];decide),if_neg (by rw [h2];decide)]
theorem ev_sum (hP:Ev L .prod i a n j f) (hL:Ev L (.sumL a) j r m q f'):Ev L .sum i r m q (max f f' + 1):=by
 intro g hg
 obtain ⟨g,rfl⟩:∃ k,g=k + 1:=⟨g - 1,by omega⟩
 simp only [G]
 rw [hP g (by omega)]
 exact hL g (by omega)
theorem ev_cmp_end (hS:Ev L .sum i a n j f) (h1:relT L j=0) (h2:isT L j [98,101,116,119,101,101,110]=false) (h3:isT L j [105,110]=false):Ev L .cmp i a 0 j (f + 1):=by
 intro g hg
 obtain ⟨g,rfl⟩:∃ k,g=k + 1:=⟨g - 1,by omega⟩
 simp only [G]
 rw [hS g (by omega)]
 show (if relT L j≠0 then _ else if isT L j _=true then _ else if isT L j _=true then _ else PR.ok a 0 j)=_
 rw [if_neg (fun x=>x h1),if_neg (by rw [h2];decide),if_neg (by rw [h3];decide)]
theorem ev_cmp_rel (hS:Ev L .sum i a n j f) (h1:relT L j≠0) (hS' : Ev L .sum (j + 1) b m k f'):Ev L .cmp i (a++b++[nOp (relT L j) 2]) 0 k (max f f' + 1):=by
 intro g hg
 obtain ⟨g,rfl⟩:∃ k,g=k + 1:=⟨g - 1,by omega⟩
 simp only [G]
 rw [hS g (by omega)]
 show (if relT L j≠0 then (G L g .sum (j + 1)).bind (fun b _ k=>.ok (a++b++[nOp (relT L j) 2]) 0 k) else _)=_
 rw [if_pos h1,hS' g (by omega)]
 rfl
theorem ev_cmp_in (hS:Ev L .sum i a n j f) (h1:isT L j [105,110]=true) (hG:Ev L .grp (j + 1) b m k f'):Ev L .cmp i (a++b++[nOp 23 2]) 0 k (max f f' + 1):=by
 intro g hg
 obtain ⟨g,rfl⟩:∃ k,g=k + 1:=⟨g - 1,by omega⟩
 simp only [G]
 rw [hS g (by omega)]
 show (if relT L j≠0 then _ else if isT L j _=true then _ else if isT L j [105,110]=true then (G L g .grp (j + 1)).bind (fun b _ k=>.ok (a++b++[nOp 23 2]) 0 k) else _)=_
 rw [if_neg (fun x=>x (rel_zero h1 rfl)),isT_not h1 (by decide:([105,110]:List UInt8)≠[98,101,116,119,101,101,110]),if_neg (by decide),if_pos h1,hG g (by omega)]
 rfl
theorem ev_and (h:Ev L .cmp i a n j f) (h1:isT L j [97,110,100]=false):Ev L .and i a 0 j (f + 2):=by
 intro g hg
 obtain ⟨g,rfl⟩:∃ k,g=k + 1:=⟨g - 1,by omega⟩
 simp only [G]
 rw [h g (by omega)]
 exact ev_andL_end h1 g (by omega)
theorem ev_or (h:Ev L .and i a n j f) (h1:isT L j [111,114]=false):Ev L .or i a 0 j (f + 2):=by
 intro g hg
 obtain ⟨g,rfl⟩:∃ k,g=k + 1:=⟨g - 1,by omega⟩
 simp only [G]
 rw [h g (by omega)]
 exact ev_orL_end h1 g (by omega)
theorem ev_expr (h:Ev L .or i a n j f) (h1:isT L i [105,102]=false):Ev L .expr i a n j (f + 1):=by
 intro g hg
 obtain ⟨g,rfl⟩:∃ k,g=k + 1:=⟨g - 1,by omega⟩
 simp only [G]
 rw [if_neg (by rw [h1];decide),h g (by omega)]
theorem ev_if (h1:isT L i [105,102]=true) (hA:Ev L .expr (i + 1) a n j f) (h2:isT L j [116,104,101,110]=true) (hB:Ev L .expr (j + 1) b m k f') (h3:isT L k [101,108,115,101]=true) {m' : Nat} (hC:Ev L .expr (k + 1) c m' q f''):Ev L .expr i (a++b++c++[nOp 21 3]) 0 q (max f (max f' f'') + 1):=by
 intro g hg
 obtain ⟨g,rfl⟩:∃ k,g=k + 1:=⟨g - 1,by omega⟩
 simp only [G]
 rw [if_pos h1,hA g (by omega)]
 show (if isT L j [116,104,101,110]=true then (G L g .expr (j + 1)).bind (fun b _ k=>if isT L k [101,108,115,101] then (G L g .expr (k + 1)).bind fun c _ m=>.ok (a++b++c++[nOp 21 3]) 0 m else .no) else .no)=_
 rw [if_pos h2,hB g (by omega)]
 show (if isT L k [101,108,115,101]=true then (G L g .expr (k + 1)).bind (fun c _ m=>.ok (a++b++c++[nOp 21 3]) 0 m) else .no)=_
 rw [if_pos h3,hC g (by omega)]
 rfl
theorem ev_grp (h1:isT L i [40]=true) (hT:Ev L .tests (i + 1) a n j f) (h2:isT L j [41]=true):Ev L .grp i a 0 (j + 1) (f + 1):=by
 intro g hg
 obtain ⟨g,rfl⟩:∃ k,g=k + 1:=⟨g - 1,by omega⟩
 simp only [G]
 rw [if_pos h1,hT g (by omega)]
 show (if isT L j [41]=true then PR.ok a 0 (j + 1) else PR.no)=_
 rw [if_pos h2]
/-- A sum, where it ends. -/
theorem ev_sum_of (h:Ev L .sgn i l n j f) (hF:FinT L j):Ev L .sum i l 0 j (f + 3):=
 (ev_sum (ev_prod h (hF.no (by decide)) (hF.no (by decide))) (ev_sumL_end (hF.no (by decide)) (hF.no (by decide)))).mono (by omega)
theorem ev_cmp_of (h:Ev L .sum i l n j f) (hF:FinT L j):Ev L .cmp i l 0 j (f + 1):=ev_cmp_end h hF.rel (hF.no (by decide)) (hF.no (by decide))
theorem ev_expr_of (h:Ev L .cmp i l n j f) (hF:FinT L j) (h1:isT L i [105,102]=false):Ev L .expr i l 0 j (f + 5):=
 (ev_expr (ev_or (ev_and h (hF.no (by decide))) (hF.no (by decide))) h1).mono (by omega)
/-- A thing by itself as a whole expression. -/
theorem ev_all (h:Ev L .sing i l n j f) (hF:FinT L j) (h0:isT L i [45]=false) (h1:isT L i [105,102]=false):Ev L .expr i l 0 j (f + 11):=
 (ev_expr_of (ev_cmp_of (ev_sum_of (ev_sgn h h0 (hF.no (by decide))) hF) hF) hF h1).mono (by omega)
end
/-- Tokens between others, a closing bracket behind them. -/
theorem TEmb.mid (A T:List TokD) (c:TokD) (R:List TokD) (hc:c.kind=6∧c.text=⟨#[41]⟩):TEmb (A++(T++c :: R)) A.length T:=by
 refine ⟨fun i t ht=>⟨t.at_,?_⟩,fun s hs=>?_⟩
 ·rw [List.getElem?_append_right (by omega),show A.length + i - A.length=i by omega,List.getElem?_append_left (List.getElem?_eq_some_iff.1 ht).1,ht]
 ·refine .inr ?_
  unfold isT sgT at hs
  rw [List.getElem?_append_right (by omega),show A.length + T.length - A.length=T.length by omega,List.getElem?_append_right (by omega),Nat.sub_self] at hs
  simp only [List.getElem?_cons_zero] at hs
  rw [if_pos (by omega),hc.2,ByteArray.toList_eq] at hs
  exact (beq_iff_eq.1 hs).symm
/-- Expressions in brackets among other tokens. -/
theorem ev_mid {A T:List TokD} {c:TokD} {R:List TokD} {l:List NodeD} {n j f:Nat} {N:NT} (hK:KndOk T) (hc:c.kind=6∧c.text=⟨#[41]⟩) (hN:N.cOk) (hu:N≠.unary) (h:G T f N 0 = .ok l n j) {L:List TokD} (hL:L=A++(T++c :: R)) {i q:Nat} (hi:i=A.length) (hq:q=A.length + j):Ev L N i l n q f:=by
 subst hL hi hq
 intro g hg
 exact G_emb hK (TEmb.mid A T c R hc) f N 0 l n j (Nat.zero_le _) hN hu h g _ hg (Nat.add_zero _).symm
/-- What is read of a text whose tokens are so. -/
theorem parse_of {u:ByteArray} {L:List TokD} {tests:Bool} {l:List NodeD} {n f:Nat} (hlex:∃ ts,lexF u=(ts,0)∧ts.map noAt=L.map noAt) (hE:Ev L (topN tests) 0 l n L.length f) (hf:f≤L.length * 16 + 12):parseF u tests=if checkC l tests=0 then (l,0) else ([],checkC l tests):=by
 obtain ⟨ts,h1,h2⟩:=hlex
 have hlen:ts.length=L.length:=by
  have:=congrArg List.length h2
  simpa using this
 have hG:topG ts tests = .ok l n L.length:=by
  unfold topG
  rw [← G_no,h2,G_no,hlen]
  exact hE _ hf
 unfold parseF topF
 rw [h1]
 simp only
 rw [hG]
 simp only
 rw [if_pos trivial,if_pos hlen.symm]
/-- What a text that is right comes to. -/
theorem parse_ok {s:ByteArray} {tests:Bool} {a:List NodeD} (h:parseF s tests=(a,0)):∃ n,lexF s=((lexF s).1,0)∧topG (lexF s).1 tests = .ok a n (lexF s).1.length∧checkC a tests=0:=by
 unfold parseF at h
 split at h
 ·rename_i h0
  unfold topF at h
  cases hg:topG (lexF s).1 tests with
  | out=>rw [hg] at h;cases h
  | no=>rw [hg] at h;cases h
  | ok l n j=>
   rw [hg] at h
   simp only at h
   split at h
   ·rename_i hj
    split at h
    ·rename_i hc
     cases h
     exact ⟨n,by rw [← h0],by rw [hj],hc⟩
    ·rename_i hc
     exact absurd (congrArg Prod.snd h) hc
   ·cases h
 ·rename_i h0
  exact absurd (congrArg Prod.snd h) h0
end Go.Proofs.YtheimopjglkgjaaGreatDoor
