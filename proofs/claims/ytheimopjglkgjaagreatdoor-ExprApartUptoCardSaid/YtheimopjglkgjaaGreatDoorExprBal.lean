/- The brackets of what the grammar of expressions reads are balanced; so whether a bracket is an interval's is told within what is read; in plain Lean. -/
import Derived.Test.YtheimopjglkgjaaGreatDoorRdA
namespace Go.Proofs.YtheimopjglkgjaaGreatDoor
open Go.RowKit
set_option linter.unusedVariables false
set_option linter.unusedSimpArgs false
def opnS (s:List UInt8):Bool:=s == [40] || s == [91] || s == [123]
def clsS (s:List UInt8):Bool:=s == [41] || s == [93] || s == [125]
def opn (t:TokD):Bool:=decide (t.kind=6) && opnS t.text.toList
def cls (t:TokD):Bool:=decide (t.kind=6) && clsS t.text.toList
def dots (t:TokD):Bool:=decide (t.kind=6) && t.text.toList == [46,46]
def scanL:List TokD→Int→Bool ⊕ Int
 | [],d=>.inr d
 | t :: r,d=>if opn t then scanL r (d + 1) else if cls t then (if d - 1=0 then .inl false else scanL r (d - 1)) else if dots t && decide (d=1) then .inl true else scanL r d
def scanK (x:Bool ⊕ Int) (b:List TokD):Bool ⊕ Int:=match x with
 | .inl v=>.inl v
 | .inr e=>scanL b e
theorem scanL_app:∀ (a b:List TokD) (d:Int),scanL (a++b) d=scanK (scanL a d) b
 | [],b,d=>rfl
 | t :: r,b,d=>by
  rw [List.cons_append]
  unfold scanL
  split
  ·exact scanL_app r b (d + 1)
  ·split
   ·split
    ·rfl
    ·exact scanL_app r b (d - 1)
   ·split
    ·rfl
    ·exact scanL_app r b d
theorem opnS_iff (s:List UInt8):opnS s=true↔(s=[40]∨s=[91]∨s=[123]):=by simp [opnS,or_assoc]
theorem clsS_iff (s:List UInt8):clsS s=true↔(s=[41]∨s=[93]∨s=[125]):=by simp [clsS,or_assoc]
theorem drop_tok {T:List TokD} {i:Nat} {t:TokD} (h:T[i]? = some t):T.drop i=t :: T.drop (i + 1):=by
 obtain ⟨hk,he⟩:=List.getElem?_eq_some_iff.1 h
 rw [List.drop_eq_getElem_cons hk,he]
def toldB (x:Bool ⊕ Int):Bool:=match x with
 | .inl b=>b
 | .inr _=>false
theorem ivlF_scan (T:List TokD):∀ (f i:Nat) (d:Int),T.length - i≤f→ivlF T f i d=toldB (scanL (T.drop i) d)
 | 0,i,d,h=>by
  rw [List.drop_of_length_le (by omega)]
  rfl
 | f + 1,i,d,h=>by
  cases ht:T[i]? with
  | none=>
   rw [List.drop_of_length_le (List.getElem?_eq_none_iff.1 ht)]
   unfold ivlF
   rw [ht]
   rfl
  | some t=>
   have hi:=(List.getElem?_eq_some_iff.1 ht).1
   rw [drop_tok ht]
   unfold ivlF scanL
   rw [ht]
   simp only
   have e1:=ivlF_scan T f (i + 1) (d + 1) (by omega)
   have e2:=ivlF_scan T f (i + 1) (d - 1) (by omega)
   have e3:=ivlF_scan T f (i + 1) d (by omega)
   unfold opn cls dots
   by_cases h6:t.kind=6
   ·rw [if_pos h6,decide_eq_true h6,Bool.true_and,Bool.true_and,Bool.true_and]
    by_cases ho:opnS t.text.toList=true
    ·rw [if_pos ((opnS_iff _).1 ho),if_pos ho];exact e1
    ·rw [if_neg (fun x=>ho ((opnS_iff _).2 x)),if_neg ho]
     by_cases hc:clsS t.text.toList=true
     ·rw [if_pos ((clsS_iff _).1 hc),if_pos hc]
      split
      ·rfl
      ·exact e2
     ·rw [if_neg (fun x=>hc ((clsS_iff _).2 x)),if_neg hc]
      by_cases hd:t.text.toList=[46,46]
      ·rw [if_pos hd,hd]
       by_cases h1:d=1
       ·rw [if_pos h1,if_pos (by simp [h1])];rfl
       ·rw [if_neg h1,if_neg (by simp [h1])];exact e3
      ·rw [if_neg hd,if_neg (by simp [hd])];exact e3
   ·rw [if_neg h6,decide_eq_false h6]
    simp only [Bool.false_and,Bool.false_eq_true,if_false]
    exact e3
theorem ivl_scan (T:List TokD) (i:Nat):ivl T i=toldB (scanL (T.drop i) 0):=ivlF_scan T _ i 0 (Nat.le_refl _)
def seg (T:List TokD) (i j:Nat):List TokD:=(T.drop i).take (j - i)
section
variable {T:List TokD} {i j k:Nat} {t:TokD}
theorem seg_app (h1:i≤j) (h2:j≤k):seg T i k=seg T i j++seg T j k:=by
 unfold seg
 rw [show k - i=(j - i) + (k - j) by omega,List.take_add,List.drop_drop,show i + (j - i)=j by omega]
theorem seg_one (h:T[i]? = some t):seg T i (i + 1)=[t]:=by
 unfold seg
 rw [drop_tok h,show i + 1 - i=1 by omega]
 rfl
theorem seg_nil:seg T i i=[]:=by
 unfold seg
 rw [Nat.sub_self,List.take_zero]
def Bal (T:List TokD) (i j:Nat):Prop:=i≤j∧∀ d:Int,1≤d→(d=1∧scanL (seg T i j) d = .inl true)∨scanL (seg T i j) d = .inr d
def BalC (T:List TokD) (i j:Nat):Prop:=i≤j∧∀ d:Int,1≤d→(d=1∧scanL (seg T i j) d = .inl true)∨scanL (seg T i j) d=if d - 1=0 then .inl false else .inr (d - 1)
def Dec (T:List TokD) (i j:Nat):Prop:=∃ b,scanL (seg T i j) 0 = .inl b
theorem Bal.nil:Bal T i i:=⟨Nat.le_refl _,fun d _=>.inr (by rw [seg_nil];rfl)⟩
theorem Bal.trans (h1:Bal T i j) (h2:Bal T j k):Bal T i k:=by
 refine ⟨Nat.le_trans h1.1 h2.1,fun d hd=>?_⟩
 rw [seg_app h1.1 h2.1,scanL_app]
 rcases h1.2 d hd with ⟨e0,e⟩|e
 ·rw [e];exact .inl ⟨e0,rfl⟩
 ·rw [e];exact h2.2 d hd
theorem scan_one (t:TokD) (d:Int):scanL [t] d=if opn t then .inr (d + 1) else if cls t then (if d - 1=0 then .inl false else .inr (d - 1)) else if dots t && decide (d=1) then .inl true else .inr d:=rfl
theorem Bal.tok (h:T[i]? = some t) (h1:opn t=false) (h2:cls t=false):Bal T i (i + 1):=by
 refine ⟨Nat.le_succ _,fun d hd=>?_⟩
 rw [seg_one h,scan_one,h1,h2]
 simp only [Bool.false_eq_true,if_false]
 split
 ·rename_i h
  rw [Bool.and_eq_true,decide_eq_true_eq] at h
  exact .inl ⟨h.2,rfl⟩
 ·exact .inr rfl
theorem cls_opn (h:cls t=true):opn t=false:=by
 unfold cls at h
 unfold opn
 rw [Bool.and_eq_true] at h
 have:=(clsS_iff _).1 h.2
 rcases this with e|e|e <;> rw [e] <;> simp [opnS]
theorem BalC.tok (h:T[i]? = some t) (h2:cls t=true):BalC T i (i + 1):=by
 refine ⟨Nat.le_succ _,fun d hd=>?_⟩
 rw [seg_one h,scan_one,cls_opn h2,h2]
 exact .inr rfl
theorem Dec.trans (h:Dec T i j) (h1:i≤j) (h2:j≤k):Dec T i k:=by
 obtain ⟨b,e⟩:=h
 refine ⟨b,?_⟩
 rw [seg_app h1 h2,scanL_app,e]
 rfl
theorem isT_tok {s:List UInt8} (h:isT T i s=true) (hs:s≠[]):∃ t,T[i]? = some t∧5≤t.kind∧t.text.toList=s:=by
 unfold isT sgT at h
 cases ht:T[i]? with
 | none=>
  rw [ht,beq_iff_eq,ByteArray.toList_eq] at h
  exact absurd h.symm hs
 | some t=>
  rw [ht] at h
  simp only at h
  split at h
  ·rename_i h5
   exact ⟨t,rfl,h5,beq_iff_eq.1 h⟩
  ·rw [beq_iff_eq,ByteArray.toList_eq] at h
   exact absurd h.symm hs
theorem Bal.word {s:List UInt8} (h:isT T i s=true) (hs:s≠[]∧opnS s=false∧clsS s=false):Bal T i (i + 1):=by
 obtain ⟨t,ht,-,e⟩:=isT_tok h hs.1
 exact .tok ht (by unfold opn;rw [e,hs.2.1,Bool.and_false]) (by unfold cls;rw [e,hs.2.2,Bool.and_false])
theorem rel_nb {s:List UInt8} (h:relL s≠0):s≠[]∧opnS s=false∧clsS s=false:=by
 unfold relL at h
 by_cases h1:(s == [61])=true
 ·rw [beq_iff_eq.1 h1];decide
 by_cases h2:(s == [33,61])=true
 ·rw [beq_iff_eq.1 h2];decide
 by_cases h3:(s == [60])=true
 ·rw [beq_iff_eq.1 h3];decide
 by_cases h4:(s == [60,61])=true
 ·rw [beq_iff_eq.1 h4];decide
 by_cases h5:(s == [62])=true
 ·rw [beq_iff_eq.1 h5];decide
 by_cases h6:(s == [62,61])=true
 ·rw [beq_iff_eq.1 h6];decide
 rw [if_neg h1,if_neg h2,if_neg h3,if_neg h4,if_neg h5,if_neg h6] at h
 exact absurd rfl h
theorem isT_self:isT T i (sgT T i).toList=true:=beq_self_eq_true _
theorem Bal.rel (h:relT T i≠0):Bal T i (i + 1):=.word isT_self (rel_nb h)
end
def NT.cl:NT→Bool
 | .list _ | .listL _ _ _ | .ctx | .ctxL _ _=>true
 | _=>false
def NT.st:NT→Bool
 | .expr | .or | .and | .cmp | .sum | .prod | .sgn | .sing | .test=>true
 | _=>false
def isO (T:List TokD) (i:Nat):Bool:=isT T i [91] || isT T i [40]
structure GB (T:List TokD) (N:NT) (i j:Nat):Prop where
 cl:N.cl=true→BalC T i j
 op:N.cl=false→Bal T i j
 dec:N.st=true→isO T i=true→Dec T i j
section
variable {T:List TokD} {i j:Nat} {N:NT}
end
end Go.Proofs.YtheimopjglkgjaaGreatDoor
