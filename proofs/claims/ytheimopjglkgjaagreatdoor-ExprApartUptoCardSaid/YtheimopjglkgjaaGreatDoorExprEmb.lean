/- The grammar of expressions over tokens that lie among others: it reads the same; in plain Lean. -/
import Derived.Test.YtheimopjglkgjaaGreatDoorExprBal
namespace Go.Proofs.YtheimopjglkgjaaGreatDoor
open Go.RowKit
set_option linter.unusedVariables false
set_option linter.unusedSimpArgs false
structure TEmb (U:List TokD) (d:Nat) (T:List TokD):Prop where
 at_:∀ (i:Nat) (t:TokD),T[i]? = some t→∃ a,U[d + i]? = some { t with at_:=a}
 end_ : ∀ s, isT U (d + T.length) s = true → s = [] ∨ s = [41]
def noAt (t:TokD):TokD:={ t with at_:=0}
theorem scanL_no:∀ (l:List TokD) (d:Int),scanL (l.map noAt) d=scanL l d
 | [],d=>rfl
 | t :: r,d=>by
  rw [List.map_cons]
  unfold scanL
  rw [scanL_no r (d + 1),scanL_no r (d - 1),scanL_no r d]
  rfl
section
variable {U T:List TokD} {d i j x:Nat}
theorem TEmb.sg (h:TEmb U d T) (hx:x=d + i) (hi:i < T.length):sgT U x=sgT T i:=by
 subst hx
 obtain ⟨t,ht⟩:∃ t,T[i]? = some t:=⟨_,List.getElem?_eq_getElem hi⟩
 obtain ⟨a,ha⟩:=h.at_ i t ht
 unfold sgT
 rw [ht,ha]
theorem TEmb.isl (h:TEmb U d T) {s:List UInt8} (hx:x=d + i) (hi:i < T.length):isT U x s=isT T i s:=by
 unfold isT
 rw [h.sg hx hi]
theorem TEmb.is (h:TEmb U d T) {s:List UInt8} (hx:x=d + i) (hi:i≤T.length) (hs:s≠[]∧s≠[41]):isT U x s=isT T i s:=by
 by_cases hlt:i < T.length
 ·exact h.isl hx hlt
 ·have hie:i=T.length:=by omega
  have h0:isT T i s=false:=by
   cases hb:isT T i s with
   | false=>rfl
   | true=>
    obtain ⟨t,ht,-⟩:=isT_tok hb hs.1
    exact absurd (List.getElem?_eq_some_iff.1 ht).1 hlt
  rw [h0]
  cases hb:isT U x s with
  | false=>rfl
  | true=>
   subst hx hie
   rcases h.end_ s hb with e|e
   ·exact absurd e hs.1
   ·exact absurd e hs.2
theorem relL_mem {s:List UInt8} (h:relL s≠0):s≠[]∧s≠[41]:=by
 have h1:=rel_nb h
 refine ⟨h1.1,fun e=>?_⟩
 rw [e] at h1
 cases h1.2.2
theorem TEmb.rel (h:TEmb U d T) (hx:x=d + i) (hi:i≤T.length):relT U x=relT T i:=by
 by_cases hlt:i < T.length
 ·unfold relT
  rw [h.sg hx hlt]
 ·have hie:i=T.length:=by omega
  have h0:relT T i=0:=by
   unfold relT
   rw [sgT_none (by omega),ByteArray.toList_eq]
   rfl
  rw [h0]
  by_cases hr:relT U x=0
  ·exact hr
  ·subst hx hie
   have h1:=relL_mem (s:=(sgT U (d + T.length)).toList) hr
   rcases h.end_ _ isT_self with e|e
   ·exact absurd e h1.1
   ·exact absurd e h1.2
theorem TEmb.seg (h:TEmb U d T) (hij:i≤j) (hj:j≤T.length):(seg U (d + i) (d + j)).map noAt=(Go.Proofs.YtheimopjglkgjaaGreatDoor.seg T i j).map noAt:=by
 unfold Go.Proofs.YtheimopjglkgjaaGreatDoor.seg
 apply List.ext_getElem?
 intro k
 rw [List.getElem?_map,List.getElem?_map]
 by_cases hk:k < j - i
 ·rw [List.getElem?_take_of_lt (by omega),List.getElem?_take_of_lt hk,List.getElem?_drop,List.getElem?_drop]
  obtain ⟨t,ht⟩:∃ t,T[i + k]? = some t:=⟨_,List.getElem?_eq_getElem (by omega)⟩
  obtain ⟨a,ha⟩:=h.at_ _ t ht
  rw [Nat.add_assoc,ht,ha]
  rfl
 ·rw [List.getElem?_eq_none (by rw [List.length_take];omega),List.getElem?_eq_none (by rw [List.length_take];omega)]
theorem seg_drop (hij:i≤j):T.drop i=Go.Proofs.YtheimopjglkgjaaGreatDoor.seg T i j++T.drop j:=by
 unfold Go.Proofs.YtheimopjglkgjaaGreatDoor.seg
 rw [show T.drop j=(T.drop i).drop (j - i) by rw [List.drop_drop,show i + (j - i)=j by omega],List.take_append_drop]
theorem TEmb.ivl (h:TEmb U d T) (hx:x=d + i) (hd:Dec T i j) (hij:i≤j) (hj:j≤T.length):ivl U x=Go.Proofs.YtheimopjglkgjaaGreatDoor.ivl T i:=by
 subst hx
 obtain ⟨b,hb⟩:=hd
 have h2:scanL (Go.Proofs.YtheimopjglkgjaaGreatDoor.seg U (d + i) (d + j)) 0 = .inl b:=by rw [← scanL_no,h.seg hij hj,scanL_no,hb]
 rw [ivl_scan,ivl_scan,seg_drop (T:=U) (i:=d + i) (j:=d + j) (by omega),seg_drop (T:=T) hij,scanL_app,scanL_app,hb,h2]
 rfl
theorem isT_end {s:List UInt8} (h:isT T i s=true) (hs:s≠[]):i < T.length:=by
 obtain ⟨t,ht,-⟩:=isT_tok h hs
 exact (List.getElem?_eq_some_iff.1 ht).1
end
end Go.Proofs.YtheimopjglkgjaaGreatDoor
