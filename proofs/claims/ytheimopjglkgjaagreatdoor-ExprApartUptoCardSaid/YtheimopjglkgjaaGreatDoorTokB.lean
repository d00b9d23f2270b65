/- A region that draws, where at several places either of two operations may come up: walked by a plan that branches; no program in sight. What the reader's token leaves. -/
import Derived.Test.YtheimopjglkgjaaGreatDoorSepA
import Derived.Test.YtheimopjglkgjaaGreatDoorLexW
import Derived.Test.YtheimopjglkgjaaGreatDoorDateA
namespace Go.Proofs.YtheimopjglkgjaaGreatDoor
open Go.RowKit
set_option linter.unusedVariables false
inductive Pl where
 | done
 | t (i:Nat) (r:Pl)
 | a (i:Nat) (r:Pl)
 | f (i:Nat) (r:Pl) (j:Nat) (s:Pl)
def Pl.len:Pl→Nat
 | .done=>0
 | .t _ r=>r.len + 1
 | .a _ r=>r.len + 1
 | .f _ r _ _=>r.len + 1
section
variable {P:Program} {ops:Array Oper} {Q:Exit→Act→World→Prop} {md:Region.Mode} {S:World→Prop}
def wpPl (P:Program) (ops:Array Oper) (S:World→Prop) (Q:Exit→Act→World→Prop):Pl→Act→World→Prop
 | .done,a,w=>wpSteps P ops S Q [] a w
 | .t i r,a,w=>match ops.toList[i]? with
  | none=>False
  | some o=>wpQuiet P ops S (fun a'=>wpPl P ops S Q r a' w) [o] a
 | .a i r,a,w=>match ops.toList[i]? with
  | none=>False
  | some o=>wpList P ops (thenQ S (wpPl P ops S Q r) Q) [o] a w
 | .f i r j s,a,w=>match ops.toList[i]?,ops.toList[j]? with
  | some o,some o'=>wpList P ops (thenQ S (wpPl P ops S Q r) Q) [o] a w∧wpList P ops (thenQ S (wpPl P ops S Q s) Q) [o'] a w
  | _,_=>False
def plB (md:Region.Mode) (ops:Array Oper):Pl→Array Bool→Bool
 | .done,listed=>(Region.ready md ops listed).isEmpty
 | .t i r,listed=>(match ops.toList[i]? with
  | none=>false
  | some o=>pureOp2 o.op && Region.free md ops listed i && (Region.ready md ops listed).contains i) && plB md ops r (listed.setIfInBounds i true)
 | .a i r,listed=>(Region.ready md ops listed == [i]) && plB md ops r (listed.setIfInBounds i true)
 | .f i r j s,listed=>(Region.ready md ops listed == [i,j]) && r.len == s.len && plB md ops r (listed.setIfInBounds i true) && plB md ops s (listed.setIfInBounds j true)
theorem pl_ok (hsel:Region.noSelect ops=true) (hQ:∀ c a (t:Tmp) v w,Q (.panic c) (Act.put a (some t) v) w→Q (.panic c) a w):∀ (p:Pl) (listed:Array Bool) (a:Act) (w:World),plB md ops p listed=true→S w→wpPl P ops S Q p a w→wpAnyH P md ops Q S p.len listed a w
 | .done,listed,a,w,hB,hS,h=>⟨by simpa [plB] using hB,h⟩
 | .t i r,listed,a,w,hB,hS,h=>by
  unfold plB at hB
  unfold wpPl at h
  cases ho:ops.toList[i]? with
  | none=>rw [ho] at h;exact h.elim
  | some o=>
   rw [ho] at h hB
   have ho' : ops[i]? = some o:=by rw [← ho];simp
   simp only [Bool.and_eq_true] at hB
   obtain ⟨⟨⟨hp,hf⟩,hr⟩,hB2⟩:=hB
   have h1:wpQuiet P ops S (fun a'=>wpPl P ops S Q r a' w) [o] a:=h
   unfold wpQuiet at h1
   split at h1
   ·rename_i hw
    obtain ⟨v,h2,h3⟩:=h1
    have hy:YieldsIf P ops S o v a:=Or.inl ⟨hw,fun w1 hw1=>by
     have h4:=h2 w1 hw1
     unfold Oper.quietAt at h4
     generalize hR:(execOp a.eval o).run P w1=R at h4
     cases R with
     | ok n w2=>
      obtain ⟨u,rfl⟩:=pure_value2 hp hR
      obtain ⟨e1,e2⟩:=(h4:w2=w1∧u=v)
      rw [e1,e2]
     | halt x w2=>exact h4.elim⟩
    exact wpAnyH_take ho' hsel hf hr (fun c a w h=>put_any hQ c a _ _ w h) hy hS (pl_ok hsel hQ r _ _ w hB2 hS h3)
   ·rename_i hw
    have hy:YieldsIf P ops S o undef a:=Or.inr ⟨by simpa using hw,rfl⟩
    exact wpAnyH_take ho' hsel hf hr (fun c a w h=>put_any hQ c a _ _ w h) hy hS (pl_ok hsel hQ r _ _ w hB2 hS h1)
 | .a i r,listed,a,w,hB,hS,h=>by
  unfold plB at hB
  unfold wpPl at h
  cases ho:ops.toList[i]? with
  | none=>rw [ho] at h;exact h.elim
  | some o=>
   rw [ho] at h
   have ho' : ops[i]? = some o:=by rw [← ho];simp
   simp only [Bool.and_eq_true] at hB
   obtain ⟨hB1,hB2⟩:=hB
   have hr:Region.ready md ops listed=[i]:=by simpa using hB1
   have h1:wpList P ops (thenQ S (wpPl P ops S Q r) Q) [o] a w:=h
   refine wpAnyH_all hr (by simp) fun j hj=>?_
   rw [List.mem_singleton] at hj
   subst hj
   exact steps_ok2.alone_op ho' (fun a' w' hh=>⟨hh.1,pl_ok hsel hQ r _ a' w' hB2 hh.1 hh.2⟩) h1
 | .f i r j s,listed,a,w,hB,hS,h=>by
  unfold plB at hB
  unfold wpPl at h
  simp only [Bool.and_eq_true,beq_iff_eq] at hB
  obtain ⟨⟨⟨hr,hl⟩,h1⟩,h2⟩:=hB
  cases ho:ops.toList[i]? with
  | none=>rw [ho] at h;exact h.elim
  | some o=>
   cases hp:ops.toList[j]? with
   | none=>rw [ho,hp] at h;exact h.elim
   | some o'=>
    rw [ho,hp] at h
    obtain ⟨w1,w2⟩:=h
    have ho' : ops[i]? = some o:=by rw [← ho];simp
    have hp' : ops[j]? = some o':=by rw [← hp];simp
    refine wpAnyH_all hr (by simp) fun k hk=>?_
    rw [List.mem_cons,List.mem_singleton] at hk
    rcases hk with rfl|rfl
    ·exact steps_ok2.alone_op ho' (fun a' w' hh=>⟨hh.1,pl_ok hsel hQ r _ a' w' h1 hh.1 hh.2⟩) w1
    ·exact steps_ok2.alone_op hp' (fun a' w' hh=>⟨hh.1,by rw [hl];exact pl_ok hsel hQ s _ a' w' h2 hh.1 hh.2⟩) w2
end
section
variable {P:Program} {Q:Exit→Act→World→Prop} {a:Act} {W w0:World} {L:List Res}
theorem wp_region_tree {id:Nat} {l:List Oper} (p:Pl) (hm:P.follows .mixedOrders=true) (hsel:Region.noSelect l.toArray=true) (hn:p.len=l.length) (hB:plB .any l.toArray p (Array.replicate l.length false)=true)
  (hQ:∀ c a (t:Tmp) v w,Q (.panic c) (Act.put a (some t) v) w→Q (.panic c) a w) (HM:Mem w0 W L) (L0:List Res) (hL:L0.Sublist L)
  (h:Nonempty (MemW w0 L0)→∀ W',Mem w0 W' L→wpPl P l.toArray (fun V=>∃ p:MemW w0 L0,V=p.W) Q p a W'):(Code.region id l.toArray true).wp P Q a W:=by
 have hM:=HM.next (W':={ W with drawn:=W.drawn + 1}) (RowKit.Below.refl _ W).drew
 refine wp_region_held (S:=fun V=>∃ p:MemW w0 L0,V=p.W) hm ?_
 have hs:(l.toArray).size=p.len:=by rw [hn];simp
 rw [hs,hn]
 have:=pl_ok (md:=.any) hsel hQ p (Array.replicate l.length false) a _ hB ⟨⟨_,hM.sub hL⟩,rfl⟩ (h ⟨⟨_,hM.sub hL⟩⟩ _ hM)
 rw [hn] at this
 exact this
end
set_option linter.unusedSimpArgs false
set_option maxRecDepth 100000
theorem decT_err (ds fs:List UInt8):(decT ds fs).2=0∨(decT ds fs).2=3∨(decT ds fs).2=5:=by
 unfold decT
 split
 ·exact Or.inr (Or.inr rfl)
 ·split
  ·exact Or.inl rfl
  ·split
   ·exact Or.inr (Or.inl rfl)
   ·exact Or.inl rfl
def TPost (o:TokD × Nat × Int) (w0:World) (R:Nat) (T:List Res) (s:ByteArray) (acc:List TokD) (bo bf:Bool) (e:Ending) (w' : World):Prop:=
 if o.2.2=5 then e = .returned (.bool false)∧Below w0.heap.size w0 w'
 else ∃ (op' : Option Addr) (oc' : Nat),e = .returned (.bool true)∧Mem w0 w' (.box R 117 [.string s,.int .i64 o.2.1,.slice op' (acc.length + 1) oc',.bool (bo || decide (o.2.2=3)),.bool (bf || decide (o.2.2=17))] :: .row op' oc' 123 8 (acc.length + 1) ((acc++[o.1]).flatMap TokD.cs) :: T)
theorem acc_flat (acc:List TokD) (t:TokD):acc.flatMap TokD.cs++t.cs=(acc++[t]).flatMap TokD.cs:=by rw [List.flatMap_append];simp
theorem acc_take (acc:List TokD):(acc.flatMap TokD.cs).take (acc.length * 8)=acc.flatMap TokD.cs:=List.take_of_length_le (by rw [flat_len TokD.cs 8 TokD.cs_len];exact Nat.le_refl _)
theorem decB_no {c:UInt8} (h:dg c=false) (w:World):Calls Tryz.prog 96 #[.int .u8 c.toNat] w fun e w'=>e = .returned (.bool false)∧Below w.heap.size w w':=h▸lDgB c w
theorem lLt (c:UInt8) (w:World):Calls Tryz.prog 100 #[.int .u8 c.toNat] w fun e w'=>e = .returned (.bool (lt1 c))∧w=w':=lLetter_any c.toNat w
theorem byte_eq {c b:UInt8} (h:c≠b):((c.toNat:Int) == (b.toNat:Int))=false:=by simpa using fun e:(c.toNat:Int)=(b.toNat:Int)=>h (UInt8.toNat_inj.1 (by omega))
theorem parse_err (l:List UInt8):Cal.parseE l=0∨Cal.parseE l=5∨Cal.parseE l=17:=by
 unfold Cal.parseE
 split
 ·split
  ·exact Or.inl rfl
  ·exact Or.inr (Or.inr rfl)
 ·exact Or.inr (Or.inl rfl)
end Go.Proofs.YtheimopjglkgjaaGreatDoor
