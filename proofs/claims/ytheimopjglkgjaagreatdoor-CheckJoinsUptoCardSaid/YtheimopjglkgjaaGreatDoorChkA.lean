/- The small functions of check. both of check, all of the reference: do all meet a kind? list of both; what Function answers. The small functions of check's machine: fits, items, leaf; told by its two ways. leaf of check. -/
import Derived.Test.YtheimopjglkgjaaGreatDoorRefCheck
import Derived.Test.YtheimopjglkgjaaGreatDoorKindA
import Derived.Test.YtheimopjglkgjaaGreatDoorSepA
namespace Go.Proofs.YtheimopjglkgjaaGreatDoor
open Go.RowKit
set_option linter.unusedVariables false
set_option linter.unusedSimpArgs false
set_option maxRecDepth 100000

set_option maxHeartbeats 2000000 in
theorem ordered_any (k o k' o' : Int) (w:World) (h:formB k o=true) (h' : formB k' o' = true) :
  Calls Tryz.prog 55 #[.agg #[.int .i64 k,.int .i64 o],.agg #[.int .i64 k',.int .i64 o']] w fun e w'=>e = .returned (.bool (ordB k o k' o'))∧RowKit.Below w.heap.size w w':=by
 have HM:=Lib.hid (Mem.start w)
 obtain ⟨r,hr⟩:∃ r,ordF k o k' o' 2=r:=⟨_,rfl⟩
 rw [show ordB k o k' o' = r from hr]
 have HR:=Lib.hid hr
 have H1:=Lib.hid h
 have H2:=Lib.hid h'
 clear hr h h'
 go_enter Tryz.func55,Tryz.ntmps55
 go_wp2_with (first|refine mP ?_|(refine hbxA (dst:=some 2) HM rfl rfl ?_;clear HM;intro g2 W1 HM)|(refine hbxA (dst:=some 3) HM rfl rfl ?_;clear HM;intro g3 W1 HM))
 go_loopw [8] (fun iv wr=>∃ i:Nat,iv = .int .i64 i∧i≤3∧Hid (ordF k o k' o' (i + 2)=r)∧Hid (Mem w wr [.box g3 42 [.int .i64 k',.int .i64 o'],.box g2 42 [.int .i64 k,.int .i64 o]])) (fun iv _=>5 - (intOf iv).toNat)
 case atStart=>exact ⟨0,rfl,by omega,HR,HM⟩
 case round=>
  clear HM
  obtain ⟨i,rfl,hi3,HI,HM⟩:=hrel
  by_cases h3:i < 3
  ·have hf:=Lib.hid (show formB ((i + 2:Nat):Int) 0=true from (formB_iff _ _).2 (Or.inl ⟨by omega,by omega,rfl⟩))
   obtain ⟨b1,hb1⟩:∃ b,meetB k o ((i + 2:Nat):Int) 0=b:=⟨_,rfl⟩
   obtain ⟨b2,hb2⟩:∃ b,meetB k' o' ((i + 2:Nat):Int) 0=b:=⟨_,rfl⟩
   have HM1:=Lib.hid (fun W=>hb1▸meet_any k o ((i + 2:Nat):Int) 0 W H1.out hf.out)
   have HM2:=Lib.hid (fun W=>hb2▸meet_any k' o' ((i + 2:Nat):Int) 0 W H2.out hf.out)
   have HS:=Lib.hid (show r=((b1 && b2) || ordF k o k' o' (i + 1 + 2)) by rw [← HI.out,ordF_step (by omega) (by omega)];unfold hitB;rw [hb1,hb2])
   clear hb1 hb2 HI hf
   have hc:b1=false∨(b1=true∧b2=false)∨(b1=true∧b2=true):=by cases b1 <;> cases b2 <;> simp
   obtain rfl|rfl|rfl:i=0∨i=1∨i=2:=by omega
   all_goals
    clear h3 hi3
    rcases hc with rfl | ⟨rfl,rfl⟩ | ⟨rfl,rfl⟩
   all_goals
    go_wp2_with (first|(refine ixc (n:=3) (e:=3) rfl rfl rfl rfl (by decide) rfl ?_)|fail)
    refine wp_region_mem (by kernel_rfl) (by kernel_rfl) HM.out ?_;intro hNE;(repeat (any_goals (first|refine mQ ?_|((with_reducible show wpQuiet _ _ _ _ (Oper.mk _ (Op.call { callee:=Callee.value (Operand.func 87),args:=_,argTypes:=_}) _ _ _ _ :: _) _);(refine qcall HM.out (fun W hC=>cof_any _ W) Tryz.func87 rfl rfl rfl ?_))|((with_reducible show wpQuiet _ _ _ _ (Oper.mk _ (Op.call { callee:=Callee.value (Operand.func 56),args:=_,argTypes:=_}) _ _ _ _ :: _) _);(refine qcall HM.out (fun W hC=>HM1.out W) Tryz.func56 rfl rfl rfl ?_))|((with_reducible show wpQuiet _ _ _ _ (Oper.mk _ (Op.call { callee:=Callee.value (Operand.func 56),args:=_,argTypes:=_}) _ _ _ _ :: _) _);(refine qcall HM.out (fun W hC=>HM2.out W) Tryz.func56 rfl rfl rfl ?_))|go_big_quiet_step (fail)|quiet_step (fail))));clear hNE;refine wpQuiet_nil ?_;intro W1 HM1;replace HM:=Lib.hid HM1;clear HM1
    go_wp2
   all_goals first|(go_ret;exact ⟨by rw [HS.out];rfl,HM.out.below⟩)|(go_roundw;(case rel=>first|exact ⟨1,rfl,by omega,Lib.hid (by rw [HS.out];simp),HM⟩|exact ⟨2,rfl,by omega,Lib.hid (by rw [HS.out];simp),HM⟩|exact ⟨3,rfl,by omega,Lib.hid (by rw [HS.out];simp),HM⟩);(case measure=>simp [intOf]))
  ·obtain rfl:i=3:=by omega
   have hr:r=false:=by rw [← HI.out];rfl
   subst hr
   clear h3 hi3
   go_wp2
   go_ret
   exact ⟨rfl,HM.out.below⟩

theorem told_any (ok:Bool) (k o:Int) (w:World) :
  Calls Tryz.prog 116 #[.bool ok,.agg #[.int .i64 k,.int .i64 o]] w fun e w'=>e = .returned (.tuple #[.agg #[.int .i64 (if ok then k else 0),.int .i64 (if ok then o else 0)],.int .i64 (if ok then 0 else 9)])∧RowKit.Below w.heap.size w w':=by
 have HM:=Lib.hid (Mem.start w)
 cases ok
 all_goals
  go_enter Tryz.func116,Tryz.ntmps116
  go_wp2_with (first|refine mP ?_|(refine mS ?_;clear HM;intro W1 HM)|(refine hal HM rfl ?_;clear HM;intro g1 W1 HM)|(refine hbxA HM rfl rfl ?_;clear HM;intro g1 W1 HM))
 all_goals first|exact bodyPost_ret (res_box_tmp rfl HM.out 0 rfl rfl rfl rfl) rfl ⟨rfl,HM.out.below⟩|exact bodyPost_ret (res_box_tmp rfl HM.out 1 rfl rfl rfl rfl) rfl ⟨rfl,HM.out.below⟩

end Go.Proofs.YtheimopjglkgjaaGreatDoor

namespace Go.Proofs.YtheimopjglkgjaaGreatDoor
open Go.RowKit
set_option linter.unusedVariables false
set_option linter.unusedSimpArgs false
set_option maxRecDepth 100000

/-- A type as plain data; a thing on the program's stack: a type, and the slice of its tests. -/
structure TyD where
 k:Int
 o:Int
def TyD.cs (t:TyD):List Value:=[.int .i64 t.k,.int .i64 t.o]
theorem TyD.cs_len (t:TyD):t.cs.length=2:=rfl
def TyD.form (t:TyD):Prop:=formB t.k t.o=true
structure ThT where
 t:TyD
 q:Option Addr
 n:Nat
 c:Nat
def ThT.cs (t:ThT):List Value:=[.int .i64 t.t.k,.int .i64 t.t.o,.slice t.q t.n t.c]
theorem ThT.cs_len (t:ThT):t.cs.length=3:=rfl
def allB (l:List TyD) (k:Int):Bool:=l.all fun t=>meetB t.k t.o k 0
theorem allB_cons (t:TyD) (l:List TyD) (k:Int):allB (t :: l) k=(meetB t.k t.o k 0 && allB l k):=rfl

set_option maxHeartbeats 2000000 in
theorem both_any (p:Option Addr) (c:Nat) (ts:List ThT) (k:Int) (w:World) (hS:Sl w p (ts.flatMap ThT.cs)) (hf:∀ t,t ∈ ts→t.t.form) (hk:formB k 0=true) (hl:ts.length≤4611686018427387904) :
  Calls Tryz.prog 117 #[.slice p ts.length c,.int .i64 k] w fun e w'=>e = .returned (.bool (allB (ts.map ThT.t) k))∧Below w.heap.size w w':=by
 have HM:=Lib.hid (Mem.start w)
 obtain ⟨r,hr⟩:∃ r,allB (ts.map ThT.t) k=r:=⟨_,rfl⟩
 rw [hr]
 have HR:=Lib.hid (show allB ((ts.drop 0).map ThT.t) k=r from hr)
 have HS:=Lib.hid hS
 have HF:=Lib.hid hf
 have HK:=Lib.hid hk
 clear hr hS hf hk
 go_enter Tryz.func117,Tryz.ntmps117
 go_wp2_with fail
 go_loopw [9] (fun iv wr=>∃ i:Nat,iv = .int .i64 i∧i≤ts.length∧Hid (allB ((ts.drop i).map ThT.t) k=r)∧Hid (Mem w wr [])) (fun iv _=>ts.length - (intOf iv).toNat)
 case atStart=>exact ⟨0,rfl,by omega,HR,HM⟩
 case round=>
  clear HM
  obtain ⟨i,rfl,hi,HI,HM⟩:=hrel
  by_cases hlt:i < ts.length
  ·obtain ⟨b,rfl,hb⟩:=HS.out.some_at ThT.cs_len (by decide) hlt
   obtain ⟨t,ht⟩:∃ t,ts[i]? = some t:=⟨_,List.getElem?_eq_getElem hlt⟩
   have E1:=Lib.hid (hb.elem ThT.cs 3 ThT.cs_len ht)
   obtain ⟨m,hm⟩:∃ m,meetB t.t.k t.t.o k 0=m:=⟨_,rfl⟩
   have HMt:=Lib.hid (fun W=>hm▸meet_any t.t.k t.t.o k 0 W (HF.out t (List.mem_of_getElem? ht)) HK.out)
   have HI2:=Lib.hid (show (m && allB ((ts.drop (i + 1)).map ThT.t) k)=r by rw [← HI.out,drop_atC ht,List.map_cons,allB_cons,hm])
   have hlt3:=Lib.hid (show i + 1≤ts.length from hlt)
   have d1:decide ((i:Int) < ts.length)=true:=decide_eq_true (by omega)
   clear hb ht hm HI
   cases m
   ·have HB:=Lib.hid (show r=false by rw [← HI2.out];rfl)
    go_wp2_with (first|refine mP ?_|(refine mS ?_;clear HM;intro W1 HM)|(refine hal HM rfl ?_;clear HM;intro g1 W1 HM)|(refine ixa rfl rfl rfl hlt ?_)|(refine ldxW (HM.out.olds E1.out) rfl rfl ?_))
    refine wp_region_mem (by kernel_rfl) (by kernel_rfl) HM.out ?_;intro hNE;(repeat (any_goals (first|refine mQ ?_|((with_reducible show wpQuiet _ _ _ _ (Oper.mk _ (Op.call { callee:=Callee.value (Operand.func 87),args:=_,argTypes:=_}) _ _ _ _ :: _) _);(refine qcall HM.out (fun W hC=>cof_any k W) Tryz.func87 rfl rfl rfl ?_))|((with_reducible show wpQuiet _ _ _ _ (Oper.mk _ (Op.call { callee:=Callee.value (Operand.func 56),args:=_,argTypes:=_}) _ _ _ _ :: _) _);(refine qcall HM.out (fun W hC=>HMt.out W) Tryz.func56 rfl rfl rfl ?_))|go_big_quiet_step (fail)|quiet_step (fail))));clear hNE;refine wpQuiet_nil ?_;intro W1 HM1;replace HM:=Lib.hid HM1;clear HM1
    go_wp2
    go_ret
    exact ⟨by rw [HB.out];rfl,HM.out.below⟩
   ·have HB:=Lib.hid (show allB ((ts.drop (i + 1)).map ThT.t) k=r by rw [← HI2.out];rfl)
    go_wp2_with (first|refine mP ?_|(refine mS ?_;clear HM;intro W1 HM)|(refine hal HM rfl ?_;clear HM;intro g1 W1 HM)|(refine ixa rfl rfl rfl hlt ?_)|(refine ldxW (HM.out.olds E1.out) rfl rfl ?_))
    refine wp_region_mem (by kernel_rfl) (by kernel_rfl) HM.out ?_;intro hNE;(repeat (any_goals (first|refine mQ ?_|((with_reducible show wpQuiet _ _ _ _ (Oper.mk _ (Op.call { callee:=Callee.value (Operand.func 87),args:=_,argTypes:=_}) _ _ _ _ :: _) _);(refine qcall HM.out (fun W hC=>cof_any k W) Tryz.func87 rfl rfl rfl ?_))|((with_reducible show wpQuiet _ _ _ _ (Oper.mk _ (Op.call { callee:=Callee.value (Operand.func 56),args:=_,argTypes:=_}) _ _ _ _ :: _) _);(refine qcall HM.out (fun W hC=>HMt.out W) Tryz.func56 rfl rfl rfl ?_))|go_big_quiet_step (fail)|quiet_step (fail))));clear hNE;refine wpQuiet_nil ?_;intro W1 HM1;replace HM:=Lib.hid HM1;clear HM1
    go_wp2
    go_roundw
    case rel=>exact ⟨i + 1,by go_num,hlt3.out,HB,Lib.hid (HM.out.sub (List.nil_sublist _))⟩
    case measure=>have:=hlt3.out;simp [intOf];omega
  ·obtain rfl:i=ts.length:=by omega
   have hr:r=true:=by rw [← HI.out,List.drop_of_length_le (Nat.le_refl _)];rfl
   subst hr
   have d1:decide ((ts.length:Int) < ts.length)=false:=by simp
   go_wp2
   go_ret
   exact ⟨rfl,HM.out.below⟩

end Go.Proofs.YtheimopjglkgjaaGreatDoor

namespace Go.Proofs.YtheimopjglkgjaaGreatDoor
open Go.RowKit
set_option linter.unusedVariables false
set_option linter.unusedSimpArgs false
set_option maxRecDepth 100000

theorem clist_any (k:Int) (w:World) :
  Calls Tryz.prog 149 #[.int .i64 k] w fun e w'=>e = .returned (.agg #[.int .i64 5,.int .i64 k])∧RowKit.Below w.heap.size w w':=by
 have HM:=Lib.hid (Mem.start w)
 go_enter Tryz.func149,Tryz.ntmps149
 go_wp2_with (first|(refine mS ?_;clear HM;intro W1 HM)|(refine hal HM rfl ?_;clear HM;intro g1 W1 HM))
 exact bodyPost_ret (res_box rfl HM.out 0 rfl rfl rfl) rfl ⟨rfl,HM.out.below⟩

/-- What Function answers: a slice of its own. -/
def FnPost (r:Option (List TyD × TyD)) (w:World) (e:Ending) (w' : World):Prop:=
 match r with
 | none=>e = .returned (.tuple #[.slice none 0 0,.agg #[.int .i64 0,.int .i64 0],.int .i64 8])∧Below w.heap.size w w'
 | some (ts,g)=>∃ q,e = .returned (.tuple #[.slice (some ⟨q,0,none⟩) ts.length ts.length,.agg g.cs.toArray,.int .i64 0])∧Mem w w' [.row (some ⟨q,0,none⟩) ts.length 42 2 ts.length (ts.flatMap TyD.cs)]
end Go.Proofs.YtheimopjglkgjaaGreatDoor

namespace Go.Proofs.YtheimopjglkgjaaGreatDoor
open Go.RowKit
set_option linter.unusedVariables false
set_option linter.unusedSimpArgs false
set_option maxRecDepth 100000

/-- A test with the type of what it compares; a symbol. -/
structure AskD where
 ord:Bool
 t:TyD
def AskD.cs (a:AskD):List Value:=[.bool a.ord,.int .i64 a.t.k,.int .i64 a.t.o]
theorem AskD.cs_len (a:AskD):a.cs.length=3:=rfl
def askB (t:TyD) (a:AskD):Bool:=if a.ord then ordB t.k t.o a.t.k a.t.o else meetB t.k t.o a.t.k a.t.o
def asksB (t:TyD) (l:List AskD):Bool:=l.all (askB t)
theorem asksB_cons (t:TyD) (a:AskD) (l:List AskD):asksB t (a :: l)=(askB t a && asksB t l):=rfl
structure SymD where
 name:ByteArray
 t:TyD
def SymD.cs (s:SymD):List Value:=[.string s.name,.int .i64 s.t.k,.int .i64 s.t.o]
theorem SymD.cs_len (s:SymD):s.cs.length=3:=rfl
def TyD.val (t:TyD):Value:=.agg #[.int .i64 t.k,.int .i64 t.o]
def symE (l:List SymD):List (ByteArray × Value):=l.map fun s=>(s.name,s.t.val)
def lookT (s:ByteArray):List SymD→Option TyD
 | []=>none
 | x :: l=>if s=x.name then some x.t else lookT s l
theorem find_look (s:ByteArray):∀ l:List SymD,findL s (symE l)=(lookT s l).map TyD.val
 | []=>rfl
 | x :: l=>by
  show (if s=x.name then some x.t.val else findL s (symE l))=_
  rw [find_look s l]
  show _=Option.map TyD.val (if s=x.name then some x.t else lookT s l)
  split <;> rfl
def MapAt (w:World) (g:Nat) (l:List SymD):Prop:=w.heap[g]? = some (.map (mapEs (symE l)) (symE l).length)
theorem Mem.oldmap {w0 W:World} {L:List Res} (h:Mem w0 W L) {g:Nat} {l:List SymD} (hm:MapAt w0 g l):(Res.map g (mapEs (symE l)) (symE l).length).holds 0 W:=
 ⟨Nat.zero_le _,(h.below.block g (Array.getElem?_eq_some_iff.1 hm).1).trans hm⟩
instance:MapT Tryz.prog 67 42 (.agg #[.int .i64 0,.int .i64 0]):=⟨⟨9,by kernel_rfl,by kernel_rfl⟩,fun w=>by kernel_rfl⟩

theorem told_yes (k o:Int) (w:World):Calls Tryz.prog 116 #[.bool true,.agg #[.int .i64 k,.int .i64 o]] w fun e w'=>e = .returned (.tuple #[.agg #[.int .i64 k,.int .i64 o],.int .i64 0])∧RowKit.Below w.heap.size w w':=told_any true k o w

theorem told_no (k o:Int) (w:World):Calls Tryz.prog 116 #[.bool false,.agg #[.int .i64 k,.int .i64 o]] w fun e w'=>e = .returned (.tuple #[.agg #[.int .i64 0,.int .i64 0],.int .i64 9])∧RowKit.Below w.heap.size w w':=told_any false k o w

set_option maxHeartbeats 2000000 in
theorem fits_any (tk tz:Int) (q:Option Addr) (c:Nat) (qs:List AskD) (t:TyD) (w:World) (hS:Sl w q (qs.flatMap AskD.cs)) (hf:∀ a,a ∈ qs→a.t.form) (ht:t.form) (hl:qs.length≤4611686018427387904) :
  Calls Tryz.prog 36 #[.agg #[.int .i64 tk,.int .i64 tz,.slice q qs.length c],.agg #[.int .i64 t.k,.int .i64 t.o]] w fun e w'=>e = .returned (.bool (asksB t qs))∧Below w.heap.size w w':=by
 have HM:=Lib.hid (Mem.start w)
 obtain ⟨r,hr⟩:∃ r,asksB t qs=r:=⟨_,rfl⟩
 rw [hr]
 have HR:=Lib.hid (show asksB t (qs.drop 0)=r from hr)
 have HS:=Lib.hid hS
 have HF:=Lib.hid hf
 have HK:=Lib.hid ht
 clear hr hS hf ht
 go_enter Tryz.func36,Tryz.ntmps36
 go_wp2_with (first|((with_reducible refine skip_op ?_ ?_);exact rfl)|refine mP ?_|(refine mS ?_;clear HM;intro W1 HM)|(refine hbxA (dst:=some 2) HM rfl rfl ?_;clear HM;intro g2 W1 HM)|(refine hbxA (dst:=some 3) HM rfl rfl ?_;clear HM;intro g3 W1 HM)|(refine hal HM rfl ?_;clear HM;intro g1 W1 HM))
 go_loopw [10] (fun iv wr=>∃ i:Nat,iv = .int .i64 i∧i≤qs.length∧Hid (asksB t (qs.drop i)=r)∧Hid (Mem w wr [.box g3 42 [.int .i64 t.k,.int .i64 t.o],.box g2 76 [.int .i64 tk,.int .i64 tz,.slice q qs.length c]])) (fun iv _=>qs.length - (intOf iv).toNat)
 case atStart=>exact ⟨0,rfl,by omega,HR,HM⟩
 case round=>
  clear HM
  obtain ⟨i,rfl,hi,HI,HM⟩:=hrel
  by_cases hlt:i < qs.length
  ·obtain ⟨b,rfl,hb⟩:=HS.out.some_at AskD.cs_len (by decide) hlt
   obtain ⟨x,hx⟩:∃ x,qs[i]? = some x:=⟨_,List.getElem?_eq_getElem hlt⟩
   have E1:=Lib.hid (hb.elem AskD.cs 3 AskD.cs_len hx)
   have hxf:=HF.out x (List.mem_of_getElem? hx)
   obtain ⟨m,hm⟩:∃ m,askB t x=m:=⟨_,rfl⟩
   have HI2:=Lib.hid (show (m && asksB t (qs.drop (i + 1)))=r by rw [← HI.out,drop_atC hx,asksB_cons,hm])
   have hlt3:=Lib.hid (show i + 1≤qs.length from hlt)
   have d1:decide ((i:Int) < qs.length)=true:=decide_eq_true (by omega)
   obtain ⟨xo,xt⟩:=x
   have E2:=Lib.hid (show Cells w (b.add (i * 3)) [.bool xo,.int .i64 xt.k,.int .i64 xt.o] from E1.out)
   unfold askB at hm
   clear hb hx HI E1
   have E1:=E2
   clear E2
   cases xo
   ·have HMt:=Lib.hid (fun W=>(show meetB t.k t.o xt.k xt.o=m from hm)▸meet_any t.k t.o xt.k xt.o W HK.out hxf)
    clear hm hxf
    cases m
    ·have HB:=Lib.hid (show r=false by rw [← HI2.out];rfl)
     go_wp2_with (first|((with_reducible refine skip_op ?_ ?_);exact rfl)|refine mP ?_|(refine mS ?_;clear HM;intro W1 HM)|(refine hal (dst:=some 6) HM rfl ?_;clear HM;intro g6 W1 HM)|(refine hbxA HM rfl rfl ?_;clear HM;intro g1 W1 HM)|((with_reducible refine iat 12 ?_);(refine ixa rfl rfl rfl hlt ?_))|((with_reducible refine iat 13 ?_);(refine ldxW (HM.out.olds E1.out) rfl rfl ?_))|(go_at_call 56;(with_reducible refine cB HM (HMt.out _) ?_);clear HM;intro W1 HM))
     go_ret
     exact ⟨by rw [HB.out];rfl,HM.out.below⟩
    ·have HB:=Lib.hid (show asksB t (qs.drop (i + 1))=r by rw [← HI2.out];rfl)
     go_wp2_with (first|((with_reducible refine skip_op ?_ ?_);exact rfl)|refine mP ?_|(refine mS ?_;clear HM;intro W1 HM)|(refine hal (dst:=some 6) HM rfl ?_;clear HM;intro g6 W1 HM)|(refine hbxA HM rfl rfl ?_;clear HM;intro g1 W1 HM)|((with_reducible refine iat 12 ?_);(refine ixa rfl rfl rfl hlt ?_))|((with_reducible refine iat 13 ?_);(refine ldxW (HM.out.olds E1.out) rfl rfl ?_))|(go_at_call 56;(with_reducible refine cB HM (HMt.out _) ?_);clear HM;intro W1 HM))
     go_roundw
     case rel=>exact ⟨i + 1,by go_num,hlt3.out,HB,Lib.hid (HM.out.sub (List.sublist_cons_self _ _))⟩
     case measure=>have:=hlt3.out;simp [intOf];omega
   ·have HMt:=Lib.hid (fun W=>(show ordB t.k t.o xt.k xt.o=m from hm)▸ordered_any t.k t.o xt.k xt.o W HK.out hxf)
    clear hm hxf
    cases m
    ·have HB:=Lib.hid (show r=false by rw [← HI2.out];rfl)
     go_wp2_with (first|((with_reducible refine skip_op ?_ ?_);exact rfl)|refine mP ?_|(refine mS ?_;clear HM;intro W1 HM)|(refine hal (dst:=some 6) HM rfl ?_;clear HM;intro g6 W1 HM)|(refine hbxA HM rfl rfl ?_;clear HM;intro g1 W1 HM)|((with_reducible refine iat 12 ?_);(refine ixa rfl rfl rfl hlt ?_))|((with_reducible refine iat 13 ?_);(refine ldxW (HM.out.olds E1.out) rfl rfl ?_))|(go_at_call 55;(with_reducible refine cB HM (HMt.out _) ?_);clear HM;intro W1 HM))
     go_ret
     exact ⟨by rw [HB.out];rfl,HM.out.below⟩
    ·have HB:=Lib.hid (show asksB t (qs.drop (i + 1))=r by rw [← HI2.out];rfl)
     go_wp2_with (first|((with_reducible refine skip_op ?_ ?_);exact rfl)|refine mP ?_|(refine mS ?_;clear HM;intro W1 HM)|(refine hal (dst:=some 6) HM rfl ?_;clear HM;intro g6 W1 HM)|(refine hbxA HM rfl rfl ?_;clear HM;intro g1 W1 HM)|((with_reducible refine iat 12 ?_);(refine ixa rfl rfl rfl hlt ?_))|((with_reducible refine iat 13 ?_);(refine ldxW (HM.out.olds E1.out) rfl rfl ?_))|(go_at_call 55;(with_reducible refine cB HM (HMt.out _) ?_);clear HM;intro W1 HM))
     go_roundw
     case rel=>exact ⟨i + 1,by go_num,hlt3.out,HB,Lib.hid (HM.out.sub (List.sublist_cons_self _ _))⟩
     case measure=>have:=hlt3.out;simp [intOf];omega
  ·obtain rfl:i=qs.length:=by omega
   have hr:r=true:=by rw [← HI.out,List.drop_of_length_le (Nat.le_refl _)];rfl
   subst hr
   have d1:decide ((qs.length:Int) < qs.length)=false:=by simp
   go_wp2
   go_ret
   exact ⟨rfl,HM.out.below⟩
end Go.Proofs.YtheimopjglkgjaaGreatDoor

namespace Go.Proofs.YtheimopjglkgjaaGreatDoor
open Go.RowKit
set_option linter.unusedVariables false
set_option linter.unusedSimpArgs false
set_option maxRecDepth 100000

/-- The type of a node without parts. -/
def leafF (l:List SymD) (op:Int) (s:ByteArray):TyD × Int:=
 if op=2∨op=3 then (⟨1,0⟩,0) else if op=4 then (⟨2,0⟩,0) else if op=5 then (⟨3,0⟩,0) else if op=6 then (⟨4,0⟩,0) else if op=7 then (match lookT s l with|some t=>(t,0)|none=>(⟨0,0⟩,8)) else (⟨0,0⟩,0)
def resV (r:TyD × Int):Value:=.tuple #[.agg #[.int .i64 r.1.k,.int .i64 r.1.o],.int .i64 r.2]
/-- A checker: its names, its stack. -/
def CheckerAt (w:World) (gc gm:Nat) (sv:Value) (l:List SymD):Prop:=Cells w ⟨gc,0,none⟩ [.map (some gm),sv]∧MapAt w gm l
set_option maxHeartbeats 4000000 in
theorem leaf_any (gc gm:Nat) (sv:Value) (l:List SymD) (n:NodeD) (w:World) (hC:CheckerAt w gc gm sv l) :
  Calls Tryz.prog 120 #[.pointer (some ⟨gc,0,none⟩),.agg n.cs.toArray] w fun e w'=>e = .returned (resV (leafF l n.op n.text))∧Below w.heap.size w w':=by
 have HM:=Lib.hid (Mem.start w)
 obtain ⟨op,kids,text,neg,hi,lo,sc,day⟩:=n
 have HC:=Lib.hid hC
 clear hC
 by_cases h7:op=7
 ·subst h7
  obtain ⟨r,hr⟩:∃ r,lookT text l=r:=⟨_,rfl⟩
  have HV:=Lib.hid (show findL text (symE l)=r.map TyD.val by rw [find_look,hr])
  have HL:=Lib.hid (show leafF l 7 text=r.elim (⟨0,0⟩,8) (fun t=>(t,0)) by unfold leafF;rw [if_neg (by decide),if_neg (by decide),if_neg (by decide),if_neg (by decide),if_pos rfl,hr];cases r <;> rfl)
  clear hr
  cases r
  all_goals
   go_enter Tryz.func120,Tryz.ntmps120
   go_wp2_with (first|refine mP ?_|(refine mS ?_;clear HM;intro W1 HM)|(refine hbxA (dst:=some 3) HM rfl rfl ?_;clear HM;intro g3 W1 HM)|(refine hal (dst:=some 4) HM rfl ?_;clear HM;intro g4 W1 HM)|(refine hal (dst:=some 6) HM rfl ?_;clear HM;intro g6 W1 HM))
   refine wp_region_steps2 [(true,0),(true,1),(true,2),(true,3),(true,4),(true,5),(true,6),(true,7),(true,8),(true,9),(false,10),(false,11),(true,12)] (by kernel_rfl) (by kernel_rfl) rfl (by kernel_rfl) (fun _ _ _ _ _ h=>h) HM.out _ (.cons_cons _ (.cons_cons _ .slnil)) ?_
   intro hNE W1 HM1;replace HM:=Lib.hid HM1;clear HM1
   have HS0:=Lib.hid (HM.out.sub (.cons_cons _ (.cons_cons _ .slnil)))
   simp only [wpSteps,List.getElem?_cons_succ,List.getElem?_cons_zero]
   (repeat (first|refine mQ ?_|((with_reducible refine wpQuiet_nil ?_);(try dsimp only))|((with_reducible refine qat 29 ?_);(refine qdx0 (HC.out.1) rfl rfl ?_))|((with_reducible refine qat 32 ?_);(refine qlkm (l:=symE l) (B:=0) (fun W ⟨q,hq⟩=>hq▸q.mem.oldmap HC.out.2) rfl rfl ?_;rw [HV.out];simp only [Option.map_none,Option.map_some,Option.getD_none,Option.getD_some,Option.isSome_none,Option.isSome_some,TyD.val]))|go_big_quiet_step (fail)|quiet_step (fail)))
   go_wp2_with (first|(refine hal (dst:=some 6) HM rfl ?_;clear HM;intro g6 W1 HM))
   refine ⟨⟨⟨_,HM.out.sub msub⟩,rfl⟩,?_⟩
   (try dsimp only)
   go_wp2_with (first|(refine mS ?_;clear HM;intro W1 HM))
   refine ⟨⟨⟨_,HM.out.sub msub⟩,rfl⟩,?_⟩
   (try dsimp only)
   (repeat (first|((with_reducible refine wpQuiet_nil ?_);(try dsimp only))|go_big_quiet_step (fail)|quiet_step (fail)))
   clear HS0 hNE
   go_wp2_with (first|refine mP ?_|(refine mS ?_;clear HM;intro W1 HM)|(refine hbxA (dst:=some 3) HM rfl rfl ?_;clear HM;intro g3 W1 HM)|(refine hal (dst:=some 4) HM rfl ?_;clear HM;intro g4 W1 HM)|(refine hal (dst:=some 6) HM rfl ?_;clear HM;intro g6 W1 HM))
   exact bodyPost_ret (res_box_tmp rfl HM.out 1 rfl rfl rfl rfl) rfl ⟨by rw [HL.out];rfl,HM.out.below⟩
 by_cases h:op=2∨op=3∨op=4∨op=5∨op=6
 ·clear h7
  rcases h with rfl|rfl|rfl|rfl|rfl
  all_goals
   go_enter Tryz.func120,Tryz.ntmps120
   go_wp2_with (first|refine mP ?_|(refine mS ?_;clear HM;intro W1 HM)|(refine hbxA (dst:=some 3) HM rfl rfl ?_;clear HM;intro g3 W1 HM)|(refine hal (dst:=some 4) HM rfl ?_;clear HM;intro g4 W1 HM)|(refine hal (dst:=some 6) HM rfl ?_;clear HM;intro g6 W1 HM)|(go_at_call 87;(with_reducible refine cB HM (cof_any _ _) ?_);clear HM;intro W1 HM))
   exact bodyPost_ret (res_box_tmp rfl HM.out 0 rfl rfl rfl rfl) rfl ⟨rfl,HM.out.below⟩
 ·have HL:=Lib.hid (show leafF l op text=(⟨0,0⟩,0) by unfold leafF;rw [if_neg (by omega),if_neg (by omega),if_neg (by omega),if_neg (by omega),if_neg h7])
  have b2:(op == 2)=false:=beq_false_of_ne (by omega)
  have b3:(op == 3)=false:=beq_false_of_ne (by omega)
  have b4:(op == 4)=false:=beq_false_of_ne (by omega)
  have b5:(op == 5)=false:=beq_false_of_ne (by omega)
  have b6:(op == 6)=false:=beq_false_of_ne (by omega)
  have b7:(op == 7)=false:=beq_false_of_ne h7
  clear h h7
  go_enter Tryz.func120,Tryz.ntmps120
  go_wp2_with (first|refine mP ?_|(refine mS ?_;clear HM;intro W1 HM)|(refine hbxA (dst:=some 3) HM rfl rfl ?_;clear HM;intro g3 W1 HM)|(refine hal (dst:=some 4) HM rfl ?_;clear HM;intro g4 W1 HM)|(refine hal (dst:=some 6) HM rfl ?_;clear HM;intro g6 W1 HM)|(go_at_call 87;(with_reducible refine cB HM (cof_any _ _) ?_);clear HM;intro W1 HM))
  exact bodyPost_ret (res_box_tmp rfl HM.out 0 rfl rfl rfl rfl) rfl ⟨by rw [HL.out];rfl,HM.out.below⟩
end Go.Proofs.YtheimopjglkgjaaGreatDoor
