/- Show's reference: Told at nodes that are right, DocPrint. (short) Show: the fixed text that the laws ask first. (short) The walks over ShowPrints, ShowApart. (short) -/
import Derived.Test.YtnghlakllgkjlaaGreatDoorShowR
import Derived.Test.YtnghlakllgkjlaaGreatDoorRefCheck
import Derived.Test.YtnghlakllgkjlaaGreatDoorShowD
import Derived.Test.YtnghlakllgkjlaaGreatDoorExprLawK
import Derived.Test.YtnghlakllgkjlaaGreatDoorSepA
namespace Go.Proofs.YtnghlakllgkjlaaGreatDoor
open Go.RowKit
set_option linter.unusedVariables false
set_option linter.unusedSimpArgs false
set_option maxRecDepth 100000
def ShIn (T:List Res) (pp:Option Addr) (cp N:Nat) (vs:List Value) (parts:List (List Nat)):Prop:=Res.row pp cp 106 1 N vs ∈ T∧N=vs.length∧RowsIn T vs parts
theorem ShIn.mono {T T' : List Res} {pp:Option Addr} {cp N:Nat} {vs:List Value} {parts:List (List Nat)} (h:ShIn T pp cp N vs parts) (hT:∀ r,r ∈ T→r ∈ T'):ShIn T' pp cp N vs parts:=
 ⟨hT _ h.1,h.2.1,h.2.2.1,fun i l hl=>by obtain ⟨p,c,a,b⟩:=h.2.2.2 i l hl;exact ⟨p,c,a,hT _ b⟩⟩
set_option maxHeartbeats 4000000 in
theorem shPlaces_any (p:Option Addr) (c:Nat) (ns:List NodeD) (parts:List (List Nat)) (hv:List Nat) (w:World) (hN:Sl w p (ns.flatMap NodeD.cs)) (hl:ns.length≤300) (hp:placeF ns ns.length 0 [] []=some (parts,hv)) :
  Calls Tryz.prog 72 #[.slice p ns.length c] w fun e w'=>∃ pp cp vs T,e = .returned (.slice pp parts.length cp)∧ShIn T pp cp parts.length vs parts∧Mem w w' T:=by
 have HM:=Lib.hid (Mem.start w)
 have HN:=Lib.hid hN
 have HSt:=Lib.hid (fun W (h:Sl W p (ns.flatMap NodeD.cs))=>hp▸stack_any p c ns ((ns.length:Int) - 1) ns.length W h (by omega) (Nat.le_refl _) hl)
 clear hN hp
 go_enter Tryz.func72,Tryz.ntmps72
 go_wp2_with (first|(go_at_call 67;(with_reducible refine (HSt.out _ HN.out).mono ?_);rintro e W2 ⟨pp,cp,ph,ch,vs,T,rfl,hRI,hM2⟩;have HM1:=Lib.hid hM2;have HRI:=Lib.hid hRI;clear HM hRI hM2;(try clear W1);rename World=>W1;have HM:=HM1;clear HM1))
 go_ret
 exact ⟨pp,cp,vs,_,rfl,⟨by simp,HRI.out.1.symm,HRI.out.1,fun i l hl=>by obtain ⟨p,c,a,b⟩:=HRI.out.2 i l hl;exact ⟨p,c,a,by simp [b]⟩⟩,HM.out⟩
theorem barsF_get {op:Int} {k:Nat} {p:Tx × Int}:∀ {ps:List (Tx × Int)} {i:Nat},ps[k]? = some p→(barsF op i ps)[k]? = some (atF p.1 (lvlF p.2) (askF op (i + k))):=by
 induction k with
 | zero=>intro ps i h;cases ps with
  | nil=>simp at h
  | cons a ps=>simp only [List.getElem?_cons_zero,Option.some.injEq] at h;subst h;rfl
 | succ k ih=>intro ps i h;cases ps with
  | nil=>simp at h
  | cons a ps=>
   rw [List.getElem?_cons_succ] at h
   have:=ih (i:=i + 1) h
   rw [barsF,List.getElem?_cons_succ,this,show i + 1 + k=i + (k + 1) by omega]
theorem barsF_mem {op:Int} {m:Nat} {x:Tx}:∀ {ps:List (Tx × Int)} {i:Nat},(∀ p ∈ ps,p.1.length≤m)→x ∈ barsF op i ps→x.length≤m + 2
 | [],_,_,h=>by cases h
 | p :: ps,i,hb,h=>by
  rcases List.mem_cons.1 h with rfl|h
  ·have:=atF_bd p.1 (lvlF p.2) (askF op i)
   have:=hb p List.mem_cons_self
   omega
  ·exact barsF_mem (fun q hq=>hb q (List.mem_cons_of_mem _ hq)) h
theorem ask_seven {op kids:Int} {k:Nat} (h:kidsB op kids=true) (hk:(k:Int) < kids):askF op k≤7:=by
 have hb:9≤op∧op≤20→k < 2:=fun ho=>by
  have:=kids_fixr (m:=2) h (by unfold arI;rw [if_neg (by omega),if_neg (by omega),if_pos (by omega)]) (by omega)
  omega
 unfold askF
 split
 ·have:=hb (by omega);omega
 ·split
  ·have:=hb (by omega);omega
  ·split
   ·omega
   ·split
    ·have:=hb (by omega);omega
    ·split
     ·have:=hb (by omega);omega
     ·split
      ·omega
      ·split <;> omega
theorem lvl_high {op:Int} (h:27 < op):lvlF op=7:=by
 unfold lvlF
 repeat (rw [if_neg (by omega)])
def toldO (r:Option (List Tx)) (N:Nat):Tx × Bool:=
 match r with
 | none=>([],false)
 | some ts=>(ts.getD (N - 1) [],true)
theorem tx_at {ts:List Tx} {n u:Nat} (h:u < ts.length):(ts.flatMap txC++List.replicate n (Value.string ⟨#[]⟩))[u * 1]? = some (.string ⟨(ts.getD u []).toArray⟩):=by
 rw [Nat.mul_one,List.getElem?_append_left (by rw [flat_len txC 1 txC_len];omega),str_flat,List.getElem?_map,List.getElem?_eq_getElem h,List.getD_eq_getElem?_getD,List.getElem?_eq_getElem h]
 rfl
theorem tx_set {ts:List Tx} {n:Nat} {x:Tx}:(ts.flatMap txC++List.replicate (n + 1) (Value.string ⟨#[]⟩)).set (ts.length * 1) (Value.string ⟨x.toArray⟩)=(ts++[x]).flatMap txC++List.replicate n (Value.string ⟨#[]⟩):=by
 have hl:(ts.flatMap txC).length=ts.length:=by rw [flat_len txC 1 txC_len];omega
 rw [Nat.mul_one,List.set_append_right _ _ (by omega),hl,Nat.sub_self,List.replicate_succ,List.set_cons_zero,List.flatMap_append,List.append_assoc]
 rfl
set_option maxHeartbeats 32000000 in
theorem rsTold_any (p:Option Addr) (c:Nat) (ns:List NodeD) (parts:List (List Nat)) (hv:List Nat) (w:World) (hN:Sl w p (ns.flatMap NodeD.cs)) (hl:ns.length≤300) (h0:0 < ns.length) (hp:placeF ns ns.length 0 [] []=some (parts,hv)) (hpl:parts.length=ns.length) (hok:∀ j n,ns[j]? = some n→ShNode ns parts j n) (hwf:∀ (i:Nat) (n:NodeD),ns[i]? = some n→n.wf) :
  Calls Tryz.prog 33 #[.slice p ns.length c] w fun e w'=>e = .returned (.tuple #[.string ⟨(toldO (toldR ns parts ns.length 0 []) ns.length).1.toArray⟩,.bool (toldO (toldR ns parts ns.length 0 []) ns.length).2])∧RowKit.Below w.heap.size w w':=by
 obtain ⟨N,hNl⟩:∃ N,ns.length=N:=⟨_,rfl⟩
 obtain ⟨R,hR⟩:∃ R,toldR ns parts ns.length 0 []=R:=⟨_,rfl⟩
 rw [hR]
 have HM:=Lib.hid (Mem.start w)
 have HR:=Lib.hid (show toldR ns parts (N - 0) 0 []=R by rw [Nat.sub_zero,← hNl];exact hR)
 have HN:=Lib.hid hN
 have HPl:=Lib.hid (fun W (h:Sl W p (ns.flatMap NodeD.cs))=>(show Calls Tryz.prog 72 #[.slice p N c] W fun e w'=>∃ pp cp vs T,e = .returned (.slice pp N cp)∧ShIn T pp cp N vs parts∧Mem W w' T from by
  have h1:=shPlaces_any p c ns parts hv W h hl hp
  rw [hpl,hNl] at h1
  exact h1))
 have HPc:=Lib.hid (placeF_len ns ns.length 0 [] [] parts hv (Nat.le_refl _) (fun j l hj=>by simp at hj) rfl hp)
 have HOk:=Lib.hid hok
 have HW:=Lib.hid hwf
 have HNl:=Lib.hid hNl
 have HPn:=Lib.hid (hpl.trans hNl)
 have hN300:N≤300:=by omega
 have hN0:0 < N:=by omega
 have hbn:16 * N≤140737488355328:=by omega
 rw [hNl]
 clear hR hN hl h0 hp hpl hok hwf hNl
 go_enter Tryz.func33,Tryz.ntmps33
 go_wp2_with (first|(go_at_call 72;(with_reducible refine (HPl.out _ HN.out).mono ?_);rintro e W2 ⟨pp,cp,vs,T0,rfl,hPI,hM2⟩;have HM1:=Lib.hid hM2;have HPI:=Lib.hid hPI;clear HM hPI hM2;(try clear W1);rename World=>W1;have HM:=HM1;clear HM1)|(refine mks (n:=N) rfl HM.out rfl rfl rfl rfl rfl (by omega) (by omega) ?_;intro go_ W1 HM1;replace HM:=Lib.hid HM1;clear HM1))
 obtain ⟨gp,rfl⟩:∃ g,pp=some ⟨g,0,none⟩:=row_some (HM.out.holds _ (List.mem_cons_of_mem _ HPI.out.1)) hN0
 go_loopw [6] (fun iv wr=>∃ (i:Nat) (ts:List Tx) (T:List Res),iv = .int .i64 i∧i≤N∧Hid (toldR ns parts (N - i) i ts=R)∧Hid (ts.length=i)∧Hid (∀ t ∈ ts,t.length≤1000)∧Hid (ShIn T (some ⟨gp,0,none⟩) cp N vs parts)∧Hid (Mem w wr (.row (some ⟨go_,0,none⟩) N 9 1 N (ts.flatMap txC++List.replicate (N - i) (.string ⟨#[]⟩)) :: T))) (fun iv _=>N - (intOf iv).toNat)
 case atStart=>exact ⟨0,[],T0,rfl,by omega,HR,Lib.hid rfl,Lib.hid (fun t ht=>by cases ht),HPI,HM⟩
 case round=>
  clear HM HPI
  obtain ⟨i,ts,T,rfl,hi,HI,HTL,HTB,HPI,HM⟩:=hrel
  by_cases hlt:i < N
  ·obtain ⟨n,hn⟩:∃ n,ns[i]? = some n:=⟨_,List.getElem?_eq_getElem (by rw [HNl.out];exact hlt)⟩
   obtain ⟨f1,f2,x,hx,hxk,hxx⟩:=HOk.out i n hn
   obtain ⟨b,rfl,hb⟩:=HN.out.some_at (i:=i) NodeD.cs_len (by decide) (by rw [HNl.out];exact hlt)
   have E1:=Lib.hid (hb.elem NodeD.cs 8 NodeD.cs_len hn)
   have HB:=Lib.hid hb
   obtain ⟨xp,xc,hv1,hv2⟩:=HPI.out.2.2.2 i x hx
   have HV1:=Lib.hid (show vs[i * 1]? = some (.slice xp x.length xc) by rw [Nat.mul_one];exact hv1)
   have HV2:=Lib.hid hv2
   have HXX:=Lib.hid hxx
   have hWn:=HW.out i n hn
   have hks:kidsB n.op n.kids=true:=f2
   obtain ⟨m',hm'⟩:∃ m',N - i=m' + 1:=⟨N - i - 1,by omega⟩
   obtain ⟨bars,hbars⟩:∃ bars,barsF n.op 0 (partF ns ts x)=bars:=⟨_,rfl⟩
   have hxg:parts.getD i []=x:=by rw [List.getD_eq_getElem?_getD,hx];rfl
   have hI:=HI.out
   rw [hm',toldR_succ hn,hxg,hbars] at hI
   have hbl:bars.length=x.length:=by rw [← hbars,barsF_len];unfold partF;rw [List.length_map]
   have htl:=HTL.out
   have hbb:∀ y ∈ bars,y.length≤1002:=fun y hy=>barsF_mem (m:=1000) (ps:=partF ns ts x) (fun q hq=>by
    obtain ⟨u,hu,rfl⟩:=List.mem_map.1 hq
    have hu2:=hxx u hu
    show (ts.getD u []).length≤1000
    rw [List.getD_eq_getElem?_getD,List.getElem?_eq_getElem (by omega)]
    exact HTB.out _ (List.getElem_mem _)) (by rw [hbars];exact hy)
   have HBG:=Lib.hid (show ∀ k u,x[k]? = some u→bars[k]? = some (atF (ts.getD u []) (lvlF (opAt ns u)) (askF n.op k)) from fun k u hu=>by
    rw [← hbars]
    have:=barsF_get (op:=n.op) (i:=0) (k:=k) (ps:=partF ns ts x) (p:=(ts.getD u [],opAt ns u)) (by unfold partF;rw [List.getElem?_map,hu];rfl)
    rw [this,Nat.zero_add])
   have hx300:x.length≤300:=by have:=HPc.out i x hx;omega
   have HBB:=Lib.hid hbb
   have HBL:=Lib.hid hbl
   obtain ⟨S,hS⟩:∃ S,tellF n bars=S:=⟨_,rfl⟩
   rw [hS] at hI
   have HI2:=Lib.hid hI
   have HT:=Lib.hid (fun W lq lc (h:Sl W lq (bars.flatMap txC))=>(show Calls Tryz.prog 75 #[.agg n.cs.toArray,.slice lq bars.length lc] W fun e w'=>e = .returned (.string ⟨S.toArray⟩)∧RowKit.Below W.heap.size W w' from by
    have h1:=rsTell_any n lq lc bars W h f1 f2 (by rw [hbl];exact hxk) hbb (by rw [hbl];exact hx300) hWn
    rw [hS] at h1
    exact h1))
   have HKX:=Lib.hid (show ∀ k:Nat,k < x.length→askF n.op k≤7 from fun k hk=>ask_seven hks (by omega))
   have hlt3:=Lib.hid (show i + 1≤N from hlt)
   have d1:decide ((i:Int) < N)=true:=decide_eq_true (by omega)
   clear hb hn hx hxx hv1 hv2 HI hI f1 f2 hks hxk hbars hxg hbl hbb hWn hS htl
   obtain ⟨cur,hcur⟩:∃ cur,ts.flatMap txC++List.replicate (N - i) (Value.string ⟨#[]⟩)=cur:=⟨_,rfl⟩
   have htl:=HTL.out
   have hcl:cur.length=N:=by rw [← hcur,List.length_append,flat_len txC 1 txC_len,List.length_replicate];omega
   have HCu:=Lib.hid hcur
   rw [hcur] at HM
   have HTx0:=Lib.hid (show ∀ u,u < i→cur[u * 1]? = some (.string ⟨(ts.getD u []).toArray⟩) from fun u hu=>by rw [← hcur];exact tx_at (by omega))
   have HTd:=Lib.hid (show ∀ u,u < i→(ts.getD u []).length≤1000 from fun u hu=>by
    rw [List.getD_eq_getElem?_getD,List.getElem?_eq_getElem (by omega)]
    exact HTB.out _ (List.getElem_mem _))
   have HCl:=Lib.hid hcl
   clear hcur htl hcl
   have HM1:=Lib.hid (HM.out.row0 9 1)
   clear HM
   have HM:=HM1
   clear HM1
   go_wp2_with fail
   go_loopw [8,7] (fun kv lv wr=>∃ (k:Nat) (lq:Option Addr) (lc:Nat) (acc:List Tx),kv = .int .i64 k∧lv = .slice lq acc.length lc∧k≤x.length∧Hid (acc.length=k)∧Hid (acc=bars.take k)∧Hid (Mem w wr (.row lq lc 9 1 acc.length (acc.flatMap txC) :: .row (some ⟨go_,0,none⟩) N 9 1 N cur :: T))) (fun kv _ _=>x.length - (intOf kv).toNat)
   case atStart=>exact ⟨0,none,0,[],rfl,rfl,by omega,Lib.hid rfl,Lib.hid rfl,HM⟩
   case round=>
    clear HM
    obtain ⟨k,lq,lc,acc,rfl,rfl,hk,HAL,HAC,HM⟩:=hrel
    by_cases hkl:k < x.length
    ·obtain ⟨u,hu⟩:∃ u,x[k]? = some u:=⟨_,List.getElem?_eq_getElem hkl⟩
     have hui:=HXX.out u (List.mem_of_getElem? hu)
     have huN:u < N:=by omega
     obtain ⟨m,hm⟩:∃ m,ns[u]? = some m:=⟨_,List.getElem?_eq_getElem (by rw [HNl.out];exact huN)⟩
     have E2:=Lib.hid (HB.out.elem NodeD.cs 8 NodeD.cs_len hm)
     obtain ⟨xb,rfl⟩:∃ b,xp=some b:=by
      cases xp with
      | some b=>exact ⟨b,rfl⟩
      | none=>
       have h1:=Sl.nil_len intC_len (by decide) (sl_row intC 1 intC_len (HM.out.holds _ (List.mem_cons_of_mem _ (List.mem_cons_of_mem _ HV2.out)))) rfl
       omega
     have HUx:=Lib.hid (show (intL x)[k * 1]? = some (.int .i64 u) from intL_at hu)
     have HTx:=Lib.hid (HTx0.out u hui)
     have ht1:=HTd.out u hui
     have hbk:=HBG.out k u hu
     rw [opAt_of hm] at hbk
     have h7:=HKX.out k hkl
     have HLv:=Lib.hid (fun W=>below_of_same (rshLevel_any m.op W))
     have HAk:=Lib.hid (fun W=>below_of_same (rshAsked_any n.op k W (by omega)))
     have hacc:acc.length≤300:=by have h:=HAL.out;omega
     have d2:decide ((k:Int) < x.length)=true:=decide_eq_true (by omega)
     generalize ts.getD u []=t at *
     generalize askF n.op k=ak at *
     clear hu hm
     by_cases hop:m.op≤27
     ·have d3:decide (m.op≤27)=true:=decide_eq_true hop
      generalize lvlF m.op=lv at *
      by_cases hlv:lv < ak
      ·have d4:decide (lv < ak)=true:=decide_eq_true hlv
       have HBk:=Lib.hid (show bars[k]? = some ([40]++t++[41]) from hbk.trans (congrArg some (atF_high hlv)))
       have HA2:=Lib.hid (show acc++[[40]++t++[41]]=bars.take (k + 1) by rw [List.take_add_one,HBk.out,← HAC.out];rfl)
       have HL2:=Lib.hid (show (acc++[[40]++t++[41]]).length=k + 1 by rw [List.length_append,HAL.out];rfl)
       clear hbk hlv HBk HAL HAC HBG
       go_wp2_with (first|((with_reducible refine iat 25 ?_);(refine ixa rfl rfl rfl hlt ?_))|((with_reducible refine iat 33 ?_);(refine ixa rfl rfl rfl hlt ?_))|((with_reducible refine iat 36 ?_);(refine ixa rfl rfl rfl hkl ?_))|((with_reducible refine iat 40 ?_);(refine ixa rfl rfl rfl huN ?_))|((with_reducible refine iat 26 ?_);(refine ldx1 (row_cell (HM.out.holds _ (List.mem_cons_of_mem _ (List.mem_cons_of_mem _ HPI.out.1))) HV1.out) rfl ?_))|((with_reducible refine iat 34 ?_);(refine ldx1 (row_cell (HM.out.holds _ (List.mem_cons_of_mem _ (List.mem_cons_of_mem _ HPI.out.1))) HV1.out) rfl ?_))|((with_reducible refine iat 37 ?_);(refine ldx1 (row_cell (HM.out.holds _ (List.mem_cons_of_mem _ (List.mem_cons_of_mem _ HV2.out))) HUx.out) rfl ?_))|((with_reducible refine iat 41 ?_);(refine ldx1 (v:=.string ⟨t.toArray⟩) (row_cell (HM.out.get (k:=1) rfl) HTx.out) rfl ?_))|((with_reducible refine skip_op ?_ ?_);exact rfl)|refine mP ?_|(refine mS ?_;clear HM;intro W1 HM)|(refine mL ?_;clear HM;intro g1 W1 HM))
       refine wp_region_mem (by kernel_rfl) (by kernel_rfl) HM.out ?_;intro hNE;(repeat (any_goals (first|((with_reducible refine skip_q ?_ ?_ ?_);(exact rfl);(rotate_left;(exact (hNE.elim fun p=>⟨p.W,p,rfl⟩))))|refine mQ ?_|((with_reducible show wpQuiet _ _ _ _ (Oper.mk _ (Op.call { callee:=Callee.value (Operand.func 73),args:=_,argTypes:=_}) _ _ _ _ :: _) _);(refine qcall HM.out (fun W hC=>HLv.out W) Tryz.func73 rfl rfl rfl ?_))|((with_reducible show wpQuiet _ _ _ _ (Oper.mk _ (Op.call { callee:=Callee.value (Operand.func 74),args:=_,argTypes:=_}) _ _ _ _ :: _) _);(refine qcall HM.out (fun W hC=>HAk.out W) Tryz.func74 rfl rfl rfl ?_))|((with_reducible refine qat 44 ?_);(refine qixa rfl rfl rfl huN ?_))|((with_reducible refine qat 46 ?_);(refine qdx0 E2.out rfl rfl ?_))|((with_reducible refine qat 51 ?_);(refine qixa rfl rfl rfl huN ?_))|((with_reducible refine qat 53 ?_);(refine qdx0 E2.out rfl rfl ?_))|((with_reducible refine qat 57 ?_);(refine qixa rfl rfl rfl hlt ?_))|((with_reducible refine qat 59 ?_);(refine qdx0 E1.out rfl rfl ?_))|go_big_quiet_step (fail)|quiet_step (fail))));clear hNE;refine wpQuiet_nil ?_;intro W1 HM1;replace HM:=Lib.hid HM1;clear HM1
       go_wp2_with (first|((with_reducible refine iat 65 ?_);(refine tcat rfl rfl (by simp;omega) ?_))|((with_reducible refine iat 66 ?_);(refine tcat rfl rfl (by simp;omega) ?_))|(refine apb rfl HM.out 1 0 rfl rfl rfl rfl rfl rfl (by omega) (by omega) (by omega) ?_;intro p1 cap1 W1 HM1;replace HM:=Lib.hid HM1;clear HM1;simp only [List.set] at HM)|((with_reducible refine skip_op ?_ ?_);exact rfl)|refine mP ?_|(refine mS ?_;clear HM;intro W1 HM)|(refine mL ?_;clear HM;intro g1 W1 HM))
       go_roundw
       case rel=>exact ⟨k + 1,p1,cap1,acc++[[40]++t++[41]],by go_num,by rw [List.length_append];rfl,by omega,HL2,HA2,Lib.hid (by
        have h:=HM.out
        rw [List.take_of_length_le (by rw [flat_len txC 1 txC_len];omega)] at h
        rw [List.length_append,List.flatMap_append]
        exact h.sub (.cons _ (.refl _)))⟩
       case measure=>simp [intOf];omega
      ·have d4:decide (lv < ak)=false:=decide_eq_false hlv
       have HBk:=Lib.hid (show bars[k]? = some (t) from hbk.trans (congrArg some (atF_low hlv)))
       have HA2:=Lib.hid (show acc++[t]=bars.take (k + 1) by rw [List.take_add_one,HBk.out,← HAC.out];rfl)
       have HL2:=Lib.hid (show (acc++[t]).length=k + 1 by rw [List.length_append,HAL.out];rfl)
       clear hbk hlv HBk HAL HAC HBG
       go_wp2_with (first|((with_reducible refine iat 25 ?_);(refine ixa rfl rfl rfl hlt ?_))|((with_reducible refine iat 33 ?_);(refine ixa rfl rfl rfl hlt ?_))|((with_reducible refine iat 36 ?_);(refine ixa rfl rfl rfl hkl ?_))|((with_reducible refine iat 40 ?_);(refine ixa rfl rfl rfl huN ?_))|((with_reducible refine iat 26 ?_);(refine ldx1 (row_cell (HM.out.holds _ (List.mem_cons_of_mem _ (List.mem_cons_of_mem _ HPI.out.1))) HV1.out) rfl ?_))|((with_reducible refine iat 34 ?_);(refine ldx1 (row_cell (HM.out.holds _ (List.mem_cons_of_mem _ (List.mem_cons_of_mem _ HPI.out.1))) HV1.out) rfl ?_))|((with_reducible refine iat 37 ?_);(refine ldx1 (row_cell (HM.out.holds _ (List.mem_cons_of_mem _ (List.mem_cons_of_mem _ HV2.out))) HUx.out) rfl ?_))|((with_reducible refine iat 41 ?_);(refine ldx1 (v:=.string ⟨t.toArray⟩) (row_cell (HM.out.get (k:=1) rfl) HTx.out) rfl ?_))|((with_reducible refine skip_op ?_ ?_);exact rfl)|refine mP ?_|(refine mS ?_;clear HM;intro W1 HM)|(refine mL ?_;clear HM;intro g1 W1 HM))
       refine wp_region_mem (by kernel_rfl) (by kernel_rfl) HM.out ?_;intro hNE;(repeat (any_goals (first|((with_reducible refine skip_q ?_ ?_ ?_);(exact rfl);(rotate_left;(exact (hNE.elim fun p=>⟨p.W,p,rfl⟩))))|refine mQ ?_|((with_reducible show wpQuiet _ _ _ _ (Oper.mk _ (Op.call { callee:=Callee.value (Operand.func 73),args:=_,argTypes:=_}) _ _ _ _ :: _) _);(refine qcall HM.out (fun W hC=>HLv.out W) Tryz.func73 rfl rfl rfl ?_))|((with_reducible show wpQuiet _ _ _ _ (Oper.mk _ (Op.call { callee:=Callee.value (Operand.func 74),args:=_,argTypes:=_}) _ _ _ _ :: _) _);(refine qcall HM.out (fun W hC=>HAk.out W) Tryz.func74 rfl rfl rfl ?_))|((with_reducible refine qat 44 ?_);(refine qixa rfl rfl rfl huN ?_))|((with_reducible refine qat 46 ?_);(refine qdx0 E2.out rfl rfl ?_))|((with_reducible refine qat 51 ?_);(refine qixa rfl rfl rfl huN ?_))|((with_reducible refine qat 53 ?_);(refine qdx0 E2.out rfl rfl ?_))|((with_reducible refine qat 57 ?_);(refine qixa rfl rfl rfl hlt ?_))|((with_reducible refine qat 59 ?_);(refine qdx0 E1.out rfl rfl ?_))|go_big_quiet_step (fail)|quiet_step (fail))));clear hNE;refine wpQuiet_nil ?_;intro W1 HM1;replace HM:=Lib.hid HM1;clear HM1
       go_wp2_with (first|(refine apb rfl HM.out 1 0 rfl rfl rfl rfl rfl rfl (by omega) (by omega) (by omega) ?_;intro p1 cap1 W1 HM1;replace HM:=Lib.hid HM1;clear HM1;simp only [List.set] at HM)|((with_reducible refine skip_op ?_ ?_);exact rfl)|refine mP ?_|(refine mS ?_;clear HM;intro W1 HM)|(refine mL ?_;clear HM;intro g1 W1 HM))
       go_roundw
       case rel=>exact ⟨k + 1,p1,cap1,acc++[t],by go_num,by rw [List.length_append];rfl,by omega,HL2,HA2,Lib.hid (by
        have h:=HM.out
        rw [List.take_of_length_le (by rw [flat_len txC 1 txC_len];omega)] at h
        rw [List.length_append,List.flatMap_append]
        exact h.sub (.cons _ (.refl _)))⟩
       case measure=>simp [intOf];omega
     ·have d3:decide (m.op≤27)=false:=decide_eq_false hop
      have hlv:¬ lvlF m.op < ak:=by rw [lvl_high (by omega)];omega
      generalize lvlF m.op=lv at *
      have HBk:=Lib.hid (show bars[k]? = some (t) from hbk.trans (congrArg some (atF_low hlv)))
      have HA2:=Lib.hid (show acc++[t]=bars.take (k + 1) by rw [List.take_add_one,HBk.out,← HAC.out];rfl)
      have HL2:=Lib.hid (show (acc++[t]).length=k + 1 by rw [List.length_append,HAL.out];rfl)
      clear hbk hlv HBk HAL HAC HBG
      go_wp2_with (first|((with_reducible refine iat 25 ?_);(refine ixa rfl rfl rfl hlt ?_))|((with_reducible refine iat 33 ?_);(refine ixa rfl rfl rfl hlt ?_))|((with_reducible refine iat 36 ?_);(refine ixa rfl rfl rfl hkl ?_))|((with_reducible refine iat 40 ?_);(refine ixa rfl rfl rfl huN ?_))|((with_reducible refine iat 26 ?_);(refine ldx1 (row_cell (HM.out.holds _ (List.mem_cons_of_mem _ (List.mem_cons_of_mem _ HPI.out.1))) HV1.out) rfl ?_))|((with_reducible refine iat 34 ?_);(refine ldx1 (row_cell (HM.out.holds _ (List.mem_cons_of_mem _ (List.mem_cons_of_mem _ HPI.out.1))) HV1.out) rfl ?_))|((with_reducible refine iat 37 ?_);(refine ldx1 (row_cell (HM.out.holds _ (List.mem_cons_of_mem _ (List.mem_cons_of_mem _ HV2.out))) HUx.out) rfl ?_))|((with_reducible refine iat 41 ?_);(refine ldx1 (v:=.string ⟨t.toArray⟩) (row_cell (HM.out.get (k:=1) rfl) HTx.out) rfl ?_))|((with_reducible refine skip_op ?_ ?_);exact rfl)|refine mP ?_|(refine mS ?_;clear HM;intro W1 HM)|(refine mL ?_;clear HM;intro g1 W1 HM))
      refine wp_region_mem (by kernel_rfl) (by kernel_rfl) HM.out ?_;intro hNE;(repeat (any_goals (first|((with_reducible refine skip_q ?_ ?_ ?_);(exact rfl);(rotate_left;(exact (hNE.elim fun p=>⟨p.W,p,rfl⟩))))|refine mQ ?_|((with_reducible show wpQuiet _ _ _ _ (Oper.mk _ (Op.call { callee:=Callee.value (Operand.func 73),args:=_,argTypes:=_}) _ _ _ _ :: _) _);(refine qcall HM.out (fun W hC=>HLv.out W) Tryz.func73 rfl rfl rfl ?_))|((with_reducible show wpQuiet _ _ _ _ (Oper.mk _ (Op.call { callee:=Callee.value (Operand.func 74),args:=_,argTypes:=_}) _ _ _ _ :: _) _);(refine qcall HM.out (fun W hC=>HAk.out W) Tryz.func74 rfl rfl rfl ?_))|((with_reducible refine qat 44 ?_);(refine qixa rfl rfl rfl huN ?_))|((with_reducible refine qat 46 ?_);(refine qdx0 E2.out rfl rfl ?_))|((with_reducible refine qat 51 ?_);(refine qixa rfl rfl rfl huN ?_))|((with_reducible refine qat 53 ?_);(refine qdx0 E2.out rfl rfl ?_))|((with_reducible refine qat 57 ?_);(refine qixa rfl rfl rfl hlt ?_))|((with_reducible refine qat 59 ?_);(refine qdx0 E1.out rfl rfl ?_))|go_big_quiet_step (fail)|quiet_step (fail))));clear hNE;refine wpQuiet_nil ?_;intro W1 HM1;replace HM:=Lib.hid HM1;clear HM1
      go_wp2_with (first|(refine apb rfl HM.out 1 0 rfl rfl rfl rfl rfl rfl (by omega) (by omega) (by omega) ?_;intro p1 cap1 W1 HM1;replace HM:=Lib.hid HM1;clear HM1;simp only [List.set] at HM)|((with_reducible refine skip_op ?_ ?_);exact rfl)|refine mP ?_|(refine mS ?_;clear HM;intro W1 HM)|(refine mL ?_;clear HM;intro g1 W1 HM))
      go_roundw
      case rel=>exact ⟨k + 1,p1,cap1,acc++[t],by go_num,by rw [List.length_append];rfl,by omega,HL2,HA2,Lib.hid (by
       have h:=HM.out
       rw [List.take_of_length_le (by rw [flat_len txC 1 txC_len];omega)] at h
       rw [List.length_append,List.flatMap_append]
       exact h.sub (.cons _ (.refl _)))⟩
      case measure=>simp [intOf];omega
    ·obtain rfl:k=x.length:=by omega
     obtain rfl:acc=bars:=by rw [HAC.out,List.take_of_length_le (by rw [HBL.out];exact Nat.le_refl _)]
     have d2:decide ((x.length:Int) < x.length)=false:=by simp
     have hcl:=HCl.out
     have HSt:=Lib.hid (show ∀ v:Value,(cur.set (i * 1) v)[i * 1]? = some v from fun v=>List.getElem?_set_self (by omega))
     have hic:i * 1 < cur.length:=by omega
     clear HBG HAC HAL hcl
     by_cases hs1:1000 < S.length
     ·have d4:decide (1000 < S.length)=true:=decide_eq_true (by omega)
      have HE:=Lib.hid (show R=none by rw [← HI2.out,if_pos hs1])
      go_wp2_with (first|((with_reducible refine iat 25 ?_);(refine ixa rfl rfl rfl hlt ?_))|((with_reducible refine iat 26 ?_);(refine ldx1 (row_cell (HM.out.holds _ (List.mem_cons_of_mem _ (List.mem_cons_of_mem _ HPI.out.1))) HV1.out) rfl ?_))|((with_reducible refine iat 75 ?_);(refine ixa rfl rfl rfl hlt ?_))|((with_reducible refine iat 76 ?_);(refine ldxW (HM.out.olds E1.out) rfl rfl ?_))|(go_at_call 75;(with_reducible refine cB HM (HT.out _ _ _ (sl_row txC 1 txC_len (HM.out.get (k:=0) rfl))) ?_);clear HM;intro W1 HM)|((with_reducible refine iat 79 ?_);(refine ixa rfl rfl rfl hlt ?_))|(refine strw (i:=i * 1) (v:=.string ⟨S.toArray⟩) rfl HM.out 1 rfl rfl rfl rfl hic ?_;intro W1 HM1;replace HM:=Lib.hid HM1;clear HM1;simp only [List.set] at HM)|((with_reducible refine iat 82 ?_);(refine ixa rfl rfl rfl hlt ?_))|((with_reducible refine iat 83 ?_);(refine ldx1 (v:=.string ⟨S.toArray⟩) (row_cell (HM.out.get (k:=1) rfl) (HSt.out _)) rfl ?_))|((with_reducible refine skip_op ?_ ?_);exact rfl)|refine mP ?_|(refine mS ?_;clear HM;intro W1 HM)|(refine mL ?_;clear HM;intro g1 W1 HM))
      go_ret2
      exact ⟨by rw [HE.out];rfl,HM.out.below⟩
     ·have d4:decide (1000 < S.length)=false:=decide_eq_false (by omega)
      have HI3:=Lib.hid (show toldR ns parts (N - (i + 1)) (i + 1) (ts++[S])=R by rw [← HI2.out,if_neg hs1,show N - (i + 1)=m' by omega])
      go_wp2_with (first|((with_reducible refine iat 25 ?_);(refine ixa rfl rfl rfl hlt ?_))|((with_reducible refine iat 26 ?_);(refine ldx1 (row_cell (HM.out.holds _ (List.mem_cons_of_mem _ (List.mem_cons_of_mem _ HPI.out.1))) HV1.out) rfl ?_))|((with_reducible refine iat 75 ?_);(refine ixa rfl rfl rfl hlt ?_))|((with_reducible refine iat 76 ?_);(refine ldxW (HM.out.olds E1.out) rfl rfl ?_))|(go_at_call 75;(with_reducible refine cB HM (HT.out _ _ _ (sl_row txC 1 txC_len (HM.out.get (k:=0) rfl))) ?_);clear HM;intro W1 HM)|((with_reducible refine iat 79 ?_);(refine ixa rfl rfl rfl hlt ?_))|(refine strw (i:=i * 1) (v:=.string ⟨S.toArray⟩) rfl HM.out 1 rfl rfl rfl rfl hic ?_;intro W1 HM1;replace HM:=Lib.hid HM1;clear HM1;simp only [List.set] at HM)|((with_reducible refine iat 82 ?_);(refine ixa rfl rfl rfl hlt ?_))|((with_reducible refine iat 83 ?_);(refine ldx1 (v:=.string ⟨S.toArray⟩) (row_cell (HM.out.get (k:=1) rfl) (HSt.out _)) rfl ?_))|((with_reducible refine skip_op ?_ ?_);exact rfl)|refine mP ?_|(refine mS ?_;clear HM;intro W1 HM)|(refine mL ?_;clear HM;intro g1 W1 HM))
      have HC2:=Lib.hid (show cur.set (i * 1) (Value.string ⟨S.toArray⟩)=(ts++[S]).flatMap txC++List.replicate (N - (i + 1)) (Value.string ⟨#[]⟩) by
       rw [← HCu.out,show N - i=(N - (i + 1)) + 1 by omega,← HTL.out];exact tx_set)
      rw [HC2.out] at HM
      go_roundw
      case rel=>exact ⟨i + 1,ts++[S],.row lq lc 9 1 acc.length (acc.flatMap txC) :: T,by go_num,by omega,HI3,Lib.hid (by rw [List.length_append,HTL.out];rfl),Lib.hid (fun t ht=>by
       rcases List.mem_append.1 ht with ht|ht
       ·exact HTB.out t ht
       ·rw [List.mem_singleton.1 ht];omega),Lib.hid (HPI.out.mono (fun r hr=>List.mem_cons_of_mem _ hr)),Lib.hid (HM.out.perm (List.Perm.swap _ _ _))⟩
      case measure=>have:=hlt3.out;simp [intOf];omega
  ·obtain rfl:i=N:=by omega
   have hI:=HI.out
   rw [Nat.sub_self] at hI
   have hI:some ts=R:=hI
   have HE:=Lib.hid hI.symm
   have d1:decide ((i:Int) < i)=false:=by simp
   have hn1:i - 1 < i:=by omega
   have hz1:(i:Int) - 1=((i - 1:Nat):Int):=by omega
   have HTx:=Lib.hid (tx_at (ts:=ts) (n:=i - i) (u:=i - 1) (by rw [HTL.out];exact hn1))
   generalize ts.flatMap txC++List.replicate (i - i) (Value.string ⟨#[]⟩)=cur at *
   clear HI hI
   go_wp2_with (first|((with_reducible refine iat 90 ?_);(refine ixa (i:=i - 1) rfl rfl (by omega) hn1 ?_))|((with_reducible refine iat 91 ?_);(refine ldx1 (v:=.string ⟨(ts.getD (i - 1) []).toArray⟩) (row_cell (HM.out.get (k:=0) rfl) HTx.out) rfl ?_)))
   go_ret2
   exact ⟨by rw [HE.out];rfl,HM.out.below⟩
theorem print_out {ns:List NodeD} {tests:Bool} (h:checkC ns tests=0):0 < ns.length∧∃ parts,placeF ns ns.length 0 [] []=some (parts,[ns.length - 1])∧parts.length=ns.length∧(∀ j n,ns[j]? = some n→ShNode ns parts j n)∧
  printF ns tests=((toldO (toldR ns parts ns.length 0 []) ns.length).1,if (toldO (toldR ns parts ns.length 0 []) ns.length).2 then 0 else 6):=by
 have h0:0 < ns.length:=by
  cases ns with
  | nil=>
   have:=(fit_check h).1
   exact absurd (show ([]:List Int).length=1 from this) (by decide)
  | cons a l=>simp
 obtain ⟨parts,g1,g2,g3,g4⟩:=told_law h
 refine ⟨h0,parts,g1,g2,g3,?_⟩
 unfold printF
 rw [if_pos h]
 rcases g4 with ⟨e1,e2⟩ | ⟨ts,e1,e2,e3⟩
 ·rw [e1,e2];rfl
 ·rw [e1,e3];rfl
set_option maxHeartbeats 4000000 in
theorem rsDocPrint_any (p:Option Addr) (c:Nat) (ns:List NodeD) (tests:Bool) (w:World) (hN:Sl w p (ns.flatMap NodeD.cs)) (hwf:∀ (i:Nat) (n:NodeD),ns[i]? = some n→n.wf) (hl:ns.length≤4611686018427387904) :
  Calls Tryz.prog 16 #[.slice p ns.length c,.bool tests] w fun e w'=>e = .returned (.tuple #[.string ⟨(printF ns tests).1.toArray⟩,.int .i64 (printF ns tests).2])∧RowKit.Below w.heap.size w w':=by
 have HM:=Lib.hid (Mem.start w)
 have HC:=Lib.hid (fun W h1=>rCheck_any p c ns tests W h1 hwf hl)
 have HN:=Lib.hid hN
 by_cases hck:checkC ns tests=0
 ·obtain ⟨h0,parts,g1,g2,g3,g4⟩:=print_out hck
  have h300:=(fit_check hck).2
  have HT:=Lib.hid (fun W h1=>rsTold_any p c ns parts _ W h1 h300 h0 g1 g2 g3 hwf)
  rw [g4]
  rw [hck] at HC
  have hX:(toldO (toldR ns parts ns.length 0 []) ns.length).2=false→(toldO (toldR ns parts ns.length 0 []) ns.length).1=[]:=by
   cases toldR ns parts ns.length 0 [] with
   | none=>intro _;rfl
   | some ts=>intro h;cases h
  generalize toldO (toldR ns parts ns.length 0 []) ns.length=z at *
  obtain ⟨X,b⟩:=z
  simp only at HT hX ⊢
  clear hN hwf hck g1 g2 g3 g4 h0 h300
  have HX:=Lib.hid hX
  clear hX
  cases b
  all_goals
   go_enter Tryz.func16,Tryz.ntmps16
   go_wp2_with (first|(go_at_call 32;(with_reducible refine cB HM (HC.out _ HN.out) ?_);clear HM;intro W1 HM)|(go_at_call 33;(with_reducible refine cB HM (HT.out _ (HM.out.sl HN.out)) ?_);clear HM;intro W1 HM))
   go_ret2
  ·exact ⟨by rw [HX.out trivial];rfl,HM.out.below⟩
  ·exact ⟨rfl,HM.out.below⟩
 ·have HR:=Lib.hid (show printF ns tests=([],checkC ns tests) by unfold printF;rw [if_neg hck])
  have q1:(checkC ns tests != 0)=true:=by simpa using hck
  generalize checkC ns tests=r at *
  clear hN hwf
  go_enter Tryz.func16,Tryz.ntmps16
  go_wp2_with (first|(go_at_call 32;(with_reducible refine cB HM (HC.out _ HN.out) ?_);clear HM;intro W1 HM))
  go_ret2
  exact ⟨by rw [HR.out];rfl,HM.out.below⟩
def kns:List NodeD:=[nTx 7 0 ⟨#[97]⟩,nTx 7 0 ⟨#[98]⟩,nOp 9 2,nTx 7 0 ⟨#[99]⟩,nOp 11 2]
theorem shKnown_parse:parseF ⟨#[40,97,43,98,41,42,40,99,41]⟩ false=(kns,0):=by kernel_rfl
theorem shKnown_print:printF kns false=([40,97,32,43,32,98,41,32,42,32,99],0):=by kernel_rfl
set_option maxHeartbeats 4000000 in
theorem shCanon_known (w:World) (hU:U8 w) (hP:PowT w) :
  Calls Tryz.prog 31 #[.string ⟨#[40,97,43,98,41,42,40,99,41]⟩,.bool false] w fun e w'=>e = .returned (.tuple #[.string ⟨#[40,97,32,43,32,98,41,32,42,32,99]⟩,.int .i64 0])∧RowKit.Below w.heap.size w w':=by
 have HM:=Lib.hid (Mem.start w)
 have HU:=Lib.hid hU
 have HP:=Lib.hid hP
 have HA:=Lib.hid (xParse_any ⟨#[40,97,43,98,41,42,40,99,41]⟩ w hU)
 unfold NPost at HA
 rw [shKnown_parse] at HA
 dsimp only at HA
 have hwf:∀ (i:Nat) (n:NodeD),kns[i]? = some n→n.wf:=nodes_wf (by
  have h:=(parseF_ok ⟨#[40,97,43,98,41,42,40,99,41]⟩ false).2
  rw [shKnown_parse] at h
  exact h)
 have HPr:=Lib.hid (fun (p:Option Addr) (c:Nat) (W:World) (h1:Sl W p (kns.flatMap NodeD.cs)) (h2:U8 W) (h3:PowT W)=>(show Calls Tryz.prog 17 #[.slice p kns.length c,.bool false] W fun e w'=>e = .returned (.tuple #[.string ⟨#[40,97,32,43,32,98,41,32,42,32,99]⟩,.int .i64 0])∧RowKit.Below W.heap.size W w' from by
  have h:=shPrint_any p c kns false W h1 hwf (by decide) h2 h3
  rw [shKnown_print] at h
  exact h))
 generalize kns=l at *
 clear hU hP hwf
 go_enter Tryz.func31,Tryz.ntmps31
 go_wp2_with (first|(go_at_call 65;(with_reducible refine HA.out.mono ?_);rintro e W2 ⟨p,oc,rfl,hM2⟩;replace HM:=Lib.hid hM2;clear hM2)|(go_at_call 17;(with_reducible refine cB HM (HPr.out _ _ _ (sl_row NodeD.cs 8 NodeD.cs_len (HM.out.get (k:=0) rfl)) (U8.below HU.out HM.out.below) (tab_below HM.out.below HP.out)) ?_);clear HM;intro W1 HM))
 go_ret2
 exact ⟨rfl,HM.out.below⟩
set_option maxHeartbeats 4000000 in
theorem shKnown_any (w:World) (hU:U8 w) (hP:PowT w):Calls Tryz.prog 15 #[] w fun e w'=>e = .returned (.bool true)∧RowKit.Below w.heap.size w w':=by
 have HM:=Lib.hid (Mem.start w)
 have HC:=Lib.hid (shCanon_known w hU hP)
 clear hU hP
 go_enter Tryz.func15,Tryz.ntmps15
 go_wp2_with (first|(go_at_call 31;(with_reducible refine cB HM (HC.out) ?_);clear HM;intro W1 HM))
 go_ret
 exact ⟨rfl,HM.out.below⟩
set_option maxHeartbeats 8000000 in
theorem showPrints_walk (p:Option Addr) (c:Nat) (ns:List NodeD) (tests:Bool) (w:World) (hN:Sl w p (ns.flatMap NodeD.cs)) (hwf:∀ (i:Nat) (n:NodeD),ns[i]? = some n→n.wf) (hl:ns.length≤1048576) (hU:U8 w) (hP:PowT w) :
  Calls Tryz.prog 5 #[.slice p ns.length c,.bool tests] w fun e w'=>e = .returned (.bool true)∧RowKit.Below w.heap.size w w':=by
 have HM:=Lib.hid (Mem.start w)
 have HN:=Lib.hid hN
 have HU:=Lib.hid hU
 have HP:=Lib.hid hP
 have HR:=Lib.hid (fun W h1=>rsDocPrint_any p c ns tests W h1 hwf (by omega))
 have HS:=Lib.hid (fun W h1 h2 h3=>shPrint_any p c ns tests W h1 hwf (by omega) h2 h3)
 generalize printF ns tests=z at *
 obtain ⟨X,e⟩:=z
 simp only at HR HS
 generalize (⟨X.toArray⟩:ByteArray)=Y at *
 clear hN hwf hU hP
 go_enter Tryz.func5,Tryz.ntmps5
 go_wp2_with (first|(go_at_call 15;(with_reducible refine cB HM (shKnown_any _ (U8.below HU.out HM.out.below) (tab_below HM.out.below HP.out)) ?_);clear HM;intro W1 HM)|(go_at_call 16;(with_reducible refine cB HM (HR.out _ (HM.out.sl HN.out)) ?_);clear HM;intro W1 HM)|(go_at_call 17;(with_reducible refine cB HM (HS.out _ (HM.out.sl HN.out) (U8.below HU.out HM.out.below) (tab_below HM.out.below HP.out)) ?_);clear HM;intro W1 HM))
 go_ret
 exact ⟨rfl,HM.out.below⟩
theorem sa_box {α:Type} (f:α→List Value) (k:Nat) (hf:∀ x,(f x).length=k) {B g:Nat} {t:TypeId} {W:World} {av:List Value} {L:List α} (h:(Res.box g t av).holds B W) (hav:av=L.flatMap f) {i:Nat} {x:α} (hx:L[i]? = some x):Cells W ((⟨g,0,none⟩:Addr).add (i * k)) (f x):=by
 have h1:=box_cells h 0
 rw [List.drop_zero,hav] at h1
 exact h1.elem f k hf hx
theorem sa_pre {B g:Nat} {t:TypeId} {W:World} {av x y:List Value} (h:(Res.box g t av).holds B W) (hav:av=x++y):Sl W (some ⟨g,0,none⟩) x:=
 ⟨(fun e=>by cases e),(fun a e=>by
  cases e
  intro j u hj
  have h1:=box_cells h 0
  rw [List.drop_zero,hav] at h1
  exact h1 j u (by rw [List.getElem?_append_left (List.getElem?_eq_some_iff.1 hj).1];exact hj))⟩
theorem sa_fill {α:Type} (f:α→List Value) (k:Nat) (hf:∀ x,(f x).length=k) (l:List α) (z:α) (n:Nat):l.flatMap f++((List.replicate (l.length + n) (f z)).flatten).drop (l.flatMap f).length=(l++List.replicate n z).flatMap f:=by
 have h1:(List.replicate (l.length + n) (f z)).flatten=(List.replicate l.length z).flatMap f++(List.replicate n z).flatMap f:=by
  rw [← List.flatMap_append,List.replicate_append_replicate,List.flatMap_def,List.map_replicate]
 rw [h1,List.drop_append,flat_len f k hf,flat_len f k hf,List.length_replicate,Nat.sub_self,List.drop_zero,List.drop_of_length_le (by rw [flat_len f k hf,List.length_replicate];exact Nat.le_refl _),List.nil_append,List.flatMap_append]
def zN0:NodeD:=⟨0,0,⟨#[]⟩,false,0,0,0,0⟩
set_option maxHeartbeats 32000000 in
theorem showApart_walk (p:Option Addr) (c:Nat) (ns:List NodeD) (tests:Bool) (w:World) (hN:Sl w p (ns.flatMap NodeD.cs)) (hwf:∀ (i:Nat) (n:NodeD),ns[i]? = some n→n.wf) (hl:ns.length≤1048576) (hU:U8 w) (hP:PowT w) :
  Calls Tryz.prog 6 #[.slice p ns.length c,.bool tests] w fun e w'=>e = .returned (.bool true)∧RowKit.Below w.heap.size w w':=by
 have HM:=Lib.hid (Mem.start w)
 have HN:=Lib.hid hN
 have HU:=Lib.hid hU
 have HP:=Lib.hid hP
 obtain ⟨N,hNl⟩:∃ N,ns.length=N:=⟨_,rfl⟩
 obtain ⟨N4,hN4⟩:∃ N4,N + 4=N4:=⟨_,rfl⟩
 obtain ⟨av,hav⟩:∃ av,(ns++List.replicate 4 zN0).flatMap NodeD.cs=av:=⟨_,rfl⟩
 have zNc:zN0.cs=[.int .i64 0,.int .i64 0,.string ⟨#[]⟩,.bool false,.int .u64 0,.int .u64 0,.int .i64 0,.int .i64 0]:=rfl
 obtain ⟨fa,hfa⟩:∃ fa,(List.replicate N4 ([.int .i64 0,.int .i64 0,.string ⟨#[]⟩,.bool false,.int .u64 0,.int .u64 0,.int .i64 0,.int .i64 0]:List Value)).flatten=fa:=⟨_,rfl⟩
 have HA:=Lib.hid (show ns.flatMap NodeD.cs++fa.drop (ns.flatMap NodeD.cs).length=av by
  rw [← hfa,← hav,← sa_fill NodeD.cs 8 NodeD.cs_len ns zN0 4,zNc,hNl,hN4])
 have HFa:=Lib.hid hfa
 have HAl:=Lib.hid (show (ns.flatMap NodeD.cs).length=N * 8 by rw [flat_len NodeD.cs 8 NodeD.cs_len,hNl])
 have HA1:=Lib.hid (show ∀ u,u ∈ ns.flatMap NodeD.cs→u.oneCell' = true from fun u hu=>by
  obtain ⟨n,_,hn⟩:=List.mem_flatMap.1 hu
  simp only [NodeD.cs,List.mem_cons,List.not_mem_nil,or_false] at hn
  rcases hn with rfl|rfl|rfl|rfl|rfl|rfl|rfl|rfl <;> rfl)
 have HA2:=Lib.hid (show (ns.flatMap NodeD.cs).length≤fa.length by
  rw [HAl.out,← hfa,List.length_flatten,List.map_replicate,List.sum_replicate_nat];show N * 8≤N4 * 8;omega)
 have HAv:=Lib.hid hav.symm
 have HAz:=Lib.hid (show ∀ i,N≤i→i < N4→(ns++List.replicate 4 zN0)[i]? = some zN0 from fun i h1 h2=>by
  rw [List.getElem?_append_right (by omega),List.getElem?_replicate,if_pos (by omega)])
 have HR:=Lib.hid (fun W h1=>rsDocPrint_any p c ns tests W h1 hwf (by omega))
 have HS:=Lib.hid (fun (g:Nat) W h1 h2 h3=>shPrint_any (some ⟨g,0,none⟩) N4 ns tests W h1 hwf (by omega) h2 h3)
 have HSm:=Lib.hid (fun (g:Nat) (W:World) h1 h2=>rSame_any (some ⟨g,0,none⟩) p N4 c ns W h1 h2 (by omega))
 generalize printF ns tests=z at *
 obtain ⟨X,e⟩:=z
 simp only at HR HS
 generalize (⟨X.toArray⟩:ByteArray)=Y at *
 rw [hNl] at HR HS HSm
 have hNb:N≤1048576:=by omega
 have hN4a:N + 4≤N4:=by omega
 have hN4b:N4≤N + 4:=by omega
 have HN5:=Lib.hid (show ((N:Int) + 4)=(N4:Int) by omega)
 rw [hNl]
 clear hN hwf hU hP hav zNc hfa hNl hl hN4
 go_enter Tryz.func6,Tryz.ntmps6
 go_wp2_with (first|(go_at_call 15;(with_reducible refine cB HM (shKnown_any _ (U8.below HU.out HM.out.below) (tab_below HM.out.below HP.out)) ?_);clear HM;intro W1 HM)|((with_reducible refine iat 17 ?_);(refine mkcap (cs:=[.int .i64 0,.int .i64 0,.string ⟨#[]⟩,.bool false,.int .u64 0,.int .u64 0,.int .i64 0,.int .i64 0]) (n:=N4) rfl HM.out rfl rfl rfl HN5.out rfl (by omega) (by omega) ?_;intro gN W2 HM1;rw [HFa.out] at HM1;clear HM;(try clear W1);rename World=>W1;have HM:=Lib.hid HM1;clear HM1))|((with_reducible refine iat 19 ?_);(refine appin rfl HM.out 0 rfl rfl rfl (HM.out.sl HN.out) HAl.out HA1.out (by omega) HA2.out ?_;intro W2 HM1;rw [HA.out] at HM1;clear HM;(try clear W1);rename World=>W1;have HM:=Lib.hid HM1;clear HM1;simp only [List.set] at HM))|(go_at_call 17;(with_reducible refine cB HM (HS.out _ _ (sa_pre (HM.out.holds _ (List.mem_cons_self ..)) HA.out.symm) (U8.below HU.out HM.out.below) (tab_below HM.out.below HP.out)) ?_);clear HM;intro W1 HM)|(go_at_call 16;(with_reducible refine cB HM (HR.out _ (HM.out.sl HN.out)) ?_);clear HM;intro W1 HM)|((with_reducible refine iat 35 ?_);(refine sltx (m:=N4) rfl rfl (by omega) (Nat.le_refl _) ?_)))
 go_loopw [11] (fun iv wr=>∃ i:Nat,iv = .int .i64 i∧N≤i∧i≤N4∧Hid (Mem w wr [.box gN 46 av])) (fun iv _=>N4 - (intOf iv).toNat)
 case atStart=>exact ⟨N,rfl,Nat.le_refl _,by omega,HM⟩
 case round=>
  clear HM
  obtain ⟨i,rfl,hi0,hi,HM⟩:=hrel
  by_cases hlt:i < N4
  ·have E1:=Lib.hid (sa_box NodeD.cs 8 NodeD.cs_len (HM.out.holds _ (List.mem_cons_self ..)) HAv.out (HAz.out i hi0 hlt))
   have hlt3:=Lib.hid (show i + 1≤N4 from hlt)
   have hi3:=Lib.hid (show N≤i + 1 from by omega)
   have d4:decide ((i:Int) < N4)=true:=decide_eq_true (by omega)
   go_wp2_with (first|((with_reducible refine iat 46 ?_);(refine ixa rfl rfl rfl hlt ?_))|((with_reducible refine iat 47 ?_);(refine ldxW (vs:=[.int .i64 0,.int .i64 0,.string ⟨#[]⟩,.bool false,.int .u64 0,.int .u64 0,.int .i64 0,.int .i64 0]) E1.out rfl rfl ?_)))
   go_roundw
   case rel=>exact ⟨i + 1,by go_num,hi3.out,hlt3.out,HM⟩
   case measure=>have:=hlt3.out;simp [intOf];omega
  obtain rfl:i=N4:=by omega
  have d4:decide ((i:Int) < i)=false:=by simp
  have HSl:=Lib.hid (fun (W:World) (h:Mem w W [.box gN 46 av])=>sa_pre (h.get (k:=0) rfl) HA.out.symm)
  go_wp2_with (first|(go_at_call 18;(with_reducible refine cB HM (HSm.out _ _ (HSl.out _ HM.out) (HM.out.sl HN.out)) ?_);clear HM;intro W1 HM))
  go_ret
  exact ⟨rfl,HM.out.below⟩
end Go.Proofs.YtnghlakllgkjlaaGreatDoor
