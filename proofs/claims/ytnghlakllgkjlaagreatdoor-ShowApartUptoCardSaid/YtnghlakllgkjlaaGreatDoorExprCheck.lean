/- expr.Check. -/
import Derived.Test.YtnghlakllgkjlaaGreatDoorPlainA
import Derived.Test.YtnghlakllgkjlaaGreatDoorSepA
namespace Go.Proofs.YtnghlakllgkjlaaGreatDoor
open Go.RowKit
set_option linter.unusedVariables false
set_option linter.unusedSimpArgs false
set_option maxRecDepth 100000
theorem plain_node (n:NodeD) (w:World) (h:n.wf) (hT:U8 w) :
  Calls Tryz.prog 76 #[.agg n.cs.toArray] w fun e w'=>e = .returned (.tuple #[nodeV n.op n.kids (leftT n.op n.text) (leftB n.op n.neg) (leftN n.op n.hi) (leftN n.op n.lo) (leftS n.op n.sc) (leftD n.op n.day),.bool (okB n.op n.text n.neg n.num n.sc n.day)])∧Below w.heap.size w w':=by
 refine (plain_any n.op n.kids n.text n.neg n.hi n.lo n.sc n.day n.num w (NodeD.w2 h) (Nat.le_trans h.text (by decide)) hT).mono ?_
 rintro e w' ⟨rfl,hb⟩
 exact ⟨by rw [clrV_eq],hb⟩
theorem first_bad {ok:Bool} {tx:ByteArray} {ng:Bool} {h1 l1:Nat} {s1 d1 kids:Int} {kb:Bool} {len:Nat} (h:((ok && decide (tx.toList=[]∧ng=false∧h1=0∧l1=0∧s1=0∧d1=0)) && kb && decide (kids≤len))=false) :
  ok=false∨(ok=true∧¬ tx.toList=[])∨(ok=true∧tx.toList=[]∧ng=true)∨(ok=true∧tx.toList=[]∧ng=false∧¬ h1=0)∨(ok=true∧tx.toList=[]∧ng=false∧h1=0∧¬ l1=0)∨(ok=true∧tx.toList=[]∧ng=false∧h1=0∧l1=0∧¬ s1=0)∨
  (ok=true∧tx.toList=[]∧ng=false∧h1=0∧l1=0∧s1=0∧¬ d1=0)∨(ok=true∧tx.toList=[]∧ng=false∧h1=0∧l1=0∧s1=0∧d1=0∧kb=false)∨(ok=true∧tx.toList=[]∧ng=false∧h1=0∧l1=0∧s1=0∧d1=0∧kb=true∧(len:Int) < kids):=by
 cases ok <;> cases ng <;> cases kb <;> by_cases ht:tx.toList=[] <;> simp [ht] at h ⊢ <;> omega
set_option maxHeartbeats 8000000 in
theorem eCheck_any (p:Option Addr) (c:Nat) (ns:List NodeD) (tests:Bool) (w:World) (hN:Sl w p (ns.flatMap NodeD.cs)) (hwf:∀ (i:Nat) (n:NodeD),ns[i]? = some n→n.wf) (hl:ns.length≤4611686018427387904) (hT:U8 w) :
  Calls Tryz.prog 34 #[.slice p ns.length c,.bool tests] w fun e w'=>e = .returned (.int .i64 (checkC ns tests))∧Below w.heap.size w w':=by
 have HM:=Lib.hid (Mem.start w)
 by_cases hlong:300 < ns.length
 ·have HR:=Lib.hid (show checkC ns tests=6 by unfold checkC;rw [if_pos hlong])
  have hlong' : (300:Int) < (ns.length:Int):=by omega
  clear hlong
  go_enter Tryz.func34,Tryz.ntmps34
  go_wp2_with fail
  go_ret
  exact ⟨by rw [HR.out];rfl,HM.out.below⟩
 obtain ⟨r,hr⟩:∃ r,runC ns tests ns 0 [] 0=r:=⟨_,rfl⟩
 have HR:=Lib.hid (show runC ns tests (ns.drop 0) 0 [] 0=r from hr)
 rw [show checkC ns tests=r by unfold checkC;rw [if_neg hlong];exact hr]
 have hshort:ns.length≤300:=by omega
 have HN:=Lib.hid hN
 have HW:=Lib.hid hwf
 have HT:=Lib.hid hT
 have HM1:=Lib.hid (HM.out.row0 119 3)
 clear hlong hr hl hN hwf hT HM
 have HM:=HM1
 clear HM1
 go_enter Tryz.func34,Tryz.ntmps34
 go_wp2_with fail
 go_loopw [20,5,6] (fun iv sv dv wr=>∃ (i:Nat) (q:Option Addr) (cap:Nat) (st:List ThingD) (deep:Int),iv = .int .i64 i∧i≤ns.length∧sv = .slice q st.length cap∧dv = .int .i64 deep∧0≤deep∧deep≤i∧StackOk i st∧Hid (runC ns tests (ns.drop i) i st deep=r)∧Hid (Mem w wr [.row q cap 119 3 st.length (st.flatMap ThingD.cs)])) (fun iv _ _ _=>ns.length - (intOf iv).toNat)
 case atStart=>exact ⟨0,none,0,[],0,rfl,by omega,rfl,rfl,by omega,by omega,⟨by simp,fun j t h=>by simp at h⟩,HR,HM⟩
 case round=>
  clear HM
  obtain ⟨i,q,cap,st,deep,rfl,hi,rfl,rfl,hd0,hd1,hS,HI,HM⟩:=hrel
  have HS:=Lib.hid hS
  have hsl:=hS.len
  clear hS
  by_cases hlt:i < ns.length
  ·obtain ⟨b,rfl,hb⟩:=HN.out.some_at NodeD.cs_len (by decide) hlt
   obtain ⟨n,hn⟩:∃ n,ns[i]? = some n:=⟨_,List.getElem?_eq_getElem hlt⟩
   have HWn:=Lib.hid (HW.out i n hn)
   have E1:=Lib.hid (hb.elem NodeD.cs 8 NodeD.cs_len hn)
   have HI2:=Lib.hid (show ((stepC ns st i n).elim 2 fun x=>runC ns tests (ns.drop (i + 1)) (i + 1) x.1 (max deep x.2))=r by
    rw [← runC_cons,← HI.out]
    congr 1
    rw [List.drop_eq_getElem_cons hlt]
    rw [(List.getElem?_eq_some_iff.1 hn).2])
   have HP:=Lib.hid (fun W hT=>plain_node n W HWn.out hT)
   have HK:=Lib.hid (fun W=>(show Calls Tryz.prog 77 #[.agg n.cs.toArray] W fun e w'=>e = .returned (.bool (kidsB n.op n.kids))∧Below W.heap.size W w' from fits_node n W))
   have HF:=fieldsB_eq n
   generalize okB n.op n.text n.neg n.num n.sc n.day=ok at HF HP
   generalize leftT n.op n.text=tx at HF HP
   generalize leftB n.op n.neg=ng at HF HP
   generalize leftN n.op n.hi=h1 at HF HP
   generalize leftN n.op n.lo=l1 at HF HP
   generalize leftS n.op n.sc=s1 at HF HP
   generalize leftD n.op n.day=d1' at HF HP
   obtain ⟨kb,hkb⟩:∃ kb,kidsB n.op n.kids=kb:=⟨_,rfl⟩
   rw [hkb] at HK
   unfold nodeV at HP
   have HFh:=Lib.hid HF
   have HKh:=Lib.hid hkb
   clear hb HI HF hkb
   have d1:decide ((i:Int) < ns.length)=true:=decide_eq_true (by omega)
   go_upto_region 9 with (first|((with_reducible refine iload ?_);first|refine ldb1 HM.out 0 rfl rfl rfl ?_|refine ldb1 HM.out 1 rfl rfl rfl ?_|refine ldb1 HM.out 2 rfl rfl rfl ?_|refine ldbW HM.out 0 rfl rfl rfl ?_|refine ldbW HM.out 1 rfl rfl rfl ?_|refine ldbW HM.out 2 rfl rfl rfl ?_|((first|refine ldbS HM.out 0 rfl rfl rfl ?_|refine ldbS HM.out 1 rfl rfl rfl ?_|refine ldbS HM.out 2 rfl rfl rfl ?_);simp only [List.take,List.drop]))|((with_reducible refine istore ?_);(first|((first|refine stbW rfl HM.out 0 rfl rfl rfl rfl rfl rfl ?_|refine stbW rfl HM.out 1 rfl rfl rfl rfl rfl rfl ?_|refine stbW rfl HM.out 2 rfl rfl rfl rfl rfl rfl ?_);intro W1 HM1;replace HM:=Lib.hid HM1;clear HM1;simp only [List.set] at HM)|((first|refine stbS rfl HM.out 0 rfl rfl rfl rfl rfl rfl ?_|refine stbS rfl HM.out 1 rfl rfl rfl rfl rfl rfl ?_|refine stbS rfl HM.out 2 rfl rfl rfl rfl rfl rfl ?_);intro W1 HM1;replace HM:=Lib.hid HM1;clear HM1;simp only [lss,Nat.reduceAdd] at HM)))|((with_reducible refine ibuildSlice ?_);refine bs1A rfl HM.out rfl rfl rfl ?_;intro g1 W1 HM1;replace HM:=Lib.hid HM1;clear HM1)|((with_reducible refine ialloc (d:=some 8) ?_);refine alb rfl HM.out ?_;intro g8 W1 HM1;replace HM:=Lib.hid HM1;clear HM1)|((with_reducible refine ialloc (d:=some 9) ?_);refine alb rfl HM.out ?_;intro g9 W1 HM1;replace HM:=Lib.hid HM1;clear HM1)|((with_reducible refine ialloc ?_);refine alb rfl HM.out ?_;intro g1 W1 HM1;replace HM:=Lib.hid HM1;clear HM1)|(refine ixa rfl rfl rfl hlt ?_)|(refine ldxW (HM.out.olds E1.out) rfl rfl ?_)|(go_at_call 76;(with_reducible refine cB HM (HP.out _ (U8.below HT.out HM.out.below)) ?_);clear HM;intro W1 HM))
   cases hgood:fieldsB n && kidsB n.op n.kids && decide (n.kids≤st.length)
   ·have HB:=Lib.hid (show r=2 by rw [← HI2.out];unfold stepC;rw [if_neg (by rw [hgood];simp)];rfl)
    rw [HFh.out,HKh.out] at hgood
    clear HFh HKh HI2 HP
    rcases first_bad hgood with rfl | ⟨rfl,hx⟩ | ⟨rfl,hx,rfl⟩ | ⟨rfl,hx,rfl,hy⟩ | ⟨rfl,hx,rfl,rfl,hy⟩ | ⟨rfl,hx,rfl,rfl,rfl,hy⟩ | ⟨rfl,hx,rfl,rfl,rfl,rfl,hy⟩ | ⟨rfl,hx,rfl,rfl,rfl,rfl,rfl,rfl⟩ | ⟨rfl,hx,rfl,rfl,rfl,rfl,rfl,rfl,hy⟩
    all_goals
     clear hgood
     go_wp2_with (first|((with_reducible refine skip_op ?_ ?_);exact rfl)|refine mP ?_|(refine mS ?_;clear HM;intro W1 HM)|(refine hbs1A HM rfl rfl rfl rfl ?_;clear HM;intro g1 W1 HM)|(refine hal (dst:=some 8) HM rfl ?_;clear HM;intro g8 W1 HM)|(refine hal (dst:=some 9) HM rfl ?_;clear HM;intro g9 W1 HM)|(refine hal HM rfl ?_;clear HM;intro g1 W1 HM)|(go_at_call 77;(with_reducible refine cB HM (HK.out _) ?_);clear HM;intro W1 HM))
    all_goals go_ret
    all_goals exact ⟨by rw [HB.out];rfl,HM.out.below⟩
   ·simp only [Bool.and_eq_true,decide_eq_true_eq] at hgood
    obtain ⟨⟨hf,hk⟩,hkl⟩:=hgood
    have HS2:=Lib.hid (show stepC ns st i n=(partsF n.op 0 0 (st.drop (st.length - n.kids.toNat))).elim none fun d=>if n.op=27∧unlikeB (textsOf ns (st.drop (st.length - n.kids.toNat)))=false then none else some (st.take (st.length - n.kids.toNat)++[⟨sortI n.op,d + 1,i⟩],d + 1) by
     unfold stepC
     rw [if_pos (by rw [hf,hk];simp;exact hkl)]
     cases partsF n.op 0 0 (st.drop (st.length - n.kids.toNat)) <;> rfl)
    have hop:=kidsB_op hk
    have hk0:0≤n.kids:=kidsB_nonneg hk
    rw [HFh.out] at hf
    rw [HKh.out] at hk
    subst hk
    simp only [Bool.and_eq_true,decide_eq_true_eq] at hf
    obtain ⟨rfl,hx,rfl,rfl,rfl,rfl,rfl⟩:=hf
    clear HFh HKh HP
    obtain ⟨m,hm⟩:∃ m:Nat,n.kids=m:=⟨n.kids.toNat,by omega⟩
    have hml:m≤st.length:=by omega
    rw [hm] at HM
    go_upto_region 13 with (first|((with_reducible refine iload ?_);first|refine ldb1 HM.out 0 rfl rfl rfl ?_|refine ldb1 HM.out 1 rfl rfl rfl ?_|refine ldb1 HM.out 2 rfl rfl rfl ?_|refine ldbW HM.out 0 rfl rfl rfl ?_|refine ldbW HM.out 1 rfl rfl rfl ?_|refine ldbW HM.out 2 rfl rfl rfl ?_|((first|refine ldbS HM.out 0 rfl rfl rfl ?_|refine ldbS HM.out 1 rfl rfl rfl ?_|refine ldbS HM.out 2 rfl rfl rfl ?_);simp only [List.take,List.drop]))|((with_reducible refine istore ?_);(first|((first|refine stbW rfl HM.out 0 rfl rfl rfl rfl rfl rfl ?_|refine stbW rfl HM.out 1 rfl rfl rfl rfl rfl rfl ?_|refine stbW rfl HM.out 2 rfl rfl rfl rfl rfl rfl ?_);intro W1 HM1;replace HM:=Lib.hid HM1;clear HM1;simp only [List.set] at HM)|((first|refine stbS rfl HM.out 0 rfl rfl rfl rfl rfl rfl ?_|refine stbS rfl HM.out 1 rfl rfl rfl rfl rfl rfl ?_|refine stbS rfl HM.out 2 rfl rfl rfl rfl rfl rfl ?_);intro W1 HM1;replace HM:=Lib.hid HM1;clear HM1;simp only [lss,Nat.reduceAdd] at HM)))|((with_reducible refine ibuildSlice ?_);refine bs1A rfl HM.out rfl rfl rfl ?_;intro g1 W1 HM1;replace HM:=Lib.hid HM1;clear HM1)|((with_reducible refine ialloc (d:=some 8) ?_);refine alb rfl HM.out ?_;intro g8 W1 HM1;replace HM:=Lib.hid HM1;clear HM1)|((with_reducible refine ialloc (d:=some 9) ?_);refine alb rfl HM.out ?_;intro g9 W1 HM1;replace HM:=Lib.hid HM1;clear HM1)|((with_reducible refine ialloc ?_);refine alb rfl HM.out ?_;intro g1 W1 HM1;replace HM:=Lib.hid HM1;clear HM1)|(go_at_call 77;(with_reducible refine cB HM (HK.out _) ?_);clear HM;intro W1 HM)|(refine slf rfl rfl (m:=st.length - m) (l:=m) (by omega) (by omega) (row_cap (HM.out.get (k:=2) rfl)).1 (by omega) ?_;intro q2 hq2;have HQ2:=Lib.hid hq2;clear hq2))
    have hcap:=Lib.hid (row_cap (HM.out.get (k:=2) rfl)).1
    have hpl:(st.drop (st.length - m)).length=m:=by simp;omega
    obtain ⟨R,hR2⟩:∃ R,partsF n.op 0 0 (st.drop (st.length - m))=R:=⟨_,rfl⟩
    have HRR:=Lib.hid hR2
    have hpb:∀ t,t ∈ st.drop (st.length - m)→0≤t.depth∧t.depth≤i:=fun t ht=>by
     obtain ⟨j,hj⟩:=List.mem_iff_getElem?.1 (List.mem_of_mem_drop ht)
     exact (HS.out.at_ j t hj).2
    have HPB:=Lib.hid hpb
    have HPL:=Lib.hid hpl
    clear hR2 hpb hpl
    have hcm:st.length - m + m=st.length:=by omega
    have HS3:=HS2.out
    rw [show n.kids.toNat=m by omega] at HS3
    have HS4:=Lib.hid HS3
    clear HS2 HS3
    generalize st.length - m=cut at *
    go_wp2_with fail
    go_loopw [69,12] (fun kv dv wr=>∃ (k:Nat) (d:Int),kv = .int .i64 k∧k≤m∧dv = .int .i64 d∧0≤d∧d≤i∧Hid (partsF n.op k d ((st.drop cut).drop k)=R)∧Hid (Mem w wr [.box g9 46 [.int .i64 n.op,.int .i64 m,.string tx,.bool false,.int .u64 0,.int .u64 0,.int .i64 0,.int .i64 0],.box g8 46 n.cs,.row q cap 119 3 st.length (st.flatMap ThingD.cs)])) (fun kv _ _=>m - (intOf kv).toNat)
    case atStart=>exact ⟨0,0,rfl,by omega,rfl,by omega,by omega,HRR,HM⟩
    case round=>
     clear HM
     obtain ⟨k,d,rfl,hkm,rfl,hd0',hd1',HPk,HM⟩:=hrel
     by_cases hkl2:k < m
     ·obtain ⟨t,ht⟩:∃ t,(st.drop cut)[k]? = some t:=⟨_,List.getElem?_eq_getElem (by rw [HPL.out];exact hkl2)⟩
      obtain ⟨htd0,htd1⟩:=HPB.out t (List.mem_of_getElem? ht)
      obtain ⟨g,hq,hq2⟩:=from_some (HM.out.get (k:=2) rfl) (m:=cut) (by omega)
      rw [HQ2.out] at hq2
      subst hq hq2
      have HTk:=Lib.hid ht
      have HP2:=Lib.hid (show (if t.sort=wantI n.op k then partsF n.op (k + 1) (max d t.depth) ((st.drop cut).drop (k + 1)) else none)=R by
       rw [← partsF_cons,← HPk.out,drop_atC ht])
      obtain ⟨wv,hwv⟩:∃ wv,wantI n.op k=wv:=⟨_,rfl⟩
      have HWt:=Lib.hid (fun W=>hwv▸below_of_same (wanted_any n.op k W hop.1 hop.2))
      rw [hwv] at HP2
      have d2:decide ((k:Int) < m)=true:=decide_eq_true (by omega)
      clear ht hwv HPk
      by_cases hs:t.sort=wv
      ·have b1:(t.sort != wv)=false:=by rw [hs];simp
       have HP3:=Lib.hid (show partsF n.op (k + 1) (max d t.depth) ((st.drop cut).drop (k + 1))=R by rw [← HP2.out,if_pos hs])
       clear hs HP2
       go_wp2_with (first|((with_reducible refine skip_op ?_ ?_);exact rfl)|refine mP ?_|(refine mS ?_;clear HM;intro W1 HM)|(refine hbs1A HM rfl rfl rfl rfl ?_;clear HM;intro g1 W1 HM)|(refine hal (dst:=some 14) HM rfl ?_;clear HM;intro g14 W1 HM)|(refine hal HM rfl ?_;clear HM;intro g1 W1 HM)|(refine ixa rfl rfl rfl hkl2 ?_)|(refine ldxW ((row_view ThingD.cs 3 ThingD.cs_len (HM.out.get (k:=2) rfl) cut).elem ThingD.cs 3 ThingD.cs_len HTk.out) rfl rfl ?_))
       refine wp_region_mem (by kernel_rfl) (by kernel_rfl) HM.out ?_;intro hNE;(repeat (any_goals (first|refine mQ ?_|((with_reducible show wpQuiet _ _ _ _ (Oper.mk _ (Op.call { callee:=Callee.value (Operand.func 78),args:=_,argTypes:=_}) _ _ _ _ :: _) _);(refine qcall HM.out (fun W hC=>HWt.out W) Tryz.func78 rfl rfl rfl ?_))|go_big_quiet_step (fail)|quiet_step (fail))));clear hNE;refine wpQuiet_nil ?_;intro W1 HM1;replace HM:=Lib.hid HM1;clear HM1
       go_wp2_with (first|((with_reducible refine skip_op ?_ ?_);exact rfl)|refine mP ?_|(refine mS ?_;clear HM;intro W1 HM)|(refine hbs1A HM rfl rfl rfl rfl ?_;clear HM;intro g1 W1 HM)|(refine hal HM rfl ?_;clear HM;intro g1 W1 HM))
       go_roundw
       case rel=>exact ⟨k + 1,max d t.depth,by go_num,by omega,rfl,by omega,by omega,HP3,Lib.hid (HM.out.sub (List.sublist_cons_self _ _))⟩
       case measure=>simp [intOf];omega
      ·have b1:(t.sort != wv)=true:=by simpa using hs
       have HB:=Lib.hid (show r=2 by rw [← HI2.out,HS4.out,HRR.out,← HP2.out,if_neg hs];rfl)
       clear hs HP2
       go_wp2_with (first|((with_reducible refine skip_op ?_ ?_);exact rfl)|refine mP ?_|(refine mS ?_;clear HM;intro W1 HM)|(refine hbs1A HM rfl rfl rfl rfl ?_;clear HM;intro g1 W1 HM)|(refine hal (dst:=some 14) HM rfl ?_;clear HM;intro g14 W1 HM)|(refine hal HM rfl ?_;clear HM;intro g1 W1 HM)|(refine ixa rfl rfl rfl hkl2 ?_)|(refine ldxW ((row_view ThingD.cs 3 ThingD.cs_len (HM.out.get (k:=2) rfl) cut).elem ThingD.cs 3 ThingD.cs_len HTk.out) rfl rfl ?_))
       refine wp_region_mem (by kernel_rfl) (by kernel_rfl) HM.out ?_;intro hNE;(repeat (any_goals (first|refine mQ ?_|((with_reducible show wpQuiet _ _ _ _ (Oper.mk _ (Op.call { callee:=Callee.value (Operand.func 78),args:=_,argTypes:=_}) _ _ _ _ :: _) _);(refine qcall HM.out (fun W hC=>HWt.out W) Tryz.func78 rfl rfl rfl ?_))|go_big_quiet_step (fail)|quiet_step (fail))));clear hNE;refine wpQuiet_nil ?_;intro W1 HM1;replace HM:=Lib.hid HM1;clear HM1
       go_wp2_with (first|((with_reducible refine skip_op ?_ ?_);exact rfl)|refine mP ?_|(refine mS ?_;clear HM;intro W1 HM)|(refine hbs1A HM rfl rfl rfl rfl ?_;clear HM;intro g1 W1 HM)|(refine hal HM rfl ?_;clear HM;intro g1 W1 HM))
       go_ret
       exact ⟨by rw [HB.out];rfl,HM.out.below⟩
     ·obtain rfl:m=k:=by omega
      have HRd:=Lib.hid (show R=some d by rw [← HPk.out,List.drop_of_length_le (by rw [HPL.out];exact Nat.le_refl _)];rfl)
      have d2:decide ((m:Int) < m)=false:=by simp
      have HS5:=Lib.hid (show stepC ns st i n=if n.op=27∧unlikeB (textsOf ns (st.drop cut))=false then none else some (st.take cut++[⟨sortI n.op,d + 1,i⟩],d + 1) by rw [HS4.out,HRR.out,HRd.out];rfl)
      have HSL:=Lib.hid (fun W B (h:(Res.row q cap 119 3 st.length (st.flatMap ThingD.cs)).holds B W)=>HQ2.out▸sl_from ThingD.cs 3 ThingD.cs_len h (m:=cut) (by omega))
      have HU:=Lib.hid (fun W (h1:Sl W (some b) (ns.flatMap NodeD.cs)) (h2:Sl W q2 ((st.drop cut).flatMap ThingD.cs))=>show Calls Tryz.prog 79 #[.slice (some b) ns.length c,.slice q2 m (cap - cut)] W (fun e w'=>e = .returned (.bool (unlikeB (textsOf ns (st.drop cut))))∧Below W.heap.size W w') by
       have h:=unlike_any (some b) c ns q2 (cap - cut) (st.drop cut) W h1 h2 (by rw [HPL.out];have:=hcap.out;omega) (fun j t hj=>by
        rw [List.getElem?_drop] at hj
        have:=(HS.out.at_ _ t hj).1
        omega) (by omega) (by rw [HPL.out];omega)
       rw [HPL.out] at h
       exact h)
      have hS':=HS.out.push cut (by omega) (s:=sortI n.op) (d:=d + 1) (by omega) (by omega)
      have hfl:=Lib.hid (show (st.flatMap ThingD.cs).take (cut * 3)++[.int .i64 (sortI n.op),.int .i64 (d + 1),.int .i64 i]=(st.take cut++[(⟨sortI n.op,d + 1,i⟩:ThingD)]).flatMap ThingD.cs by
       rw [flat_take ThingD.cs 3 ThingD.cs_len,List.flatMap_append]
       rfl)
      have hll:=Lib.hid (show (st.take cut++[(⟨sortI n.op,d + 1,i⟩:ThingD)]).length=cut + 1 by rw [List.length_append,List.length_take];simp;omega)
      have HSS:=Lib.hid hS'
      have hcap2:=hcap.out
      have hmx:=(row_cap (HM.out.get (k:=2) rfl)).2.1
      unfold maxLen at hmx
      clear HPk HS4 hS'
      by_cases h27:n.op=27
      ·have b27:(n.op == 27)=true:=beq_iff_eq.2 h27
       cases hu:unlikeB (textsOf ns (st.drop cut))
       ·have HB:=Lib.hid (show r=2 by rw [← HI2.out,HS5.out,if_pos ⟨h27,hu⟩];rfl)
        rw [hu] at HU
        clear h27 hu
        go_wp2_with (first|((with_reducible refine skip_op ?_ ?_);exact rfl)|refine mP ?_|(refine mS ?_;clear HM;intro W1 HM)|(refine hbs1A HM rfl rfl rfl rfl ?_;clear HM;intro g1 W1 HM)|(refine hal HM rfl ?_;clear HM;intro g1 W1 HM)|(go_at_call 79;(with_reducible refine (HU.out _ (HM.out.sl HN.out) (HSL.out _ _ (HM.out.get (k:=2) rfl))).mono ?_);rintro e W1 ⟨rfl,hb⟩;replace HM:=Lib.hid (HM.out.next hb);clear hb))
        go_ret
        exact ⟨by rw [HB.out];rfl,HM.out.below⟩
       ·have HB:=Lib.hid (show runC ns tests (ns.drop (i + 1)) (i + 1) (st.take cut++[⟨sortI n.op,d + 1,i⟩]) (max deep (d + 1))=r by rw [← HI2.out,HS5.out,if_neg (fun h=>by rw [hu] at h;cases h.2)];rfl)
        rw [hu] at HU
        clear h27 hu
        go_wp2_with (first|((with_reducible refine skip_op ?_ ?_);exact rfl)|refine mP ?_|(refine mS ?_;clear HM;intro W1 HM)|(refine hbs1A HM rfl rfl rfl rfl ?_;clear HM;intro g1 W1 HM)|(refine hal HM rfl ?_;clear HM;intro g1 W1 HM)|(go_at_call 79;(with_reducible refine (HU.out _ (HM.out.sl HN.out) (HSL.out _ _ (HM.out.get (k:=2) rfl))).mono ?_);rintro e W1 ⟨rfl,hb⟩;replace HM:=Lib.hid (HM.out.next hb);clear hb))
        refine wp_region_steps [(true,0),(true,1),(true,2),(true,3),(true,4),(true,5),(true,6),(true,7),(true,8),(true,10),(true,11),(true,12),(false,9),(true,13),(false,14),(false,15),(false,16)] (by kernel_rfl) (by kernel_rfl) rfl (by kernel_rfl) (fun _ _ _ _ _ h=>h) HM.out _ (.cons_cons _ (.cons_cons _ (.cons _ .slnil))) ?_;intro hNE W1 HM1;replace HM:=Lib.hid HM1;clear HM1;have HS0:=Lib.hid (HM.out.sub (.cons_cons _ (.cons_cons _ (.cons _ .slnil))));simp only [wpSteps,List.getElem?_cons_succ,List.getElem?_cons_zero];(repeat (first|(refine wpQuiet_nil ?_;(try dsimp only))|refine mQ ?_|(refine qslt rfl rfl (m:=cut) (by omega) (by omega) ?_)|go_big_quiet_step (fail)|quiet_step (fail)))
        go_wp2_with (first|((with_reducible refine skip_op ?_ ?_);exact rfl)|(go_at_call 80;(with_reducible refine (sortOf_any n.op _ hop.1 hop.2).mono ?_);rintro e W2 ⟨rfl,rfl⟩))
        refine ⟨⟨⟨_,HM.out.sub (.cons_cons _ (.cons_cons _ (.cons _ .slnil)))⟩,rfl⟩,?_⟩;(try dsimp only);(try (clear HS0;have HS0:=Lib.hid (HM.out.sub (.cons_cons _ (.cons_cons _ (.cons _ .slnil))))));(repeat (first|(refine wpQuiet_nil ?_;(try dsimp only))|refine mQ ?_|go_big_quiet_step (fail)|quiet_step (fail)))
        go_wp2_with (first|((with_reducible refine skip_op ?_ ?_);exact rfl)|refine mP ?_|(refine mS ?_;clear HM;intro W1 HM)|(refine hbs1A HM rfl rfl rfl rfl ?_;clear HM;intro g1 W1 HM)|(refine hal HM rfl ?_;clear HM;intro g1 W1 HM))
        refine ⟨⟨⟨_,HM.out.sub (.cons _ (.cons_cons _ (.cons_cons _ (.cons _ .slnil))))⟩,rfl⟩,?_⟩;(try dsimp only);(try (clear HS0;have HS0:=Lib.hid (HM.out.sub (.cons _ (.cons_cons _ (.cons_cons _ (.cons _ .slnil)))))));(repeat (first|(refine wpQuiet_nil ?_;(try dsimp only))|refine mQ ?_|go_big_quiet_step (fail)|quiet_step (fail)))
        go_wp2_with (first|((with_reducible refine skip_op ?_ ?_);exact rfl)|refine mP ?_|(refine mS ?_;clear HM;intro W1 HM)|(refine hbs1A HM rfl rfl rfl rfl ?_;clear HM;intro g1 W1 HM)|(refine hal HM rfl ?_;clear HM;intro g1 W1 HM)|(refine apb rfl HM.out 3 0 rfl rfl rfl rfl rfl rfl (by omega) (by omega) (by omega) ?_;intro p1 cap1 W1 HM1;replace HM:=Lib.hid HM1;clear HM1;simp only [List.set] at HM))
        refine ⟨⟨⟨_,HM.out.sub (.cons _ (.cons_cons _ (.cons_cons _ (.cons _ .slnil))))⟩,rfl⟩,?_⟩;(try dsimp only);(try (clear HS0;have HS0:=Lib.hid (HM.out.sub (.cons _ (.cons_cons _ (.cons_cons _ (.cons _ .slnil)))))));(repeat (first|(refine wpQuiet_nil ?_;(try dsimp only))|refine mQ ?_|go_big_quiet_step (fail)|quiet_step (fail)))
        go_wp2_with (first|((with_reducible refine skip_op ?_ ?_);exact rfl)|refine mP ?_|(refine mS ?_;clear HM;intro W1 HM)|(refine hbs1A HM rfl rfl rfl rfl ?_;clear HM;intro g1 W1 HM)|(refine hal HM rfl ?_;clear HM;intro g1 W1 HM))
        refine ⟨⟨⟨_,HM.out.sub (.cons _ (.cons_cons _ (.cons_cons _ (.cons _ .slnil))))⟩,rfl⟩,?_⟩;(try dsimp only);(try (clear HS0;have HS0:=Lib.hid (HM.out.sub (.cons _ (.cons_cons _ (.cons_cons _ (.cons _ .slnil)))))));(repeat (first|(refine wpQuiet_nil ?_;(try dsimp only))|refine mQ ?_|go_big_quiet_step (fail)|quiet_step (fail)))
        clear HS0 hNE
        go_wp2_with (first|((with_reducible refine skip_op ?_ ?_);exact rfl)|refine mP ?_|(refine mS ?_;clear HM;intro W1 HM)|(refine hbs1A HM rfl rfl rfl rfl ?_;clear HM;intro g1 W1 HM)|(refine hal HM rfl ?_;clear HM;intro g1 W1 HM))
        rw [hfl.out] at HM
        go_roundw
        case rel=>exact ⟨i + 1,p1,cap1,_,max deep (d + 1),by go_num,by omega,by rw [hll.out],rfl,by omega,by omega,HSS.out,HB,Lib.hid (by rw [hll.out];exact HM.out.sub (.cons _ (.cons _ (.cons _ (.refl _)))))⟩
        case measure=>simp [intOf];omega
      ·have b27:(n.op == 27)=false:=beq_false_of_ne h27
       have HB:=Lib.hid (show runC ns tests (ns.drop (i + 1)) (i + 1) (st.take cut++[⟨sortI n.op,d + 1,i⟩]) (max deep (d + 1))=r by rw [← HI2.out,HS5.out,if_neg (fun h=>h27 h.1)];rfl)
       clear h27
       go_wp2_with (first|((with_reducible refine skip_op ?_ ?_);exact rfl)|refine mP ?_|(refine mS ?_;clear HM;intro W1 HM)|(refine hbs1A HM rfl rfl rfl rfl ?_;clear HM;intro g1 W1 HM)|(refine hal HM rfl ?_;clear HM;intro g1 W1 HM))
       refine wp_region_steps [(true,0),(true,1),(true,2),(true,3),(true,4),(true,5),(true,6),(true,7),(true,8),(true,10),(true,11),(true,12),(false,9),(true,13),(false,14),(false,15),(false,16)] (by kernel_rfl) (by kernel_rfl) rfl (by kernel_rfl) (fun _ _ _ _ _ h=>h) HM.out _ (.cons_cons _ (.cons_cons _ (.cons _ .slnil))) ?_;intro hNE W1 HM1;replace HM:=Lib.hid HM1;clear HM1;have HS0:=Lib.hid (HM.out.sub (.cons_cons _ (.cons_cons _ (.cons _ .slnil))));simp only [wpSteps,List.getElem?_cons_succ,List.getElem?_cons_zero];(repeat (first|(refine wpQuiet_nil ?_;(try dsimp only))|refine mQ ?_|(refine qslt rfl rfl (m:=cut) (by omega) (by omega) ?_)|go_big_quiet_step (fail)|quiet_step (fail)))
       go_wp2_with (first|((with_reducible refine skip_op ?_ ?_);exact rfl)|(go_at_call 80;(with_reducible refine (sortOf_any n.op _ hop.1 hop.2).mono ?_);rintro e W2 ⟨rfl,rfl⟩))
       refine ⟨⟨⟨_,HM.out.sub (.cons_cons _ (.cons_cons _ (.cons _ .slnil)))⟩,rfl⟩,?_⟩;(try dsimp only);(try (clear HS0;have HS0:=Lib.hid (HM.out.sub (.cons_cons _ (.cons_cons _ (.cons _ .slnil))))));(repeat (first|(refine wpQuiet_nil ?_;(try dsimp only))|refine mQ ?_|go_big_quiet_step (fail)|quiet_step (fail)))
       go_wp2_with (first|((with_reducible refine skip_op ?_ ?_);exact rfl)|refine mP ?_|(refine mS ?_;clear HM;intro W1 HM)|(refine hbs1A HM rfl rfl rfl rfl ?_;clear HM;intro g1 W1 HM)|(refine hal HM rfl ?_;clear HM;intro g1 W1 HM))
       refine ⟨⟨⟨_,HM.out.sub (.cons _ (.cons_cons _ (.cons_cons _ (.cons _ .slnil))))⟩,rfl⟩,?_⟩;(try dsimp only);(try (clear HS0;have HS0:=Lib.hid (HM.out.sub (.cons _ (.cons_cons _ (.cons_cons _ (.cons _ .slnil)))))));(repeat (first|(refine wpQuiet_nil ?_;(try dsimp only))|refine mQ ?_|go_big_quiet_step (fail)|quiet_step (fail)))
       go_wp2_with (first|((with_reducible refine skip_op ?_ ?_);exact rfl)|refine mP ?_|(refine mS ?_;clear HM;intro W1 HM)|(refine hbs1A HM rfl rfl rfl rfl ?_;clear HM;intro g1 W1 HM)|(refine hal HM rfl ?_;clear HM;intro g1 W1 HM)|(refine apb rfl HM.out 3 0 rfl rfl rfl rfl rfl rfl (by omega) (by omega) (by omega) ?_;intro p1 cap1 W1 HM1;replace HM:=Lib.hid HM1;clear HM1;simp only [List.set] at HM))
       refine ⟨⟨⟨_,HM.out.sub (.cons _ (.cons_cons _ (.cons_cons _ (.cons _ .slnil))))⟩,rfl⟩,?_⟩;(try dsimp only);(try (clear HS0;have HS0:=Lib.hid (HM.out.sub (.cons _ (.cons_cons _ (.cons_cons _ (.cons _ .slnil)))))));(repeat (first|(refine wpQuiet_nil ?_;(try dsimp only))|refine mQ ?_|go_big_quiet_step (fail)|quiet_step (fail)))
       go_wp2_with (first|((with_reducible refine skip_op ?_ ?_);exact rfl)|refine mP ?_|(refine mS ?_;clear HM;intro W1 HM)|(refine hbs1A HM rfl rfl rfl rfl ?_;clear HM;intro g1 W1 HM)|(refine hal HM rfl ?_;clear HM;intro g1 W1 HM))
       refine ⟨⟨⟨_,HM.out.sub (.cons _ (.cons_cons _ (.cons_cons _ (.cons _ .slnil))))⟩,rfl⟩,?_⟩;(try dsimp only);(try (clear HS0;have HS0:=Lib.hid (HM.out.sub (.cons _ (.cons_cons _ (.cons_cons _ (.cons _ .slnil)))))));(repeat (first|(refine wpQuiet_nil ?_;(try dsimp only))|refine mQ ?_|go_big_quiet_step (fail)|quiet_step (fail)))
       clear HS0 hNE
       go_wp2_with (first|((with_reducible refine skip_op ?_ ?_);exact rfl)|refine mP ?_|(refine mS ?_;clear HM;intro W1 HM)|(refine hbs1A HM rfl rfl rfl rfl ?_;clear HM;intro g1 W1 HM)|(refine hal HM rfl ?_;clear HM;intro g1 W1 HM))
       rw [hfl.out] at HM
       go_roundw
       case rel=>exact ⟨i + 1,p1,cap1,_,max deep (d + 1),by go_num,by omega,by rw [hll.out],rfl,by omega,by omega,HSS.out,HB,Lib.hid (by rw [hll.out];exact HM.out.sub (.cons _ (.cons _ (.cons _ (.refl _)))))⟩
       case measure=>simp [intOf];omega
  ·obtain rfl:i=ns.length:=by omega
   have d1:decide ((ns.length:Int) < ns.length)=false:=by simp
   have HE:=Lib.hid (show endC tests st deep=r by rw [← HI.out,List.drop_of_length_le (Nat.le_refl _)];rfl)
   clear HI
   by_cases hone:st.length=1
   ·obtain ⟨t,rfl⟩:∃ t,st=[t]:=by
     cases st with
     | nil=>simp at hone
     | cons t l=>
      cases l with
      | nil=>exact ⟨t,rfl⟩
      | cons u l=>simp at hone
    obtain ⟨g,rfl⟩:=row_some (HM.out.get (k:=0) rfl) (by simp)
    unfold endC at HE
    obtain ⟨sv,hsv⟩:∃ sv,t.sort=sv:=⟨_,rfl⟩
    have HM1:Hid (Mem w wr [.row (some ⟨g,0,none⟩) cap 119 3 1 [.int .i64 sv,.int .i64 t.depth,.int .i64 t.at_]]):=by rw [← hsv];exact HM
    have HE1:Hid ((if (if tests then sv=4∨sv=5 else sv=1) then (if 40 < deep then 7 else 0) else 2)=r):=by rw [← hsv];exact HE
    clear HM HE hsv HS hsl
    rw [show ([t]:List ThingD).length=1 from rfl]
    have HM:=HM1
    clear HM1 hone
    cases tests
    all_goals
     go_wp2_with (first|((with_reducible refine skip_op ?_ ?_);exact rfl)|(refine ixa rfl rfl (i:=0) rfl (by decide) ?_)|(refine ldr1 HM.out 0 rfl rfl rfl ?_))
    all_goals go_ret
    all_goals refine ⟨ret_i64 ?_,HM.out.below⟩
    all_goals rw [← HE1.out]
    all_goals first|(have hx:(sv != 1)=true:=(by assumption);have hy:sv≠1:=(by simpa using hx);simp [hy];done)|(have hx:(sv != 1)=false:=(by assumption);have hy:sv=1:=(by simpa using hx);simp [hy];omega)|(simp;omega)
   ·have HB:=Lib.hid (show r=2 by
     rw [← HE.out]
     unfold endC
     match st,hone with
     | [],_=>rfl
     | [t],h=>exact absurd rfl h
     | t :: u :: l,_=>rfl)
    have b1:((st.length:Int) != 1)=true:=by simp;omega
    clear hone HE
    go_wp2_with fail
    go_ret
    exact ⟨by rw [HB.out];rfl,HM.out.below⟩
end Go.Proofs.YtnghlakllgkjlaaGreatDoor
