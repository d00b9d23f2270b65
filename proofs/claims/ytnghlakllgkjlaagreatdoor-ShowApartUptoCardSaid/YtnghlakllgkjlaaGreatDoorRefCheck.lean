/- The reference's Check. -/
import Derived.Test.YtnghlakllgkjlaaGreatDoorSepA
import Derived.Test.YtnghlakllgkjlaaGreatDoorSepMac2
import Derived.Test.YtnghlakllgkjlaaGreatDoorStackA
import Derived.Test.YtnghlakllgkjlaaGreatDoorFields
namespace Go.Proofs.YtnghlakllgkjlaaGreatDoor
open Go.RowKit
set_option linter.unusedVariables false
set_option linter.unusedSimpArgs false
set_option maxRecDepth 100000
theorem Res.holds.mono {B B' : Nat} {W:World} {r:Res} (h:r.holds B' W) (hb:B≤B'):r.holds B W:=by
 cases r with
 | box g t cs=>exact ⟨Nat.le_trans hb h.1,h.2⟩
 | map g es ck=>exact ⟨Nat.le_trans hb h.1,h.2⟩
 | row p cap e k n cs=>
  obtain ⟨hl,h0 | ⟨g,cap',cur,hv,hg,hr⟩⟩:=(h:W.ownsRow _ _ _ _ _ _)
  ·exact ⟨hl,Or.inl h0⟩
  ·exact ⟨hl,Or.inr ⟨g,cap',cur,hv,Nat.le_trans hb hg,hr⟩⟩
theorem Mem.comp {w0 W W' : World} {L0 L:List Res} (h0:Mem w0 W L0) (h:Mem W W' L):Mem w0 W' (L++L0):=by
 have h1:=h0.next h.below
 refine ⟨h1.below,fun r hr=>?_,List.pairwise_append.2 ⟨h.apart,h1.apart,fun r hr s hs g hg hg'=>?_⟩⟩
 ·rcases List.mem_append.1 hr with hr|hr
  ·exact (h.holds r hr).mono h0.below.size
  ·exact h1.holds r hr
 ·have a1:=((h.holds r hr).lt hg).1
  have a2:=((h0.holds s hs).lt hg').2
  omega
def intD (ds:List Int):List Value:=ds.map (Value.int .i64)
theorem intD_at {ds:List Int} {i:Nat} (h:i < ds.length):(intD ds)[i * 1]? = some (.int .i64 (atI ds i)):=by
 unfold intD atI
 rw [Nat.mul_one,List.getElem?_map,List.getElem?_eq_getElem h]
 simp [List.getD,h]
theorem intD_set (ds:List Int) (i:Nat) (d:Int):(intD ds).set (i * 1) (.int .i64 d)=intD (ds.set i d):=by unfold intD;rw [Nat.mul_one,List.map_set]
theorem intD_len (ds:List Int):(intD ds).length=ds.length:=by simp [intD]
theorem atI_bd {ds:List Int} {i x:Nat} {d:Int} {m:Int} (h:∀ x,0≤atI ds x∧atI ds x≤m) (hd:0≤d∧d≤m):0≤atI (ds.set i d) x∧atI (ds.set i d) x≤m:=by
 by_cases e:i=x
 ·subst e
  by_cases hi:i < ds.length
  ·rw [atI_set_self hi];exact hd
  ·rw [List.set_eq_of_length_le (by omega)];exact h _
 ·rw [atI_set_ne e];exact h x
theorem placeF_ok (ns:List NodeD):∀ (m i:Nat) (hs:List Nat) (ps parts:List (List Nat)) (hv:List Nat),(∀ x,x ∈ hs→x < i)→(∀ (j:Nat) (l:List Nat),ps[j]? = some l→∀ x,x ∈ l→x < j)→ps.length=i→placeF ns m i hs ps=some (parts,hv)→
  parts.length=i + m∧∀ (j:Nat) (l:List Nat),parts[j]? = some l→∀ x,x ∈ l→x < j
 | 0,i,hs,ps,parts,hv,h1,h2,h3,h=>by
  simp only [placeF,Option.some.injEq,Prod.mk.injEq] at h
  obtain ⟨rfl,rfl⟩:=h
  exact ⟨h3,h2⟩
 | m + 1,i,hs,ps,parts,hv,h1,h2,h3,h=>by
  unfold placeF at h
  split at h
  ·cases h
  ·rename_i n hn
   split at h
   ·have:=placeF_ok ns m (i + 1) _ _ parts hv (fun x hx=>by
     rcases List.mem_append.1 hx with hx|hx
     ·have:=h1 x (List.mem_of_mem_take hx);omega
     ·rw [List.mem_singleton.1 hx];omega) (fun j l hj x hx=>by
     rw [List.getElem?_append] at hj
     split at hj
     ·exact h2 j l hj x hx
     ·rw [List.getElem?_singleton] at hj
      split at hj
      ·cases hj
       have:=h1 x (List.mem_of_mem_drop hx)
       omega
      ·cases hj) (by simp [h3]) h
    exact ⟨by omega,this.2⟩
   ·cases h
theorem placeF_kids (ns:List NodeD):∀ (m i:Nat) (hs:List Nat) (ps parts:List (List Nat)) (hv:List Nat),placeF ns m i hs ps=some (parts,hv)→∀ (j:Nat) (n:NodeD),i≤j→j < i + m→ns[j]? = some n→kidsB n.op n.kids=true
 | 0,i,hs,ps,parts,hv,h,j,n,h1,h2,hn=>by omega
 | m + 1,i,hs,ps,parts,hv,h,j,n,h1,h2,hn=>by
  unfold placeF at h
  split at h
  ·cases h
  ·rename_i n' hn'
   split at h
   ·rename_i hk
    rw [Bool.and_eq_true] at hk
    rcases Nat.lt_or_ge i j with hij|hij
    ·exact placeF_kids ns m (i + 1) _ _ parts hv h j n hij (by omega) hn
    ·obtain rfl:i=j:=by omega
     rw [hn] at hn'
     cases hn'
     exact hk.1
   ·cases h
theorem intL_at {l:List Nat} {k t:Nat} (h:l[k]? = some t):(intL l)[k * 1]? = some (.int .i64 t):=by
 have h2:=flat_at intC 1 intC_len h
 have h3:=congrArg List.head? h2
 rw [List.head?_take,if_neg (by decide),List.head?_drop] at h3
 exact h3
theorem placeF_len (ns:List NodeD):∀ (m i:Nat) (hs:List Nat) (ps parts:List (List Nat)) (hv:List Nat),hs.length≤i→(∀ (j:Nat) (l:List Nat),ps[j]? = some l→l.length≤j)→ps.length=i→placeF ns m i hs ps=some (parts,hv)→∀ (j:Nat) (l:List Nat),parts[j]? = some l→l.length≤j
 | 0,i,hs,ps,parts,hv,h1,h2,h3,h=>by
  simp only [placeF,Option.some.injEq,Prod.mk.injEq] at h
  obtain ⟨rfl,rfl⟩:=h
  exact h2
 | m + 1,i,hs,ps,parts,hv,h1,h2,h3,h=>by
  unfold placeF at h
  split at h
  ·cases h
  ·split at h
   ·exact placeF_len ns m (i + 1) _ _ parts hv (by rw [List.length_append,List.length_take];simp;omega) (fun j l hj=>by
     rw [List.getElem?_append] at hj
     split at hj
     ·exact h2 j l hj
     ·rw [List.getElem?_singleton] at hj
      split at hj
      ·cases hj
       rw [List.length_drop]
       omega
      ·cases hj) (by simp [h3]) h
   ·cases h
theorem sl_row {α:Type} (f:α→List Value) (k:Nat) (hf:∀ x,(f x).length=k) {B:Nat} {W:World} {p:Option Addr} {cap:Nat} {e:TypeId} {l:List α} (h:(Res.row p cap e k l.length (l.flatMap f)).holds B W):Sl W p (l.flatMap f):=by
 have:=sl_to f k hf h l.length
 rwa [List.take_length] at this
theorem fields_node (n:NodeD) (W:World) (h:n.wf):Calls Tryz.prog 68 #[.agg n.cs.toArray] W fun e w'=>e = .returned (.bool (fieldsB n))∧Below W.heap.size W w':=fields_any n W h
set_option maxHeartbeats 8000000 in
theorem rCheck_any (p:Option Addr) (c:Nat) (ns:List NodeD) (tests:Bool) (w:World) (hN:Sl w p (ns.flatMap NodeD.cs)) (hwf:∀ (i:Nat) (n:NodeD),ns[i]? = some n→n.wf) (hl:ns.length≤4611686018427387904) :
  Calls Tryz.prog 32 #[.slice p ns.length c,.bool tests] w fun e w'=>e = .returned (.int .i64 (checkC ns tests))∧Below w.heap.size w w':=by
 rw [← checkR_eq]
 have HM:=Lib.hid (Mem.start w)
 by_cases hlong:300 < ns.length
 ·have HR:=Lib.hid (show checkR ns tests=6 by unfold checkR;rw [if_pos hlong])
  have hlong' : (300:Int) < (ns.length:Int):=by omega
  clear hlong
  go_enter Tryz.func32,Tryz.ntmps32
  go_wp2_with fail
  go_ret
  exact ⟨by rw [HR.out];rfl,HM.out.below⟩
 have hshort:ns.length≤300:=by omega
 have HN:=Lib.hid hN
 have HW:=Lib.hid hwf
 have HSt:=Lib.hid (fun W (h:Sl W p (ns.flatMap NodeD.cs))=>stack_any p c ns ((ns.length:Int) - 1) ns.length W h (by omega) (Nat.le_refl _) hshort)
 cases hpl:placeF ns ns.length 0 [] []
 ·have HR:=Lib.hid (show checkR ns tests=2 by unfold checkR;rw [if_neg hlong,hpl])
  rw [hpl] at HSt
  clear hlong hl hN hwf hpl
  go_enter Tryz.func32,Tryz.ntmps32
  go_wp2_with (first|(go_at_call 67;(with_reducible refine (HSt.out _ HN.out).mono ?_);refine cB1 HM ?_;clear HM;intro W1 HM))
  go_ret
  exact ⟨by rw [HR.out];rfl,HM.out.below⟩
 rename_i x
 obtain ⟨parts,hv⟩:=x
 obtain ⟨hpn,hpx⟩:=placeF_ok ns ns.length 0 [] [] parts hv (fun x hx=>by cases hx) (fun j l hj=>by simp at hj) rfl hpl
 rw [Nat.zero_add] at hpn
 by_cases hone:hv.length=1
 ·obtain ⟨r,hr⟩:∃ r,refRun ns tests parts ns 0 (List.replicate ns.length 0) 0=r:=⟨_,rfl⟩
  have HR:=Lib.hid (show refRun ns tests parts (ns.drop 0) 0 (List.replicate ns.length 0) 0=r from hr)
  rw [show checkR ns tests=r by unfold checkR;rw [if_neg hlong,hpl];show (if hv.length=1 then _ else _)=r;rw [if_pos hone];exact hr]
  rw [hpl] at HSt
  have HPN:=Lib.hid hpn
  have HPX:=Lib.hid hpx
  have HO:=Lib.hid hone
  have HKd:=Lib.hid (fun (j:Nat) (n:NodeD) (hn:ns[j]? = some n)=>placeF_kids ns ns.length 0 [] [] parts hv hpl j n (Nat.zero_le _) (by rw [Nat.zero_add];exact (List.getElem?_eq_some_iff.1 hn).1) hn)
  have HPC:=Lib.hid (placeF_len ns ns.length 0 [] [] parts hv (Nat.le_refl _) (fun j l hj=>by simp at hj) rfl hpl)
  have hne:0 < ns.length:=by
   rcases Nat.eq_zero_or_pos ns.length with h0|h0
   ·rw [h0] at hpl
    cases hpl
    cases hone
   ·exact h0
  have hbn:8 * ns.length≤140737488355328:=by omega
  clear hlong hl hN hwf hpl hr hpn hpx hone
  go_enter Tryz.func32,Tryz.ntmps32
  go_wp2_with (first|(go_at_call 67;(with_reducible refine (HSt.out _ HN.out).mono ?_);rintro e W2 ⟨pp,cp,ph,ch,vs,T,rfl,hRI,hM2⟩;have HM1:=Lib.hid (HM.out.comp hM2);have HRI:=Lib.hid hRI;clear HM hRI hM2;rw [HO.out];rename World=>W1;have HM:=HM1;clear HM1)|(refine mks rfl HM.out rfl rfl rfl rfl rfl hbn (by omega) ?_;intro gd W1 HM1;replace HM:=Lib.hid HM1;clear HM1))
  obtain ⟨gp,rfl⟩:∃ g,pp=some ⟨g,0,none⟩:=row_some (HM.out.get (k:=1) rfl) (by rw [HPN.out];exact hne)
  go_loopw [10,9] (fun iv dv wr=>∃ (i:Nat) (deep:Int) (ds:List Int),iv = .int .i64 i∧i≤ns.length∧dv = .int .i64 deep∧0≤deep∧deep≤i∧Hid (ds.length=ns.length)∧Hid (∀ x,0≤atI ds x∧atI ds x≤i)∧Hid (refRun ns tests parts (ns.drop i) i ds deep=r)∧Hid (Mem w wr (.row (some ⟨gd,0,none⟩) ns.length 3 1 ns.length (intD ds) :: .row (some ⟨gp,0,none⟩) cp 106 1 parts.length vs :: .row ph ch 3 1 hv.length (intL hv) :: T))) (fun iv _ _=>ns.length - (intOf iv).toNat)
  case atStart=>exact ⟨0,0,List.replicate ns.length 0,rfl,by omega,rfl,by omega,by omega,Lib.hid (by simp),Lib.hid (fun x=>by unfold atI;simp [List.getD,List.getElem?_replicate];split <;> simp),HR,by
   refine Lib.hid ?_
   have h:=HM.out
   rw [List.append_nil] at h
   rw [show intD (List.replicate ns.length 0)=List.replicate ns.length (.int .i64 0) by unfold intD;rw [List.map_replicate]]
   exact h⟩
  case round=>
   clear HM
   obtain ⟨i,deep,ds,rfl,hi,rfl,hd0,hd1,HDL,HDB,HI,HM⟩:=hrel
   by_cases hlt:i < ns.length
   ·obtain ⟨b,rfl,hb⟩:=HN.out.some_at NodeD.cs_len (by decide) hlt
    obtain ⟨n,hn⟩:∃ n,ns[i]? = some n:=⟨_,List.getElem?_eq_getElem hlt⟩
    have HWn:=Lib.hid (HW.out i n hn)
    have E1:=Lib.hid (hb.elem NodeD.cs 8 NodeD.cs_len hn)
    obtain ⟨l,hl⟩:∃ l,parts[i]? = some l:=⟨_,List.getElem?_eq_getElem (by rw [HPN.out];exact hlt)⟩
    have HPL:=Lib.hid (HPX.out i l hl)
    have hlc:=HPC.out i l hl
    have HI2:=Lib.hid (show (if fieldsB n then (partsR ns n.op i 0 ds l).elim 2 fun ds'=>if n.op=27∧unlikeB (l.map (textAt ns))=false then 2 else refRun ns tests parts (ns.drop (i + 1)) (i + 1) (ds'.set i (atI ds' i + 1)) (max deep (atI ds' i + 1)) else 2)=r by
     rw [← HI.out,List.drop_eq_getElem_cons hlt,refRun_cons,(List.getElem?_eq_some_iff.1 hn).2,List.getD_eq_getElem?_getD,hl]
     rfl)
    clear HI
    have d1:decide ((i:Int) < ns.length)=true:=decide_eq_true (by omega)
    obtain ⟨fb,hfb⟩:∃ fb,fieldsB n=fb:=⟨_,rfl⟩
    have HF:=Lib.hid (fun W=>hfb▸fields_node n W HWn.out)
    rw [hfb] at HI2
    cases fb
    ·have HB:=Lib.hid (show r=2 by rw [← HI2.out];rfl)
     go_wp2_with (first|(refine ixa rfl rfl rfl hlt ?_)|(refine ldxW (HM.out.olds E1.out) rfl rfl ?_)|(go_at_call 68;(with_reducible refine (HF.out _).mono ?_);refine cB1 HM ?_;clear HM;intro W1 HM))
     go_ret
     exact ⟨by rw [HB.out];rfl,HM.out.below⟩
    ·go_upto_region 13 with (first|(refine ixa rfl rfl rfl hlt ?_)|(refine ldxW (HM.out.olds E1.out) rfl rfl ?_)|(go_at_call 68;(with_reducible refine (HF.out _).mono ?_);refine cB1 HM ?_;clear HM;intro W1 HM))
     obtain ⟨R,hRR⟩:∃ R,partsR ns n.op i 0 ds l=R:=⟨_,rfl⟩
     have HR0:=Lib.hid (show partsR ns n.op i 0 ds (l.drop 0)=R from hRR)
     have HI3:=Lib.hid (show (R.elim 2 fun ds'=>if n.op=27∧unlikeB (l.map (textAt ns))=false then 2 else refRun ns tests parts (ns.drop (i + 1)) (i + 1) (ds'.set i (atI ds' i + 1)) (max deep (atI ds' i + 1)))=r by have hx:=HI2.out;rw [if_pos trivial,hRR] at hx;exact hx)
     have hop:=kidsB_op (HKd.out i n hn)
     obtain ⟨pi,ci,hvi,hTi⟩:=HRI.out.2 i l hl
     have HTi:=Lib.hid hTi
     have HVi:=Lib.hid (show vs[i * 1]? = some (.slice pi l.length ci) by rw [Nat.mul_one];exact hvi)
     have hli:i < parts.length:=by rw [HPN.out];exact hlt
     clear hRR HI2 hfb hvi hTi hl hn HF
     have Hb:=Lib.hid hb
     clear hb
     go_wp2_with fail
     go_loopw [11] (fun kv wr=>∃ (k:Nat) (ds' : List Int),kv = .int .i64 k∧k≤l.length∧Hid (ds'.length=ns.length)∧Hid (∀ x,0≤atI ds' x∧atI ds' x≤i)∧Hid (partsR ns n.op i k ds' (l.drop k)=R)∧Hid (Mem w wr (.row (some ⟨gd,0,none⟩) ns.length 3 1 ns.length (intD ds') :: .row (some ⟨gp,0,none⟩) cp 106 1 parts.length vs :: .row ph ch 3 1 hv.length (intL hv) :: T))) (fun kv _=>l.length - (intOf kv).toNat)
     case atStart=>exact ⟨0,ds,rfl,by omega,HDL,HDB,HR0,HM⟩
     case round=>
      clear HM HDL HDB HR0
      obtain ⟨k,ds',rfl,hkl,HDL,HDB,HPk,HM⟩:=hrel
      by_cases hk2:k < l.length
      ·have d2:decide ((k:Int) < l.length)=true:=decide_eq_true (by omega)
       have hk3:=Lib.hid (show k + 1≤l.length from hk2)
       obtain ⟨t,ht⟩:∃ t,l[k]? = some t:=⟨_,List.getElem?_eq_getElem hk2⟩
       obtain ⟨gi,rfl⟩:∃ g,pi=some ⟨g,0,none⟩:=row_some (HM.out.holds _ (List.mem_cons_of_mem _ (List.mem_cons_of_mem _ (List.mem_cons_of_mem _ HTi.out)))) (by omega)
       have HTm:=Lib.hid (fun (ds' : List Int)=>show Res.row (some ⟨gi,0,none⟩) ci 3 1 l.length (intL l) ∈ (.row (some ⟨gd,0,none⟩) ns.length 3 1 ns.length (intD ds') :: .row (some ⟨gp,0,none⟩) cp 106 1 parts.length vs :: .row ph ch 3 1 hv.length (intL hv) :: T) from List.mem_cons_of_mem _ (List.mem_cons_of_mem _ (List.mem_cons_of_mem _ HTi.out)))
       have hti:=HPL.out t (List.mem_of_getElem? ht)
       obtain ⟨nt,hnt⟩:∃ n,ns[t]? = some n:=⟨_,List.getElem?_eq_getElem (by omega)⟩
       have hop2:=kidsB_op (HKd.out t nt hnt)
       have HLk:=Lib.hid (intL_at ht)
       have E2:=Lib.hid (Hb.out.elem NodeD.cs 8 NodeD.cs_len hnt)
       have HP2:=Lib.hid (show (if sortI nt.op=wantI n.op k then partsR ns n.op i (k + 1) (ds'.set i (max (atI ds' i) (atI ds' t))) (l.drop (k + 1)) else none)=R by rw [← HPk.out,drop_atC ht,partsR_cons,opAt_of hnt])
       obtain ⟨sv,hsv⟩:∃ sv,sortI nt.op=sv:=⟨_,rfl⟩
       obtain ⟨wv,hwv⟩:∃ wv,wantI n.op k=wv:=⟨_,rfl⟩
       have HS1:=Lib.hid (fun W=>hsv▸below_of_same (rsort_any nt.op W hop2.1 hop2.2))
       have HW1:=Lib.hid (fun W=>hwv▸below_of_same (wants_any n.op k W hop.1 hop.2))
       rw [hsv,hwv] at HP2
       have htl:t < ns.length:=by omega
       have HDi:=Lib.hid (intD_at (ds:=ds') (i:=i) (by rw [HDL.out];exact hlt))
       have HDt:=Lib.hid (intD_at (ds:=ds') (i:=t) (by rw [HDL.out];exact htl))
       have hdi:i * 1 < (intD ds').length:=by rw [intD_len,HDL.out];omega
       clear ht hnt HPk
       go_wp2_with (first|(refine ixa rfl rfl rfl hli ?_)|(refine ldx1 (row_cell (HM.out.get (k:=1) rfl) HVi.out) rfl ?_))
       by_cases hs:sv=wv
       ·have b1:(sv != wv)=false:=by rw [hs];simp
        have HP3:=Lib.hid (show partsR ns n.op i (k + 1) (ds'.set i (max (atI ds' i) (atI ds' t))) (l.drop (k + 1))=R by rw [← HP2.out,if_pos hs])
        clear hs HP2 hsv hwv
        refine wp_region_mem (by kernel_rfl) (by kernel_rfl) HM.out ?_;intro hNE;(repeat (any_goals (first|((with_reducible show wpQuiet _ _ _ _ (Oper.mk _ (Op.call { callee:=Callee.value (Operand.func 69),args:=_,argTypes:=_}) _ _ _ _ :: _) _);(refine qcall HM.out (fun W hC=>HS1.out W) Tryz.func69 rfl rfl rfl ?_))|((with_reducible show wpQuiet _ _ _ _ (Oper.mk _ (Op.call { callee:=Callee.value (Operand.func 70),args:=_,argTypes:=_}) _ _ _ _ :: _) _);(refine qcall HM.out (fun W hC=>HW1.out W) Tryz.func70 rfl rfl rfl ?_))|((with_reducible refine qat 59 ?_);(refine qixa rfl rfl rfl hli ?_))|((with_reducible refine qat 60 ?_);(refine qd1 rfl (fun W ⟨q,hq⟩=>hq▸row_cell (q.mem.get (k:=1) rfl) HVi.out) ?_))|((with_reducible refine qat 62 ?_);(refine qixa rfl rfl rfl hk2 ?_))|((with_reducible refine qat 63 ?_);(refine qd1 rfl (fun W ⟨q,hq⟩=>hq▸row_cell (q.mem.holds _ (HTm.out _)) HLk.out) ?_))|((with_reducible refine qat 64 ?_);(refine qixa rfl rfl rfl htl ?_))|((with_reducible refine qat 66 ?_);(refine qdx0 E2.out rfl rfl ?_))|((with_reducible refine qat 70 ?_);(refine qixa rfl rfl rfl hlt ?_))|((with_reducible refine qat 72 ?_);(refine qdx0 E1.out rfl rfl ?_))|go_big_quiet_step (fail)|quiet_step (fail))));clear hNE;refine wpQuiet_nil ?_;intro W1 HM1;replace HM:=Lib.hid HM1;clear HM1
        go_wp2_with fail
        refine wp_region_mem_tail 18 (by kernel_rfl) (by kernel_rfl) HM.out ?_;intro W1 HM1;replace HM:=Lib.hid HM1;clear HM1;simp only [List.take_succ_cons,List.take_zero,List.drop_succ_cons,List.drop_zero];(repeat (any_goals (first|((with_reducible refine qat 80 ?_);(refine qixa rfl rfl rfl hlt ?_))|((with_reducible refine qat 81 ?_);(refine qd1 rfl (fun V e=>e.symm▸row_cell (HM.out.get (k:=0) rfl) HDi.out) ?_))|((with_reducible refine qat 85 ?_);(refine qixa rfl rfl rfl hli ?_))|((with_reducible refine qat 86 ?_);(refine qd1 rfl (fun V e=>e.symm▸row_cell (HM.out.get (k:=1) rfl) HVi.out) ?_))|((with_reducible refine qat 88 ?_);(refine qixa rfl rfl rfl hk2 ?_))|((with_reducible refine qat 89 ?_);(refine qd1 rfl (fun V e=>e.symm▸row_cell (HM.out.holds _ (HTm.out _)) HLk.out) ?_))|((with_reducible refine qat 90 ?_);(refine qixa rfl rfl rfl htl ?_))|((with_reducible refine qat 91 ?_);(refine qd1 rfl (fun V e=>e.symm▸row_cell (HM.out.get (k:=0) rfl) HDt.out) ?_))|((with_reducible refine qat 93 ?_);(refine qixa rfl rfl rfl hlt ?_))|go_big_quiet_step (fail)|quiet_step (fail))));refine wpQuiet_nil ?_
        go_wp2_with (first|(refine strw (v:=.int _ _) rfl HM.out 0 rfl rfl rfl rfl hdi ?_;intro W1 HM1;replace HM:=Lib.hid HM1;clear HM1;simp only [List.set] at HM;rw [intD_set] at HM))
        go_roundw
        case rel=>exact ⟨k + 1,_,by go_num,hk3.out,Lib.hid (by rw [List.length_set];exact HDL.out),Lib.hid (fun x=>atI_bd HDB.out ⟨by have:=HDB.out i;omega,by have:=HDB.out i;have:=HDB.out t;omega⟩),HP3,HM⟩
        case measure=>have:=hk3.out;simp [intOf];omega
       ·have b1:(sv != wv)=true:=by simpa using hs
        have HB:=Lib.hid (show r=2 by rw [← HI3.out,← HP2.out,if_neg hs];rfl)
        clear hs HP2 hsv hwv
        refine wp_region_mem (by kernel_rfl) (by kernel_rfl) HM.out ?_;intro hNE;(repeat (any_goals (first|((with_reducible show wpQuiet _ _ _ _ (Oper.mk _ (Op.call { callee:=Callee.value (Operand.func 69),args:=_,argTypes:=_}) _ _ _ _ :: _) _);(refine qcall HM.out (fun W hC=>HS1.out W) Tryz.func69 rfl rfl rfl ?_))|((with_reducible show wpQuiet _ _ _ _ (Oper.mk _ (Op.call { callee:=Callee.value (Operand.func 70),args:=_,argTypes:=_}) _ _ _ _ :: _) _);(refine qcall HM.out (fun W hC=>HW1.out W) Tryz.func70 rfl rfl rfl ?_))|((with_reducible refine qat 59 ?_);(refine qixa rfl rfl rfl hli ?_))|((with_reducible refine qat 60 ?_);(refine qd1 rfl (fun W ⟨q,hq⟩=>hq▸row_cell (q.mem.get (k:=1) rfl) HVi.out) ?_))|((with_reducible refine qat 62 ?_);(refine qixa rfl rfl rfl hk2 ?_))|((with_reducible refine qat 63 ?_);(refine qd1 rfl (fun W ⟨q,hq⟩=>hq▸row_cell (q.mem.holds _ (HTm.out _)) HLk.out) ?_))|((with_reducible refine qat 64 ?_);(refine qixa rfl rfl rfl htl ?_))|((with_reducible refine qat 66 ?_);(refine qdx0 E2.out rfl rfl ?_))|((with_reducible refine qat 70 ?_);(refine qixa rfl rfl rfl hlt ?_))|((with_reducible refine qat 72 ?_);(refine qdx0 E1.out rfl rfl ?_))|go_big_quiet_step (fail)|quiet_step (fail))));clear hNE;refine wpQuiet_nil ?_;intro W1 HM1;replace HM:=Lib.hid HM1;clear HM1
        go_wp2_with fail
        go_ret
        exact ⟨by rw [HB.out];rfl,HM.out.below⟩
      ·obtain rfl:k=l.length:=by omega
       have d2:decide ((l.length:Int) < l.length)=false:=by simp
       have HRd:=Lib.hid (show R=some ds' by rw [← HPk.out,List.drop_of_length_le (Nat.le_refl _)];rfl)
       have HI4:=Lib.hid (show (if n.op=27∧unlikeB (l.map (textAt ns))=false then 2 else refRun ns tests parts (ns.drop (i + 1)) (i + 1) (ds'.set i (atI ds' i + 1)) (max deep (atI ds' i + 1)))=r by rw [← HI3.out,HRd.out];rfl)
       clear HPk
       have HDi:=Lib.hid (intD_at (ds:=ds') (i:=i) (by rw [HDL.out];exact hlt))
       have hdi:i * 1 < (intD ds').length:=by rw [intD_len,HDL.out];omega
       obtain ⟨hdb0,hdb1⟩:=HDB.out i
       have HDi2:=Lib.hid (intD_at (ds:=ds'.set i (atI ds' i + 1)) (i:=i) (by rw [List.length_set,HDL.out];exact hlt))
       rw [atI_set_self (by rw [HDL.out];exact hlt)] at HDi2
       have hlt3:=Lib.hid (show i + 1≤ns.length from hlt)
       have HTS:=Lib.hid (fun W B (h:(Res.row pi ci 3 1 l.length (intL l)).holds B W)=>sl_row intC 1 intC_len h)
       have HTw:=Lib.hid (fun W (h1:Sl W (some b) (ns.flatMap NodeD.cs)) (h2:Sl W pi (intL l))=>rTwice_any (some b) c ns pi ci l W h1 h2 (fun j t hj=>by have:=HPL.out t (List.mem_of_getElem? hj);omega) (by omega) (by omega))
       by_cases h27:n.op=27
       ·have b27:(n.op == 27)=true:=beq_iff_eq.2 h27
        cases hu:unlikeB (l.map (textAt ns))
        ·have HB:=Lib.hid (show r=2 by rw [← HI4.out,if_pos ⟨h27,hu⟩])
         rw [hu] at HTw
         clear h27 HI4 hu
         go_wp2_with (first|(refine ixa rfl rfl rfl hli ?_)|(refine ixa rfl rfl rfl hlt ?_)|(refine ldx0 (HM.out.olds E1.out) rfl rfl ?_)|(refine ldx1 (row_cell (HM.out.get (k:=1) rfl) HVi.out) rfl ?_)|(refine ldx1 (row_cell (HM.out.get (k:=0) rfl) HDi.out) rfl ?_)|(refine ldx1 (row_cell (HM.out.get (k:=0) rfl) HDi2.out) rfl ?_)|(refine strw (v:=.int _ _) rfl HM.out 0 rfl rfl rfl rfl hdi ?_;intro W1 HM1;replace HM:=Lib.hid HM1;clear HM1;simp only [List.set] at HM;rw [intD_set] at HM)|(go_at_call 71;(with_reducible refine (HTw.out _ (HM.out.sl HN.out) (HTS.out _ _ (HM.out.holds _ (List.mem_cons_of_mem _ (List.mem_cons_of_mem _ (List.mem_cons_of_mem _ HTi.out)))))).mono ?_);rintro e W1 ⟨rfl,hb⟩;replace HM:=Lib.hid (HM.out.next hb);clear hb))
         go_ret
         exact ⟨by rw [HB.out];rfl,HM.out.below⟩
        ·have HB:=Lib.hid (show refRun ns tests parts (ns.drop (i + 1)) (i + 1) (ds'.set i (atI ds' i + 1)) (max deep (atI ds' i + 1))=r by rw [← HI4.out,if_neg (fun h=>by rw [hu] at h;cases h.2)])
         rw [hu] at HTw
         clear h27 HI4 hu
         go_wp2_with (first|(refine ixa rfl rfl rfl hli ?_)|(refine ixa rfl rfl rfl hlt ?_)|(refine ldx0 (HM.out.olds E1.out) rfl rfl ?_)|(refine ldx1 (row_cell (HM.out.get (k:=1) rfl) HVi.out) rfl ?_)|(refine ldx1 (row_cell (HM.out.get (k:=0) rfl) HDi.out) rfl ?_)|(refine ldx1 (row_cell (HM.out.get (k:=0) rfl) HDi2.out) rfl ?_)|(refine strw (v:=.int _ _) rfl HM.out 0 rfl rfl rfl rfl hdi ?_;intro W1 HM1;replace HM:=Lib.hid HM1;clear HM1;simp only [List.set] at HM;rw [intD_set] at HM)|(go_at_call 71;(with_reducible refine (HTw.out _ (HM.out.sl HN.out) (HTS.out _ _ (HM.out.holds _ (List.mem_cons_of_mem _ (List.mem_cons_of_mem _ (List.mem_cons_of_mem _ HTi.out)))))).mono ?_);rintro e W1 ⟨rfl,hb⟩;replace HM:=Lib.hid (HM.out.next hb);clear hb))
         go_roundw
         case rel=>exact ⟨i + 1,_,_,by go_num,hlt3.out,rfl,by omega,by omega,Lib.hid (by rw [List.length_set];exact HDL.out),Lib.hid (fun x=>atI_bd (fun x=>⟨(HDB.out x).1,by have:=(HDB.out x).2;omega⟩) ⟨by omega,by omega⟩),HB,HM⟩
         case measure=>have:=hlt3.out;simp [intOf];omega
       ·have b27:(n.op == 27)=false:=beq_false_of_ne h27
        have HB:=Lib.hid (show refRun ns tests parts (ns.drop (i + 1)) (i + 1) (ds'.set i (atI ds' i + 1)) (max deep (atI ds' i + 1))=r by rw [← HI4.out,if_neg (fun h=>h27 h.1)])
        clear h27 HI4
        go_wp2_with (first|(refine ixa rfl rfl rfl hli ?_)|(refine ixa rfl rfl rfl hlt ?_)|(refine ldx0 (HM.out.olds E1.out) rfl rfl ?_)|(refine ldx1 (row_cell (HM.out.get (k:=1) rfl) HVi.out) rfl ?_)|(refine ldx1 (row_cell (HM.out.get (k:=0) rfl) HDi.out) rfl ?_)|(refine ldx1 (row_cell (HM.out.get (k:=0) rfl) HDi2.out) rfl ?_)|(refine strw (v:=.int _ _) rfl HM.out 0 rfl rfl rfl rfl hdi ?_;intro W1 HM1;replace HM:=Lib.hid HM1;clear HM1;simp only [List.set] at HM;rw [intD_set] at HM))
        go_roundw
        case rel=>exact ⟨i + 1,_,_,by go_num,hlt3.out,rfl,by omega,by omega,Lib.hid (by rw [List.length_set];exact HDL.out),Lib.hid (fun x=>atI_bd (fun x=>⟨(HDB.out x).1,by have:=(HDB.out x).2;omega⟩) ⟨by omega,by omega⟩),HB,HM⟩
        case measure=>have:=hlt3.out;simp [intOf];omega
   ·obtain rfl:i=ns.length:=by omega
    have d1:decide ((ns.length:Int) < ns.length)=false:=by simp
    have HE:=Lib.hid (show endR ns tests deep=r by rw [← HI.out,List.drop_of_length_le (Nat.le_refl _)];rfl)
    clear HI
    obtain ⟨b,rfl,hb⟩:=HN.out.some_at NodeD.cs_len (by decide) hne
    obtain ⟨nl,hnl⟩:∃ n,ns[ns.length - 1]? = some n:=⟨_,List.getElem?_eq_getElem (by omega)⟩
    have E1:=Lib.hid (hb.elem NodeD.cs 8 NodeD.cs_len hnl)
    have hop:=kidsB_op (HKd.out _ nl hnl)
    unfold endR at HE
    rw [opAt_of hnl] at HE
    obtain ⟨sv,hsv⟩:∃ sv,sortI nl.op=sv:=⟨_,rfl⟩
    have HS1:=Lib.hid (fun W=>hsv▸rsort_any nl.op W hop.1 hop.2)
    rw [hsv] at HE
    clear hsv hb hnl
    cases tests
    all_goals
     go_wp2_with (first|(refine ixa rfl rfl (i:=ns.length - 1) (by omega) (by omega) ?_)|(refine ldx0 (HM.out.olds E1.out) rfl rfl ?_)|(go_at_call 69;(with_reducible refine (HS1.out _).mono ?_);rintro e W2 ⟨rfl,rfl⟩))
    all_goals go_ret
    all_goals refine ⟨ret_i64 ?_,HM.out.below⟩
    all_goals rw [← HE.out]
    all_goals first|(have hx:(sv != 1)=true:=(by assumption);have hy:sv≠1:=(by simpa using hx);simp [hy];done)|(have hx:(sv != 1)=false:=(by assumption);have hy:sv=1:=(by simpa using hx);simp [hy];omega)|(simp;omega)
 ·have HR:=Lib.hid (show checkR ns tests=2 by unfold checkR;rw [if_neg hlong,hpl];show (if hv.length=1 then _ else _)=2;rw [if_neg hone])
  rw [hpl] at HSt
  have b1:((hv.length:Int) != 1)=true:=by simp;omega
  clear hlong hl hN hwf hpl hone
  go_enter Tryz.func32,Tryz.ntmps32
  go_wp2_with (first|(go_at_call 67;(with_reducible refine (HSt.out _ HN.out).mono ?_);rintro e W2 ⟨pp,cp,ph,ch,vs,T,rfl,hRI,hM2⟩;have HM1:=Lib.hid (HM.out.comp hM2);clear HM hRI hM2;rename World=>W1;have HM:=HM1;clear HM1))
  go_ret
  exact ⟨by rw [HR.out];rfl,HM.out.below⟩
end Go.Proofs.YtnghlakllgkjlaaGreatDoor
