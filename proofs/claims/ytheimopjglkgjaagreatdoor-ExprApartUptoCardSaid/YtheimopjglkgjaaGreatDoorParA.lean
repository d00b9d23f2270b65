/- The parts of what is in form lie one behind the other, each is in form by itself; in plain Lean. Parts, of the program and of the reference: where the parts of a node end. The law ExprChecks: its walk. -/
import Derived.Test.YtheimopjglkgjaaGreatDoorExprFold
import Derived.Test.YtheimopjglkgjaaGreatDoorSepMac2
import Derived.Test.YtheimopjglkgjaaGreatDoorStackA
import Derived.Test.YtheimopjglkgjaaGreatDoorSepA
import Derived.Test.YtheimopjglkgjaaGreatDoorRgO
import Derived.Test.YtheimopjglkgjaaGreatDoorRefCheck
namespace Go.Proofs.YtheimopjglkgjaaGreatDoor
open Go.RowKit
set_option linter.unusedVariables false
set_option linter.unusedSimpArgs false
def partsV (ns:List NodeD) (at_:Int):List Nat × Int:=
 if 300 < ns.length then ([],6) else if at_ < 0∨(ns.length:Int)≤at_ then ([],1) else match placeF ns (at_.toNat + 1) 0 [] [] with
 | none=>([],2)
 | some x=>(x.1.getD at_.toNat [],0)
structure Whole (a a' : List NodeD) (n:NodeD) (st:List ThingD):Prop where
 eq:a=a'++[n]
 deep:∃ D,foldA a' = some (st,D)∧D≤40
 kids:n.kids=st.length
 sort:sortI n.op=1
 parts:∃ d,partsF n.op 0 0 st=some d
 val:partsV a a'.length=(st.map (·.at_),0)
 len:a.length≤300
set_option maxRecDepth 100000
def PartsPost (r:List Nat × Int) (w:World) (e:Ending) (w' : World):Prop:=∃ (q:Option Addr) (d:Nat),e = .returned (.tuple #[.slice q r.1.length d,.int .i64 r.2])∧Mem w w' [.row q d 3 1 r.1.length (intL r.1)]
theorem PartsPost.none_ {r:List Nat × Int} {w w' : World} {e:Int} (h:r=([],e)) (hb:Below w.heap.size w w'):PartsPost r w (.returned (.tuple #[.slice none 0 0,.int .i64 e])) w':=by
 subst h
 exact ⟨none,0,rfl,((Mem.start w).next hb).row0 _ _⟩
theorem cell_one {W:World} {p:Addr} {v:Value} (h:W.cell? p=some v):Cells W p [v]:=fun j u hj=>by
 cases j with
 | zero=>
  simp only [List.getElem?_cons_zero,Option.some.injEq] at hj
  subst hj
  exact h
 | succ j=>simp at hj
def lastP (ps:List (List Nat)):List Nat:=ps.getD (ps.length - 1) []
theorem placeF_all (ns:List NodeD):∀ (m i:Nat) (hs:List Nat) (ps parts:List (List Nat)) (hv:List Nat),placeF ns m i hs ps=some (parts,hv)→parts.length=ps.length + m
 | 0,i,hs,ps,parts,hv,h=>by
  simp only [placeF,Option.some.injEq,Prod.mk.injEq] at h
  rw [← h.1]
  rfl
 | m + 1,i,hs,ps,parts,hv,h=>by
  unfold placeF at h
  cases hn:ns[i]? with
  | none=>rw [hn] at h;cases h
  | some n=>
   rw [hn] at h
   simp only at h
   split at h
   ·have:=placeF_all ns m (i + 1) _ _ parts hv h
    rw [this,List.length_append]
    simp
    omega
   ·cases h
theorem lastP_snoc (ps:List (List Nat)) (x:List Nat):lastP (ps++[x])=x:=by
 unfold lastP
 rw [List.length_append,List.length_singleton,Nat.add_sub_cancel,List.getD_eq_getElem?_getD,List.getElem?_append_right (Nat.le_refl _),Nat.sub_self]
 rfl
theorem parts_mem {w W:World} {hs:List Nat} {ps:List (List Nat)} {i cut k ci c1:Nat} {pi p1:Option Addr} (h1:(hs.drop cut).length=k) (h2:(hs.take cut).length=cut)
  (HM:Mem w W [.row pi ci 3 1 (0 + k) ([]++intL (hs.drop cut)),.row p1 c1 3 1 (cut + 1) (List.take (cut * 1) (intL hs)++[intV i])]) :
  Mem w W [.row pi ci 3 1 (lastP (ps++[hs.drop cut])).length (intL (lastP (ps++[hs.drop cut]))),.row p1 c1 3 1 (hs.take cut++[i]).length (intL (hs.take cut++[i]))]:=by
 rw [lastP_snoc,List.length_append,h1,h2]
 have e:List.take (cut * 1) (intL hs)++[intV i]=intL (hs.take cut++[i]):=by
  show _=(hs.take cut++[i]).flatMap intC
  rw [List.flatMap_append,← flat_take intC 1 intC_len]
  rfl
 rw [e,List.nil_append,Nat.zero_add] at HM
 exact HM
set_option maxHeartbeats 8000000 in
theorem parts_any (p:Option Addr) (c:Nat) (ns:List NodeD) (at_:Int) (w:World) (hN:Sl w p (ns.flatMap NodeD.cs)) (hc:ns.length≤c) (h63:ns.length≤4611686018427387904) :
  Calls Tryz.prog 8 #[.slice p ns.length c,.int .i64 at_] w (PartsPost (partsV ns at_) w):=by
 obtain ⟨v,hv⟩:∃ v,partsV ns at_=v:=⟨_,rfl⟩
 rw [hv]
 have hv0:=hv
 unfold partsV at hv0
 by_cases hlong:300 < ns.length
 ·rw [if_pos hlong] at hv0
  have HV:=Lib.hid hv0.symm
  have HM:=Lib.hid (Mem.start w)
  have d1:decide ((300:Int) < ns.length)=true:=decide_eq_true (by omega)
  clear hv hv0 hlong
  go_enter Tryz.func8,Tryz.ntmps8
  go_wp2_with fail
  go_ret2
  exact PartsPost.none_ HV.out HM.out.below
 rw [if_neg hlong] at hv0
 have d1:decide ((300:Int) < ns.length)=false:=decide_eq_false (by omega)
 by_cases h0:at_ < 0
 ·rw [if_pos (.inl h0)] at hv0
  have HV:=Lib.hid hv0.symm
  have HM:=Lib.hid (Mem.start w)
  have d2:decide (at_ < 0)=true:=decide_eq_true h0
  clear hv hv0 h0
  go_enter Tryz.func8,Tryz.ntmps8
  go_wp2_with (first|((with_reducible refine skip_op ?_ ?_);exact rfl)|refine mP ?_|(refine mS ?_;clear HM;intro W1 HM)|((with_reducible refine ibuildSlice ?_);(first|refine bs0 rfl HM.out ?_|refine bs1c (v:=.int _ _) rfl HM.out rfl rfl ?_);intro g1 W1 HM1;replace HM:=Lib.hid HM1;clear HM1)|(refine hal HM rfl ?_;clear HM;intro g1 W1 HM))
  go_ret2
  exact PartsPost.none_ HV.out HM.out.below
 have d2:decide (at_ < 0)=false:=decide_eq_false h0
 by_cases h1:(ns.length:Int)≤at_
 ·rw [if_pos (.inr h1)] at hv0
  have HV:=Lib.hid hv0.symm
  have HM:=Lib.hid (Mem.start w)
  have d3:decide ((ns.length:Int)≤at_)=true:=decide_eq_true h1
  clear hv hv0 h0 h1
  go_enter Tryz.func8,Tryz.ntmps8
  go_wp2_with (first|((with_reducible refine skip_op ?_ ?_);exact rfl)|refine mP ?_|(refine mS ?_;clear HM;intro W1 HM)|((with_reducible refine ibuildSlice ?_);(first|refine bs0 rfl HM.out ?_|refine bs1c (v:=.int _ _) rfl HM.out rfl rfl ?_);intro g1 W1 HM1;replace HM:=Lib.hid HM1;clear HM1)|(refine hal HM rfl ?_;clear HM;intro g1 W1 HM))
  go_ret2
  exact PartsPost.none_ HV.out HM.out.below
 have d3:decide ((ns.length:Int)≤at_)=false:=decide_eq_false h1
 rw [if_neg (fun x=>x.elim h0 h1)] at hv0
 obtain ⟨m,hm⟩:∃ m,at_.toNat + 1=m:=⟨_,rfl⟩
 have hm1:at_ + 1=m:=by omega
 rw [hm] at hv0
 obtain ⟨r,hr⟩:∃ r,placeF ns m 0 [] []=r:=⟨_,rfl⟩
 rw [hr] at hv0
 have hml:m≤ns.length:=by omega
 have hm0:at_.toNat=m - 1:=by omega
 rw [hm0] at hv0
 have HV:=Lib.hid hv0
 have HR:=Lib.hid hr
 have HN:=Lib.hid hN
 have HM:=Lib.hid (((Mem.start w).row0 3 1).row0 3 1)
 have hl:ns.length≤300:=by omega
 clear hv hv0 hr hN hm hm0
 go_enter Tryz.func8,Tryz.ntmps8
 go_wp2_with (first|(refine sltx rfl rfl (m:=m) hm1 (by omega) ?_)|((with_reducible refine skip_op ?_ ?_);exact rfl)|refine mP ?_|(refine mS ?_;clear HM;intro W1 HM)|((with_reducible refine ibuildSlice ?_);(first|refine bs0 rfl HM.out ?_|refine bs1c (v:=.int _ _) rfl HM.out rfl rfl ?_);intro g1 W1 HM1;replace HM:=Lib.hid HM1;clear HM1)|(refine hal HM rfl ?_;clear HM;intro g1 W1 HM))
 go_loopw [27,6,7] (fun iv hv pv wr=>∃ (i:Nat) (q:Option Addr) (d:Nat) (hs:List Nat) (p2:Option Addr) (c2:Nat) (ps:List (List Nat)),iv = .int .i64 i∧i≤m∧hv = .slice q hs.length d∧pv = .slice p2 (lastP ps).length c2∧hs.length≤i∧Hid (ps.length=i)∧Hid (placeF ns (m - i) i hs ps=r)∧Hid (Mem w wr [.row p2 c2 3 1 (lastP ps).length (intL (lastP ps)),.row q d 3 1 hs.length (intL hs)])) (fun iv _ _ _=>m - (intOf iv).toNat)
 case atStart=>exact ⟨0,none,0,[],none,0,[],rfl,by omega,rfl,rfl,by simp,Lib.hid rfl,HR,HM⟩
 case round=>
  clear HM
  obtain ⟨i,q,d,hs,p2,c2,ps,rfl,hi,rfl,rfl,hsl,HPL,HP,HM⟩:=hrel
  by_cases hlt:i < m
  ·obtain ⟨b,rfl,hb⟩:=HN.out.some_at NodeD.cs_len (by decide) (show i < ns.length by omega)
   obtain ⟨n,hn⟩:∃ n,ns[i]? = some n:=⟨_,List.getElem?_eq_getElem (by omega)⟩
   have E1:=Lib.hid (hb.elem NodeD.cs 8 NodeD.cs_len hn)
   have HP2:=Lib.hid (show (if kidsB n.op n.kids && decide (n.kids≤hs.length) then placeF ns (m - (i + 1)) (i + 1) (hs.take (hs.length - n.kids.toNat)++[i]) (ps++[hs.drop (hs.length - n.kids.toNat)]) else none)=r by
    rw [← HP.out,show m - i=(m - (i + 1)) + 1 by omega]
    show _=(match ns[i]? with|none=>none|some n=>_)
    rw [hn])
   have HK:=Lib.hid (fun W=>(show Calls Tryz.prog 21 #[.agg n.cs.toArray] W fun e w'=>e = .returned (.bool (kidsB n.op n.kids))∧Below W.heap.size W w' from fits_node n W))
   have d4:decide ((i:Int) < m)=true:=decide_eq_true (by omega)
   clear hb HP
   cases hg:kidsB n.op n.kids && decide (n.kids≤hs.length)
   ·have HB:=Lib.hid (show v=([],2) by rw [← HV.out,← HP2.out,hg];rfl)
    have hx:kidsB n.op n.kids=false∨(kidsB n.op n.kids=true∧(hs.length:Int) < n.kids):=by cases h:kidsB n.op n.kids <;> simp [h] at hg ⊢;omega
    clear hg HP2
    rcases hx with hk | ⟨hk,hx⟩
    ·rw [hk] at HK
     go_wp2_with (first|((with_reducible refine iat 30 ?_);(refine ixa rfl rfl rfl hlt ?_))|((with_reducible refine iat 31 ?_);(refine ldxW (HM.out.olds E1.out) rfl rfl ?_))|((with_reducible refine skip_op ?_ ?_);exact rfl)|refine mP ?_|(refine mS ?_;clear HM;intro W1 HM)|((with_reducible refine ibuildSlice ?_);(first|refine bs0 rfl HM.out ?_|refine bs1c (v:=.int _ _) rfl HM.out rfl rfl ?_);intro g1 W1 HM1;replace HM:=Lib.hid HM1;clear HM1)|(refine hal (dst:=some 9) HM rfl ?_;clear HM;intro g9 W1 HM)|(go_at_call 21;(with_reducible refine (HK.out _).mono ?_);refine cB1 HM ?_;clear HM;intro W1 HM))
     first|go_ret3|go_ret2|go_ret
     exact PartsPost.none_ HB.out HM.out.below
    ·rw [hk] at HK
     have d5:decide ((hs.length:Int) < n.kids)=true:=decide_eq_true hx
     go_wp2_with (first|((with_reducible refine iat 30 ?_);(refine ixa rfl rfl rfl hlt ?_))|((with_reducible refine iat 31 ?_);(refine ldxW (HM.out.olds E1.out) rfl rfl ?_))|((with_reducible refine skip_op ?_ ?_);exact rfl)|refine mP ?_|(refine mS ?_;clear HM;intro W1 HM)|((with_reducible refine ibuildSlice ?_);(first|refine bs0 rfl HM.out ?_|refine bs1c (v:=.int _ _) rfl HM.out rfl rfl ?_);intro g1 W1 HM1;replace HM:=Lib.hid HM1;clear HM1)|(refine hal (dst:=some 9) HM rfl ?_;clear HM;intro g9 W1 HM)|(go_at_call 21;(with_reducible refine (HK.out _).mono ?_);refine cB1 HM ?_;clear HM;intro W1 HM))
     first|go_ret3|go_ret2|go_ret
     exact PartsPost.none_ HB.out HM.out.below
   ·simp only [Bool.and_eq_true,decide_eq_true_eq] at hg
    obtain ⟨hk,hkl⟩:=hg
    have hk0:0≤n.kids:=kidsB_nonneg hk
    have HP3:=HP2.out
    rw [hk] at HK
    obtain ⟨k,hkk⟩:∃ k:Nat,n.kids=k:=⟨n.kids.toNat,by omega⟩
    rw [hk,decide_eq_true hkl,Bool.and_self,if_pos rfl,show n.kids.toNat=k by omega] at HP3
    have HP4:=Lib.hid HP3
    have hkh:k≤hs.length:=by omega
    have d5:decide ((hs.length:Int) < n.kids)=false:=decide_eq_false (by omega)
    clear HP2 HP3 hk hk0
    have hcm:hs.length - k + k=hs.length:=by omega
    have hdl:(hs.drop (hs.length - k)).length=k:=by simp;omega
    have htl:(hs.take (hs.length - k)).length=hs.length - k:=by simp
    generalize hs.length - k=cut at *
    have HDL:=Lib.hid hdl
    have HTL:=Lib.hid htl
    have hdc:=(row_cap (HM.out.get (k:=1) rfl)).1
    clear hdl htl
    go_wp2_with (first|((with_reducible refine iat 30 ?_);(refine ixa rfl rfl rfl hlt ?_))|((with_reducible refine iat 31 ?_);(refine ldxW (HM.out.olds E1.out) rfl rfl ?_))|(go_at_call 21;(with_reducible refine (HK.out _).mono ?_);refine cB1 HM ?_;clear HM;intro W1 HM)|(refine slf rfl rfl (m:=cut) (l:=k) (by omega) (by omega) hdc (by omega) ?_;intro q2 hq2;have HQ2:=Lib.hid hq2;clear hq2;have HSL:=Lib.hid (fun W B (h:(Res.row q d 3 1 hs.length (intL hs)).holds B W)=>HQ2.out▸sl_from intC 1 intC_len h (m:=cut) (by omega)))|((with_reducible refine iat 51 ?_);(refine apr (news:=intL (hs.drop cut)) rfl HM.out 0 rfl rfl rfl (by rw [flat_len intC 1 intC_len,HDL.out]) (fun e=>HDL.out▸(HSL.out _ _ (HM.out.get (k:=3) rfl)).nil_len intC_len (by decide) e) (HSL.out _ _ (HM.out.get (k:=3) rfl)).2 (intL_one _) (by unfold maxLen;omega) (by omega) ?_;intro p51 cap51 W2 HM1 hnil;clear hnil;clear HM;(try clear W1);rename World=>W1;have HM:=Lib.hid HM1;clear HM1;simp only [List.set] at HM))|((with_reducible refine iat 54 ?_);(refine sltx rfl rfl (m:=cut) (by omega) (by omega) ?_))|(refine apb rfl HM.out 4 0 rfl rfl rfl rfl rfl rfl (by omega) (by omega) (by omega) ?_;intro p1 cap1 W1 HM1;replace HM:=Lib.hid HM1;clear HM1;simp only [List.set] at HM)|((with_reducible refine skip_op ?_ ?_);exact rfl)|refine mP ?_|(refine mS ?_;clear HM;intro W1 HM)|((with_reducible refine ibuildSlice ?_);(first|refine bs0 rfl HM.out ?_|refine bs1c (v:=.int _ _) rfl HM.out rfl rfl ?_);intro g1 W1 HM1;replace HM:=Lib.hid HM1;clear HM1)|(refine hal (dst:=some 9) HM rfl ?_;clear HM;intro g9 W1 HM))
    go_roundw
    case rel=>exact ⟨i + 1,_,_,hs.take cut++[i],_,_,ps++[hs.drop cut],by go_num,by omega,by rw [List.length_append,HTL.out];rfl,by rw [lastP_snoc,HDL.out,Nat.zero_add],by rw [List.length_append,HTL.out];simp;omega,Lib.hid (by rw [List.length_append,HPL.out];rfl),HP4,Lib.hid (parts_mem HDL.out HTL.out (HM.out.sub (.cons _ (.cons_cons _ (.cons _ (.cons _ (.cons_cons _ (List.nil_sublist _))))))))⟩
    case measure=>simp [intOf];omega
  ·obtain rfl:i=m:=by omega
   have d4:decide ((i:Int) < i)=false:=decide_eq_false (by omega)
   have HB:=Lib.hid (show v=(lastP ps,0) by
    rw [← HV.out,← HP.out,Nat.sub_self]
    show (ps.getD (i - 1) [],(0:Int))=_
    unfold lastP
    rw [HPL.out])
   clear HP
   go_wp2_with (first|((with_reducible refine skip_op ?_ ?_);exact rfl)|refine mP ?_|(refine mS ?_;clear HM;intro W1 HM)|((with_reducible refine ibuildSlice ?_);(first|refine bs0 rfl HM.out ?_|refine bs1c (v:=.int _ _) rfl HM.out rfl rfl ?_);intro g1 W1 HM1;replace HM:=Lib.hid HM1;clear HM1)|(refine hal HM rfl ?_;clear HM;intro g1 W1 HM))
   first|go_ret3|go_ret2|go_ret
   rw [HB.out]
   exact ⟨_,_,rfl,HM.out.sub (.cons_cons _ (List.nil_sublist _))⟩
set_option maxHeartbeats 4000000 in
theorem rparts_any (p:Option Addr) (c:Nat) (ns:List NodeD) (at_:Int) (w:World) (hN:Sl w p (ns.flatMap NodeD.cs)) (h63:ns.length≤4611686018427387904) :
  Calls Tryz.prog 9 #[.slice p ns.length c,.int .i64 at_] w (PartsPost (partsV ns at_) w):=by
 obtain ⟨v,hv⟩:∃ v,partsV ns at_=v:=⟨_,rfl⟩
 rw [hv]
 have hv0:=hv
 unfold partsV at hv0
 by_cases hlong:300 < ns.length
 ·rw [if_pos hlong] at hv0
  have HV:=Lib.hid hv0.symm
  have HM:=Lib.hid (Mem.start w)
  have d1:decide ((300:Int) < ns.length)=true:=decide_eq_true (by omega)
  clear hv hv0 hlong
  go_enter Tryz.func9,Tryz.ntmps9
  go_wp2_with fail
  go_ret2
  exact PartsPost.none_ HV.out HM.out.below
 rw [if_neg hlong] at hv0
 have d1:decide ((300:Int) < ns.length)=false:=decide_eq_false (by omega)
 by_cases h0:at_ < 0
 ·rw [if_pos (.inl h0)] at hv0
  have HV:=Lib.hid hv0.symm
  have HM:=Lib.hid (Mem.start w)
  have d2:decide (at_ < 0)=true:=decide_eq_true h0
  clear hv hv0 h0
  go_enter Tryz.func9,Tryz.ntmps9
  go_wp2_with (first|((with_reducible refine skip_op ?_ ?_);exact rfl)|refine mP ?_)
  go_ret2
  exact PartsPost.none_ HV.out HM.out.below
 have d2:decide (at_ < 0)=false:=decide_eq_false h0
 by_cases h1:(ns.length:Int)≤at_
 ·rw [if_pos (.inr h1)] at hv0
  have HV:=Lib.hid hv0.symm
  have HM:=Lib.hid (Mem.start w)
  have d3:decide ((ns.length:Int)≤at_)=true:=decide_eq_true h1
  clear hv hv0 h0 h1
  go_enter Tryz.func9,Tryz.ntmps9
  go_wp2_with (first|((with_reducible refine skip_op ?_ ?_);exact rfl)|refine mP ?_)
  go_ret2
  exact PartsPost.none_ HV.out HM.out.below
 have d3:decide ((ns.length:Int)≤at_)=false:=decide_eq_false h1
 rw [if_neg (fun x=>x.elim h0 h1)] at hv0
 obtain ⟨m,hm⟩:∃ m,at_.toNat + 1=m:=⟨_,rfl⟩
 have hm1:at_ + 1=m:=by omega
 rw [hm] at hv0
 have hml:m≤ns.length:=by omega
 have hm0:at_.toNat=m - 1:=by omega
 rw [hm0] at hv0
 have HS:=Lib.hid (stack_any p c ns at_ m w hN hm1 hml (by omega))
 have HM:=Lib.hid (Mem.start w)
 cases hr:placeF ns m 0 [] [] with
 | none=>
  rw [hr] at hv0 HS
  have HV:=Lib.hid hv0.symm
  clear hv hv0 hN hm hm0 hr
  go_enter Tryz.func9,Tryz.ntmps9
  go_wp2_with (first|(go_at_call 25;(with_reducible refine HS.out.mono ?_);rintro e W1 ⟨rfl,hb⟩;replace HM:=Lib.hid (HM.out.next hb);clear hb)|((with_reducible refine skip_op ?_ ?_);exact rfl)|refine mP ?_)
  go_ret2
  exact PartsPost.none_ HV.out HM.out.below
 | some x=>
  obtain ⟨parts,hv2⟩:=x
  rw [hr] at hv0 HS
  have hlen0:parts.length=m:=by
   have h:=placeF_all ns m 0 [] [] parts hv2 hr
   rw [h,List.length_nil,Nat.zero_add]
  obtain ⟨l,hl⟩:∃ l,parts[m - 1]? = some l:=⟨_,List.getElem?_eq_getElem (by omega)⟩
  have hlen:=Lib.hid hlen0
  have hm1' : 0 < m:=by omega
  clear hlen0
  have HV:=Lib.hid (show v=(l,0) by rw [← hv0];simp [List.getD,hl])
  have HL:=Lib.hid hl
  have HAt:=Lib.hid (show at_=((m - 1:Nat):Int) by omega)
  clear hv hv0 hN hm hr hl
  go_enter Tryz.func9,Tryz.ntmps9
  go_wp2_with (first|(go_at_call 25;(with_reducible refine HS.out.mono ?_);rintro e W2 ⟨p3,c3,q3,d3',vs,TT,rfl,hRI,hM3⟩;have HM1:=hM3;clear hM3;clear HM;(try clear W1);rename World=>W1;have HM:=Lib.hid HM1;clear HM1;obtain ⟨p4,c4,h4,hm4⟩:=hRI.2 _ _ HL.out;obtain ⟨g3,rfl⟩:=row_some (HM.out.get (k:=0) rfl) (by rw [hlen.out];exact hm1'))|((with_reducible refine iat 31 ?_);(refine ixa rfl rfl HAt.out (by rw [hlen.out];omega) ?_))|((with_reducible refine iat 32 ?_);(refine ldx0 (cell_one (row_cell (HM.out.get (k:=0) rfl) (by rw [Nat.mul_one];exact h4))) rfl rfl ?_))|((with_reducible refine skip_op ?_ ?_);exact rfl)|refine mP ?_)
  go_ret2
  rw [HV.out]
  exact ⟨_,_,rfl,HM.out.sub (List.singleton_sublist.2 (List.mem_cons_of_mem _ (List.mem_cons_of_mem _ hm4)))⟩
theorem placeF_lens (ns:List NodeD):∀ (m i:Nat) (hs:List Nat) (ps parts:List (List Nat)) (hv:List Nat),hs.length≤i→(∀ (j:Nat) (l:List Nat),ps[j]? = some l→l.length≤j)→ps.length=i→placeF ns m i hs ps=some (parts,hv)→∀ (j:Nat) (l:List Nat),parts[j]? = some l→l.length≤j
 | 0,i,hs,ps,parts,hv,h1,h2,h3,h=>by
  simp only [placeF,Option.some.injEq,Prod.mk.injEq] at h
  rw [← h.1]
  exact h2
 | m + 1,i,hs,ps,parts,hv,h1,h2,h3,h=>by
  unfold placeF at h
  cases hn:ns[i]? with
  | none=>rw [hn] at h;cases h
  | some n=>
   rw [hn] at h
   simp only at h
   split at h
   ·refine placeF_lens ns m (i + 1) _ _ parts hv (by rw [List.length_append,List.length_take];simp;omega) (fun j l hj=>?_) (by rw [List.length_append,h3];rfl) h
    rw [List.getElem?_append] at hj
    split at hj
    ·exact h2 j l hj
    ·rw [List.getElem?_singleton] at hj
     split at hj
     ·cases hj
      rw [List.length_drop]
      omega
     ·cases hj
   ·cases h
theorem partsV_len (ns:List NodeD) (at_:Int):(partsV ns at_).1.length≤300:=by
 unfold partsV
 by_cases h1:300 < ns.length
 ·rw [if_pos h1];exact Nat.zero_le _
 rw [if_neg h1]
 by_cases h2:at_ < 0∨(ns.length:Int)≤at_
 ·rw [if_pos h2];exact Nat.zero_le _
 rw [if_neg h2]
 cases hp:placeF ns (at_.toNat + 1) 0 [] [] with
 | none=>exact Nat.zero_le _
 | some x=>
  obtain ⟨parts,hv⟩:=x
  show (parts.getD at_.toNat []).length≤300
  rw [List.getD_eq_getElem?_getD]
  cases hx:parts[at_.toNat]? with
  | none=>exact Nat.zero_le _
  | some l=>
   have:=placeF_lens ns _ 0 [] [] parts hv (Nat.le_refl _) (fun j l h=>by simp at h) rfl hp _ l hx
   have h3:=not_or.1 h2
   show l.length≤300
   omega
end Go.Proofs.YtheimopjglkgjaaGreatDoor
