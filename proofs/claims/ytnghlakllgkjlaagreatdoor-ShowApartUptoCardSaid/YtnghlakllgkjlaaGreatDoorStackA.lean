/- The reference's stack: the places of the parts of each node. What the reference's Check answers is what the stack machine answers; in plain Lean. The reference's twice. -/
import Derived.Test.YtnghlakllgkjlaaGreatDoorPlainA
import Derived.Test.YtnghlakllgkjlaaGreatDoorSepA
namespace Go.Proofs.YtnghlakllgkjlaaGreatDoor
open Go.RowKit
set_option linter.unusedVariables false
set_option linter.unusedSimpArgs false
set_option maxRecDepth 100000
def intV (i:Nat):Value:=.int .i64 i
def intC (i:Nat):List Value:=[intV i]
theorem intC_len (i:Nat):(intC i).length=1:=rfl
abbrev intL (l:List Nat):List Value:=l.flatMap intC
theorem intL_one (l:List Nat):∀ u ∈ intL l,u.oneCell' = true:=by
 intro u hu
 obtain ⟨i,_,hi⟩:=List.mem_flatMap.1 hu
 rw [List.mem_singleton.1 hi]
 rfl
theorem intL_len (l:List Nat):(intL l).length=l.length * 1:=flat_len _ 1 intC_len l
def RowsIn (T:List Res) (vs:List Value) (ls:List (List Nat)):Prop:=vs.length=ls.length∧∀ (i:Nat) (l:List Nat),ls[i]? = some l→∃ p c,vs[i]? = some (.slice p l.length c)∧Res.row p c 3 1 l.length (intL l) ∈ T
theorem RowsIn.push {T:List Res} {vs:List Value} {ls:List (List Nat)} (h:RowsIn T vs ls) (l:List Nat) (p:Option Addr) (c:Nat):RowsIn (.row p c 3 1 l.length (intL l) :: T) (vs++[.slice p l.length c]) (ls++[l]):=by
 refine ⟨by rw [List.length_append,List.length_append,h.1];rfl,fun i l' hl'=>?_⟩
 rw [List.getElem?_append] at hl'
 split at hl'
 ·rename_i hlt
  obtain ⟨p',c',h1,h2⟩:=h.2 i l' hl'
  exact ⟨p',c',by rw [List.getElem?_append_left (by rw [h.1];exact hlt)];exact h1,List.mem_cons_of_mem _ h2⟩
 ·rename_i hge
  rw [List.getElem?_singleton] at hl'
  split at hl'
  ·rename_i he
   cases hl'
   exact ⟨p,c,by rw [List.getElem?_append_right (by rw [h.1];omega),h.1,he];rfl,List.mem_cons_self ..⟩
  ·cases hl'
theorem stack_mem {w W:World} {g1 g2 g3 i cut k c1 ci cp:Nat} {t1 t2 t3:TypeId} {b1 b2 b3:List Value} {p1 pi pp:Option Addr} {hs:List Nat} {ps:List (List Nat)} {vs:List Value} {T:List Res} {R:Res}
  (HM:Mem w W (.box g1 t1 b1 :: .row p1 c1 3 1 (0 + cut + 1) (List.take ((0 + cut) * 1) ([]++intL (hs.take cut))++[intV i]) :: .box g2 t2 b2 :: .row pi ci 3 1 (0 + k) ([]++intL (hs.drop cut)) :: .box g3 t3 b3 :: .row pp cp 106 1 (ps.length + 1) (List.take (ps.length * 1) vs++[.slice pi (0 + k) ci]) :: R :: T))
  (h1:(hs.drop cut).length=k) (h2:(hs.take cut).length=cut) (h3:vs.length=ps.length) :
  Mem w W (.row pp cp 106 1 (ps++[hs.drop cut]).length (vs++[.slice pi (hs.drop cut).length ci]) :: .row p1 c1 3 1 (hs.take cut++[i]).length (intL (hs.take cut++[i])) :: .row pi ci 3 1 (hs.drop cut).length (intL (hs.drop cut)) :: T):=by
 have e1:List.take ((0 + cut) * 1) ([]++intL (hs.take cut))++[intV i]=intL (hs.take cut++[i]):=by
  rw [List.take_of_length_le (by rw [List.nil_append,flat_len intC 1 intC_len,h2];omega),List.nil_append]
  show _=(hs.take cut++[i]).flatMap intC
  rw [List.flatMap_append]
  rfl
 have e2:List.take (ps.length * 1) vs=vs:=List.take_of_length_le (by omega)
 have e3:(hs.take cut++[i]).length=0 + cut + 1:=by rw [List.length_append,h2];simp
 rw [e1,e2,List.nil_append] at HM
 rw [e3,h1,List.length_append]
 have HM2:=HM.sub (L':=[.row p1 c1 3 1 (0 + cut + 1) (intL (hs.take cut++[i])),.row pi ci 3 1 (0 + k) (intL (hs.drop cut)),.row pp cp 106 1 (ps.length + 1) (vs++[.slice pi (0 + k) ci])]++T) (.cons _ (.cons_cons _ (.cons _ (.cons_cons _ (.cons _ (.cons_cons _ (.cons _ (.refl _))))))))
 rw [Nat.zero_add] at HM2 ⊢
 rw [Nat.zero_add] at HM2
 refine HM2.perm ?_
 simp only [List.cons_append,List.nil_append]
 exact ((List.Perm.cons _ (List.Perm.swap _ _ _)).trans (List.Perm.swap _ _ _))
def placeF (ns:List NodeD):Nat→Nat→List Nat→List (List Nat)→Option (List (List Nat) × List Nat)
 | 0,_,have_,parts=>some (parts,have_)
 | m + 1,i,have_,parts=>match ns[i]? with
  | none=>none
  | some n=>if kidsB n.op n.kids && decide (n.kids≤have_.length) then placeF ns m (i + 1) (have_.take (have_.length - n.kids.toNat)++[i]) (parts++[have_.drop (have_.length - n.kids.toNat)]) else none
def StackPost (r:Option (List (List Nat) × List Nat)) (w:World) (e:Ending) (w' : World):Prop:=
 match r with
 | none=>e = .returned (.tuple #[.slice none 0 0,.slice none 0 0,.bool false])∧Below w.heap.size w w'
 | some (parts,have_)=>∃ p c q d vs T,e = .returned (.tuple #[.slice p parts.length c,.slice q have_.length d,.bool true])∧RowsIn T vs parts∧Mem w w' ([.row p c 106 1 parts.length vs,.row q d 3 1 have_.length (intL have_)]++T)
set_option maxHeartbeats 8000000 in
theorem stack_any (p:Option Addr) (c:Nat) (ns:List NodeD) (last:Int) (m:Nat) (w:World) (hN:Sl w p (ns.flatMap NodeD.cs)) (hm:last + 1=m) (hml:m≤ns.length) (hl:ns.length≤300) :
  Calls Tryz.prog 67 #[.slice p ns.length c,.int .i64 last] w (StackPost (placeF ns m 0 [] []) w):=by
 have HM:=Lib.hid (((Mem.start w).row0 3 1).row0 106 1)
 have HN:=Lib.hid hN
 obtain ⟨r,hr⟩:∃ r,placeF ns m 0 [] []=r:=⟨_,rfl⟩
 rw [hr]
 have HR:=Lib.hid hr
 clear hN hr
 go_enter Tryz.func67,Tryz.ntmps67
 go_wp2_with fail
 go_loopw [9,7,8] (fun iv hv pv wr=>∃ (i:Nat) (q:Option Addr) (d:Nat) (hs:List Nat) (p2:Option Addr) (c2:Nat) (ps:List (List Nat)) (vs:List Value) (T:List Res),iv = .int .i64 i∧i≤m∧hv = .slice q hs.length d∧pv = .slice p2 ps.length c2∧hs.length≤i∧ps.length≤i∧Hid (ps.length=i)∧Hid (placeF ns (m - i) i hs ps=r)∧Hid (RowsIn T vs ps)∧Hid (Mem w wr (.row p2 c2 106 1 ps.length vs :: .row q d 3 1 hs.length (intL hs) :: T))) (fun iv _ _ _=>m - (intOf iv).toNat)
 case atStart=>exact ⟨0,none,0,[],none,0,[],[],[],rfl,by omega,rfl,rfl,by simp,by simp,Lib.hid rfl,HR,Lib.hid ⟨rfl,fun i l h=>by simp at h⟩,HM⟩
 case round=>
  clear HM
  obtain ⟨i,q,d,hs,p2,c2,ps,vs,T,rfl,hi,rfl,rfl,hsl,hpl,HPL,HP,HRI,HM⟩:=hrel
  by_cases hlt:i < m
  ·obtain ⟨b,rfl,hb⟩:=HN.out.some_at NodeD.cs_len (by decide) (show i < ns.length by omega)
   obtain ⟨n,hn⟩:∃ n,ns[i]? = some n:=⟨_,List.getElem?_eq_getElem (by omega)⟩
   have E1:=Lib.hid (hb.elem NodeD.cs 8 NodeD.cs_len hn)
   have HP2:=Lib.hid (show (if kidsB n.op n.kids && decide (n.kids≤hs.length) then placeF ns (m - (i + 1)) (i + 1) (hs.take (hs.length - n.kids.toNat)++[i]) (ps++[hs.drop (hs.length - n.kids.toNat)]) else none)=r by
    rw [← HP.out,show m - i=(m - (i + 1)) + 1 by omega]
    show _=(match ns[i]? with|none=>none|some n=>_)
    rw [hn])
   obtain ⟨kb,hkb⟩:∃ kb,kidsB n.op n.kids=kb:=⟨_,rfl⟩
   have HK:=Lib.hid (fun W=>hkb▸kids_any n.op n.kids W)
   have d1:decide ((i:Int)≤last)=true:=decide_eq_true (by omega)
   have hil:i < ns.length:=by omega
   clear hb HP
   go_upto_region 7 with (first|((with_reducible refine iload ?_);first|refine ldb1 HM.out 0 rfl rfl rfl ?_|refine ldb1 HM.out 1 rfl rfl rfl ?_|refine ldb1 HM.out 2 rfl rfl rfl ?_|refine ldbW HM.out 0 rfl rfl rfl ?_|refine ldbW HM.out 1 rfl rfl rfl ?_|refine ldbW HM.out 2 rfl rfl rfl ?_|((first|refine ldbS HM.out 0 rfl rfl rfl ?_|refine ldbS HM.out 1 rfl rfl rfl ?_|refine ldbS HM.out 2 rfl rfl rfl ?_);simp only [List.take,List.drop]))|((with_reducible refine istore ?_);(first|((first|refine stbW rfl HM.out 0 rfl rfl rfl rfl rfl rfl ?_|refine stbW rfl HM.out 1 rfl rfl rfl rfl rfl rfl ?_|refine stbW rfl HM.out 2 rfl rfl rfl rfl rfl rfl ?_);intro W1 HM1;replace HM:=Lib.hid HM1;clear HM1;simp only [List.set] at HM)|((first|refine stbS rfl HM.out 0 rfl rfl rfl rfl rfl rfl ?_|refine stbS rfl HM.out 1 rfl rfl rfl rfl rfl rfl ?_|refine stbS rfl HM.out 2 rfl rfl rfl rfl rfl rfl ?_);intro W1 HM1;replace HM:=Lib.hid HM1;clear HM1;simp only [lss,Nat.reduceAdd] at HM)))|((with_reducible refine ibuildSlice ?_);(first|refine bs0 rfl HM.out ?_|refine bs1c (v:=.int _ _) rfl HM.out rfl rfl ?_|refine bs1c (v:=.slice _ _ _) rfl HM.out rfl rfl ?_);intro g1 W1 HM1;replace HM:=Lib.hid HM1;clear HM1)|((with_reducible refine ialloc (d:=some 10) ?_);refine alb rfl HM.out ?_;intro g10 W1 HM1;replace HM:=Lib.hid HM1;clear HM1)|(refine ixa rfl rfl rfl hil ?_)|(refine ldxW (HM.out.olds E1.out) rfl rfl ?_))
   cases hg:kidsB n.op n.kids && decide (n.kids≤hs.length)
   ·have HB:=Lib.hid (show none=r by rw [← HP2.out,hg];rfl)
    rw [hkb] at hg
    have hx:kb=false∨(kb=true∧(hs.length:Int) < n.kids):=by cases kb <;> simp at hg ⊢;omega
    clear hg HP2
    rcases hx with rfl | ⟨rfl,hx⟩
    all_goals
     go_wp2_with (first|refine mP ?_|(refine mS ?_;clear HM;intro W1 HM)|((with_reducible refine ibuildSlice ?_);(first|refine bs0 rfl HM.out ?_|refine bs1c (v:=.int _ _) rfl HM.out rfl rfl ?_|refine bs1c (v:=.slice _ _ _) rfl HM.out rfl rfl ?_);intro g1 W1 HM1;replace HM:=Lib.hid HM1;clear HM1)|(refine hal HM rfl ?_;clear HM;intro g1 W1 HM)|(go_at_call 130;(with_reducible refine (HK.out _).mono ?_);rintro e W2 ⟨rfl,rfl⟩))
     go_ret3
     rw [← HB.out]
     exact ⟨rfl,HM.out.below⟩
   ·simp only [Bool.and_eq_true,decide_eq_true_eq] at hg
    obtain ⟨hk,hkl⟩:=hg
    have hk0:0≤n.kids:=kidsB_nonneg hk
    have HP3:=HP2.out
    rw [hk] at HP3 hkb
    subst hkb
    obtain ⟨k,hkk⟩:∃ k:Nat,n.kids=k:=⟨n.kids.toNat,by omega⟩
    rw [if_pos (by simpa using hkl),show n.kids.toNat=k by omega] at HP3
    have HP4:=Lib.hid HP3
    rw [show n.cs=[.int .i64 n.op,.int .i64 k,.string n.text,.bool n.neg,.int .u64 n.hi,.int .u64 n.lo,.int .i64 n.sc,.int .i64 n.day] by rw [← hkk];rfl] at HM
    have hkh:k≤hs.length:=by omega
    clear HP2 HP3 hk hk0 hkl
    rw [hkk] at HK
    have hcm:hs.length - k + k=hs.length:=by omega
    have hdl:(hs.drop (hs.length - k)).length=k:=by simp;omega
    have htl:(hs.take (hs.length - k)).length=hs.length - k:=by simp
    generalize hs.length - k=cut at *
    have HDL:=Lib.hid hdl
    have HTL:=Lib.hid htl
    have hdc:=(row_cap (HM.out.get (k:=2) rfl)).1
    clear hdl htl
    go_wp2_with (first|refine mP ?_|(refine mS ?_;clear HM;intro W1 HM)|((with_reducible refine ibuildSlice ?_);(first|refine bs0 rfl HM.out ?_|refine bs1c (v:=.int _ _) rfl HM.out rfl rfl ?_|refine bs1c (v:=.slice _ _ _) rfl HM.out rfl rfl ?_);intro g1 W1 HM1;replace HM:=Lib.hid HM1;clear HM1)|(refine hal HM rfl ?_;clear HM;intro g1 W1 HM)|(go_at_call 130;(with_reducible refine (HK.out _).mono ?_);rintro e W2 ⟨rfl,rfl⟩)|(refine slf rfl rfl (m:=cut) (l:=k) (by omega) (by omega) hdc (by omega) ?_;intro q2 hq2;have HQ2:=Lib.hid hq2;clear hq2;have HSL:=Lib.hid (fun W B (h:(Res.row q d 3 1 hs.length (intL hs)).holds B W)=>HQ2.out▸sl_from intC 1 intC_len h (m:=cut) (by omega)))|(refine apr (news:=intL (hs.drop cut)) rfl HM.out 0 rfl rfl rfl (by rw [flat_len intC 1 intC_len,HDL.out]) (fun e=>HDL.out▸(HSL.out _ _ (HM.out.get (k:=3) rfl)).nil_len intC_len (by decide) e) (HSL.out _ _ (HM.out.get (k:=3) rfl)).2 (intL_one _) (by unfold maxLen;omega) (by omega) ?_;intro p1 cap1 W2 HM1 hnil;clear hnil;clear HM;(try clear W1);rename World=>W1;have HM:=Lib.hid HM1;clear HM1;simp only [List.set] at HM)|(refine apb rfl HM.out 3 0 rfl rfl rfl rfl rfl rfl (by omega) (by omega) (by omega) ?_;intro p1 cap1 W1 HM1;replace HM:=Lib.hid HM1;clear HM1;simp only [List.set] at HM)|(refine apb rfl HM.out 1 0 rfl rfl rfl rfl rfl rfl (by omega) (by omega) (by omega) ?_;intro p1 cap1 W1 HM1;replace HM:=Lib.hid HM1;clear HM1;simp only [List.set] at HM)|(refine sltx rfl rfl (m:=cut) (by omega) (by omega) ?_)|(refine apr (news:=intL (hs.take cut)) rfl HM.out 0 rfl rfl rfl (by rw [flat_len intC 1 intC_len,HTL.out]) (fun e=>HTL.out▸(sl_to intC 1 intC_len (HM.out.get (k:=5) (r:=.row q d 3 1 hs.length (intL hs)) rfl) cut).nil_len intC_len (by decide) e) (sl_to intC 1 intC_len (HM.out.get (k:=5) (r:=.row q d 3 1 hs.length (intL hs)) rfl) cut).2 (intL_one _) (by unfold maxLen;omega) (by omega) ?_;intro p1 cap1 W2 HM1 hnil;clear hnil;clear HM;(try clear W1);rename World=>W1;have HM:=Lib.hid HM1;clear HM1;simp only [List.set] at HM))
    go_roundw
    case rel=>exact ⟨i + 1,_,_,hs.take cut++[i],_,_,ps++[hs.drop cut],_,_,by go_num,by omega,by rw [List.length_append,HTL.out,Nat.zero_add];rfl,by rw [List.length_append];rfl,by rw [List.length_append,HTL.out];simp;omega,by rw [List.length_append];simp;omega,Lib.hid (by rw [List.length_append,HPL.out];rfl),HP4,Lib.hid (HRI.out.push _ _ _),Lib.hid (stack_mem HM.out HDL.out HTL.out HRI.out.1)⟩
    case measure=>simp [intOf];omega
  ·obtain rfl:i=m:=by omega
   have d1:decide ((i:Int)≤last)=false:=decide_eq_false (by omega)
   have HB:=Lib.hid (show some (ps,hs)=r by rw [← HP.out,Nat.sub_self];rfl)
   clear HP
   go_wp2
   go_ret3
   rw [← HB.out]
   exact ⟨_,_,_,_,_,_,rfl,HRI.out,HM.out⟩
def opAt (ns:List NodeD) (i:Nat):Int:=match ns[i]? with|some n=>n.op|none=>0
theorem opAt_of {ns:List NodeD} {i:Nat} {n:NodeD} (h:ns[i]? = some n):opAt ns i=n.op:=by unfold opAt;rw [h]
def atI (ds:List Int) (i:Nat):Int:=ds.getD i 0
theorem atI_set_self {ds:List Int} {i:Nat} {d:Int} (h:i < ds.length):atI (ds.set i d) i=d:=by unfold atI;simp [List.getD,h]
theorem atI_set_ne {ds:List Int} {i j:Nat} {d:Int} (h:i≠j):atI (ds.set i d) j=atI ds j:=by unfold atI;simp [List.getD,List.getElem?_set_ne h]
def partsR (ns:List NodeD) (op:Int) (i:Nat):Nat→List Int→List Nat→Option (List Int)
 | _,ds,[]=>some ds
 | k,ds,p :: l=>if sortI (opAt ns p)=wantI op k then partsR ns op i (k + 1) (ds.set i (max (atI ds i) (atI ds p))) l else none
theorem partsR_cons (ns:List NodeD) (op:Int) (i k:Nat) (ds:List Int) (p:Nat) (l:List Nat):partsR ns op i k ds (p :: l)=if sortI (opAt ns p)=wantI op k then partsR ns op i (k + 1) (ds.set i (max (atI ds i) (atI ds p))) l else none:=rfl
def endR (ns:List NodeD) (tests:Bool) (deep:Int):Int:=
 if (if tests then sortI (opAt ns (ns.length - 1))=4∨sortI (opAt ns (ns.length - 1))=5 else sortI (opAt ns (ns.length - 1))=1) then (if 40 < deep then 7 else 0) else 2
def refRun (ns:List NodeD) (tests:Bool) (parts:List (List Nat)):List NodeD→Nat→List Int→Int→Int
 | [],_,_,deep=>endR ns tests deep
 | n :: rest,i,ds,deep=>if fieldsB n then (partsR ns n.op i 0 ds (parts.getD i [])).elim 2 fun ds'=>if n.op=27∧unlikeB ((parts.getD i []).map (textAt ns))=false then 2 else refRun ns tests parts rest (i + 1) (ds'.set i (atI ds' i + 1)) (max deep (atI ds' i + 1)) else 2
theorem refRun_cons (ns:List NodeD) (tests:Bool) (parts:List (List Nat)) (n:NodeD) (rest:List NodeD) (i:Nat) (ds:List Int) (deep:Int):refRun ns tests parts (n :: rest) i ds deep=if fieldsB n then (partsR ns n.op i 0 ds (parts.getD i [])).elim 2 fun ds'=>if n.op=27∧unlikeB ((parts.getD i []).map (textAt ns))=false then 2 else refRun ns tests parts rest (i + 1) (ds'.set i (atI ds' i + 1)) (max deep (atI ds' i + 1)) else 2:=rfl
def checkR (ns:List NodeD) (tests:Bool):Int:=
 if 300 < ns.length then 6 else match placeF ns ns.length 0 [] [] with
  | none=>2
  | some (parts,hv)=>if hv.length=1 then refRun ns tests parts ns 0 (List.replicate ns.length 0) 0 else 2
structure RInv (ns:List NodeD) (i:Nat) (st:List ThingD) (ds:List Int):Prop where
 len:ds.length=ns.length
 le:i≤ns.length
 at_:∀ (t:ThingD),t ∈ st→t.at_ < i∧t.sort=sortI (opAt ns t.at_)∧0≤t.depth∧atI ds t.at_=t.depth
 zero:∀ x,i≤x→atI ds x=0
 last:∀ l t,st=l++[t]→t.at_ + 1=i
theorem partsR_eq {ns:List NodeD} {op:Int} {i:Nat}:∀ (l:List ThingD) (k:Nat) (ds:List Int),i < ds.length→(∀ t,t ∈ l→t.at_ < i∧t.sort=sortI (opAt ns t.at_)∧atI ds t.at_=t.depth)→
  partsR ns op i k ds (l.map (·.at_))=(partsF op k (atI ds i) l).map fun r=>ds.set i r
 | [],k,ds,hi,h=>by
  show some ds=some (ds.set i (atI ds i))
  congr 1
  apply List.ext_getElem?
  intro j
  rw [List.getElem?_set]
  split
  ·rename_i e
   subst e
   unfold atI
   simp [List.getD,hi]
  ·rfl
 | t :: l,k,ds,hi,h=>by
  obtain ⟨h1,h2,h3⟩:=h t (List.mem_cons_self ..)
  rw [List.map_cons,partsR_cons,partsF_cons,← h2]
  split
  ·rw [partsR_eq l (k + 1) _ (by simpa using hi) (fun t' ht'=>by
    obtain ⟨g1,g2,g3⟩:=h t' (List.mem_cons_of_mem _ ht')
    exact ⟨g1,g2,by rw [atI_set_ne (by omega)];exact g3⟩),atI_set_self hi,h3]
   congr 1
   funext r
   rw [List.set_set]
  ·rfl
theorem run_none (ns:List NodeD) (tests:Bool):∀ (rest:List NodeD) (i:Nat) (st:List ThingD) (deep:Int) (ps:List (List Nat)),ns.drop i=rest→placeF ns rest.length i (st.map (·.at_)) ps=none→runC ns tests rest i st deep=2
 | [],i,st,deep,ps,hd,h=>by cases h
 | n :: rest,i,st,deep,ps,hd,h=>by
  have hn:ns[i]? = some n:=by rw [← List.head?_drop,hd];rfl
  have hd' : ns.drop (i + 1)=rest:=by rw [← List.drop_drop,hd];rfl
  have h' : (if kidsB n.op n.kids && decide (n.kids≤(st.map (·.at_)).length) then placeF ns rest.length (i + 1) ((st.map (·.at_)).take ((st.map (·.at_)).length - n.kids.toNat)++[i]) (ps++[(st.map (·.at_)).drop ((st.map (·.at_)).length - n.kids.toNat)]) else none)=none:=by
   have h2:=h
   rw [List.length_cons] at h2
   unfold placeF at h2
   rw [hn] at h2
   exact h2
  rw [List.length_map] at h'
  rw [runC_cons]
  unfold stepC
  split
  ·rename_i hg
   rw [Bool.and_eq_true,Bool.and_eq_true] at hg
   rw [if_pos (by rw [hg.1.2,hg.2];rfl)] at h'
   cases partsF n.op 0 0 (st.drop (st.length - n.kids.toNat)) with
   | none=>rfl
   | some d=>
    show (if n.op=27∧_ then none else some _:Option (List ThingD × Int)).elim 2 _=2
    split
    ·rfl
    ·exact run_none ns tests rest (i + 1) _ _ _ hd' (by rw [List.map_append,List.map_take];exact h')
  ·rfl
theorem run_some (ns:List NodeD) (tests:Bool) (parts:List (List Nat)) (hv:List Nat):∀ (rest:List NodeD) (i:Nat) (st:List ThingD) (ds:List Int) (deep:Int) (ps:List (List Nat)),ns.drop i=rest→RInv ns i st ds→ps.length=i→placeF ns rest.length i (st.map (·.at_)) ps=some (parts,hv)→
  (∀ j,j < i→parts[j]? = ps[j]?)∧runC ns tests rest i st deep=if hv.length=1 then refRun ns tests parts rest i ds deep else 2
 | [],i,st,ds,deep,ps,hd,hI,hps,h=>by
  simp only [List.length_nil,placeF,Option.some.injEq,Prod.mk.injEq] at h
  obtain ⟨rfl,rfl⟩:=h
  refine ⟨fun _ _=>rfl,?_⟩
  have hi:i=ns.length:=by
   have:=congrArg List.length hd
   simp at this
   have:=hI.le
   omega
  rw [List.length_map]
  show endC tests st deep=if st.length=1 then endR ns tests deep else 2
  match st,hI with
  | [],_=>rfl
  | [t],hI=>
   have h1:=hI.last [] t rfl
   obtain ⟨_,h2,_⟩:=hI.at_ t (List.mem_singleton.2 rfl)
   unfold endC endR
   rw [show ns.length - 1=t.at_ by omega,← h2]
   rfl
  | t :: u :: l,_=>simp [endC]
 | n :: rest,i,st,ds,deep,ps,hd,hI,hps,h=>by
  have hn:ns[i]? = some n:=by rw [← List.head?_drop,hd];rfl
  have hil:i < ns.length:=(List.getElem?_eq_some_iff.1 hn).1
  have hd' : ns.drop (i + 1)=rest:=by rw [← List.drop_drop,hd];rfl
  have h' : (if kidsB n.op n.kids && decide (n.kids≤(st.map (·.at_)).length) then placeF ns rest.length (i + 1) ((st.map (·.at_)).take ((st.map (·.at_)).length - n.kids.toNat)++[i]) (ps++[(st.map (·.at_)).drop ((st.map (·.at_)).length - n.kids.toNat)]) else none)=some (parts,hv):=by
   have h2:=h
   rw [List.length_cons] at h2
   unfold placeF at h2
   rw [hn] at h2
   exact h2
  rw [List.length_map] at h'
  split at h'
  ·rename_i hg
   have hg':=hg
   rw [Bool.and_eq_true] at hg'
   generalize hcut:st.length - n.kids.toNat=cut at h'
   have hmem:∀ t,t ∈ st.drop cut→t ∈ st:=fun t ht=>List.mem_of_mem_drop ht
   have key:∀ (d:Int),0≤d→RInv ns (i + 1) (st.take cut++[⟨sortI n.op,d + 1,i⟩]) ((ds.set i d).set i (d + 1)):=fun d hd0=>by
    refine ⟨by simp [hI.len],by omega,fun t ht=>?_,fun x hx=>?_,fun l t e=>?_⟩
    ·rcases List.mem_append.1 ht with ht|ht
     ·obtain ⟨g1,g2,g3,g4⟩:=hI.at_ t (List.mem_of_mem_take ht)
      exact ⟨by omega,g2,g3,by rw [atI_set_ne (by omega),atI_set_ne (by omega)];exact g4⟩
     ·rw [List.mem_singleton.1 ht]
      exact ⟨by simp,by rw [opAt_of hn],by show 0≤d + 1;omega,by rw [atI_set_self (by simp [hI.len];omega)]⟩
    ·rw [atI_set_ne (by omega),atI_set_ne (by omega)]
     exact hI.zero x (by omega)
    ·have:=List.append_inj_right' e rfl
     cases this
     rfl
   have step:∀ (d:Int),0≤d→_:=fun d hd0=>run_some ns tests parts hv rest (i + 1) (st.take cut++[⟨sortI n.op,d + 1,i⟩]) ((ds.set i d).set i (d + 1)) (max deep (d + 1)) (ps++[(st.map (·.at_)).drop cut]) hd' (key d hd0) (by simp [hps]) (by rw [List.map_append,List.map_take];exact h')
   have hpre:=(step 0 (by omega)).1
   have hpi:parts.getD i []=(st.drop cut).map (·.at_):=by
    have:=hpre i (by omega)
    rw [List.getD_eq_getElem?_getD,this,List.getElem?_append_right (by omega),hps,Nat.sub_self,List.map_drop]
    rfl
   refine ⟨fun j hj=>by rw [hpre j (by omega),List.getElem?_append_left (by omega)],?_⟩
   rw [runC_cons,refRun_cons,hpi]
   have hR:=partsR_eq (ns:=ns) (op:=n.op) (i:=i) (st.drop cut) 0 ds (by rw [hI.len];exact hil) (fun t ht=>by
    obtain ⟨g1,g2,g3,g4⟩:=hI.at_ t (hmem t ht)
    exact ⟨g1,g2,g4⟩)
   rw [hI.zero i (Nat.le_refl _)] at hR
   unfold stepC
   rw [hcut]
   cases hf:fieldsB n
   ·simp only [Bool.false_and,Bool.false_eq_true,if_false]
    show (2:Int)=_
    split <;> rfl
   ·rw [if_pos (by rw [hg'.1,hg'.2];rfl),if_pos rfl,hR]
    cases hp:partsF n.op 0 0 (st.drop cut) with
    | none=>
     show (2:Int)=_
     split <;> rfl
    | some d=>
     have hd0:0≤d:=by
      have:∀ (l:List ThingD) (k:Nat) (d0 r:Int),0≤d0→(∀ t,t ∈ l→0≤t.depth)→partsF n.op k d0 l=some r→0≤r:=by
       intro l
       induction l with
       | nil=>intro k d0 r h0 _ he;simp only [partsF,Option.some.injEq] at he;omega
       | cons t l ih=>
        intro k d0 r h0 ht he
        rw [partsF_cons] at he
        split at he
        ·exact ih _ _ _ (by omega) (fun t' ht'=>ht t' (List.mem_cons_of_mem _ ht')) he
        ·cases he
      exact this _ _ _ _ (Int.le_refl 0) (fun t ht=>(hI.at_ t (hmem t ht)).2.2.1) hp
     have hs:=(step d hd0).2
     have htx:((st.drop cut).map (·.at_)).map (textAt ns)=textsOf ns (st.drop cut):=by rw [List.map_map];rfl
     have hat:atI (ds.set i d) i=d:=atI_set_self (by rw [hI.len];exact hil)
     show (if n.op=27∧_ then none else some _:Option (List ThingD × Int)).elim 2 _=if hv.length=1 then (if n.op=27∧_ then 2 else _) else 2
     rw [htx,hat]
     split
     ·show (2:Int)=_
      split <;> rfl
     ·exact hs
  ·cases h'
theorem checkR_eq (ns:List NodeD) (tests:Bool):checkR ns tests=checkC ns tests:=by
 unfold checkR checkC
 split
 ·rfl
 ·cases hp:placeF ns ns.length 0 [] [] with
  | none=>exact (run_none ns tests ns 0 [] 0 [] rfl hp).symm
  | some x=>
   obtain ⟨parts,hv⟩:=x
   exact (run_some ns tests parts hv ns 0 [] (List.replicate ns.length 0) 0 [] rfl ⟨by simp,by omega,(fun t ht=>by cases ht),(fun x _=>by unfold atI;simp [List.getD,List.getElem?_replicate];split <;> rfl),(fun l t e=>by simp at e)⟩ rfl hp).2.symm
set_option maxHeartbeats 4000000 in
theorem rTwice_any (p:Option Addr) (c:Nat) (ns:List NodeD) (q:Option Addr) (c' : Nat) (ts:List Nat) (w:World) (hN:Sl w p (ns.flatMap NodeD.cs)) (hT:Sl w q (intL ts)) (hat:∀ (i:Nat) (t:Nat),ts[i]? = some t→t < ns.length) (hl:ns.length≤4611686018427387904) (hl' : ts.length≤4611686018427387904) :
  Calls Tryz.prog 71 #[.slice p ns.length c,.slice q ts.length c'] w fun e w'=>e = .returned (.bool (!unlikeB (ts.map (textAt ns))))∧Below w.heap.size w w':=by
 have HM:=Lib.hid (Mem.start w)
 obtain ⟨r,hr⟩:∃ r,(!unlikeB (ts.map (textAt ns)))=r:=⟨_,rfl⟩
 rw [hr]
 have HR:=Lib.hid hr
 have HN:=Lib.hid hN
 have HT:=Lib.hid hT
 have HA:=Lib.hid hat
 clear hr hN hT hat
 go_enter Tryz.func71,Tryz.ntmps71
 go_wp2_with fail
 go_loopw [5] (fun iv wr=>∃ i:Nat,iv = .int .i64 i∧i≤ts.length∧Hid (∀ x,x < i→∀ y,y < x→(ts.map (textAt ns))[x]?≠(ts.map (textAt ns))[y]?)∧Hid (Mem w wr [])) (fun iv _=>ts.length - (intOf iv).toNat)
 case atStart=>exact ⟨0,rfl,by omega,Lib.hid (fun x hx=>by omega),HM⟩
 case round=>
  clear HM
  obtain ⟨i,rfl,hi,HI,HM⟩:=hrel
  by_cases hlt:i < ts.length
  ·obtain ⟨b,rfl,hb⟩:=HT.out.some_at intC_len (by decide) hlt
   have Hb:=Lib.hid hb
   obtain ⟨ti,hti⟩:∃ t,ts[i]? = some t:=⟨_,List.getElem?_eq_getElem hlt⟩
   have hai:=HA.out i ti hti
   have hne:0 < ns.length:=by omega
   obtain ⟨b2,rfl,hb2⟩:=HN.out.some_at NodeD.cs_len (by decide) hne
   have Hb2:=Lib.hid hb2
   obtain ⟨ni,hni⟩:∃ n,ns[ti]? = some n:=⟨_,List.getElem?_eq_getElem hai⟩
   have E1:=Lib.hid (hb.elem intC 1 intC_len hti)
   have E2:=Lib.hid (hb2.elem NodeD.cs 8 NodeD.cs_len hni)
   have HTi:=Lib.hid (show (ts.map (textAt ns))[i]? = some ni.text.toList by rw [List.getElem?_map,hti,Option.map_some,textAt_of hni])
   clear hb hti hb2 hni
   have d1:decide ((i:Int) < ts.length)=true:=decide_eq_true (by omega)
   go_wp2_with fail
   go_loopw [6] (fun jv wr=>∃ j:Nat,jv = .int .i64 j∧j≤i∧Hid (∀ y,y < j→(ts.map (textAt ns))[i]?≠(ts.map (textAt ns))[y]?)∧Hid (Mem w wr [])) (fun jv _=>i - (intOf jv).toNat)
   case atStart=>exact ⟨0,rfl,by omega,Lib.hid (fun y hy=>by omega),HM⟩
   case round=>
    clear HM
    obtain ⟨j,rfl,hj,HJ,HM⟩:=hrel
    by_cases hlj:j < i
    ·obtain ⟨tj,htj⟩:∃ t,ts[j]? = some t:=⟨_,List.getElem?_eq_getElem (by omega)⟩
     have haj:=HA.out j tj htj
     obtain ⟨nj,hnj⟩:∃ n,ns[tj]? = some n:=⟨_,List.getElem?_eq_getElem haj⟩
     have F1:=Lib.hid (Hb.out.elem intC 1 intC_len htj)
     have F2:=Lib.hid (Hb2.out.elem NodeD.cs 8 NodeD.cs_len hnj)
     have HTj:=Lib.hid (show (ts.map (textAt ns))[j]? = some nj.text.toList by rw [List.getElem?_map,htj,Option.map_some,textAt_of hnj])
     have hjl:j < ts.length:=by omega
     clear htj hnj
     have d2:decide ((j:Int) < i)=true:=decide_eq_true (by omega)
     by_cases heq:ni.text.toList=nj.text.toList
     ·have b1:(ni.text.toList == nj.text.toList)=true:=beq_iff_eq.2 heq
      have HD:=Lib.hid (show r=true by rw [← HR.out,unlikeB_no (by simpa using hlt) hlj (by rw [HTi.out,HTj.out,heq])];rfl)
      clear heq
      go_wp2_with fail
      refine wp_region_mem (by kernel_rfl) (by kernel_rfl) HM.out ?_;intro hNE;(repeat (any_goals (first|(refine qixa rfl rfl rfl hlt ?_)|(refine qixa rfl rfl rfl hjl ?_)|(refine qdx0 E1.out rfl rfl ?_)|(refine qdx0 F1.out rfl rfl ?_)|(refine qixa rfl rfl rfl hai ?_)|(refine qixa rfl rfl rfl haj ?_)|(refine qdxf E2.out rfl rfl rfl ?_)|(refine qdxf F2.out rfl rfl rfl ?_)|go_big_quiet_step (fail)|quiet_step (fail))));clear hNE;refine wpQuiet_nil ?_;intro W1 HM1;replace HM:=Lib.hid HM1;clear HM1
      go_wp2
      go_ret
      exact ⟨by rw [HD.out];rfl,HM.out.below⟩
     ·have b1:(ni.text.toList == nj.text.toList)=false:=beq_false_of_ne heq
      have HD:=Lib.hid (show ∀ y,y < j + 1→(ts.map (textAt ns))[i]?≠(ts.map (textAt ns))[y]? from fun y hy=>by
       by_cases e:y=j
       ·subst e;rw [HTi.out,HTj.out];exact fun h=>heq (Option.some.inj h)
       ·exact HJ.out y (by omega))
      clear heq
      go_wp2_with fail
      refine wp_region_mem (by kernel_rfl) (by kernel_rfl) HM.out ?_;intro hNE;(repeat (any_goals (first|(refine qixa rfl rfl rfl hlt ?_)|(refine qixa rfl rfl rfl hjl ?_)|(refine qdx0 E1.out rfl rfl ?_)|(refine qdx0 F1.out rfl rfl ?_)|(refine qixa rfl rfl rfl hai ?_)|(refine qixa rfl rfl rfl haj ?_)|(refine qdxf E2.out rfl rfl rfl ?_)|(refine qdxf F2.out rfl rfl rfl ?_)|go_big_quiet_step (fail)|quiet_step (fail))));clear hNE;refine wpQuiet_nil ?_;intro W1 HM1;replace HM:=Lib.hid HM1;clear HM1
      go_wp2
      go_roundw
      case rel=>exact ⟨j + 1,by go_num,by omega,HD,HM⟩
      case measure=>simp [intOf];omega
    ·obtain rfl:j=i:=by omega
     have d2:decide ((j:Int) < j)=false:=by simp
     have HD:=Lib.hid (show ∀ x,x < j + 1→∀ y,y < x→(ts.map (textAt ns))[x]?≠(ts.map (textAt ns))[y]? from fun x hx y hy=>by
      by_cases e:x=j
      ·subst e;exact HJ.out y hy
      ·exact HI.out x (by omega) y hy)
     go_wp2
     go_roundw
     case rel=>exact ⟨j + 1,by go_num,by omega,HD,HM⟩
     case measure=>simp [intOf];omega
  ·obtain rfl:i=ts.length:=by omega
   have d1:decide ((ts.length:Int) < ts.length)=false:=by simp
   have HD:=Lib.hid (show r=false by rw [← HR.out,unlikeB_yes (fun x hx=>HI.out x (by simpa using hx))];rfl)
   go_wp2
   go_ret
   exact ⟨by rw [HD.out];rfl,HM.out.below⟩
end Go.Proofs.YtnghlakllgkjlaaGreatDoor
