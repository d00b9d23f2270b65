/- Nodes put behind a row of nodes. The reference's grammar: is, any1; literals of strings. The reference's grammar: what its functions leave; two. The reference's grammar: expr. -/
import Derived.Test.YtheimopjglkgjaaGreatDoorPlainA
import Derived.Test.YtheimopjglkgjaaGreatDoorSepA
import Derived.Test.YtheimopjglkgjaaGreatDoorRdE
import Derived.Test.YtheimopjglkgjaaGreatDoorRdA
namespace Go.Proofs.YtheimopjglkgjaaGreatDoor
open Go.RowKit
set_option linter.unusedVariables false
section
variable {P:Program} {ops:Array Oper} {Q:Exit→Act→World→Prop} {a:Act} {W w0:World} {rest:List Oper} {L:List Res}
variable {dst:Option Tmp} {ty0:TypeId} {pos:String} {after:Array Edge} {gd:Option (Nat × Bool)}
theorem apN {t e:TypeId} {bytes:Nat} {z:Value} [hR:RowT P t e 8 bytes z] {s x:Operand} {p q:Option Addr} {cap c n n0 m:Nat} {l la:List NodeD} (hw:Region.wanted ⟨dst,.call { callee:=.builtin .append,args:=#[s,x],argTypes:=#[t,t]},ty0,pos,after,gd⟩ (yielded ops a.tmps)=true)
  (HM:Mem w0 W L) (j:Nat) (hj:L[j]? = some (.row p cap e 8 n0 (l.flatMap NodeD.cs))) (hs:a.eval s = .slice p n cap) (hx:a.eval x = .slice q m c) (hn0:n0=l.length) (hn:n=l.length) (hm:m=la.length) (hsl:Sl W q (la.flatMap NodeD.cs)) (hl:l.length≤100000) (hla:la.length≤100000) (hb:decide (bytes≤1000)=true)
  (h:∀ p' cap' W',Mem w0 W' (L.set j (.row p' cap' e 8 (l++la).length ((l++la).flatMap NodeD.cs)))→wpList P ops Q (⟨dst,.move (.const (.slice p' (l++la).length cap')),ty0,pos,after,gd⟩ :: rest) a W') :
  wpList P ops Q (⟨dst,.call { callee:=.builtin .append,args:=#[s,x],argTypes:=#[t,t]},ty0,pos,after,gd⟩ :: rest) a W:=by
 subst hn0 hn hm
 have hb':=of_decide_eq_true hb
 have hl2:(la.flatMap NodeD.cs).length=la.length * 8:=flat_len NodeD.cs 8 NodeD.cs_len la
 refine apr (news:=la.flatMap NodeD.cs) hw HM j hj hs hx hl2 (fun e=>hsl.nil_len NodeD.cs_len (by decide) e) (fun b hb=>hsl.2 b hb) (fun u hu=>?_) (by unfold maxLen;omega) ?_ (fun p' cap' W' hM _=>?_)
 ·obtain ⟨n,-,hn⟩:=List.mem_flatMap.1 hu
  unfold NodeD.cs at hn
  simp only [List.mem_cons,List.not_mem_nil,or_false] at hn
  rcases hn with rfl|rfl|rfl|rfl|rfl|rfl|rfl|rfl <;> rfl
 ·have:(l.length + la.length) * bytes≤200000 * 1000:=Nat.mul_le_mul (by omega) hb'
  omega
 ·rw [← List.flatMap_append,← List.length_append] at hM
  rw [← List.length_append]
  exact h p' cap' W' hM
end
set_option linter.unusedSimpArgs false
set_option maxRecDepth 100000
section
variable {P:Program} {ops:Array Oper} {Q:Exit→Act→World→Prop} {a:Act} {W w0:World} {rest:List Oper} {L:List Res}
variable {dst:Option Tmp} {ty0:TypeId} {pos:String} {after:Array Edge} {gd:Option (Nat × Bool)}
theorem bsS (ls:List ByteArray) {t e:TypeId} {bytes n:Nat} {z:Value} [hR:RowT P t e 1 bytes z] {parts:Array (Nat × Operand)} (hw:Region.wanted ⟨dst,.buildSlice t n parts,ty0,pos,after,gd⟩ (yielded ops a.tmps)=true) (HM:Mem w0 W L)
  (hp:(Array.map (fun x:Nat × Operand=>(x.1,a.eval x.2)) parts).toList=((ls.map Value.string).zipIdx 0).map fun x=>(x.2,x.1)) (hn:ls.length=n) (hk:decide (0 < n∧n≤1000)=true)
  (h:∀ g W',Mem w0 W' (.box g e (ls.flatMap strC) :: L)→wpList P ops Q (⟨dst,.move (.const (.slice (some ⟨g,0,none⟩) n n)),ty0,pos,after,gd⟩ :: rest) a W'):wpList P ops Q (⟨dst,.buildSlice t n parts,ty0,pos,after,gd⟩ :: rest) a W:=by
 have hk':=of_decide_eq_true hk
 subst hn
 refine bsb (cs:=ls.flatMap strC) hw HM (by have:=hk'.2;omega) (by have:=hk'.1;omega) ?_ h
 have hf:=fill_parts 1 (ls.map Value.string) 0 ((Array.range (ls.length * 1)).map (z.cells[· % z.cells.size]!)).toList (fun v hv=>by
  obtain ⟨x,-,rfl⟩:=List.mem_map.1 hv
  rfl) (by simp)
 rw [Array.toArray_toList] at hf
 show Instr.fill _ _ (Array.map (fun x:Nat × Operand=>(x.1,a.eval x.2)) parts).toList=_
 rw [hp]
 refine Eq.trans hf ?_
 congr 2
 simp only [Nat.zero_mul,List.take_zero,List.nil_append,List.flatMap_map]
 rfl
end
set_option maxHeartbeats 8000000 in
theorem rIs (T:List TokD) (tp:Option Addr) (tc i:Nat) (x:ByteArray) (W:World) (HT:Sl W tp (T.flatMap TokD.cs)) (hx:x.toList≠[]) :
  Calls Tryz.prog 82 #[.slice tp T.length tc,.int .i64 i,.string x] W fun e w'=>e = .returned (.bool (isT T i x.toList))∧W=w':=by
 by_cases hlt:i < T.length
 ·obtain ⟨t,ht⟩:∃ t,T[i]? = some t:=⟨_,List.getElem?_eq_getElem hlt⟩
  obtain ⟨b,rfl,hb⟩:=tokAt HT ht
  obtain ⟨kd,tx,nu,sc,dy,pt⟩:=t
  have HE:=Lib.hid hb
  have hs:isT T i x.toList=((if 5≤kd then tx else ⟨#[]⟩).toList == x.toList):=by unfold isT sgT;rw [ht]
  rw [hs]
  obtain ⟨n,hn⟩:∃ n,T.length=n:=⟨_,rfl⟩
  rw [hn] at hlt ⊢
  have d1:decide ((i:Int) < n)=true:=decide_eq_true (by omega)
  clear hs ht hb HT
  by_cases h5:5≤kd
  ·rw [if_pos h5]
   have d2:decide (5≤kd)=true:=decide_eq_true h5
   obtain ⟨c,hc⟩:∃ c,(tx.toList == x.toList)=c:=⟨_,rfl⟩
   rw [hc]
   cases c
   ·go_enter Tryz.func82,Tryz.ntmps82
    go_wp2_with (first|((with_reducible refine iat 14 ?_);(refine ixa rfl rfl rfl hlt ?_))|((with_reducible refine iat 16 ?_);(refine ldx0 HE.out rfl rfl ?_))|((with_reducible refine iat 22 ?_);(refine ixa rfl rfl rfl hlt ?_))|((with_reducible refine iat 24 ?_);(refine ldxf HE.out rfl rfl rfl ?_)))
    go_ret
    exact ⟨rfl,rfl⟩
   ·go_enter Tryz.func82,Tryz.ntmps82
    go_wp2_with (first|((with_reducible refine iat 14 ?_);(refine ixa rfl rfl rfl hlt ?_))|((with_reducible refine iat 16 ?_);(refine ldx0 HE.out rfl rfl ?_))|((with_reducible refine iat 22 ?_);(refine ixa rfl rfl rfl hlt ?_))|((with_reducible refine iat 24 ?_);(refine ldxf HE.out rfl rfl rfl ?_)))
    go_ret
    exact ⟨rfl,rfl⟩
  ·rw [if_neg h5]
   have d2:decide (5≤kd)=false:=decide_eq_false h5
   have hf:((⟨#[]⟩:ByteArray).toList == x.toList)=false:=by
    rw [ByteArray.toList_eq]
    cases hq:x.toList with
    | nil=>exact absurd hq hx
    | cons c l=>rfl
   rw [hf]
   go_enter Tryz.func82,Tryz.ntmps82
   go_wp2_with (first|((with_reducible refine iat 14 ?_);(refine ixa rfl rfl rfl hlt ?_))|((with_reducible refine iat 16 ?_);(refine ldx0 HE.out rfl rfl ?_)))
   go_ret
   exact ⟨rfl,rfl⟩
 ·have hs:isT T i x.toList=false:=by
   unfold isT
   rw [sgT_none (by omega),ByteArray.toList_eq]
   cases hq:x.toList with
   | nil=>exact absurd hq hx
   | cons c l=>rfl
  rw [hs]
  obtain ⟨n,hn⟩:∃ n,T.length=n:=⟨_,rfl⟩
  rw [hn] at hlt ⊢
  have d1:decide ((i:Int) < n)=false:=decide_eq_false (by omega)
  go_enter Tryz.func82,Tryz.ntmps82
  go_wp2_with fail
  go_ret
  exact ⟨rfl,rfl⟩
def anyF (T:List TokD) (i:Nat):List ByteArray→Nat→Int
 | [],_=>-1
 | x :: r,k=>if isT T i x.toList then k else anyF T i r (k + 1)
theorem anyF_step {T:List TokD} {i k:Nat} {ls:List ByteArray} {x:ByteArray} (h:ls[k]? = some x):anyF T i (ls.drop k) k=if isT T i x.toList then (k:Int) else anyF T i (ls.drop (k + 1)) (k + 1):=by
 obtain ⟨h1,h2⟩:=List.getElem?_eq_some_iff.1 h
 rw [List.drop_eq_getElem_cons h1,h2]
 rfl
set_option maxHeartbeats 8000000 in
theorem rAny1 (T:List TokD) (tp lp:Option Addr) (tc lc i:Nat) (ls:List ByteArray) (W:World) (HT:Sl W tp (T.flatMap TokD.cs)) (HL:Sl W lp (ls.flatMap strC)) (hx:∀ x ∈ ls,x.toList≠[]) (hl:ls.length≤100) :
  Calls Tryz.prog 144 #[.slice tp T.length tc,.int .i64 i,.slice lp ls.length lc] W fun e w'=>e = .returned (.int .i64 (anyF T i ls 0))∧W=w':=by
 have HLs:=Lib.hid HL
 have HI:=Lib.hid (fun (x:ByteArray) (hx:x.toList≠[])=>rIs T tp tc i x W HT hx)
 have HX:=Lib.hid hx
 obtain ⟨n,hn⟩:∃ n,ls.length=n:=⟨_,rfl⟩
 have HN:=Lib.hid hn
 obtain ⟨r,hr⟩:∃ r,anyF T i ls 0=r:=⟨_,rfl⟩
 rw [hr,hn]
 have HR0:=Lib.hid (show anyF T i (ls.drop 0) 0=r from hr)
 rw [hn] at hl
 obtain ⟨tn,htn⟩:∃ n,T.length=n:=⟨_,rfl⟩
 rw [htn] at HI ⊢
 clear HT HL hx hn hr htn
 go_enter Tryz.func144,Tryz.ntmps144
 go_wp2_with fail
 go_loop [7] (fun kv=>∃ k:Nat,kv = .int .i64 k∧k≤n∧Hid (anyF T i (ls.drop k) k=r)) (fun kv=>n - (intOf kv).toNat)
 case atStart=>exact ⟨0,rfl,Nat.zero_le _,HR0⟩
 case round=>
  clear HR0
  obtain ⟨k,rfl,hk,HR⟩:=hrel
  by_cases hlt:k < n
  ·obtain ⟨y,hy⟩:∃ y,ls[k]? = some y:=⟨_,List.getElem?_eq_getElem (by rw [HN.out];exact hlt)⟩
   obtain ⟨a,rfl,ha⟩:=HLs.out.some_at strC_len (by decide) (show k < ls.length by rw [HN.out];exact hlt)
   have HE:=Lib.hid (show Cells _ (a.add (k * 1)) [.string y] from ha.elem strC 1 strC_len hy)
   have HIy:=Lib.hid (HI.out y (HX.out y (List.mem_of_getElem? hy)))
   have hst:=anyF_step (T:=T) (i:=i) hy
   rw [HR.out] at hst
   have hlt3:=Lib.hid (show k + 1≤n from hlt)
   have d1:decide ((k:Int) < n)=true:=decide_eq_true (by omega)
   cases hb:isT T i y.toList with
   | true=>
    rw [hb] at HIy hst
    have HRk:=Lib.hid (show r=(k:Int) from hst)
    clear hy ha hb hst
    go_wp2_with (first|((with_reducible refine iat 18 ?_);(refine ixa rfl rfl rfl hlt ?_))|((with_reducible refine iat 19 ?_);(refine ldx0 HE.out rfl rfl ?_))|(go_at_call 82;(with_reducible refine (HIy.out).mono ?_);rintro e W2 ⟨rfl,rfl⟩))
    first|go_ret|go_ret2
    rw [HRk.out]
    exact ⟨rfl,rfl⟩
   | false=>
    rw [hb] at HIy hst
    have HR2:=Lib.hid (show anyF T i (ls.drop (k + 1)) (k + 1)=r from hst.symm)
    clear hy ha hb hst HR
    go_wp2_with (first|((with_reducible refine iat 18 ?_);(refine ixa rfl rfl rfl hlt ?_))|((with_reducible refine iat 19 ?_);(refine ldx0 HE.out rfl rfl ?_))|(go_at_call 82;(with_reducible refine (HIy.out).mono ?_);rintro e W2 ⟨rfl,rfl⟩))
    go_round
    case rel=>exact ⟨k + 1,by go_num,hlt3.out,HR2⟩
    case measure=>have:=hlt3.out;simp [intOf];omega
  ·obtain rfl:k=n:=by omega
   have d1:decide ((k:Int) < k)=false:=by simp
   have HRk:=Lib.hid (show r = -1 by rw [← HR.out,List.drop_of_length_le (by rw [HN.out];exact Nat.le_refl _)];rfl)
   go_wp2_with fail
   first|go_ret|go_ret2
   rw [HRk.out]
   exact ⟨rfl,rfl⟩
def GPost (r:PR) (w:World) (e:Ending) (w' : World):Prop:=∃ (p:Option Addr) (c:Nat) (l:List NodeD) (j:Int),e = .returned (.tuple #[.slice p l.length c,.int .i64 j])∧Mem w w' [.row p c 36 8 l.length (l.flatMap NodeD.cs)]∧match r with
 | .out=>False
 | .no=>l.length≤1∧j = -1
 | .ok l' _ j'=>l=l'∧j=j'
theorem GPost.ok_ {r:PR} {w w' : World} {l:List NodeD} {m j:Nat} {p:Option Addr} {c:Nat} (h:PR.ok l m j=r) (hM:Mem w w' [.row p c 36 8 l.length (l.flatMap NodeD.cs)]):GPost r w (.returned (.tuple #[.slice p l.length c,.int .i64 j])) w':=by
 subst h
 exact ⟨p,c,l,j,rfl,hM,rfl,rfl⟩
theorem GPost.no_ {r:PR} {w w' : World} (h:r = .no) (hb:Below w.heap.size w w'):GPost r w (.returned (.tuple #[.slice none 0 0,.int .i64 (-1)])) w':=by
 subst h
 exact ⟨none,0,[],-1,rfl,((Mem.start w).next hb).row0 _ _,Nat.zero_le _,rfl⟩
def RC (T:List TokD) (f:FuncId) (N:NT) (fuel:Nat):Prop:=
 ∀ (W:World) (tp:Option Addr) (tc i:Nat),Sl W tp (T.flatMap TokD.cs)→i≤T.length→G T fuel N i≠.out→Calls Tryz.prog f #[.slice tp T.length tc,.int .i64 i] W (GPost (G T fuel N i) W)
def AC (T:List TokD) (f:FuncId) (lv:Int) (N:NT) (fuel:Nat):Prop:=
 ∀ (W:World) (tp:Option Addr) (tc i:Nat),Sl W tp (T.flatMap TokD.cs)→i≤T.length→G T fuel N i≠.out→Calls Tryz.prog f #[.slice tp T.length tc,.int .i64 i,.int .i64 lv] W (GPost (G T fuel N i) W)
section
variable {T:List TokD} {w0 W:World} {tp:Option Addr} {tc i:Nat} {f:FuncId} {N:NT} {fuel:Nat} {r:PR} {K:Ending→World→Prop} {d lv:Int} {k:List NodeD→Nat→Nat→PR}
theorem rpost_use {args:Array Value} (h:G T fuel N i≠.out→Calls Tryz.prog f args W (GPost (G T fuel N i) W)) (HR:(G T fuel N i).bind k=r) (hr:r≠.out) (hi:i≤T.length) (hN:N≠.unary)
  (hno:r = .no→∀ (p:Option Addr) (c:Nat) (l:List NodeD) (W' : World),l.length≤1→Mem W W' [.row p c 36 8 l.length (l.flatMap NodeD.cs)]→K (.returned (.tuple #[.slice p l.length c,.int .i64 (-1)])) W')
  (hok:∀ (l:List NodeD) (m j:Nat),k l m j=r→GS T N i l m j→∀ (p:Option Addr) (c:Nat) (W' : World),Mem W W' [.row p c 36 8 l.length (l.flatMap NodeD.cs)]→K (.returned (.tuple #[.slice p l.length c,.int .i64 j])) W') :
  Calls Tryz.prog f args W K:=by
 have hne:G T fuel N i≠.out:=fun e=>by rw [e] at HR;exact hr HR.symm
 refine (h hne).mono fun e W' hp=>?_
 obtain ⟨p,c,l,j,rfl,hM,hm⟩:=hp
 cases hg:G T fuel N i with
 | out=>exact absurd hg hne
 | no=>
  rw [hg] at hm HR
  obtain ⟨hl,rfl⟩:=hm
  exact hno HR.symm p c l W' hl hM
 | ok l' m' j'=>
  rw [hg] at hm HR
  obtain ⟨rfl,rfl⟩:=hm
  exact hok l m' j' HR (G_ok hg hi (fun e=>absurd e hN)) p c W' hM
theorem RC.use (h:RC T f N fuel) (HR:(G T fuel N i).bind k=r) (hr:r≠.out) (HT:Sl W tp (T.flatMap TokD.cs)) (hd:d=(i:Int)) (hi:i≤T.length) (hN:N≠.unary)
  (hno:r = .no→∀ (p:Option Addr) (c:Nat) (l:List NodeD) (W' : World),l.length≤1→Mem W W' [.row p c 36 8 l.length (l.flatMap NodeD.cs)]→K (.returned (.tuple #[.slice p l.length c,.int .i64 (-1)])) W')
  (hok:∀ (l:List NodeD) (m j:Nat),k l m j=r→GS T N i l m j→∀ (p:Option Addr) (c:Nat) (W' : World),Mem W W' [.row p c 36 8 l.length (l.flatMap NodeD.cs)]→K (.returned (.tuple #[.slice p l.length c,.int .i64 j])) W') :
  Calls Tryz.prog f #[.slice tp T.length tc,.int .i64 d] W K:=by
 subst hd
 exact rpost_use (h W tp tc i HT hi) HR hr hi hN hno hok
theorem AC.use (h:AC T f lv N fuel) (HR:(G T fuel N i).bind k=r) (hr:r≠.out) (HT:Sl W tp (T.flatMap TokD.cs)) (hd:d=(i:Int)) (hi:i≤T.length) (hN:N≠.unary)
  (hno:r = .no→∀ (p:Option Addr) (c:Nat) (l:List NodeD) (W' : World),l.length≤1→Mem W W' [.row p c 36 8 l.length (l.flatMap NodeD.cs)]→K (.returned (.tuple #[.slice p l.length c,.int .i64 (-1)])) W')
  (hok:∀ (l:List NodeD) (m j:Nat),k l m j=r→GS T N i l m j→∀ (p:Option Addr) (c:Nat) (W' : World),Mem W W' [.row p c 36 8 l.length (l.flatMap NodeD.cs)]→K (.returned (.tuple #[.slice p l.length c,.int .i64 j])) W') :
  Calls Tryz.prog f #[.slice tp T.length tc,.int .i64 d,.int .i64 lv] W K:=by
 subst hd
 exact rpost_use (h W tp tc i HT hi) HR hr hi hN hno hok
end
set_option maxHeartbeats 8000000 in
theorem rTwo (p q:Option Addr) (c d:Nat) (la lb:List NodeD) (o:Int) (W:World) (ha:Sl W p (la.flatMap NodeD.cs)) (hb:Sl W q (lb.flatMap NodeD.cs)) (h1:la.length≤2000) (h2:lb.length≤2000) :
  Calls Tryz.prog 146 #[.slice p la.length c,.slice q lb.length d,.int .i64 o] W fun e w'=>∃ (p:Option Addr) (c:Nat),e = .returned (.slice p (la++lb++[nOp o 2]).length c)∧Mem W w' [.row p c 36 8 (la++lb++[nOp o 2]).length ((la++lb++[nOp o 2]).flatMap NodeD.cs)]:=by
 have HM:=Lib.hid (Mem.start W)
 have HA:=Lib.hid ha
 have HB:=Lib.hid hb
 obtain ⟨na,hna⟩:∃ n,la.length=n:=⟨_,rfl⟩
 obtain ⟨nb,hnb⟩:∃ n,lb.length=n:=⟨_,rfl⟩
 have HNa:=Lib.hid hna
 have HNb:=Lib.hid hnb
 rw [hna,hnb]
 clear ha hb hna hnb
 go_enter Tryz.func146,Tryz.ntmps146
 go_wp2_with (first|((with_reducible refine iat 7 ?_);(refine bs0 rfl HM.out ?_;intro g7 W1 HM1;replace HM:=Lib.hid HM1;clear HM1))|((with_reducible refine iat 9 ?_);(refine apN (l:=[]) (la:=la) rfl HM.out 0 rfl rfl rfl rfl rfl HNa.out.symm (HM.out.sl HA.out) (by decide) (by omega) (by decide) ?_;intro p9 c9 W1 HM1;replace HM:=Lib.hid HM1;clear HM1;simp only [List.set,List.nil_append] at HM))|((with_reducible refine iat 11 ?_);(refine apN (l:=la) (la:=lb) rfl HM.out 0 rfl rfl rfl rfl rfl HNb.out.symm (HM.out.sl HB.out) (by omega) (by omega) (by decide) ?_;intro p11 c11 W1 HM1;replace HM:=Lib.hid HM1;clear HM1;simp only [List.set] at HM))|((with_reducible refine iat 15 ?_);(have h5:Sl _ _ ([nOp o 2].flatMap NodeD.cs):=row_sl (box_row (n:=1) (k:=8) (HM.out.get (k:=0) rfl) rfl (by decide));refine apN (l:=la++lb) (la:=[nOp o 2]) rfl HM.out 1 rfl rfl rfl rfl (by simp only [List.length_append]) rfl h5 (by rw [List.length_append];omega) (by simp) (by decide) ?_;intro p15 c15 W2 HM1;clear h5 HM;(try clear W1);rename World=>W1;have HM:=Lib.hid HM1;clear HM1;simp only [List.set] at HM))|((with_reducible refine ibuildSlice ?_);(first|refine bs0 rfl HM.out ?_|refine bs1A rfl HM.out rfl rfl rfl ?_);intro g1 W1 HM1;replace HM:=Lib.hid HM1;clear HM1))
 go_ret
 exact ⟨_,_,rfl,HM.out.sub (.cons _ (.refl _))⟩
theorem is_use {T:List TokD} {W:World} {tp:Option Addr} {tc i:Nat} {r A B:PR} {K:Ending→World→Prop} {x:ByteArray} {s:List UInt8} {d:Int} (HR:(if isT T i s=true then A else B)=r) (HT:Sl W tp (T.flatMap TokD.cs)) (hd:d=(i:Int)) (hs:x.data.toList=s) (hn:s≠[])
  (hyes:isT T i s=true→A=r→K (.returned (.bool true)) W) (hno:isT T i s=false→B=r→K (.returned (.bool false)) W) :
  Calls Tryz.prog 82 #[.slice tp T.length tc,.int .i64 d,.string x] W K:=by
 subst hd
 have h:=rIs T tp tc i x W HT (by rw [toList_of hs];exact hn)
 rw [toList_of hs] at h
 refine h.mono fun e W' ⟨he,hw⟩=>?_
 subst he hw
 cases hb:isT T i s with
 | true=>rw [hb] at HR;exact hyes hb HR
 | false=>rw [hb] at HR;exact hno hb HR
theorem GPost.okn {r:PR} {w w' : World} {l:List NodeD} {m j n:Nat} {d:Int} {p:Option Addr} {c:Nat} (h:PR.ok l m j=r) (hn:n=l.length) (hd:d=(j:Int)) (hM:Mem w w' [.row p c 36 8 l.length (l.flatMap NodeD.cs)]):GPost r w (.returned (.tuple #[.slice p n c,.int .i64 d])) w':=by
 subst hn hd
 exact GPost.ok_ h hM
theorem GPost.noL {r:PR} {w w' : World} {l:List NodeD} {p:Option Addr} {c:Nat} (h:r = .no) (hl:l.length≤1) (hM:Mem w w' [.row p c 36 8 l.length (l.flatMap NodeD.cs)]):GPost r w (.returned (.tuple #[.slice p l.length c,.int .i64 (-1)])) w':=by
 subst h
 exact ⟨p,c,l,-1,rfl,hM,hl,rfl⟩
set_option maxHeartbeats 8000000 in
theorem rExpr {T:List TokD} (hT:TksOk T) (fuel:Nat) (ihE:∀ g,g≤fuel→RC T 53 .expr g) (ihA:∀ g,g≤fuel→AC T 85 0 .or g):RC T 53 .expr (fuel + 1):=by
 intro W tp tc i HT hi hne
 obtain ⟨r,hr⟩:∃ r,G T (fuel + 1) .expr i=r:=⟨_,rfl⟩
 rw [hr] at hne ⊢
 have HR:=Lib.hid hr
 clear hr
 have hr:r≠.out:=hne
 have HM:=Lib.hid (Mem.start W)
 have HTk:=Lib.hid HT
 have hT1:=hT.len
 clear hne HT
 simp only [G] at HR
 go_enter Tryz.func53,Tryz.ntmps53
 go_wp2_with (first|(go_at_call 82;refine is_use HR.out (HM.out.sl HTk.out) (by omega) rfl (by decide) ?_ ?_;all_goals (intro hb hR2;(try have hlt:=isT_lt hb);clear hb;have HR1:=Lib.hid hR2;clear HR hR2;have HR:=HR1;clear HR1))|(go_at_call 53;refine RC.use (ihE fuel (Nat.le_refl _)) HR.out hr (HM.out.sl HTk.out) (by omega) (by omega) (by simp) (fun hno p c l W2 hl hM2=>?_) (fun l m j hR2 hG p c W2 hM2=>?_);all_goals first|(have hg:=hG.lenc 0 rfl rfl rfl;clear hG;obtain ⟨hL,hF,hJ⟩:=hg;have HR1:=Lib.hid hR2;clear HR hR2;have HR:=HR1;clear HR1;have HM1:=Lib.hid (HM.out.comp2 hM2);clear HM hM2;(try clear W1);rename World=>W1;have HM:=HM1;clear HM1;simp only [List.cons_append,List.nil_append] at HM)|(have HNo:=Lib.hid hno;clear hno HR;have HM1:=Lib.hid (HM.out.comp2 hM2);clear HM hM2;(try clear W1);rename World=>W1;have HM:=HM1;clear HM1;simp only [List.cons_append,List.nil_append] at HM))|(go_at_call 85;refine AC.use (ihA fuel (Nat.le_refl _)) ((bind_ok _).trans HR.out) hr (HM.out.sl HTk.out) (by omega) (by omega) (by simp) (fun hno p c l W2 hl hM2=>?_) (fun l m j hR2 hG p c W2 hM2=>?_);all_goals first|(have hg:=hG.lenc 0 rfl rfl rfl;clear hG;obtain ⟨hL,hF,hJ⟩:=hg;have HR1:=Lib.hid hR2;clear HR hR2;have HR:=HR1;clear HR1;have HM1:=Lib.hid (HM.out.comp2 hM2);clear HM hM2;(try clear W1);rename World=>W1;have HM:=HM1;clear HM1;simp only [List.cons_append,List.nil_append] at HM)|(have HNo:=Lib.hid hno;clear hno HR;have HM1:=Lib.hid (HM.out.comp2 hM2);clear HM hM2;(try clear W1);rename World=>W1;have HM:=HM1;clear HM1;simp only [List.cons_append,List.nil_append] at HM))|((with_reducible refine iat 57 ?_);(refine bs0 rfl HM.out ?_;intro g57 W1 HM1;replace HM:=Lib.hid HM1;clear HM1))|((with_reducible refine iat 59 ?_);(refine apN (l:=[]) rfl HM.out 0 rfl rfl rfl rfl (by first|rfl|simp only [List.length_append,List.nil_append,List.length_nil,List.length_cons,Nat.zero_add]) rfl (row_sl (HM.out.get (k:=3) rfl)) om om (by decide) ?_;intro p59 c59 W1 HM1;replace HM:=Lib.hid HM1;clear HM1;simp only [List.set,List.nil_append] at HM))|((with_reducible refine iat 61 ?_);(refine apN rfl HM.out 0 rfl rfl rfl rfl (by first|rfl|simp only [List.length_append,List.nil_append,List.length_nil,List.length_cons,Nat.zero_add]) rfl (row_sl (HM.out.get (k:=2) rfl)) om om (by decide) ?_;intro p61 c61 W1 HM1;replace HM:=Lib.hid HM1;clear HM1;simp only [List.set,List.nil_append] at HM))|((with_reducible refine iat 63 ?_);(refine apN rfl HM.out 0 rfl rfl rfl rfl (by first|rfl|simp only [List.length_append,List.nil_append,List.length_nil,List.length_cons,Nat.zero_add]) rfl (row_sl (HM.out.get (k:=1) rfl)) om om (by decide) ?_;intro p63 c63 W1 HM1;replace HM:=Lib.hid HM1;clear HM1;simp only [List.set,List.nil_append] at HM))|((with_reducible refine iat 66 ?_);(have h5:Sl _ _ ([nOp 21 3].flatMap NodeD.cs):=row_sl (box_row (n:=1) (k:=8) (HM.out.get (k:=0) rfl) rfl (by decide));refine apN (la:=[nOp 21 3]) rfl HM.out 1 rfl rfl rfl rfl (by first|rfl|simp only [List.length_append,List.nil_append,List.length_nil,List.length_cons,Nat.zero_add]) rfl h5 om (by simp) (by decide) ?_;intro p66 c66 W2 HM1;clear h5;clear HM;(try clear W1);rename World=>W1;have HM:=Lib.hid HM1;clear HM1;simp only [List.set,List.nil_append] at HM))|((with_reducible refine skip_op ?_ ?_);exact rfl)|((with_reducible refine ibuildSlice ?_);(first|refine bs0 rfl HM.out ?_|refine bs1A rfl HM.out rfl rfl rfl ?_);intro g1 W1 HM1;replace HM:=Lib.hid HM1;clear HM1))
 all_goals go_ret2
 all_goals (first|exact GPost.okn HR.out (by first|rfl|(simp only [List.length_append,List.length_cons,List.length_nil];omega)) (by first|rfl|omega) (HM.out.sub (.cons _ (.cons_cons _ (List.nil_sublist _))))|exact GPost.okn HR.out (by rfl) (by rfl) (HM.out.sub (.cons_cons _ (List.nil_sublist _)))|exact GPost.no_ HNo.out HM.out.below|exact GPost.no_ HR.out.symm HM.out.below|exact GPost.noL HNo.out hl (HM.out.sub (.cons_cons _ (List.nil_sublist _))))
end Go.Proofs.YtheimopjglkgjaaGreatDoor
