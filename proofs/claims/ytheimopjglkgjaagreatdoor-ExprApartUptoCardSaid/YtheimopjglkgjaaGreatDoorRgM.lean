/- The reference's grammar: args. The reference's grammar: single. -/
import Derived.Test.YtheimopjglkgjaaGreatDoorRefGrmL
namespace Go.Proofs.YtheimopjglkgjaaGreatDoor
open Go.RowKit
set_option linter.unusedVariables false
set_option linter.unusedSimpArgs false
set_option maxRecDepth 100000
theorem int_len {d d' : Int} (h:d=d'):Value.int .i64 d=Value.int .i64 d':=by rw [h]
section
variable {P:Program} {ops:Array Oper} {Q:Exit→Act→World→Prop} {a:Act} {W w0:World} {rest:List Oper} {L:List Res}
variable {dst:Option Tmp} {ty0:TypeId} {pos:String} {after:Array Edge} {gd:Option (Nat × Bool)}
theorem apS {t e:TypeId} {bytes:Nat} {z:Value} [hR:RowT P t e 1 bytes z] {s x:Operand} {p q:Option Addr} {cap c n n0 m:Nat} {l la:List ByteArray} (hw:Region.wanted ⟨dst,.call { callee:=.builtin .append,args:=#[s,x],argTypes:=#[t,t]},ty0,pos,after,gd⟩ (yielded ops a.tmps)=true)
  (HM:Mem w0 W L) (j:Nat) (hj:L[j]? = some (.row p cap e 1 n0 (l.flatMap strC))) (hs:a.eval s = .slice p n cap) (hx:a.eval x = .slice q m c) (hn0:n0=l.length) (hn:n=l.length) (hm:m=la.length) (hsl:Sl W q (la.flatMap strC)) (hl:l.length≤100000) (hla:la.length≤100000) (hb:decide (bytes≤1000)=true)
  (h:∀ p' cap' W',Mem w0 W' (L.set j (.row p' cap' e 1 (l++la).length ((l++la).flatMap strC)))→wpList P ops Q (⟨dst,.move (.const (.slice p' (l++la).length cap')),ty0,pos,after,gd⟩ :: rest) a W') :
  wpList P ops Q (⟨dst,.call { callee:=.builtin .append,args:=#[s,x],argTypes:=#[t,t]},ty0,pos,after,gd⟩ :: rest) a W:=by
 subst hn0 hn hm
 have hb':=of_decide_eq_true hb
 have hl2:(la.flatMap strC).length=la.length * 1:=flat_len strC 1 strC_len la
 refine apr (news:=la.flatMap strC) hw HM j hj hs hx hl2 (fun e=>hsl.nil_len strC_len (by decide) e) (fun b hb=>hsl.2 b hb) (fun u hu=>?_) (by unfold maxLen;omega) ?_ (fun p' cap' W' hM _=>?_)
 ·obtain ⟨n,-,hn⟩:=List.mem_flatMap.1 hu
  unfold strC at hn
  rw [List.mem_singleton.1 hn]
  rfl
 ·have:(l.length + la.length) * bytes≤200000 * 1000:=Nat.mul_le_mul (by omega) hb'
  omega
 ·rw [← List.flatMap_append,← List.length_append] at hM
  rw [← List.length_append]
  exact h p' cap' W' hM
end
def ArgPost (r:PR) (w:World) (e:Ending) (w' : World):Prop:=match r with
 | .out=>False
 | .no=>e = .returned (.tuple #[.slice none 0 0,.int .i64 0,.int .i64 (-1)])∧Below w.heap.size w w'
 | .ok l n j=>∃ (p:Option Addr) (c:Nat),e = .returned (.tuple #[.slice p l.length c,.int .i64 n,.int .i64 j])∧Mem w w' [.row p c 36 8 l.length (l.flatMap NodeD.cs)]
theorem ArgPost.no_ {r:PR} {w w' : World} (h:r = .no) (hb:Below w.heap.size w w'):ArgPost r w (.returned (.tuple #[.slice none 0 0,.int .i64 0,.int .i64 (-1)])) w':=by
 subst h
 exact ⟨rfl,hb⟩
theorem ArgPost.nil_ {r:PR} {w w' : World} {j:Nat} {d:Int} (h:PR.ok [] 0 j=r) (hd:d=(j:Int)) (hb:Below w.heap.size w w'):ArgPost r w (.returned (.tuple #[.slice none 0 0,.int .i64 0,.int .i64 d])) w':=by
 subst h hd
 exact ⟨none,0,rfl,((Mem.start w).next hb).row0 _ _⟩
theorem ArgPost.okn {r:PR} {w w' : World} {l:List NodeD} {m j n:Nat} {d dn:Int} {p:Option Addr} {c:Nat} (h:PR.ok l m j=r) (hn:n=l.length) (hdn:dn=(m:Int)) (hd:d=(j:Int)) (hM:Mem w w' [.row p c 36 8 l.length (l.flatMap NodeD.cs)]):ArgPost r w (.returned (.tuple #[.slice p n c,.int .i64 dn,.int .i64 d])) w':=by
 subst h hn hd hdn
 exact ⟨p,c,rfl,hM⟩
def BC (T:List TokD) (s:ByteArray) (nm:Bool) (N:NT) (fuel:Nat):Prop:=
 ∀ (W:World) (tp:Option Addr) (tc i:Nat),Sl W tp (T.flatMap TokD.cs)→i≤T.length→G T fuel N i≠.out→Calls Tryz.prog 170 #[.slice tp T.length tc,.int .i64 i,.string s,.bool nm] W (ArgPost (G T fuel N i) W)
theorem BC.use {T:List TokD} {W:World} {tp:Option Addr} {tc i:Nat} {N:NT} {fuel:Nat} {r:PR} {K:Ending→World→Prop} {d:Int} {k:List NodeD→Nat→Nat→PR} {s:ByteArray} {nm:Bool} (h:BC T s nm N fuel) (HR:(G T fuel N i).bind k=r) (hr:r≠.out) (HT:Sl W tp (T.flatMap TokD.cs)) (hd:d=(i:Int)) (hi:i≤T.length) (hN:N≠.unary)
  (hno:r = .no→∀ (W' : World),Below W.heap.size W W'→K (.returned (.tuple #[.slice none 0 0,.int .i64 0,.int .i64 (-1)])) W')
  (hok:∀ (l:List NodeD) (m j:Nat),k l m j=r→GS T N i l m j→∀ (p:Option Addr) (c:Nat) (W' : World),Mem W W' [.row p c 36 8 l.length (l.flatMap NodeD.cs)]→K (.returned (.tuple #[.slice p l.length c,.int .i64 m,.int .i64 j])) W') :
  Calls Tryz.prog 170 #[.slice tp T.length tc,.int .i64 d,.string s,.bool nm] W K:=by
 subst hd
 have hne:G T fuel N i≠.out:=fun e=>by rw [e] at HR;exact hr HR.symm
 refine (h W tp tc i HT hi hne).mono fun e W' hp=>?_
 cases hg:G T fuel N i with
 | out=>exact absurd hg hne
 | no=>
  rw [hg] at hp HR
  obtain ⟨rfl,hb⟩:=hp
  exact hno HR.symm W' hb
 | ok l m j=>
  rw [hg] at hp HR
  obtain ⟨p,c,rfl,hM⟩:=hp
  exact hok l m j HR (G_ok hg hi (fun e=>absurd e hN)) p c W' hM
set_option maxHeartbeats 16000000 in
theorem rArgsL {T:List TokD} (hT:TksOk T) (e0:UInt8) (s:ByteArray) (hs:s.data.toList=[e0]) (fuel:Nat) (ihE:∀ g,g≤fuel→RC T 53 .expr g):BC T s false (.list e0) (fuel + 1):=by
 intro W tp tc i HT hi hne
 obtain ⟨r,hr⟩:∃ r,G T (fuel + 1) (.list e0) i=r:=⟨_,rfl⟩
 rw [hr] at hne ⊢
 have HR:=Lib.hid hr
 clear hr
 have hr:r≠.out:=hne
 have HM:=Lib.hid (Mem.start W)
 have HTk:=Lib.hid HT
 have hT1:=hT.len
 clear hne HT
 simp only [G] at HR
 go_enter Tryz.func170,Tryz.ntmps170
 go_wp2_with (first|(go_at_call 82;(first|refine is_use HR.out (HM.out.sl HTk.out) (by omega) hs (by simp) ?_ ?_|refine is_use HR.out (HM.out.sl HTk.out) (by omega) rfl (by decide) ?_ ?_);all_goals (intro hb hR2;(try have hltb:=isT_lt hb);clear hb;have HR1:=Lib.hid hR2;clear HR hR2;have HR:=HR1;clear HR1))|((with_reducible refine skip_op ?_ ?_);exact rfl)|refine mP ?_|((with_reducible refine ibuildSlice ?_);(first|refine bs1c (v:=.string _) rfl HM.out rfl rfl ?_|refine bs1A rfl HM.out rfl rfl rfl ?_);intro g1 W1 HM1;replace HM:=Lib.hid HM1;clear HM1))
 ·first|go_ret3|go_ret2
  exact ArgPost.nil_ HR.out (by omega) HM.out.below
 have HM2:=Lib.hid (HM.out.row0 36 8)
 go_loopw [1,11,13] (fun iv av nv wr=>∃ (g k m c:Nat) (p:Option Addr) (a:List NodeD),iv = .int .i64 k∧av = .slice p a.length c∧nv = .int .i64 m∧g≤fuel∧k≤T.length∧a.length≤k∧m≤k∧Hid (G T g (.listL e0 a m) k=r)∧Hid (Mem W wr [.row p c 36 8 a.length (a.flatMap NodeD.cs)])) (fun iv _ _ _=>T.length - (intOf iv).toNat)
 case atStart=>exact ⟨fuel,i,0,0,none,[],rfl,rfl,rfl,Nat.le_refl _,hi,Nat.zero_le _,Nat.zero_le _,HR,HM2⟩
 case round=>
  clear HM HM2 HR
  obtain ⟨g,k,m0,c0,p0,a,rfl,rfl,rfl,hg,hk,hla,hm,HR0,HM⟩:=hrel
  have HR1:=HR0.out
  clear HR0
  cases g with
  | zero=>exact absurd HR1.symm hr
  | succ g=>
   simp only [G] at HR1
   have HR:=Lib.hid HR1
   clear HR1
   go_wp2_with (first|(go_at_call 53;refine RC.use (ihE g (by omega)) HR.out hr (HM.out.sl HTk.out) (by omega) (by omega) (by simp) (fun hno p c l W2 hl hM2=>?_) (fun l m j hR2 hG p c W2 hM2=>?_);all_goals first|(have hg:=hG.lenc 0 rfl rfl rfl;clear hG;obtain ⟨hL,hF,hJ⟩:=hg;have HR1:=Lib.hid hR2;clear HR hR2;have HR:=HR1;clear HR1;have HM1:=Lib.hid (HM.out.comp2 hM2);clear HM hM2;(try clear W1);rename World=>W1;have HM:=HM1;clear HM1;simp only [List.cons_append,List.nil_append] at HM)|(have HNo:=Lib.hid hno;clear hno HR;have HM1:=Lib.hid (HM.out.comp2 hM2);clear HM hM2;(try clear W1);rename World=>W1;have HM:=HM1;clear HM1;simp only [List.cons_append,List.nil_append] at HM))|((with_reducible refine iat 78 ?_);(refine apN rfl HM.out 1 rfl rfl rfl rfl (by first|rfl|simp only [List.length_append,List.nil_append,List.length_nil,List.length_cons,Nat.zero_add]) rfl (row_sl (HM.out.get (k:=0) rfl)) om om (by decide) ?_;intro p78 c78 W1 HM1;replace HM:=Lib.hid HM1;clear HM1;simp only [List.set,List.nil_append] at HM))|(go_at_call 82;(first|refine is_use HR.out (HM.out.sl HTk.out) (by omega) hs (by simp) ?_ ?_|refine is_use HR.out (HM.out.sl HTk.out) (by omega) rfl (by decide) ?_ ?_);all_goals (intro hb hR2;(try have hltb:=isT_lt hb);clear hb;have HR1:=Lib.hid hR2;clear HR hR2;have HR:=HR1;clear HR1))|((with_reducible refine skip_op ?_ ?_);exact rfl)|refine mP ?_|((with_reducible refine ibuildSlice ?_);(first|refine bs1c (v:=.string _) rfl HM.out rfl rfl ?_|refine bs1A rfl HM.out rfl rfl rfl ?_);intro g1 W1 HM1;replace HM:=Lib.hid HM1;clear HM1))
   all_goals
    first
     |(go_roundw
       case rel=>exact ⟨g,j + 1,m0 + 1,_,_,a++l,by go_num,slice_len (by simp only [List.length_append]),by go_num,by omega,by omega,by (simp only [List.length_append];omega),by omega,HR,Lib.hid (HM.out.sub (.cons _ (.refl _)))⟩
       case measure=>simp [intOf];omega)
     |(go_ret3;exact ArgPost.no_ HNo.out HM.out.below)
     |(go_ret3;exact ArgPost.no_ HR.out.symm HM.out.below)
     |(go_ret3;exact ArgPost.okn HR.out (by first|rfl|(simp only [List.length_append,List.length_cons,List.length_nil];done)|(simp only [List.length_append,List.length_cons,List.length_nil];omega)) (by omega) (by omega) (HM.out.sub (.cons _ (.refl _))))
theorem ctx_no {T:List TokD} {g k:Nat} {a:List NodeD} {ns:List ByteArray} {r:PR} (HR:G T (g + 1) (.ctxL a ns) k=r) (h:T.length≤k + 1∨(∃ t,T[k]? = some t∧t.kind≠4)∨isT T (k + 1) [58]=false):r = .no:=by
 simp only [G] at HR
 cases ht:T[k]? with
 | none=>rw [ht] at HR;exact HR.symm
 | some t=>
  rw [ht] at HR
  simp only at HR
  by_cases h4:t.kind=4
  ·rw [if_pos h4] at HR
   have h58:isT T (k + 1) [58]=false:=by
    rcases h with h | ⟨u,hu,hk⟩|h
    ·cases hb:isT T (k + 1) [58] with
     | false=>rfl
     | true=>exact absurd (isT_lt hb) (by omega)
    ·rw [ht] at hu;cases hu;exact absurd h4 hk
    ·exact h
   rw [h58] at HR
   simp only [Bool.false_eq_true,if_false] at HR
   split at HR <;> exact HR.symm
  ·rw [if_neg h4] at HR
   exact HR.symm
set_option maxHeartbeats 32000000 in
theorem rArgsC {T:List TokD} (hT:TksOk T) (s:ByteArray) (hs:s.data.toList=[125]) (fuel:Nat) (ihE:∀ g,g≤fuel→RC T 53 .expr g):BC T s true .ctx (fuel + 1):=by
 intro W tp tc i HT hi hne
 obtain ⟨r,hr⟩:∃ r,G T (fuel + 1) .ctx i=r:=⟨_,rfl⟩
 rw [hr] at hne ⊢
 have HR:=Lib.hid hr
 clear hr
 have hr:r≠.out:=hne
 have HM:=Lib.hid (Mem.start W)
 have HTk:=Lib.hid HT
 have hT1:=hT.len
 clear hne HT
 simp only [G] at HR
 go_enter Tryz.func170,Tryz.ntmps170
 go_wp2_with (first|(go_at_call 82;(first|refine is_use HR.out (HM.out.sl HTk.out) (by omega) hs (by simp) ?_ ?_|refine is_use HR.out (HM.out.sl HTk.out) (by omega) rfl (by decide) ?_ ?_);all_goals (intro hb hR2;(try have hltb:=isT_lt hb);clear hb;have HR1:=Lib.hid hR2;clear HR hR2;have HR:=HR1;clear HR1))|((with_reducible refine skip_op ?_ ?_);exact rfl)|refine mP ?_|((with_reducible refine ibuildSlice ?_);(first|refine bs1c (v:=.string _) rfl HM.out rfl rfl ?_|refine bs1A rfl HM.out rfl rfl rfl ?_);intro g1 W1 HM1;replace HM:=Lib.hid HM1;clear HM1))
 ·first|go_ret3|go_ret2
  exact ArgPost.nil_ HR.out (by omega) HM.out.below
 have HM2:=Lib.hid ((HM.out.row0 9 1).row0 36 8)
 go_loopw [1,11,12,13] (fun iv av sv nv wr=>∃ (g k c c2:Nat) (p p2:Option Addr) (a:List NodeD) (ns:List ByteArray),iv = .int .i64 k∧av = .slice p a.length c∧sv = .slice p2 ns.length c2∧nv = .int .i64 ns.length∧g≤fuel∧k≤T.length∧a.length≤k∧ns.length≤k∧Hid (G T g (.ctxL a ns) k=r)∧Hid (Mem W wr [.row p c 36 8 a.length (a.flatMap NodeD.cs),.row p2 c2 9 1 ns.length (ns.flatMap strC)])) (fun iv _ _ _ _=>T.length - (intOf iv).toNat)
 case atStart=>exact ⟨fuel,i,0,0,none,none,[],[],rfl,rfl,rfl,rfl,Nat.le_refl _,hi,Nat.zero_le _,Nat.zero_le _,HR,HM2⟩
 case round=>
  clear HM HM2 HR
  obtain ⟨g,k,c0,c2,p0,p2,a,ns,rfl,rfl,rfl,rfl,hg,hk,hla,hm,HR0,HM⟩:=hrel
  have HR1:=HR0.out
  clear HR0
  cases g with
  | zero=>exact absurd HR1.symm hr
  | succ g=>
   by_cases hl1:T.length≤k + 1
   ·have HNo:=Lib.hid (ctx_no HR1 (.inl hl1))
    have d1:decide ((T.length:Int)≤(k:Int) + 1)=true:=decide_eq_true (by omega)
    clear HR1
    go_wp2_with (first|((with_reducible refine skip_op ?_ ?_);exact rfl)|refine mP ?_|((with_reducible refine ibuildSlice ?_);(first|refine bs1c (v:=.string _) rfl HM.out rfl rfl ?_|refine bs1A rfl HM.out rfl rfl rfl ?_);intro g1 W1 HM1;replace HM:=Lib.hid HM1;clear HM1))
    first|go_ret3|go_ret2
    exact ArgPost.no_ HNo.out HM.out.below
   have d1:decide ((T.length:Int)≤(k:Int) + 1)=false:=decide_eq_false (by omega)
   obtain ⟨t,ht⟩:∃ t,T[k]? = some t:=⟨_,List.getElem?_eq_getElem (by omega)⟩
   have hlt0:k < T.length:=by omega
   obtain ⟨b,rfl,hbc⟩:=tokAt HTk.out ht
   have HE0:=Lib.hid hbc
   clear hbc
   by_cases h4:t.kind=4
   ·cases hb:isT T (k + 1) [58] with
    | false=>
     have HNo:=Lib.hid (ctx_no HR1 (.inr (.inr hb)))
     have HB:=Lib.hid hb
     obtain ⟨kd,tx,nu,sc,dy,pt⟩:=t
     have HE:=Lib.hid (show Cells W (b.add (k * 8)) [.int .i64 kd,.string tx,.bool false,.int .u64 (nu / 18446744073709551616:Nat),.int .u64 (nu % 18446744073709551616:Nat),.int .i64 sc,.int .i64 dy,.int .i64 pt] from HE0.out)
     have q4:(kd == 4)=true:=by simpa using h4
     have q4n:(kd != 4)=false:=by unfold bne;rw [q4];rfl
     clear HR1 hb h4 ht HE0
     go_wp2_with (first|(go_at_call 82;(with_reducible refine (is_no HB.out (HM.out.sl HTk.out) (by omega) rfl (by decide)).mono ?_);rintro e W2 ⟨rfl,rfl⟩)|((with_reducible refine iat 33 ?_);(refine ixa rfl rfl rfl hlt0 ?_))|((with_reducible refine iat 35 ?_);(refine ldx0 (HM.out.olds HE.out) rfl rfl ?_))|((with_reducible refine iat 47 ?_);(refine ixa rfl rfl rfl hlt0 ?_))|((with_reducible refine iat 49 ?_);(refine ldxf (HM.out.olds HE.out) rfl rfl rfl ?_))|((with_reducible refine skip_op ?_ ?_);exact rfl)|refine mP ?_|((with_reducible refine ibuildSlice ?_);(first|refine bs1c (v:=.string _) rfl HM.out rfl rfl ?_|refine bs1A rfl HM.out rfl rfl rfl ?_);intro g1 W1 HM1;replace HM:=Lib.hid HM1;clear HM1))
     first|go_ret3|go_ret2
     exact ArgPost.no_ HNo.out HM.out.below
    | true=>
     simp only [G] at HR1
     rw [ht] at HR1
     simp only at HR1
     rw [if_pos h4,hb] at HR1
     have HB:=Lib.hid hb
     have hlt1:k + 2≤T.length:=isT_lt hb
     obtain ⟨kd,tx,nu,sc,dy,pt⟩:=t
     have HE:=Lib.hid (show Cells W (b.add (k * 8)) [.int .i64 kd,.string tx,.bool false,.int .u64 (nu / 18446744073709551616:Nat),.int .u64 (nu % 18446744073709551616:Nat),.int .i64 sc,.int .i64 dy,.int .i64 pt] from HE0.out)
     have q4:(kd == 4)=true:=by simpa using h4
     have q4n:(kd != 4)=false:=by unfold bne;rw [q4];rfl
     have HR:=Lib.hid HR1
     clear HR1 hb h4 ht HE0
     go_wp2_with (first|(go_at_call 82;(with_reducible refine (is_yes HB.out (HM.out.sl HTk.out) (by omega) rfl (by decide)).mono ?_);rintro e W2 ⟨rfl,rfl⟩)|((with_reducible refine iat 33 ?_);(refine ixa rfl rfl rfl hlt0 ?_))|((with_reducible refine iat 35 ?_);(refine ldx0 (HM.out.olds HE.out) rfl rfl ?_))|((with_reducible refine iat 47 ?_);(refine ixa rfl rfl rfl hlt0 ?_))|((with_reducible refine iat 49 ?_);(refine ldxf (HM.out.olds HE.out) rfl rfl rfl ?_))|((with_reducible refine skip_op ?_ ?_);exact rfl)|refine mP ?_|((with_reducible refine ibuildSlice ?_);(first|refine bs1c (v:=.string _) rfl HM.out rfl rfl ?_|refine bs1A rfl HM.out rfl rfl rfl ?_);intro g1 W1 HM1;replace HM:=Lib.hid HM1;clear HM1))
     go_loopw [15] (fun jv wr=>∃ j:Nat,jv = .int .i64 j∧j≤ns.length∧Hid (∀ y,y < j→∀ z,ns[y]? = some z→(z.toList == tx.toList)=false)∧Hid (Mem W wr [.row p0 c0 36 8 a.length (a.flatMap NodeD.cs),.row p2 c2 9 1 ns.length (ns.flatMap strC)])) (fun jv _=>ns.length - (intOf jv).toNat)
     case atStart=>exact ⟨0,rfl,Nat.zero_le _,Lib.hid (fun y hy=>absurd hy (Nat.not_lt_zero _)),HM⟩
     case round=>
      clear HM
      obtain ⟨j,rfl,hj,HJ,HM⟩:=hrel
      by_cases hlj:j < ns.length
      ·obtain ⟨z,hz⟩:∃ z,ns[j]? = some z:=⟨_,List.getElem?_eq_getElem hlj⟩
       obtain ⟨b2,rfl,hb2⟩:=(row_sl (HM.out.get (k:=1) rfl)).some_at strC_len (by decide) hlj
       have HZ:=Lib.hid (show Cells _ (b2.add (j * 1)) [.string z] from hb2.elem strC 1 strC_len hz)
       have d2:decide ((j:Int) < ns.length)=true:=decide_eq_true (by omega)
       clear hb2
       cases hq:(z.toList == tx.toList) with
       | true=>
        have HNo:=Lib.hid (show r = .no by
         rw [← HR.out]
         refine if_pos ?_
         rw [List.any_eq_true]
         exact ⟨z,List.mem_of_getElem? hz,hq⟩)
        clear HR hz
        go_wp2_with (first|((with_reducible refine iat 58 ?_);(refine ixa rfl rfl rfl hlj ?_))|((with_reducible refine iat 59 ?_);(refine ldx0 HZ.out rfl rfl ?_))|((with_reducible refine skip_op ?_ ?_);exact rfl)|refine mP ?_|((with_reducible refine ibuildSlice ?_);(first|refine bs1c (v:=.string _) rfl HM.out rfl rfl ?_|refine bs1A rfl HM.out rfl rfl rfl ?_);intro g1 W1 HM1;replace HM:=Lib.hid HM1;clear HM1))
        first|go_ret3|go_ret2
        exact ArgPost.no_ HNo.out HM.out.below
       | false=>
        have HJ2:=Lib.hid (show ∀ y,y < j + 1→∀ u,ns[y]? = some u→(u.toList == tx.toList)=false from fun y hy u hu=>by
         by_cases e:y=j
         ·subst e;rw [hz] at hu;cases hu;exact hq
         ·exact HJ.out y (by omega) u hu)
        clear HR hz HJ
        go_wp2_with (first|((with_reducible refine iat 58 ?_);(refine ixa rfl rfl rfl hlj ?_))|((with_reducible refine iat 59 ?_);(refine ldx0 HZ.out rfl rfl ?_))|((with_reducible refine skip_op ?_ ?_);exact rfl)|refine mP ?_|((with_reducible refine ibuildSlice ?_);(first|refine bs1c (v:=.string _) rfl HM.out rfl rfl ?_|refine bs1A rfl HM.out rfl rfl rfl ?_);intro g1 W1 HM1;replace HM:=Lib.hid HM1;clear HM1))
        go_roundw
        case rel=>exact ⟨j + 1,by go_num,by omega,HJ2,HM⟩
        case measure=>simp [intOf];omega
      ·obtain rfl:j=ns.length:=by omega
       have d2:decide ((ns.length:Int) < ns.length)=false:=by simp
       have hany:ns.any (fun x=>x.toList == tx.toList)=false:=by
        rw [List.any_eq_false]
        intro x hx
        obtain ⟨y,hy⟩:=List.mem_iff_getElem?.1 hx
        have:=HJ.out y (List.getElem?_eq_some_iff.1 hy).1 x hy
        rw [this]
        simp
       have HR0:=HR.out
       rw [hany] at HR0
       clear HR HJ hany
       have HR:=Lib.hid (show ((G T g .expr (k + 2)).bind _)=r from HR0)
       clear HR0
       go_wp2_with (first|(go_at_call 53;refine RC.use (ihE g (by omega)) HR.out hr (HM.out.sl HTk.out) (by omega) (by omega) (by simp) (fun hno p c l W2 hl hM2=>?_) (fun l m j hR2 hG p c W2 hM2=>?_);all_goals first|(have hg:=hG.lenc 0 rfl rfl rfl;clear hG;obtain ⟨hL,hF,hJ⟩:=hg;have HR1:=Lib.hid hR2;clear HR hR2;have HR:=HR1;clear HR1;have HM1:=Lib.hid (HM.out.comp2 hM2);clear HM hM2;(try clear W1);rename World=>W1;have HM:=HM1;clear HM1;simp only [List.cons_append,List.nil_append] at HM)|(have HNo:=Lib.hid hno;clear hno HR;have HM1:=Lib.hid (HM.out.comp2 hM2);clear HM hM2;(try clear W1);rename World=>W1;have HM:=HM1;clear HM1;simp only [List.cons_append,List.nil_append] at HM))|((with_reducible refine iat 65 ?_);(refine apS (la:=[tx]) rfl HM.out 2 rfl rfl rfl rfl rfl rfl (row_sl (box_row (n:=1) (k:=1) (HM.out.get (k:=0) rfl) rfl (by decide))) (by omega) (by simp) (by decide) ?_;intro p65 c65 W1 HM1;replace HM:=Lib.hid HM1;clear HM1;simp only [List.set,List.nil_append] at HM))|((with_reducible refine iat 78 ?_);(refine apN rfl HM.out 2 rfl rfl rfl rfl (by first|rfl|simp only [List.length_append,List.nil_append,List.length_nil,List.length_cons,Nat.zero_add]) rfl (row_sl (HM.out.get (k:=0) rfl)) om om (by decide) ?_;intro p78 c78 W1 HM1;replace HM:=Lib.hid HM1;clear HM1;simp only [List.set,List.nil_append] at HM))|((with_reducible refine iat 84 ?_);(have h5:Sl _ _ ([nTx 28 1 tx].flatMap NodeD.cs):=row_sl (box_row (n:=1) (k:=8) (HM.out.get (k:=0) rfl) rfl (by decide));refine apN (la:=[nTx 28 1 tx]) rfl HM.out 3 rfl rfl rfl rfl (by first|rfl|simp only [List.length_append,List.nil_append,List.length_nil,List.length_cons,Nat.zero_add]) rfl h5 om (by simp) (by decide) ?_;intro p84 c84 W2 HM1;clear h5;clear HM;(try clear W1);rename World=>W1;have HM:=Lib.hid HM1;clear HM1;simp only [List.set,List.nil_append] at HM))|(go_at_call 82;(first|refine is_use HR.out (HM.out.sl HTk.out) (by omega) hs (by simp) ?_ ?_|refine is_use HR.out (HM.out.sl HTk.out) (by omega) rfl (by decide) ?_ ?_);all_goals (intro hb hR2;(try have hltb:=isT_lt hb);clear hb;have HR1:=Lib.hid hR2;clear HR hR2;have HR:=HR1;clear HR1))|((with_reducible refine skip_op ?_ ?_);exact rfl)|refine mP ?_|((with_reducible refine ibuildSlice ?_);(first|refine bs1c (v:=.string _) rfl HM.out rfl rfl ?_|refine bs1A rfl HM.out rfl rfl rfl ?_);intro g1 W1 HM1;replace HM:=Lib.hid HM1;clear HM1))
       all_goals
        first
         |(go_roundw
           case rel=>exact ⟨g,j + 1,_,_,_,_,a++l++[nTx 28 1 tx],ns++[tx],by go_num,slice_len (by first|rfl|(simp only [List.length_append,List.length_cons,List.length_nil];done)|(simp only [List.length_append,List.length_cons,List.length_nil];omega)),slice_len (by first|rfl|(simp only [List.length_append,List.length_cons,List.length_nil];done)|(simp only [List.length_append,List.length_cons,List.length_nil];omega)),int_len (by simp only [List.length_append,List.length_cons,List.length_nil];omega),by omega,by omega,by (simp only [List.length_append,List.length_cons,List.length_nil];omega),by (simp only [List.length_append,List.length_cons,List.length_nil];omega),HR,Lib.hid (HM.out.sub (.cons _ (.cons _ (.cons _ (.refl _)))))⟩
           case measure=>simp [intOf];omega)
         |(go_ret3;exact ArgPost.no_ HNo.out HM.out.below)
         |(go_ret3;exact ArgPost.no_ HR.out.symm HM.out.below)
         |(go_ret3;exact ArgPost.okn HR.out (by first|rfl|(simp only [List.length_append,List.length_cons,List.length_nil];done)|(simp only [List.length_append,List.length_cons,List.length_nil];omega)) (by omega) (by omega) (HM.out.sub (.cons _ (.cons _ (.cons _ (.cons_cons _ (List.nil_sublist _)))))))
   ·have HNo:=Lib.hid (ctx_no HR1 (.inr (.inl ⟨t,ht,h4⟩)))
    obtain ⟨kd,tx,nu,sc,dy,pt⟩:=t
    have HE:=Lib.hid (show Cells W (b.add (k * 8)) [.int .i64 kd,.string tx,.bool false,.int .u64 (nu / 18446744073709551616:Nat),.int .u64 (nu % 18446744073709551616:Nat),.int .i64 sc,.int .i64 dy,.int .i64 pt] from HE0.out)
    have q4:(kd == 4)=false:=by simpa using h4
    have q4n:(kd != 4)=true:=by unfold bne;rw [q4];rfl
    clear HR1 h4 ht HE0
    go_wp2_with (first|((with_reducible refine iat 33 ?_);(refine ixa rfl rfl rfl hlt0 ?_))|((with_reducible refine iat 35 ?_);(refine ldx0 (HM.out.olds HE.out) rfl rfl ?_))|((with_reducible refine iat 47 ?_);(refine ixa rfl rfl rfl hlt0 ?_))|((with_reducible refine iat 49 ?_);(refine ldxf (HM.out.olds HE.out) rfl rfl rfl ?_))|((with_reducible refine skip_op ?_ ?_);exact rfl)|refine mP ?_|((with_reducible refine ibuildSlice ?_);(first|refine bs1c (v:=.string _) rfl HM.out rfl rfl ?_|refine bs1A rfl HM.out rfl rfl rfl ?_);intro g1 W1 HM1;replace HM:=Lib.hid HM1;clear HM1))
    first|go_ret3|go_ret2
    exact ArgPost.no_ HNo.out HM.out.below
theorem rArgsL_at {T:List TokD} (hT:TksOk T) (e0:UInt8) (s:ByteArray) (hs:s.data.toList=[e0]) (fuel:Nat) (ihE:∀ g,g≤fuel→RC T 53 .expr g):BC T s false (.list e0) fuel:=by
 cases fuel with
 | zero=>exact fun _ _ _ _ _ _ hne=>absurd rfl hne
 | succ f=>exact rArgsL hT e0 s hs f (fun g hg=>ihE g (by omega))
theorem rArgsC_at {T:List TokD} (hT:TksOk T) (s:ByteArray) (hs:s.data.toList=[125]) (fuel:Nat) (ihE:∀ g,g≤fuel→RC T 53 .expr g):BC T s true .ctx fuel:=by
 cases fuel with
 | zero=>exact fun _ _ _ _ _ _ hne=>absurd rfl hne
 | succ f=>exact rArgsC hT s hs f (fun g hg=>ihE g (by omega))
theorem GPost.one {r:PR} {w w' : World} {x:NodeD} {j:Nat} {d:Int} {g:Nat} {cs:List Value} {L:List Res} (h:PR.ok [x] 0 j=r) (hcs:cs=x.cs) (hd:d=(j:Int)) (hM:Mem w w' (.box g 36 cs :: L)):GPost r w (.returned (.tuple #[.slice (some ⟨g,0,none⟩) 1 1,.int .i64 d])) w':=by
 subst hcs hd
 have hM2:=(hM.boxrow (k:=0) (j:=8) (n:=1) rfl (NodeD.cs_len x) (by decide)).sub (L':=[.row (some ⟨g,0,none⟩) 1 36 8 1 x.cs]) (.cons_cons _ (List.nil_sublist _))
 exact GPost.okn (l:=[x]) h rfl rfl (by rw [List.flatMap_cons,List.flatMap_nil,List.append_nil];exact hM2)
set_option maxHeartbeats 32000000 in
theorem rSingle {T:List TokD} (hK:KndOk T) (hT:TksOk T) (fuel:Nat) (ihE:∀ g,g≤fuel→RC T 53 .expr g):RC T 147 .sing (fuel + 1):=by
 intro W tp tc i HT hi hne
 obtain ⟨r,hr⟩:∃ r,G T (fuel + 1) .sing i=r:=⟨_,rfl⟩
 rw [hr] at hne ⊢
 have HR:=Lib.hid hr
 clear hr
 have hr:r≠.out:=hne
 have HM:=Lib.hid (Mem.start W)
 have HTk:=Lib.hid HT
 have hT1:=hT.len
 clear hne HT
 simp only [G] at HR
 have HR0:=HR.out
 clear HR
 have H41:=Lib.hid (rArgsL_at hT 41 ⟨#[41]⟩ rfl fuel ihE)
 have H93:=Lib.hid (rArgsL_at hT 93 ⟨#[93]⟩ rfl fuel ihE)
 have H125:=Lib.hid (rArgsC_at hT ⟨#[125]⟩ rfl fuel ihE)
 cases ht:T[i]? with
 | none=>
  have hge:=List.getElem?_eq_none_iff.1 ht
  have HNo:=Lib.hid (show r = .no by rw [← HR0,ht])
  have d1:decide ((T.length:Int)≤i)=true:=decide_eq_true (by omega)
  clear HR0 ht
  go_enter Tryz.func147,Tryz.ntmps147
  go_wp2_with (first|((with_reducible refine skip_op ?_ ?_);exact rfl)|refine mP ?_|(refine mS ?_;clear HM;intro W1 HM)|(refine hbs1A HM rfl rfl rfl rfl ?_;clear HM;intro g1 W1 HM)|(refine hal HM rfl ?_;clear HM;intro g1 W1 HM))
  first|go_ret2|go_ret
  exact GPost.no_ HNo.out HM.out.below
 | some t=>
  have hlt:=some_lt ht
  have d1:decide ((T.length:Int)≤i)=false:=decide_eq_false (by omega)
  obtain ⟨b,rfl,hbc⟩:=tokAt HTk.out ht
  rw [ht] at HR0
  simp only at HR0
  obtain ⟨kd,tx,nu,sc,dy,pt⟩:=t
  dsimp only at HR0
  have hcs:(⟨kd,tx,nu,sc,dy,pt⟩:TokD).cs=[.int .i64 kd,.string tx,.bool false,.int .u64 (nu / 18446744073709551616:Nat),.int .u64 (nu % 18446744073709551616:Nat),.int .i64 sc,.int .i64 dy,.int .i64 pt]:=rfl
  rw [hcs] at hbc
  have HNum:=Lib.hid (show [.int .i64 4,.int .i64 0,.string ⟨#[]⟩,.bool false,.int .u64 (nu / 18446744073709551616:Nat),.int .u64 (nu % 18446744073709551616:Nat),.int .i64 sc,.int .i64 0]=(nNum ⟨kd,tx,nu,sc,dy,pt⟩).cs from rfl)
  have HDay:=Lib.hid (show [.int .i64 6,.int .i64 0,.string ⟨#[]⟩,.bool false,.int .u64 0,.int .u64 0,.int .i64 0,.int .i64 dy]=(nDay ⟨kd,tx,nu,sc,dy,pt⟩).cs from rfl)
  generalize nu / 18446744073709551616=nh at hbc HNum
  generalize nu % 18446744073709551616=nl at hbc HNum
  have HE:=Lib.hid hbc
  clear ht hbc hcs
  by_cases h1:kd=1
  ·rw [if_pos h1] at HR0
   have q1:(kd == 1)=true:=by simpa using h1
   have HR:=Lib.hid HR0
   clear HR0 h1
   go_enter Tryz.func147,Tryz.ntmps147
   go_wp2_with (first|((with_reducible refine iat 24 ?_);(refine ixa rfl rfl rfl hlt ?_))|((with_reducible refine iat 25 ?_);(refine ldxW (HM.out.olds HE.out) rfl rfl ?_))|((with_reducible refine skip_op ?_ ?_);exact rfl)|refine mP ?_|(refine mS ?_;clear HM;intro W1 HM)|(refine hbs1A HM rfl rfl rfl rfl ?_;clear HM;intro g1 W1 HM)|(refine hal (dst:=some 6) HM rfl ?_;clear HM;intro g6 W1 HM))
   first|go_ret2|go_ret
   exact GPost.one HR.out HNum.out (by omega) HM.out
  rw [if_neg h1] at HR0
  by_cases h2:kd=2
  ·rw [if_pos h2] at HR0
   have q1:(kd == 1)=false:=by simpa using h1
   have q2:(kd == 2)=true:=by simpa using h2
   have HR:=Lib.hid HR0
   clear HR0 h1 h2
   go_enter Tryz.func147,Tryz.ntmps147
   go_wp2_with (first|((with_reducible refine iat 24 ?_);(refine ixa rfl rfl rfl hlt ?_))|((with_reducible refine iat 25 ?_);(refine ldxW (HM.out.olds HE.out) rfl rfl ?_))|((with_reducible refine skip_op ?_ ?_);exact rfl)|refine mP ?_|(refine mS ?_;clear HM;intro W1 HM)|(refine hbs1A HM rfl rfl rfl rfl ?_;clear HM;intro g1 W1 HM)|(refine hal (dst:=some 6) HM rfl ?_;clear HM;intro g6 W1 HM))
   first|go_ret2|go_ret
   exact GPost.one HR.out rfl (by omega) HM.out
  rw [if_neg h2] at HR0
  by_cases h3:kd=3
  ·rw [if_pos h3] at HR0
   have q1:(kd == 1)=false:=by simpa using h1
   have q2:(kd == 2)=false:=by simpa using h2
   have q3:(kd == 3)=true:=by simpa using h3
   have HR:=Lib.hid HR0
   clear HR0 h1 h2 h3
   go_enter Tryz.func147,Tryz.ntmps147
   go_wp2_with (first|((with_reducible refine iat 24 ?_);(refine ixa rfl rfl rfl hlt ?_))|((with_reducible refine iat 25 ?_);(refine ldxW (HM.out.olds HE.out) rfl rfl ?_))|((with_reducible refine skip_op ?_ ?_);exact rfl)|refine mP ?_|(refine mS ?_;clear HM;intro W1 HM)|(refine hbs1A HM rfl rfl rfl rfl ?_;clear HM;intro g1 W1 HM)|(refine hal (dst:=some 6) HM rfl ?_;clear HM;intro g6 W1 HM))
   first|go_ret2|go_ret
   exact GPost.one HR.out HDay.out (by omega) HM.out
  rw [if_neg h3] at HR0
  by_cases h4:kd=4
  ·rw [if_pos h4] at HR0
   have q1:(kd == 1)=false:=by simpa using h1
   have q2:(kd == 2)=false:=by simpa using h2
   have q3:(kd == 3)=false:=by simpa using h3
   have q4:(kd == 4)=true:=by simpa using h4
   clear h1 h2 h3 h4
   cases hb:isT T (i + 1) [40] with
   | false=>
    rw [hb] at HR0
    have HR:=Lib.hid (show PR.ok _ 0 (i + 1)=r from HR0)
    have HB:=Lib.hid hb
    clear HR0 hb
    go_enter Tryz.func147,Tryz.ntmps147
    go_wp2_with (first|((with_reducible refine iat 24 ?_);(refine ixa rfl rfl rfl hlt ?_))|((with_reducible refine iat 25 ?_);(refine ldxW (HM.out.olds HE.out) rfl rfl ?_))|(go_at_call 82;first|((with_reducible refine (is_no HB.out (HM.out.sl HTk.out) (by omega) rfl (by decide)).mono ?_);rintro e W2 ⟨rfl,rfl⟩))|((with_reducible refine skip_op ?_ ?_);exact rfl)|refine mP ?_|(refine mS ?_;clear HM;intro W1 HM)|(refine hbs1A HM rfl rfl rfl rfl ?_;clear HM;intro g1 W1 HM)|(refine hal (dst:=some 6) HM rfl ?_;clear HM;intro g6 W1 HM))
    first|go_ret2|go_ret
    exact GPost.one HR.out rfl (by omega) HM.out
   | true=>
    rw [hb] at HR0
    have HR:=Lib.hid (show PR.bind _ _=r from HR0)
    have hlt2:i + 2≤T.length:=isT_lt hb
    have HB:=Lib.hid hb
    clear HR0 hb
    go_enter Tryz.func147,Tryz.ntmps147
    go_wp2_with (first|((with_reducible refine iat 24 ?_);(refine ixa rfl rfl rfl hlt ?_))|((with_reducible refine iat 25 ?_);(refine ldxW (HM.out.olds HE.out) rfl rfl ?_))|(go_at_call 82;first|((with_reducible refine (is_yes HB.out (HM.out.sl HTk.out) (by omega) rfl (by decide)).mono ?_);rintro e W2 ⟨rfl,rfl⟩))|(go_at_call 170;refine BC.use (H41.out) HR.out hr (HM.out.sl HTk.out) (by omega) (by omega) (by simp) (fun hno W2 hb=>?_) (fun l m j hR2 hG p c W2 hM2=>?_);all_goals first|(obtain ⟨hF,hJ,hL,hC,-⟩:=hG;simp only [NT.pg,NT.acc,NT.slk,NT.cnt,List.length_nil] at hF hL hC;(by_cases h8:8 < m);all_goals ((first|(rw [if_pos h8] at hR2;have d8:decide ((8:Int) < m)=true:=decide_eq_true (by omega);have d8n:decide (8 < m)=true:=decide_eq_true h8)|(rw [if_neg h8] at hR2;have d8:decide ((8:Int) < m)=false:=decide_eq_false (by omega);have d8n:decide (8 < m)=false:=decide_eq_false h8));clear h8;have HR1:=Lib.hid hR2;clear HR hR2;have HR:=HR1;clear HR1;have HM1:=Lib.hid (HM.out.comp2 hM2);clear HM hM2;(try clear W1);rename World=>W1;have HM:=HM1;clear HM1;simp only [List.cons_append,List.nil_append] at HM))|(have HNo:=Lib.hid hno;clear hno HR;have HM1:=(HM.out.next hb).row0 36 8;clear hb;clear HM;(try clear W1);rename World=>W1;have HM:=Lib.hid HM1;clear HM1))|((with_reducible refine iat 86 ?_);(have h5:Sl _ _ ([nTx 25 (m:Int) tx].flatMap NodeD.cs):=row_sl (box_row (n:=1) (k:=8) (HM.out.get (k:=0) rfl) rfl (by decide));refine apN (la:=[nTx 25 (m:Int) tx]) rfl HM.out 1 rfl rfl rfl rfl (by first|rfl|simp only [List.length_append,List.nil_append,List.length_nil,List.length_cons,Nat.zero_add]) rfl h5 om (by simp) (by decide) ?_;intro p86 c86 W2 HM1;clear h5;clear HM;(try clear W1);rename World=>W1;have HM:=Lib.hid HM1;clear HM1;simp only [List.set,List.nil_append] at HM))|((with_reducible refine skip_op ?_ ?_);exact rfl)|refine mP ?_|(refine mS ?_;clear HM;intro W1 HM)|(refine hbs1A HM rfl rfl rfl rfl ?_;clear HM;intro g1 W1 HM)|(refine hal (dst:=some 6) HM rfl ?_;clear HM;intro g6 W1 HM))
    all_goals first|go_ret2|go_ret
    all_goals (first|exact GPost.okn HR.out (by first|rfl|(simp only [List.length_append,List.length_cons,List.length_nil];done)) (by omega) (HM.out.sub (.cons _ (.cons_cons _ (List.nil_sublist _))))|exact GPost.no_ HNo.out HM.out.below|exact GPost.no_ HR.out.symm HM.out.below)
  rw [if_neg h4] at HR0
  have q1:(kd == 1)=false:=by simpa using h1
  have q2:(kd == 2)=false:=by simpa using h2
  have q3:(kd == 3)=false:=by simpa using h3
  have q4:(kd == 4)=false:=by simpa using h4
  clear h1 h2 h3 h4
  by_cases hb0:isT T i [110,117,108,108]=true
  ·rw [if_pos hb0] at HR0
   have HR:=Lib.hid HR0
   have HB0:=Lib.hid hb0
   clear HR0 hb0
   go_enter Tryz.func147,Tryz.ntmps147
   go_wp2_with (first|((with_reducible refine iat 24 ?_);(refine ixa rfl rfl rfl hlt ?_))|((with_reducible refine iat 25 ?_);(refine ldxW (HM.out.olds HE.out) rfl rfl ?_))|(go_at_call 82;first|((with_reducible refine (is_yes HB0.out (HM.out.sl HTk.out) (by omega) rfl (by decide)).mono ?_);rintro e W2 ⟨rfl,rfl⟩))|((with_reducible refine skip_op ?_ ?_);exact rfl)|refine mP ?_|(refine mS ?_;clear HM;intro W1 HM)|(refine hbs1A HM rfl rfl rfl rfl ?_;clear HM;intro g1 W1 HM)|(refine hal (dst:=some 6) HM rfl ?_;clear HM;intro g6 W1 HM))
   first|go_ret2|go_ret
   exact GPost.one HR.out rfl (by omega) HM.out
  have HB0:=Lib.hid (show isT T i [110,117,108,108]=false by simpa using hb0)
  rw [if_neg hb0] at HR0
  clear hb0
  by_cases hb1:isT T i [116,114,117,101]=true
  ·rw [if_pos hb1] at HR0
   have HR:=Lib.hid HR0
   have HB1:=Lib.hid hb1
   clear HR0 hb1
   go_enter Tryz.func147,Tryz.ntmps147
   go_wp2_with (first|((with_reducible refine iat 24 ?_);(refine ixa rfl rfl rfl hlt ?_))|((with_reducible refine iat 25 ?_);(refine ldxW (HM.out.olds HE.out) rfl rfl ?_))|(go_at_call 82;first|((with_reducible refine (is_no HB0.out (HM.out.sl HTk.out) (by omega) rfl (by decide)).mono ?_);rintro e W2 ⟨rfl,rfl⟩)|((with_reducible refine (is_yes HB1.out (HM.out.sl HTk.out) (by omega) rfl (by decide)).mono ?_);rintro e W2 ⟨rfl,rfl⟩))|((with_reducible refine skip_op ?_ ?_);exact rfl)|refine mP ?_|(refine mS ?_;clear HM;intro W1 HM)|(refine hbs1A HM rfl rfl rfl rfl ?_;clear HM;intro g1 W1 HM)|(refine hal (dst:=some 6) HM rfl ?_;clear HM;intro g6 W1 HM))
   first|go_ret2|go_ret
   exact GPost.one HR.out rfl (by omega) HM.out
  have HB1:=Lib.hid (show isT T i [116,114,117,101]=false by simpa using hb1)
  rw [if_neg hb1] at HR0
  clear hb1
  by_cases hb2:isT T i [102,97,108,115,101]=true
  ·rw [if_pos hb2] at HR0
   have HR:=Lib.hid HR0
   have HB2:=Lib.hid hb2
   clear HR0 hb2
   go_enter Tryz.func147,Tryz.ntmps147
   go_wp2_with (first|((with_reducible refine iat 24 ?_);(refine ixa rfl rfl rfl hlt ?_))|((with_reducible refine iat 25 ?_);(refine ldxW (HM.out.olds HE.out) rfl rfl ?_))|(go_at_call 82;first|((with_reducible refine (is_no HB0.out (HM.out.sl HTk.out) (by omega) rfl (by decide)).mono ?_);rintro e W2 ⟨rfl,rfl⟩)|((with_reducible refine (is_no HB1.out (HM.out.sl HTk.out) (by omega) rfl (by decide)).mono ?_);rintro e W2 ⟨rfl,rfl⟩)|((with_reducible refine (is_yes HB2.out (HM.out.sl HTk.out) (by omega) rfl (by decide)).mono ?_);rintro e W2 ⟨rfl,rfl⟩))|((with_reducible refine skip_op ?_ ?_);exact rfl)|refine mP ?_|(refine mS ?_;clear HM;intro W1 HM)|(refine hbs1A HM rfl rfl rfl rfl ?_;clear HM;intro g1 W1 HM)|(refine hal (dst:=some 6) HM rfl ?_;clear HM;intro g6 W1 HM))
   first|go_ret2|go_ret
   exact GPost.one HR.out rfl (by omega) HM.out
  have HB2:=Lib.hid (show isT T i [102,97,108,115,101]=false by simpa using hb2)
  rw [if_neg hb2] at HR0
  clear hb2
  by_cases hb3:isT T i [40]=true
  ·rw [if_pos hb3] at HR0
   have HR:=Lib.hid HR0
   have HB3:=Lib.hid hb3
   clear HR0 hb3
   go_enter Tryz.func147,Tryz.ntmps147
   go_wp2_with (first|((with_reducible refine iat 24 ?_);(refine ixa rfl rfl rfl hlt ?_))|((with_reducible refine iat 25 ?_);(refine ldxW (HM.out.olds HE.out) rfl rfl ?_))|(go_at_call 82;first|((with_reducible refine (is_no HB0.out (HM.out.sl HTk.out) (by omega) rfl (by decide)).mono ?_);rintro e W2 ⟨rfl,rfl⟩)|((with_reducible refine (is_no HB1.out (HM.out.sl HTk.out) (by omega) rfl (by decide)).mono ?_);rintro e W2 ⟨rfl,rfl⟩)|((with_reducible refine (is_no HB2.out (HM.out.sl HTk.out) (by omega) rfl (by decide)).mono ?_);rintro e W2 ⟨rfl,rfl⟩)|((with_reducible refine (is_yes HB3.out (HM.out.sl HTk.out) (by omega) rfl (by decide)).mono ?_);rintro e W2 ⟨rfl,rfl⟩)|(refine is_use HR.out (HM.out.sl HTk.out) (by omega) rfl (by decide) ?_ ?_;all_goals (intro hb hR2;(try have hlt:=isT_lt hb);clear hb;have HR1:=Lib.hid hR2;clear HR hR2;have HR:=HR1;clear HR1)))|(go_at_call 53;refine RC.use (ihE fuel (Nat.le_refl _)) HR.out hr (HM.out.sl HTk.out) (by omega) (by omega) (by simp) (fun hno p c l W2 hl hM2=>?_) (fun l m j hR2 hG p c W2 hM2=>?_);all_goals first|(have hg:=hG.lenc 0 rfl rfl rfl;clear hG;obtain ⟨hL,hF,hJ⟩:=hg;have HR1:=Lib.hid hR2;clear HR hR2;have HR:=HR1;clear HR1;have HM1:=Lib.hid (HM.out.comp2 hM2);clear HM hM2;(try clear W1);rename World=>W1;have HM:=HM1;clear HM1;simp only [List.cons_append,List.nil_append] at HM)|(have HNo:=Lib.hid hno;clear hno HR;have HM1:=Lib.hid (HM.out.comp2 hM2);clear HM hM2;(try clear W1);rename World=>W1;have HM:=HM1;clear HM1;simp only [List.cons_append,List.nil_append] at HM))|((with_reducible refine skip_op ?_ ?_);exact rfl)|refine mP ?_|(refine mS ?_;clear HM;intro W1 HM)|(refine hbs1A HM rfl rfl rfl rfl ?_;clear HM;intro g1 W1 HM)|(refine hal (dst:=some 6) HM rfl ?_;clear HM;intro g6 W1 HM))
   all_goals first|go_ret2|go_ret
   all_goals (first|exact GPost.okn HR.out (by first|rfl|(simp only [List.length_append,List.length_cons,List.length_nil];done)) (by omega) (HM.out.sub (.cons _ (.cons_cons _ (List.nil_sublist _))))|exact GPost.okn HR.out rfl (by omega) (HM.out.sub (.cons_cons _ (List.nil_sublist _)))|exact GPost.no_ HNo.out HM.out.below|exact GPost.no_ HR.out.symm HM.out.below|exact GPost.noL HNo.out (by decide) (HM.out.sub (.cons _ (.cons_cons _ (List.nil_sublist _)))))
  have HB3:=Lib.hid (show isT T i [40]=false by simpa using hb3)
  rw [if_neg hb3] at HR0
  clear hb3
  by_cases hb4:isT T i [91]=true
  ·rw [if_pos hb4] at HR0
   have HR:=Lib.hid HR0
   have HB4:=Lib.hid hb4
   clear HR0 hb4
   go_enter Tryz.func147,Tryz.ntmps147
   go_wp2_with (first|((with_reducible refine iat 24 ?_);(refine ixa rfl rfl rfl hlt ?_))|((with_reducible refine iat 25 ?_);(refine ldxW (HM.out.olds HE.out) rfl rfl ?_))|(go_at_call 82;first|((with_reducible refine (is_no HB0.out (HM.out.sl HTk.out) (by omega) rfl (by decide)).mono ?_);rintro e W2 ⟨rfl,rfl⟩)|((with_reducible refine (is_no HB1.out (HM.out.sl HTk.out) (by omega) rfl (by decide)).mono ?_);rintro e W2 ⟨rfl,rfl⟩)|((with_reducible refine (is_no HB2.out (HM.out.sl HTk.out) (by omega) rfl (by decide)).mono ?_);rintro e W2 ⟨rfl,rfl⟩)|((with_reducible refine (is_no HB3.out (HM.out.sl HTk.out) (by omega) rfl (by decide)).mono ?_);rintro e W2 ⟨rfl,rfl⟩)|((with_reducible refine (is_yes HB4.out (HM.out.sl HTk.out) (by omega) rfl (by decide)).mono ?_);rintro e W2 ⟨rfl,rfl⟩))|(go_at_call 170;refine BC.use (H93.out) HR.out hr (HM.out.sl HTk.out) (by omega) (by omega) (by simp) (fun hno W2 hb=>?_) (fun l m j hR2 hG p c W2 hM2=>?_);all_goals first|(obtain ⟨hF,hJ,hL,hC,-⟩:=hG;simp only [NT.pg,NT.acc,NT.slk,NT.cnt,List.length_nil] at hF hL hC;have HR1:=Lib.hid hR2;clear HR hR2;have HR:=HR1;clear HR1;have HM1:=Lib.hid (HM.out.comp2 hM2);clear HM hM2;(try clear W1);rename World=>W1;have HM:=HM1;clear HM1;simp only [List.cons_append,List.nil_append] at HM)|(have HNo:=Lib.hid hno;clear hno HR;have HM1:=(HM.out.next hb).row0 36 8;clear hb;clear HM;(try clear W1);rename World=>W1;have HM:=Lib.hid HM1;clear HM1))|(first|((with_reducible refine iat 160 ?_);(have h5:Sl _ _ ([nOp 26 (m:Int)].flatMap NodeD.cs):=row_sl (box_row (n:=1) (k:=8) (HM.out.get (k:=0) rfl) rfl (by decide));refine apN (la:=[nOp 26 (m:Int)]) rfl HM.out 1 rfl rfl rfl rfl (by first|rfl|simp only [List.length_append,List.nil_append,List.length_nil,List.length_cons,Nat.zero_add]) rfl h5 om (by simp) (by decide) ?_;intro p160 c160 W2 HM1;clear h5;clear HM;(try clear W1);rename World=>W1;have HM:=Lib.hid HM1;clear HM1;simp only [List.set,List.nil_append] at HM))|((with_reducible refine iat 160 ?_);(have h5:Sl _ _ ([nOp 26 0].flatMap NodeD.cs):=row_sl (box_row (n:=1) (k:=8) (HM.out.get (k:=0) rfl) rfl (by decide));refine apN (l:=[]) (la:=[nOp 26 0]) rfl HM.out 1 rfl rfl rfl rfl (by first|rfl|simp only [List.length_append,List.nil_append,List.length_nil,List.length_cons,Nat.zero_add]) rfl h5 om (by simp) (by decide) ?_;intro p160 c160 W2 HM1;clear h5;clear HM;(try clear W1);rename World=>W1;have HM:=Lib.hid HM1;clear HM1;simp only [List.set,List.nil_append] at HM)))|((with_reducible refine skip_op ?_ ?_);exact rfl)|refine mP ?_|(refine mS ?_;clear HM;intro W1 HM)|(refine hbs1A HM rfl rfl rfl rfl ?_;clear HM;intro g1 W1 HM)|(refine hal (dst:=some 6) HM rfl ?_;clear HM;intro g6 W1 HM))
   all_goals first|go_ret2|go_ret
   all_goals (first|exact GPost.okn HR.out (by first|rfl|(simp only [List.length_append,List.length_cons,List.length_nil];done)) (by omega) (HM.out.sub (.cons _ (.cons_cons _ (List.nil_sublist _))))|exact GPost.okn HR.out rfl (by omega) (HM.out.sub (.cons_cons _ (List.nil_sublist _)))|exact GPost.no_ HNo.out HM.out.below|exact GPost.no_ HR.out.symm HM.out.below|exact GPost.noL HNo.out (by decide) (HM.out.sub (.cons _ (.cons_cons _ (List.nil_sublist _)))))
  have HB4:=Lib.hid (show isT T i [91]=false by simpa using hb4)
  rw [if_neg hb4] at HR0
  clear hb4
  by_cases hb5:isT T i [123]=true
  ·rw [if_pos hb5] at HR0
   have HR:=Lib.hid HR0
   have HB5:=Lib.hid hb5
   clear HR0 hb5
   go_enter Tryz.func147,Tryz.ntmps147
   go_wp2_with (first|((with_reducible refine iat 24 ?_);(refine ixa rfl rfl rfl hlt ?_))|((with_reducible refine iat 25 ?_);(refine ldxW (HM.out.olds HE.out) rfl rfl ?_))|(go_at_call 82;first|((with_reducible refine (is_no HB0.out (HM.out.sl HTk.out) (by omega) rfl (by decide)).mono ?_);rintro e W2 ⟨rfl,rfl⟩)|((with_reducible refine (is_no HB1.out (HM.out.sl HTk.out) (by omega) rfl (by decide)).mono ?_);rintro e W2 ⟨rfl,rfl⟩)|((with_reducible refine (is_no HB2.out (HM.out.sl HTk.out) (by omega) rfl (by decide)).mono ?_);rintro e W2 ⟨rfl,rfl⟩)|((with_reducible refine (is_no HB3.out (HM.out.sl HTk.out) (by omega) rfl (by decide)).mono ?_);rintro e W2 ⟨rfl,rfl⟩)|((with_reducible refine (is_no HB4.out (HM.out.sl HTk.out) (by omega) rfl (by decide)).mono ?_);rintro e W2 ⟨rfl,rfl⟩)|((with_reducible refine (is_yes HB5.out (HM.out.sl HTk.out) (by omega) rfl (by decide)).mono ?_);rintro e W2 ⟨rfl,rfl⟩))|(go_at_call 170;refine BC.use (H125.out) HR.out hr (HM.out.sl HTk.out) (by omega) (by omega) (by simp) (fun hno W2 hb=>?_) (fun l m j hR2 hG p c W2 hM2=>?_);all_goals first|(obtain ⟨hF,hJ,hL,hC,-⟩:=hG;simp only [NT.pg,NT.acc,NT.slk,NT.cnt,List.length_nil] at hF hL hC;have HR1:=Lib.hid hR2;clear HR hR2;have HR:=HR1;clear HR1;have HM1:=Lib.hid (HM.out.comp2 hM2);clear HM hM2;(try clear W1);rename World=>W1;have HM:=HM1;clear HM1;simp only [List.cons_append,List.nil_append] at HM)|(have HNo:=Lib.hid hno;clear hno HR;have HM1:=(HM.out.next hb).row0 36 8;clear hb;clear HM;(try clear W1);rename World=>W1;have HM:=Lib.hid HM1;clear HM1))|(first|((with_reducible refine iat 178 ?_);(have h5:Sl _ _ ([nOp 27 (m:Int)].flatMap NodeD.cs):=row_sl (box_row (n:=1) (k:=8) (HM.out.get (k:=0) rfl) rfl (by decide));refine apN (la:=[nOp 27 (m:Int)]) rfl HM.out 1 rfl rfl rfl rfl (by first|rfl|simp only [List.length_append,List.nil_append,List.length_nil,List.length_cons,Nat.zero_add]) rfl h5 om (by simp) (by decide) ?_;intro p178 c178 W2 HM1;clear h5;clear HM;(try clear W1);rename World=>W1;have HM:=Lib.hid HM1;clear HM1;simp only [List.set,List.nil_append] at HM))|((with_reducible refine iat 178 ?_);(have h5:Sl _ _ ([nOp 27 0].flatMap NodeD.cs):=row_sl (box_row (n:=1) (k:=8) (HM.out.get (k:=0) rfl) rfl (by decide));refine apN (l:=[]) (la:=[nOp 27 0]) rfl HM.out 1 rfl rfl rfl rfl (by first|rfl|simp only [List.length_append,List.nil_append,List.length_nil,List.length_cons,Nat.zero_add]) rfl h5 om (by simp) (by decide) ?_;intro p178 c178 W2 HM1;clear h5;clear HM;(try clear W1);rename World=>W1;have HM:=Lib.hid HM1;clear HM1;simp only [List.set,List.nil_append] at HM)))|((with_reducible refine skip_op ?_ ?_);exact rfl)|refine mP ?_|(refine mS ?_;clear HM;intro W1 HM)|(refine hbs1A HM rfl rfl rfl rfl ?_;clear HM;intro g1 W1 HM)|(refine hal (dst:=some 6) HM rfl ?_;clear HM;intro g6 W1 HM))
   all_goals first|go_ret2|go_ret
   all_goals (first|exact GPost.okn HR.out (by first|rfl|(simp only [List.length_append,List.length_cons,List.length_nil];done)) (by omega) (HM.out.sub (.cons _ (.cons_cons _ (List.nil_sublist _))))|exact GPost.okn HR.out rfl (by omega) (HM.out.sub (.cons_cons _ (List.nil_sublist _)))|exact GPost.no_ HNo.out HM.out.below|exact GPost.no_ HR.out.symm HM.out.below|exact GPost.noL HNo.out (by decide) (HM.out.sub (.cons _ (.cons_cons _ (List.nil_sublist _)))))
  have HB5:=Lib.hid (show isT T i [123]=false by simpa using hb5)
  rw [if_neg hb5] at HR0
  clear hb5
  have HNo:=Lib.hid HR0.symm
  clear HR0
  go_enter Tryz.func147,Tryz.ntmps147
  go_wp2_with (first|((with_reducible refine iat 24 ?_);(refine ixa rfl rfl rfl hlt ?_))|((with_reducible refine iat 25 ?_);(refine ldxW (HM.out.olds HE.out) rfl rfl ?_))|(go_at_call 82;first|((with_reducible refine (is_no HB0.out (HM.out.sl HTk.out) (by omega) rfl (by decide)).mono ?_);rintro e W2 ⟨rfl,rfl⟩)|((with_reducible refine (is_no HB1.out (HM.out.sl HTk.out) (by omega) rfl (by decide)).mono ?_);rintro e W2 ⟨rfl,rfl⟩)|((with_reducible refine (is_no HB2.out (HM.out.sl HTk.out) (by omega) rfl (by decide)).mono ?_);rintro e W2 ⟨rfl,rfl⟩)|((with_reducible refine (is_no HB3.out (HM.out.sl HTk.out) (by omega) rfl (by decide)).mono ?_);rintro e W2 ⟨rfl,rfl⟩)|((with_reducible refine (is_no HB4.out (HM.out.sl HTk.out) (by omega) rfl (by decide)).mono ?_);rintro e W2 ⟨rfl,rfl⟩)|((with_reducible refine (is_no HB5.out (HM.out.sl HTk.out) (by omega) rfl (by decide)).mono ?_);rintro e W2 ⟨rfl,rfl⟩))|((with_reducible refine skip_op ?_ ?_);exact rfl)|refine mP ?_|(refine mS ?_;clear HM;intro W1 HM)|(refine hbs1A HM rfl rfl rfl rfl ?_;clear HM;intro g1 W1 HM)|(refine hal (dst:=some 6) HM rfl ?_;clear HM;intro g6 W1 HM))
  first|go_ret2|go_ret
  exact GPost.no_ HNo.out HM.out.below
end Go.Proofs.YtheimopjglkgjaaGreatDoor
