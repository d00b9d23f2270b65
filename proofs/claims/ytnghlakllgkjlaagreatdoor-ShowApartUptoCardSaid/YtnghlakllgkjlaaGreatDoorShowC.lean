/- Show: tell, of any node that is right. (short) -/
import Derived.Test.YtnghlakllgkjlaaGreatDoorShowB
namespace Go.Proofs.YtnghlakllgkjlaaGreatDoor
open Go.RowKit
set_option linter.unusedVariables false
set_option linter.unusedSimpArgs false
set_option maxRecDepth 100000
theorem kids_fix {op k:Int} {m:Int} (h:kidsB op k=true) (ha:arI op=(m,m)) (hm:0≤m):k=m:=by
 unfold kidsB at h
 have:=of_decide_eq_true h
 rw [ha] at this
 simp only at this
 omega
set_option maxHeartbeats 8000000 in
theorem shTell_leaf (op kids:Int) (t:Tx) (neg:Bool) (hi lo:Nat) (sc day:Int) (pp:Option Addr) (c:Nat) (T:Tx) (w:World) (ho:1≤op∧op≤7∨op=29) (hk:kids=0)
  (HL:∀ W,RowKit.Below w.heap.size w W→Calls Tryz.prog 83 #[.agg #[.int .i64 op,.int .i64 kids,.string ⟨t.toArray⟩,.bool neg,.int .u64 hi,.int .u64 lo,.int .i64 sc,.int .i64 day]] W fun e w'=>e = .returned (.string ⟨T.toArray⟩)∧RowKit.Below W.heap.size W w') :
  Calls Tryz.prog 35 #[.agg #[.int .i64 op,.int .i64 kids,.string ⟨t.toArray⟩,.bool neg,.int .u64 hi,.int .u64 lo,.int .i64 sc,.int .i64 day],.slice pp 0 c] w fun e w'=>e = .returned (.string ⟨T.toArray⟩)∧RowKit.Below w.heap.size w w':=by
 have HM:=Lib.hid (Mem.start w)
 subst hk
 have HL:=Lib.hid HL
 rcases ho with ⟨h1,h2⟩|rfl
 all_goals
  go_enter Tryz.func35,Tryz.ntmps35
  go_wp2_with (first|refine mP ?_|((with_reducible refine iat 2 ?_);refine mB ?_;clear HM;intro g2 W1 HM)|(go_at_call 83;(with_reducible refine cB HM (HL.out _ HM.out.below) ?_);clear HM;intro W1 HM))
  go_ret
  exact ⟨rfl,HM.out.below⟩
set_option maxHeartbeats 4000000 in
theorem shLeaf_any (n:NodeD) (w W:World) (hb:RowKit.Below w.heap.size w W) (hU:U8 w) (hP:PowT w) (hf:fieldsB n=true) (hwf:n.wf) (ho:1≤n.op∧n.op≤7∨n.op=29) :
  Calls Tryz.prog 83 #[.agg n.cs.toArray] W fun e w'=>e = .returned (.string ⟨(tellF n []).toArray⟩)∧RowKit.Below W.heap.size W w':=by
 have hok:=fields_ok hf
 obtain ⟨op,kids,text,neg,hi,lo,sc,day⟩:=n
 obtain ⟨t,rfl⟩:∃ t:Tx,text=⟨t.toArray⟩:=⟨text.data.toList,rfl⟩
 simp only [NodeD.num] at hok ho
 have e1:tellF ⟨op,kids,⟨t.toArray⟩,neg,hi,lo,sc,day⟩ []=leafT op t ⟨neg,hi,lo,sc⟩ day:=by
  have h:op=1∨op=2∨op=3∨op=4∨op=5∨op=6∨op=7∨op=29:=by omega
  rcases h with rfl|rfl|rfl|rfl|rfl|rfl|rfl|rfl <;> rfl
 rw [e1]
 have h:(op=1∨op=2∨op=3∨op=7∨op=29)∨op=4∨op=5∨op=6:=by omega
 rcases h with h|h|h|h
 ·exact shLeaf_const op kids t neg hi lo sc day W h
 ·refine shLeaf_num op kids t neg hi lo sc day W h ?_ ⟨hwf.hi,hwf.lo⟩
  subst h
  unfold okB at hok
  rw [if_pos rfl,Bool.and_eq_true] at hok
  exact hok.1
 ·subst h
  unfold okB at hok
  rw [if_neg (by decide),if_pos rfl,Bool.and_eq_true,decide_eq_true_eq] at hok
  exact shLeaf_text 5 kids t neg hi lo sc day W rfl (U8.below hU hb) hok.1 hok.2
 ·subst h
  unfold okB at hok
  rw [if_neg (by decide),if_neg (by decide),if_pos rfl,Bool.and_eq_true,decide_eq_true_eq,decide_eq_true_eq] at hok
  exact shLeaf_day 6 kids t neg hi lo sc day W rfl (tab_below hb hP) hok
theorem atF_raw {op:Int} (h:∀ i,askF op i=0) (o:Int) (i:Nat) {t:Tx}:atF t (lvlF o) (askF op i)=t:=atF_low (by rw [h];have:=(lvlF_bd o).1;omega)
theorem span_two {t:Tx} {neg:Bool} {n:Nat} {sc day:Int} (h:okB 35 ⟨t.toArray⟩ neg n sc day=true):t.length=2:=by
 unfold okB spanB at h
 rw [if_neg (by decide),if_neg (by decide),if_neg (by decide),if_pos rfl,decide_eq_true_eq,ByteArray.toList_eq] at h
 have h:t=[91,93]∨t=[91,41]∨t=[40,93]∨t=[40,41]:=h
 rcases h with rfl|rfl|rfl|rfl <;> rfl
theorem len_one {α:Type} {l:List α} (h:l.length=1):∃ a,l=[a]:=List.length_eq_one_iff.1 h
theorem len_two {α:Type} {l:List α} (h:l.length=2):∃ a b,l=[a,b]:=by
 match l,h with
 | [a,b],_=>exact ⟨a,b,rfl⟩
theorem len_three {α:Type} {l:List α} (h:l.length=3):∃ a b c,l=[a,b,c]:=by
 match l,h with
 | [a,b,c],_=>exact ⟨a,b,c,rfl⟩
theorem some_cells {ps:List (Tx × Int)} {w:World} {p:Option Addr} (h:Sl w p (ps.flatMap pcC)) (hl:0 < ps.length):∃ b,p=some b∧Cells w b (ps.flatMap pcC):=by
 obtain ⟨b,e,hb⟩:=h.some_at pcC_len (by decide) hl
 exact ⟨b,e,hb⟩
set_option maxHeartbeats 8000000 in
theorem shTell_any (n:NodeD) (p:Option Addr) (c:Nat) (ps:List (Tx × Int)) (w:World) (hU:U8 w) (hP:PowT w) (hS:Sl w p (ps.flatMap pcC)) (hf:fieldsB n=true) (hk:kidsB n.op n.kids=true) (hl:(ps.length:Int)=n.kids) (hb:∀ x ∈ ps,x.1.length≤1000) (h300:ps.length≤300) (h23:n.op=23→∃ x,ps.map (·.2)=[x,36]) (hwf:n.wf) :
  Calls Tryz.prog 35 #[.agg n.cs.toArray,.slice p ps.length c] w fun e w'=>e = .returned (.string ⟨(tellF n (barsF n.op 0 ps)).toArray⟩)∧RowKit.Below w.heap.size w w':=by
 have hop:=kidsB_op hk
 have hok:=fields_ok hf
 by_cases hleaf:1≤n.op∧n.op≤7∨n.op=29
 ·have h0:n.kids=0:=kids_fix hk (by unfold arI;rw [if_pos (by omega)]) (by omega)
  have hps:ps=[]:=List.length_eq_zero_iff.1 (by omega)
  subst hps
  have HL:=shLeaf_any n w
  obtain ⟨op,kids,text,neg,hi,lo,sc,day⟩:=n
  obtain ⟨t,rfl⟩:∃ t:Tx,text=⟨t.toArray⟩:=⟨text.data.toList,rfl⟩
  exact shTell_leaf op kids t neg hi lo sc day p c _ w hleaf h0 (fun W hW=>HL W hW hU hP hf hwf hleaf)
 have htx:=hwf.text
 obtain ⟨op,kids,text,neg,hi,lo,sc,day⟩:=n
 obtain ⟨t,rfl⟩:∃ t:Tx,text=⟨t.toArray⟩:=⟨text.data.toList,rfl⟩
 simp only at hop hok hk hl h23 hleaf
 have ht:t.length≤1099511627776:=htx
 clear hf hwf htx
 by_cases h2:9≤op∧op≤20
 ·have h0:kids=2:=kids_fix hk (by unfold arI;rw [if_neg (by omega),if_neg (by omega),if_pos (by omega)]) (by omega)
  obtain ⟨x,y,rfl⟩:=len_two (show ps.length=2 by omega)
  obtain ⟨b,rfl,hc⟩:=some_cells hS (by simp)
  have h:=shTell_two op kids t neg hi lo sc day b c x y w h2 h0 hc (hb x (by simp)) (hb y (by simp)) ht
  have e:tellF ⟨op,kids,⟨t.toArray⟩,neg,hi,lo,sc,day⟩ (barsF op 0 [x,y])=atF x.1 (lvlF x.2) (askF op 0)++signF op++atF y.1 (lvlF y.2) (askF op 1):=by
   unfold tellF
   simp only [barsF,List.getD_cons_zero,List.getD_cons_succ]
   repeat (rw [if_neg (by omega)])
  rw [e]
  exact h
 have hcs:op=8∨op=21∨op=22∨op=23∨op=24∨op=25∨op=26∨op=27∨op=28∨op=30∨op=31∨op=32∨op=33∨op=34∨op=35∨op=36∨op=37:=by omega
 have hrow:(op=25∨op=26∨op=27∨op=36)→barsF op 0 ps=ps.map (·.1):=fun h=>barsF_plain (ask_zero (by omega)) ps 0
 rcases hcs with rfl|rfl|rfl|rfl|rfl|rfl|rfl|rfl|rfl|rfl|rfl|rfl|rfl|rfl|rfl|rfl|rfl
 ·have h0:kids=1:=kids_fix hk (by decide) (by decide)
  obtain ⟨x,rfl⟩:=len_one (show ps.length=1 by omega)
  obtain ⟨b,rfl,hc⟩:=some_cells hS (by simp)
  have h:=shTell_neg 8 kids t neg hi lo sc day b c x w rfl hc (hb x (by simp)) ht
  refine h.mono fun e W ⟨he,hB⟩=>⟨he.trans ?_,hB⟩
  have l0:=lvlF_bd
  simp only [tellF,barsF,List.getD_cons_zero,List.getD_cons_succ]
  rfl
 ·have h0:kids=3:=kids_fix hk (by decide) (by decide)
  obtain ⟨x,y,z,rfl⟩:=len_three (show ps.length=3 by omega)
  obtain ⟨b,rfl,hc⟩:=some_cells hS (by simp)
  have h:=shTell_if 21 kids t neg hi lo sc day b c x y z w rfl hc (hb x (by simp)) (hb y (by simp)) (hb z (by simp)) ht
  refine h.mono fun e W ⟨he,hB⟩=>⟨he.trans ?_,hB⟩
  have l0:=lvlF_bd
  simp only [tellF,barsF,List.getD_cons_zero,List.getD_cons_succ]
  rw [atF_raw (ask_zero (op:=21) (by omega)) x.2 0,atF_raw (ask_zero (op:=21) (by omega)) y.2 1,atF_raw (ask_zero (op:=21) (by omega)) z.2 2];rfl
 ·have h0:kids=3:=kids_fix hk (by decide) (by decide)
  obtain ⟨x,y,z,rfl⟩:=len_three (show ps.length=3 by omega)
  obtain ⟨b,rfl,hc⟩:=some_cells hS (by simp)
  have h:=shTell_between 22 kids t neg hi lo sc day b c x y z w rfl hc (hb x (by simp)) (hb y (by simp)) (hb z (by simp)) ht
  refine h.mono fun e W ⟨he,hB⟩=>⟨he.trans ?_,hB⟩
  have l0:=lvlF_bd
  simp only [tellF,barsF,List.getD_cons_zero,List.getD_cons_succ]
  rfl
 ·have h0:kids=2:=kids_fix hk (by decide) (by decide)
  obtain ⟨x,y,rfl⟩:=len_two (show ps.length=2 by omega)
  obtain ⟨b,rfl,hc⟩:=some_cells hS (by simp)
  obtain ⟨u,hu⟩:=h23 rfl
  have hy:y.2=36:=by simp at hu;exact hu.2
  have h:=shTell_in 23 kids t neg hi lo sc day b c x y w rfl hc (hb x (by simp)) (hb y (by simp)) ht
  refine h.mono fun e W ⟨he,hB⟩=>⟨he.trans ?_,hB⟩
  have l0:=lvlF_bd
  simp only [tellF,barsF,List.getD_cons_zero,List.getD_cons_succ]
  rw [atF_low (a:=lvlF y.2) (show ¬ lvlF y.2 < askF 23 1 by rw [hy];decide)];rfl
 ·have h0:kids=1:=kids_fix hk (by decide) (by decide)
  obtain ⟨x,rfl⟩:=len_one (show ps.length=1 by omega)
  obtain ⟨b,rfl,hc⟩:=some_cells hS (by simp)
  have h:=shTell_path 24 kids t neg hi lo sc day b c x w rfl hc (hb x (by simp)) ht
  refine h.mono fun e W ⟨he,hB⟩=>⟨he.trans ?_,hB⟩
  have l0:=lvlF_bd
  simp only [tellF,barsF,List.getD_cons_zero,List.getD_cons_succ]
  rfl
 ·have h:=shTell_call 25 kids t neg hi lo sc day p c ps w rfl hS hb h300 ht
  refine h.mono fun e W ⟨he,hB⟩=>⟨he.trans ?_,hB⟩
  rw [hrow (by simp)]
  rfl
 ·have h:=shTell_list 26 kids t neg hi lo sc day p c ps w rfl hS hb h300 ht
  refine h.mono fun e W ⟨he,hB⟩=>⟨he.trans ?_,hB⟩
  rw [hrow (by simp)]
  rfl
 ·have h:=shTell_ctx 27 kids t neg hi lo sc day p c ps w rfl hS hb h300 ht
  refine h.mono fun e W ⟨he,hB⟩=>⟨he.trans ?_,hB⟩
  rw [hrow (by simp)]
  rfl
 ·have h0:kids=1:=kids_fix hk (by decide) (by decide)
  obtain ⟨x,rfl⟩:=len_one (show ps.length=1 by omega)
  obtain ⟨b,rfl,hc⟩:=some_cells hS (by simp)
  have h:=shTell_entry 28 kids t neg hi lo sc day b c x w rfl hc (hb x (by simp)) ht
  refine h.mono fun e W ⟨he,hB⟩=>⟨he.trans ?_,hB⟩
  have l0:=lvlF_bd
  simp only [tellF,barsF,List.getD_cons_zero,List.getD_cons_succ]
  rw [atF_raw (ask_zero (op:=28) (by omega)) x.2 0];rfl
 ·have h0:kids=1:=kids_fix hk (by decide) (by decide)
  obtain ⟨x,rfl⟩:=len_one (show ps.length=1 by omega)
  obtain ⟨b,rfl,hc⟩:=some_cells hS (by simp)
  have h:=shTell_is 30 kids t neg hi lo sc day b c x w rfl hc (hb x (by simp)) ht
  refine h.mono fun e W ⟨he,hB⟩=>⟨he.trans ?_,hB⟩
  have l0:=lvlF_bd
  simp only [tellF,barsF,List.getD_cons_zero,List.getD_cons_succ]
  rfl
 ·have h0:kids=1:=kids_fix hk (by decide) (by decide)
  obtain ⟨x,rfl⟩:=len_one (show ps.length=1 by omega)
  obtain ⟨b,rfl,hc⟩:=some_cells hS (by simp)
  have h:=shTell_c31 31 kids t neg hi lo sc day b c x w rfl hc (hb x (by simp)) ht
  refine h.mono fun e W ⟨he,hB⟩=>⟨he.trans ?_,hB⟩
  have l0:=lvlF_bd
  simp only [tellF,barsF,List.getD_cons_zero,List.getD_cons_succ]
  rfl
 ·have h0:kids=1:=kids_fix hk (by decide) (by decide)
  obtain ⟨x,rfl⟩:=len_one (show ps.length=1 by omega)
  obtain ⟨b,rfl,hc⟩:=some_cells hS (by simp)
  have h:=shTell_c32 32 kids t neg hi lo sc day b c x w rfl hc (hb x (by simp)) ht
  refine h.mono fun e W ⟨he,hB⟩=>⟨he.trans ?_,hB⟩
  have l0:=lvlF_bd
  simp only [tellF,barsF,List.getD_cons_zero,List.getD_cons_succ]
  rfl
 ·have h0:kids=1:=kids_fix hk (by decide) (by decide)
  obtain ⟨x,rfl⟩:=len_one (show ps.length=1 by omega)
  obtain ⟨b,rfl,hc⟩:=some_cells hS (by simp)
  have h:=shTell_c33 33 kids t neg hi lo sc day b c x w rfl hc (hb x (by simp)) ht
  refine h.mono fun e W ⟨he,hB⟩=>⟨he.trans ?_,hB⟩
  have l0:=lvlF_bd
  simp only [tellF,barsF,List.getD_cons_zero,List.getD_cons_succ]
  rfl
 ·have h0:kids=1:=kids_fix hk (by decide) (by decide)
  obtain ⟨x,rfl⟩:=len_one (show ps.length=1 by omega)
  obtain ⟨b,rfl,hc⟩:=some_cells hS (by simp)
  have h:=shTell_c34 34 kids t neg hi lo sc day b c x w rfl hc (hb x (by simp)) ht
  refine h.mono fun e W ⟨he,hB⟩=>⟨he.trans ?_,hB⟩
  have l0:=lvlF_bd
  simp only [tellF,barsF,List.getD_cons_zero,List.getD_cons_succ]
  rfl
 ·have h0:kids=2:=kids_fix hk (by decide) (by decide)
  obtain ⟨x,y,rfl⟩:=len_two (show ps.length=2 by omega)
  obtain ⟨b,rfl,hc⟩:=some_cells hS (by simp)
  have ht2:t.length=2:=span_two hok
  have h:=shTell_span 35 kids t neg hi lo sc day b c x y w rfl ht2 hc (hb x (by simp)) (hb y (by simp)) ht
  refine h.mono fun e W ⟨he,hB⟩=>⟨he.trans ?_,hB⟩
  have l0:=lvlF_bd
  simp only [tellF,barsF,List.getD_cons_zero,List.getD_cons_succ]
  rfl
 ·have h:=shTell_some 36 kids t neg hi lo sc day p c ps w rfl hS hb h300 ht
  refine h.mono fun e W ⟨he,hB⟩=>⟨he.trans ?_,hB⟩
  rw [hrow (by simp)]
  rfl
 ·have h0:kids=1:=kids_fix hk (by decide) (by decide)
  obtain ⟨x,rfl⟩:=len_one (show ps.length=1 by omega)
  obtain ⟨b,rfl,hc⟩:=some_cells hS (by simp)
  have h:=shTell_not 37 kids t neg hi lo sc day b c x w rfl hc (hb x (by simp)) ht
  refine h.mono fun e W ⟨he,hB⟩=>⟨he.trans ?_,hB⟩
  have l0:=lvlF_bd
  simp only [tellF,barsF,List.getD_cons_zero,List.getD_cons_succ]
  rw [atF_raw (ask_zero (op:=37) (by omega)) x.2 0];rfl
end Go.Proofs.YtnghlakllgkjlaaGreatDoor
