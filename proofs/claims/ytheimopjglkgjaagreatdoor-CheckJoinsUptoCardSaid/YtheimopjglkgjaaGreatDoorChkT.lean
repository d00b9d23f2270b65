/- typed of check: the type of a node out of its parts. Printed by wip/tools/gen_typed.py. typed of check: the type of a node out of its parts. Printed by wip/tools/gen_typed.py. typed of check: the type of a node out of its parts. Printed by wip/tools/gen_typed.py. typed of check: the type of a node out of its parts. Printed by wip/tools/gen_typed.py. typed of check: the type of a node out of its parts. Printed by wip/tools/gen_typed.py. typed of check at every operation; the machine's step in plain words. -/
import Derived.Test.YtheimopjglkgjaaGreatDoorChkF
import Derived.Test.YtheimopjglkgjaaGreatDoorSepA
import Derived.Test.YtheimopjglkgjaaGreatDoorPlainA
namespace Go.Proofs.YtheimopjglkgjaaGreatDoor
open Go.RowKit
set_option linter.unusedVariables false
set_option linter.unusedSimpArgs false
set_option maxRecDepth 100000

def toldF (ok:Bool) (t:TyD):TyD × Int:=if ok then (t,0) else (⟨0,0⟩,9)
/-- A thing: its type, its tests; how it lies. -/
structure ThD where
 t:TyD
 qs:List AskD
def ThOk (w:World) (x:ThT) (d:ThD):Prop:=x.t=d.t∧x.n=d.qs.length∧Sl w x.q (d.qs.flatMap AskD.cs)
def addF (l:List TyD):TyD × Int:=if allB l 2 && allB l 3 then (⟨0,0⟩,0) else if allB l 3 then (⟨3,0⟩,0) else toldF (allB l 2) ⟨2,0⟩

set_option maxHeartbeats 4000000 in
theorem typed_num (gc gm:Nat) (sv:Value) (l:List SymD) (n:NodeD) (p:Option Addr) (c:Nat) (ts:List ThT) (w:World) (hop:n.op=8∨n.op=10∨n.op=11∨n.op=12) (hS:Sl w p (ts.flatMap ThT.cs)) (hf:∀ t,t ∈ ts→t.t.form) (hl:ts.length≤4611686018427387904) :
  Calls Tryz.prog 86 #[.pointer (some ⟨gc,0,none⟩),.agg n.cs.toArray,.slice p ts.length c] w fun e w'=>e = .returned (resV (toldF (allB (ts.map ThT.t) 2) ⟨2,0⟩))∧Below w.heap.size w w':=by
 have HM:=Lib.hid (Mem.start w)
 obtain ⟨op,kids,text,neg,hi,lo,sc,day⟩:=n
 have HS:=Lib.hid hS
 have HF:=Lib.hid hf
 obtain ⟨m,hm⟩:∃ m,allB (ts.map ThT.t) 2=m:=⟨_,rfl⟩
 have HB:=Lib.hid (fun W (h:Sl W p (ts.flatMap ThT.cs))=>hm▸both_any p c ts 2 W h hf (by decide) hl)
 rw [hm]
 clear hm hS hf
 rcases hop with rfl|rfl|rfl|rfl
 all_goals
  cases m
  all_goals
   go_enter Tryz.func86,Tryz.ntmps86
   go_wp2_with (first|(go_at_call 117;(with_reducible refine cB HM (HB.out _ (HM.out.sl HS.out)) ?_);clear HM;intro W1 HM)|(go_at_call 87;(with_reducible refine cB HM (cof_any _ _) ?_);clear HM;intro W1 HM)|(go_at_call 116;first|((with_reducible refine cB HM (told_yes _ _ _) ?_);clear HM;intro W1 HM)|((with_reducible refine cB HM (told_no _ _ _) ?_);clear HM;intro W1 HM))|((with_reducible refine skip_op ?_ ?_);exact rfl)|refine mP ?_|(refine mS ?_;clear HM;intro W1 HM)|(refine hbxA (dst:=some 4) HM rfl rfl ?_;clear HM;intro g4 W1 HM)|(refine hal (dst:=some 6) HM rfl ?_;clear HM;intro g6 W1 HM)|(refine hal HM rfl ?_;clear HM;intro g1 W1 HM))
   exact bodyPost_ret (res_box_tmp rfl HM.out 0 rfl rfl rfl rfl) rfl ⟨rfl,HM.out.below⟩

set_option maxHeartbeats 4000000 in
theorem typed_truth (gc gm:Nat) (sv:Value) (l:List SymD) (n:NodeD) (p:Option Addr) (c:Nat) (ts:List ThT) (w:World) (hop:n.op=19∨n.op=20) (hS:Sl w p (ts.flatMap ThT.cs)) (hf:∀ t,t ∈ ts→t.t.form) (hl:ts.length≤4611686018427387904) :
  Calls Tryz.prog 86 #[.pointer (some ⟨gc,0,none⟩),.agg n.cs.toArray,.slice p ts.length c] w fun e w'=>e = .returned (resV (toldF (allB (ts.map ThT.t) 1) ⟨1,0⟩))∧Below w.heap.size w w':=by
 have HM:=Lib.hid (Mem.start w)
 obtain ⟨op,kids,text,neg,hi,lo,sc,day⟩:=n
 have HS:=Lib.hid hS
 have HF:=Lib.hid hf
 obtain ⟨m,hm⟩:∃ m,allB (ts.map ThT.t) 1=m:=⟨_,rfl⟩
 have HB:=Lib.hid (fun W (h:Sl W p (ts.flatMap ThT.cs))=>hm▸both_any p c ts 1 W h hf (by decide) hl)
 rw [hm]
 clear hm hS hf
 rcases hop with rfl|rfl
 all_goals
  cases m
  all_goals
   go_enter Tryz.func86,Tryz.ntmps86
   go_wp2_with (first|(go_at_call 117;(with_reducible refine cB HM (HB.out _ (HM.out.sl HS.out)) ?_);clear HM;intro W1 HM)|(go_at_call 87;(with_reducible refine cB HM (cof_any _ _) ?_);clear HM;intro W1 HM)|(go_at_call 116;first|((with_reducible refine cB HM (told_yes _ _ _) ?_);clear HM;intro W1 HM)|((with_reducible refine cB HM (told_no _ _ _) ?_);clear HM;intro W1 HM))|((with_reducible refine skip_op ?_ ?_);exact rfl)|refine mP ?_|(refine mS ?_;clear HM;intro W1 HM)|(refine hbxA (dst:=some 4) HM rfl rfl ?_;clear HM;intro g4 W1 HM)|(refine hal (dst:=some 6) HM rfl ?_;clear HM;intro g6 W1 HM)|(refine hal HM rfl ?_;clear HM;intro g1 W1 HM))
   exact bodyPost_ret (res_box_tmp rfl HM.out 0 rfl rfl rfl rfl) rfl ⟨rfl,HM.out.below⟩

set_option maxHeartbeats 4000000 in
theorem typed_add (gc gm:Nat) (sv:Value) (l:List SymD) (n:NodeD) (p:Option Addr) (c:Nat) (ts:List ThT) (w:World) (hop:n.op=9) (hS:Sl w p (ts.flatMap ThT.cs)) (hf:∀ t,t ∈ ts→t.t.form) (hl:ts.length≤4611686018427387904) :
  Calls Tryz.prog 86 #[.pointer (some ⟨gc,0,none⟩),.agg n.cs.toArray,.slice p ts.length c] w fun e w'=>e = .returned (resV (addF (ts.map ThT.t)))∧Below w.heap.size w w':=by
 have HM:=Lib.hid (Mem.start w)
 obtain ⟨op,kids,text,neg,hi,lo,sc,day⟩:=n
 have HS:=Lib.hid hS
 have HF:=Lib.hid hf
 obtain ⟨m,hm⟩:∃ m,allB (ts.map ThT.t) 2=m:=⟨_,rfl⟩
 obtain ⟨m2,hm2⟩:∃ m,allB (ts.map ThT.t) 3=m:=⟨_,rfl⟩
 have HB:=Lib.hid (fun W (h:Sl W p (ts.flatMap ThT.cs))=>hm▸both_any p c ts 2 W h hf (by decide) hl)
 have HB2:=Lib.hid (fun W (h:Sl W p (ts.flatMap ThT.cs))=>hm2▸both_any p c ts 3 W h hf (by decide) hl)
 have HR:=Lib.hid (show addF (ts.map ThT.t)=if m && m2 then (⟨0,0⟩,0) else if m2 then (⟨3,0⟩,0) else toldF m ⟨2,0⟩ by unfold addF;rw [hm,hm2])
 clear hm hm2 hS hf
 obtain rfl:op=9:=hop
 cases m
 all_goals
  cases m2
  all_goals
   go_enter Tryz.func86,Tryz.ntmps86
   go_wp2_with (first|(go_at_call 117;first|((with_reducible refine cB HM (HB.out _ (HM.out.sl HS.out)) ?_);clear HM;intro W1 HM)|((with_reducible refine cB HM (HB2.out _ (HM.out.sl HS.out)) ?_);clear HM;intro W1 HM))|(go_at_call 87;(with_reducible refine cB HM (cof_any _ _) ?_);clear HM;intro W1 HM)|(go_at_call 116;first|((with_reducible refine cB HM (told_yes _ _ _) ?_);clear HM;intro W1 HM)|((with_reducible refine cB HM (told_no _ _ _) ?_);clear HM;intro W1 HM))|((with_reducible refine skip_op ?_ ?_);exact rfl)|refine mP ?_|(refine mS ?_;clear HM;intro W1 HM)|(refine hbxA (dst:=some 4) HM rfl rfl ?_;clear HM;intro g4 W1 HM)|(refine hal (dst:=some 6) HM rfl ?_;clear HM;intro g6 W1 HM)|(refine hal HM rfl ?_;clear HM;intro g1 W1 HM))
   exact bodyPost_ret (res_box_tmp rfl HM.out 0 rfl rfl rfl rfl) rfl ⟨by rw [HR.out];rfl,HM.out.below⟩

set_option maxHeartbeats 4000000 in
theorem typed_eq (gc gm:Nat) (sv:Value) (l:List SymD) (n:NodeD) (b:Addr) (c:Nat) (x y:ThT) (w:World) (hop:n.op=13∨n.op=14) (hS:Cells w b (([x,y]:List ThT).flatMap ThT.cs)) (hx:x.t.form) (hy:y.t.form) :
  Calls Tryz.prog 86 #[.pointer (some ⟨gc,0,none⟩),.agg n.cs.toArray,.slice (some b) 2 c] w fun e w'=>e = .returned (resV (toldF (meetB x.t.k x.t.o y.t.k y.t.o) ⟨1,0⟩))∧Below w.heap.size w w':=by
 have HM:=Lib.hid (Mem.start w)
 obtain ⟨op,kids,text,neg,hi,lo,sc,day⟩:=n
 obtain ⟨⟨xk,xo⟩,xq,xn,xc⟩:=x
 obtain ⟨⟨yk,yo⟩,yq,yn,yc⟩:=y
 have T0:=Lib.hid (show Cells w (b.add (0 * 3)) [.int .i64 xk,.int .i64 xo] from (hS.elem ThT.cs 3 ThT.cs_len (i:=0) rfl).take 2)
 have T1:=Lib.hid (show Cells w (b.add (1 * 3)) [.int .i64 yk,.int .i64 yo] from (hS.elem ThT.cs 3 ThT.cs_len (i:=1) rfl).take 2)
 obtain ⟨m,hm⟩:∃ m,meetB xk xo yk yo=m:=⟨_,rfl⟩
 have HMt:=Lib.hid (fun W=>hm▸meet_any xk xo yk yo W hx hy)
 have HR:=Lib.hid (show toldF (meetB xk xo yk yo) ⟨1,0⟩=toldF m ⟨1,0⟩ by rw [hm])
 clear hS hm
 rcases hop with rfl|rfl
 all_goals
  cases m
  all_goals
   go_enter Tryz.func86,Tryz.ntmps86
   go_wp2_with (first|((with_reducible refine skip_op ?_ ?_);exact rfl)|refine mP ?_|(refine mS ?_;clear HM;intro W1 HM)|(refine hbxA (dst:=some 4) HM rfl rfl ?_;clear HM;intro g4 W1 HM)|(refine hal (dst:=some 6) HM rfl ?_;clear HM;intro g6 W1 HM)|(refine hal HM rfl ?_;clear HM;intro g1 W1 HM))
   refine wp_region_steps2 [(true,0),(true,1),(true,2),(true,3),(true,4),(true,5),(true,6),(true,7),(false,8),(false,9),(false,10),(true,11),(true,12),(false,13),(true,14)] (by kernel_rfl) (by kernel_rfl) rfl (by kernel_rfl) (fun _ _ _ _ _ h=>h) HM.out _ (.cons _ (.cons_cons _ .slnil)) ?_
   intro hNE W1 HM1;replace HM:=Lib.hid HM1;clear HM1
   have HS0:=Lib.hid (HM.out.sub (.cons _ (.cons_cons _ .slnil)))
   simp only [wpSteps,List.getElem?_cons_succ,List.getElem?_cons_zero]
   (repeat (first|((with_reducible refine wpQuiet_nil ?_);(try dsimp only))|refine mQ ?_|((with_reducible refine qat 49 ?_);(refine qixa (i:=0) rfl rfl rfl (by decide) ?_))|((with_reducible refine qat 53 ?_);(refine qixa (i:=1) rfl rfl rfl (by decide) ?_))|((with_reducible refine qat 51 ?_);(refine qdA (vs:=[.int .i64 xk,.int .i64 xo]) rfl rfl (fun W ⟨q,hq⟩=>hq▸q.mem.olds T0.out) ?_))|((with_reducible refine qat 55 ?_);(refine qdA (vs:=[.int .i64 yk,.int .i64 yo]) rfl rfl (fun W ⟨q,hq⟩=>hq▸q.mem.olds T1.out) ?_))|go_big_quiet_step (fail)|quiet_step (fail)))
   go_wp2_with (first|(go_at_call 56;(with_reducible refine cB HM (HMt.out _) ?_);clear HM;intro W1 HM))
   refine ⟨⟨⟨_,HM.out.sub msub⟩,rfl⟩,?_⟩
   (try dsimp only)
   go_wp2_with (first|(go_at_call 87;(with_reducible refine cB HM (cof_any _ _) ?_);clear HM;intro W1 HM))
   refine ⟨⟨⟨_,HM.out.sub msub⟩,rfl⟩,?_⟩
   (try dsimp only)
   go_wp2_with (first|(go_at_call 116;first|((with_reducible refine cB HM (told_yes _ _ _) ?_);clear HM;intro W1 HM)|((with_reducible refine cB HM (told_no _ _ _) ?_);clear HM;intro W1 HM)))
   refine ⟨⟨⟨_,HM.out.sub msub⟩,rfl⟩,?_⟩
   (try dsimp only)
   (repeat (first|((with_reducible refine wpQuiet_nil ?_);(try dsimp only))|go_big_quiet_step (fail)|quiet_step (fail)))
   go_wp2_with (first|(refine mS ?_;clear HM;intro W1 HM))
   refine ⟨⟨⟨_,HM.out.sub msub⟩,rfl⟩,?_⟩
   (try dsimp only)
   (repeat (first|((with_reducible refine wpQuiet_nil ?_);(try dsimp only))|go_big_quiet_step (fail)|quiet_step (fail)))
   clear HS0 hNE
   go_wp2_with fail
   exact bodyPost_ret (res_box_tmp rfl HM.out 0 rfl rfl rfl rfl) rfl ⟨by rw [HR.out];rfl,HM.out.below⟩

set_option maxHeartbeats 4000000 in
theorem typed_lt (gc gm:Nat) (sv:Value) (l:List SymD) (n:NodeD) (b:Addr) (c:Nat) (x y:ThT) (w:World) (hop:n.op=15∨n.op=16∨n.op=17∨n.op=18) (hS:Cells w b (([x,y]:List ThT).flatMap ThT.cs)) (hx:x.t.form) (hy:y.t.form) :
  Calls Tryz.prog 86 #[.pointer (some ⟨gc,0,none⟩),.agg n.cs.toArray,.slice (some b) 2 c] w fun e w'=>e = .returned (resV (toldF (ordB x.t.k x.t.o y.t.k y.t.o) ⟨1,0⟩))∧Below w.heap.size w w':=by
 have HM:=Lib.hid (Mem.start w)
 obtain ⟨op,kids,text,neg,hi,lo,sc,day⟩:=n
 obtain ⟨⟨xk,xo⟩,xq,xn,xc⟩:=x
 obtain ⟨⟨yk,yo⟩,yq,yn,yc⟩:=y
 have T0:=Lib.hid (show Cells w (b.add (0 * 3)) [.int .i64 xk,.int .i64 xo] from (hS.elem ThT.cs 3 ThT.cs_len (i:=0) rfl).take 2)
 have T1:=Lib.hid (show Cells w (b.add (1 * 3)) [.int .i64 yk,.int .i64 yo] from (hS.elem ThT.cs 3 ThT.cs_len (i:=1) rfl).take 2)
 obtain ⟨m,hm⟩:∃ m,ordB xk xo yk yo=m:=⟨_,rfl⟩
 have HMt:=Lib.hid (fun W=>hm▸ordered_any xk xo yk yo W hx hy)
 have HR:=Lib.hid (show toldF (ordB xk xo yk yo) ⟨1,0⟩=toldF m ⟨1,0⟩ by rw [hm])
 clear hS hm
 rcases hop with rfl|rfl|rfl|rfl
 all_goals
  cases m
  all_goals
   go_enter Tryz.func86,Tryz.ntmps86
   go_wp2_with (first|((with_reducible refine skip_op ?_ ?_);exact rfl)|refine mP ?_|(refine mS ?_;clear HM;intro W1 HM)|(refine hbxA (dst:=some 4) HM rfl rfl ?_;clear HM;intro g4 W1 HM)|(refine hal (dst:=some 6) HM rfl ?_;clear HM;intro g6 W1 HM)|(refine hal HM rfl ?_;clear HM;intro g1 W1 HM))
   refine wp_region_steps2 [(true,0),(true,1),(true,2),(true,3),(true,4),(true,5),(true,6),(true,7),(false,8),(false,9),(false,10),(true,11),(true,12),(false,13),(true,14)] (by kernel_rfl) (by kernel_rfl) rfl (by kernel_rfl) (fun _ _ _ _ _ h=>h) HM.out _ (.cons _ (.cons_cons _ .slnil)) ?_
   intro hNE W1 HM1;replace HM:=Lib.hid HM1;clear HM1
   have HS0:=Lib.hid (HM.out.sub (.cons _ (.cons_cons _ .slnil)))
   simp only [wpSteps,List.getElem?_cons_succ,List.getElem?_cons_zero]
   (repeat (first|((with_reducible refine wpQuiet_nil ?_);(try dsimp only))|refine mQ ?_|((with_reducible refine qat 67 ?_);(refine qixa (i:=0) rfl rfl rfl (by decide) ?_))|((with_reducible refine qat 71 ?_);(refine qixa (i:=1) rfl rfl rfl (by decide) ?_))|((with_reducible refine qat 69 ?_);(refine qdA (vs:=[.int .i64 xk,.int .i64 xo]) rfl rfl (fun W ⟨q,hq⟩=>hq▸q.mem.olds T0.out) ?_))|((with_reducible refine qat 73 ?_);(refine qdA (vs:=[.int .i64 yk,.int .i64 yo]) rfl rfl (fun W ⟨q,hq⟩=>hq▸q.mem.olds T1.out) ?_))|go_big_quiet_step (fail)|quiet_step (fail)))
   go_wp2_with (first|(go_at_call 55;(with_reducible refine cB HM (HMt.out _) ?_);clear HM;intro W1 HM))
   refine ⟨⟨⟨_,HM.out.sub msub⟩,rfl⟩,?_⟩
   (try dsimp only)
   go_wp2_with (first|(go_at_call 87;(with_reducible refine cB HM (cof_any _ _) ?_);clear HM;intro W1 HM))
   refine ⟨⟨⟨_,HM.out.sub msub⟩,rfl⟩,?_⟩
   (try dsimp only)
   go_wp2_with (first|(go_at_call 116;first|((with_reducible refine cB HM (told_yes _ _ _) ?_);clear HM;intro W1 HM)|((with_reducible refine cB HM (told_no _ _ _) ?_);clear HM;intro W1 HM)))
   refine ⟨⟨⟨_,HM.out.sub msub⟩,rfl⟩,?_⟩
   (try dsimp only)
   (repeat (first|((with_reducible refine wpQuiet_nil ?_);(try dsimp only))|go_big_quiet_step (fail)|quiet_step (fail)))
   go_wp2_with (first|(refine mS ?_;clear HM;intro W1 HM))
   refine ⟨⟨⟨_,HM.out.sub msub⟩,rfl⟩,?_⟩
   (try dsimp only)
   (repeat (first|((with_reducible refine wpQuiet_nil ?_);(try dsimp only))|go_big_quiet_step (fail)|quiet_step (fail)))
   clear HS0 hNE
   go_wp2_with fail
   exact bodyPost_ret (res_box_tmp rfl HM.out 0 rfl rfl rfl rfl) rfl ⟨by rw [HR.out];rfl,HM.out.below⟩

end Go.Proofs.YtheimopjglkgjaaGreatDoor

namespace Go.Proofs.YtheimopjglkgjaaGreatDoor
open Go.RowKit
set_option linter.unusedVariables false
set_option linter.unusedSimpArgs false
set_option maxRecDepth 100000



set_option maxHeartbeats 4000000 in
theorem typed_between (gc gm:Nat) (sv:Value) (l:List SymD) (n:NodeD) (b:Addr) (c:Nat) (x y z:ThT) (w:World) (hop:n.op=22) (hS:Cells w b (([x,y,z]:List ThT).flatMap ThT.cs)) (hx:x.t.form) (hy:y.t.form) (hz:z.t.form) :
  Calls Tryz.prog 86 #[.pointer (some ⟨gc,0,none⟩),.agg n.cs.toArray,.slice (some b) 3 c] w fun e w'=>e = .returned (resV (toldF (ordB x.t.k x.t.o y.t.k y.t.o && ordB x.t.k x.t.o z.t.k z.t.o) ⟨1,0⟩))∧Below w.heap.size w w':=by
 have HM:=Lib.hid (Mem.start w)
 obtain ⟨op,kids,text,neg,hi,lo,sc,day⟩:=n
 obtain ⟨⟨xk,xo⟩,xq,xn,xc⟩:=x
 obtain ⟨⟨yk,yo⟩,yq,yn,yc⟩:=y
 obtain ⟨⟨zk,zo⟩,zq,zn,zc⟩:=z
 have T0:=Lib.hid (show Cells w (b.add (0 * 3)) [.int .i64 xk,.int .i64 xo] from (hS.elem ThT.cs 3 ThT.cs_len (i:=0) rfl).take 2)
 have U0:=Lib.hid (show Cells w (b.add (0 * 3)) [.int .i64 xk,.int .i64 xo,.slice xq xn xc] from hS.elem ThT.cs 3 ThT.cs_len (i:=0) rfl)
 have T1:=Lib.hid (show Cells w (b.add (1 * 3)) [.int .i64 yk,.int .i64 yo] from (hS.elem ThT.cs 3 ThT.cs_len (i:=1) rfl).take 2)
 have U1:=Lib.hid (show Cells w (b.add (1 * 3)) [.int .i64 yk,.int .i64 yo,.slice yq yn yc] from hS.elem ThT.cs 3 ThT.cs_len (i:=1) rfl)
 have T2:=Lib.hid (show Cells w (b.add (2 * 3)) [.int .i64 zk,.int .i64 zo] from (hS.elem ThT.cs 3 ThT.cs_len (i:=2) rfl).take 2)
 have U2:=Lib.hid (show Cells w (b.add (2 * 3)) [.int .i64 zk,.int .i64 zo,.slice zq zn zc] from hS.elem ThT.cs 3 ThT.cs_len (i:=2) rfl)
 obtain ⟨m1,hm1⟩:∃ m,ordB xk xo yk yo=m:=⟨_,rfl⟩
 obtain ⟨m2,hm2⟩:∃ m,ordB xk xo zk zo=m:=⟨_,rfl⟩
 have H1:=Lib.hid (fun W=>hm1▸ordered_any xk xo yk yo W hx hy)
 have H2:=Lib.hid (fun W=>hm2▸ordered_any xk xo zk zo W hx hz)
 have HR:=Lib.hid (show toldF (ordB xk xo yk yo && ordB xk xo zk zo) ⟨1,0⟩=toldF (m1 && m2) ⟨1,0⟩ by rw [hm1,hm2])
 clear hS hm1 hm2
 obtain rfl:op=22:=hop
 cases m1
 all_goals
  cases m2
  all_goals
   go_enter Tryz.func86,Tryz.ntmps86
   go_wp2_with (first|((with_reducible refine skip_op ?_ ?_);exact rfl)|refine mP ?_|(refine mS ?_;clear HM;intro W1 HM)|(refine hbxA (dst:=some 4) HM rfl rfl ?_;clear HM;intro g4 W1 HM)|(refine hal (dst:=some 6) HM rfl ?_;clear HM;intro g6 W1 HM)|(refine hal HM rfl ?_;clear HM;intro g1 W1 HM))
   refine wp_region_steps2 [(true,0),(true,1),(true,2),(true,3),(true,4),(true,5),(true,6),(true,7),(false,8),(true,9),(true,10),(true,11),(true,12),(true,13),(true,14),(true,15),(true,16),(true,17),(false,18),(true,19),(false,20),(false,21),(true,22),(true,23),(false,24),(true,25)] (by kernel_rfl) (by kernel_rfl) rfl (by kernel_rfl) (fun _ _ _ _ _ h=>h) HM.out _ (.cons _ (.cons_cons _ .slnil)) ?_
   intro hNE W1 HM1;replace HM:=Lib.hid HM1;clear HM1
   have HS0:=Lib.hid (HM.out.sub (.cons _ (.cons_cons _ .slnil)))
   simp only [wpSteps,List.getElem?_cons_succ,List.getElem?_cons_zero]
   (repeat (first|((with_reducible refine wpQuiet_nil ?_);(try dsimp only))|refine mQ ?_|((with_reducible refine qat 112 ?_);(refine qixa (i:=0) rfl rfl rfl (by decide) ?_))|((with_reducible refine qat 116 ?_);(refine qixa (i:=1) rfl rfl rfl (by decide) ?_))|((with_reducible refine qat 114 ?_);(refine qdA (vs:=[.int .i64 xk,.int .i64 xo]) rfl rfl (fun W ⟨q,hq⟩=>hq▸q.mem.olds T0.out) ?_))|((with_reducible refine qat 118 ?_);(refine qdA (vs:=[.int .i64 yk,.int .i64 yo]) rfl rfl (fun W ⟨q,hq⟩=>hq▸q.mem.olds T1.out) ?_))|go_big_quiet_step (fail)|quiet_step (fail)))
   go_wp2_with (first|(go_at_call 55;first|((with_reducible refine cB HM (H1.out _) ?_);clear HM;intro W1 HM)|((with_reducible refine cB HM (H2.out _) ?_);clear HM;intro W1 HM)))
   refine ⟨⟨⟨_,HM.out.sub msub⟩,rfl⟩,?_⟩
   (try dsimp only)
   (repeat (first|((with_reducible refine skip_q ?_ ?_ ?_);(exact rfl);(rotate_left;(exact (hNE.elim fun p=>⟨p.W,p,rfl⟩))))|((with_reducible refine wpQuiet_nil ?_);(try dsimp only))|refine mQ ?_|((with_reducible refine qat 122 ?_);(refine qixa (i:=0) rfl rfl rfl (by decide) ?_))|((with_reducible refine qat 126 ?_);(refine qixa (i:=2) rfl rfl rfl (by decide) ?_))|((with_reducible refine qat 124 ?_);(refine qdA (vs:=[.int .i64 xk,.int .i64 xo]) rfl rfl (fun W ⟨q,hq⟩=>hq▸q.mem.olds T0.out) ?_))|((with_reducible refine qat 128 ?_);(refine qdA (vs:=[.int .i64 zk,.int .i64 zo]) rfl rfl (fun W ⟨q,hq⟩=>hq▸q.mem.olds T2.out) ?_))|go_big_quiet_step (fail)|quiet_step (fail)))
   go_wp2_with (first|((with_reducible refine skip_op ?_ ?_);exact rfl)|(go_at_call 55;first|((with_reducible refine cB HM (H1.out _) ?_);clear HM;intro W1 HM)|((with_reducible refine cB HM (H2.out _) ?_);clear HM;intro W1 HM)))
   refine ⟨⟨⟨_,HM.out.sub msub⟩,rfl⟩,?_⟩
   (try dsimp only)
   (repeat (first|((with_reducible refine wpQuiet_nil ?_);(try dsimp only))|go_big_quiet_step (fail)|quiet_step (fail)))
   go_wp2_with (first|(go_at_call 87;(with_reducible refine cB HM (cof_any _ _) ?_);clear HM;intro W1 HM))
   refine ⟨⟨⟨_,HM.out.sub msub⟩,rfl⟩,?_⟩
   (try dsimp only)
   go_wp2_with (first|(go_at_call 116;first|((with_reducible refine cB HM (told_yes _ _ _) ?_);clear HM;intro W1 HM)|((with_reducible refine cB HM (told_no _ _ _) ?_);clear HM;intro W1 HM)))
   refine ⟨⟨⟨_,HM.out.sub msub⟩,rfl⟩,?_⟩
   (try dsimp only)
   (repeat (first|((with_reducible refine wpQuiet_nil ?_);(try dsimp only))|go_big_quiet_step (fail)|quiet_step (fail)))
   go_wp2_with (first|(refine mS ?_;clear HM;intro W1 HM))
   refine ⟨⟨⟨_,HM.out.sub msub⟩,rfl⟩,?_⟩
   (try dsimp only)
   (repeat (first|((with_reducible refine wpQuiet_nil ?_);(try dsimp only))|go_big_quiet_step (fail)|quiet_step (fail)))
   clear HS0 hNE
   go_wp2_with fail
   exact bodyPost_ret (res_box_tmp rfl HM.out 0 rfl rfl rfl rfl) rfl ⟨by rw [HR.out];rfl,HM.out.below⟩

end Go.Proofs.YtheimopjglkgjaaGreatDoor

namespace Go.Proofs.YtheimopjglkgjaaGreatDoor
open Go.RowKit
set_option linter.unusedVariables false
set_option linter.unusedSimpArgs false
set_option maxRecDepth 100000


theorem Mem.checker {w0 W:World} {L:List Res} (h:Mem w0 W L) {gc gm:Nat} {sv:Value} {l:List SymD} (hc:CheckerAt w0 gc gm sv l):CheckerAt W gc gm sv l:=⟨h.olds hc.1,(h.oldmap hc.2).2⟩

set_option maxHeartbeats 4000000 in
theorem typed_in (gc gm:Nat) (sv:Value) (l:List SymD) (n:NodeD) (b:Addr) (c:Nat) (x y:ThT) (w:World) (hop:n.op=23) (hS:Cells w b (([x,y]:List ThT).flatMap ThT.cs)) (d:ThD) (hd:ThOk w y d) (hq:∀ a,a ∈ d.qs→a.t.form) (hx:x.t.form) (hl:d.qs.length≤4611686018427387904) :
  Calls Tryz.prog 86 #[.pointer (some ⟨gc,0,none⟩),.agg n.cs.toArray,.slice (some b) 2 c] w fun e w'=>e = .returned (resV (toldF (asksB x.t d.qs) ⟨1,0⟩))∧Below w.heap.size w w':=by
 have HM:=Lib.hid (Mem.start w)
 obtain ⟨op,kids,text,neg,hi,lo,sc,day⟩:=n
 obtain ⟨⟨xk,xo⟩,xq,xn,xc⟩:=x
 obtain ⟨⟨yk,yo⟩,yq,yn,yc⟩:=y
 have T0:=Lib.hid (show Cells w (b.add (0 * 3)) [.int .i64 xk,.int .i64 xo] from (hS.elem ThT.cs 3 ThT.cs_len (i:=0) rfl).take 2)
 have U0:=Lib.hid (show Cells w (b.add (0 * 3)) [.int .i64 xk,.int .i64 xo,.slice xq xn xc] from hS.elem ThT.cs 3 ThT.cs_len (i:=0) rfl)
 have T1:=Lib.hid (show Cells w (b.add (1 * 3)) [.int .i64 yk,.int .i64 yo] from (hS.elem ThT.cs 3 ThT.cs_len (i:=1) rfl).take 2)
 have U1:=Lib.hid (show Cells w (b.add (1 * 3)) [.int .i64 yk,.int .i64 yo,.slice yq yn yc] from hS.elem ThT.cs 3 ThT.cs_len (i:=1) rfl)
 obtain ⟨hd1,hd2,hd3⟩:=hd
 obtain rfl:yn=d.qs.length:=hd2
 obtain ⟨m,hm⟩:∃ m,asksB ⟨xk,xo⟩ d.qs=m:=⟨_,rfl⟩
 have HQ:=Lib.hid (show Sl w yq (d.qs.flatMap AskD.cs) from hd3)
 have H1:=Lib.hid (fun W (h:Sl W yq (d.qs.flatMap AskD.cs))=>hm▸fits_any yk yo yq yc d.qs ⟨xk,xo⟩ W h hq hx hl)
 have HR:=Lib.hid (show toldF (asksB ⟨xk,xo⟩ d.qs) ⟨1,0⟩=toldF m ⟨1,0⟩ by rw [hm])
 clear hS hm hd1 hd3
 obtain rfl:op=23:=hop
 cases m
 all_goals
  go_enter Tryz.func86,Tryz.ntmps86
  go_wp2_with (first|((with_reducible refine skip_op ?_ ?_);exact rfl)|refine mP ?_|(refine mS ?_;clear HM;intro W1 HM)|(refine hbxA (dst:=some 4) HM rfl rfl ?_;clear HM;intro g4 W1 HM)|(refine hal (dst:=some 6) HM rfl ?_;clear HM;intro g6 W1 HM)|(refine hal HM rfl ?_;clear HM;intro g1 W1 HM))
  refine wp_region_steps2 [(true,0),(true,1),(true,2),(true,3),(true,4),(true,5),(true,6),(false,7),(false,8),(false,9),(true,10),(true,11),(false,12),(true,13)] (by kernel_rfl) (by kernel_rfl) rfl (by kernel_rfl) (fun _ _ _ _ _ h=>h) HM.out _ (.cons _ (.cons_cons _ .slnil)) ?_
  intro hNE W1 HM1;replace HM:=Lib.hid HM1;clear HM1
  have HS0:=Lib.hid (HM.out.sub (.cons _ (.cons_cons _ .slnil)))
  simp only [wpSteps,List.getElem?_cons_succ,List.getElem?_cons_zero]
  (repeat (first|((with_reducible refine wpQuiet_nil ?_);(try dsimp only))|refine mQ ?_|((with_reducible refine qat 138 ?_);(refine qixa (i:=1) rfl rfl rfl (by decide) ?_))|((with_reducible refine qat 141 ?_);(refine qixa (i:=0) rfl rfl rfl (by decide) ?_))|((with_reducible refine qat 143 ?_);(refine qdA (vs:=[.int .i64 xk,.int .i64 xo]) rfl rfl (fun W ⟨q,hq⟩=>hq▸q.mem.olds T0.out) ?_))|((with_reducible refine qat 139 ?_);(refine qdA (vs:=[.int .i64 yk,.int .i64 yo,.slice yq d.qs.length yc]) rfl rfl (fun W ⟨q,hq⟩=>hq▸q.mem.olds U1.out) ?_))|go_big_quiet_step (fail)|quiet_step (fail)))
  go_wp2_with (first|(go_at_call 36;(with_reducible refine cB HM (H1.out _ (HM.out.sl HQ.out)) ?_);clear HM;intro W1 HM))
  refine ⟨⟨⟨_,HM.out.sub msub⟩,rfl⟩,?_⟩
  (try dsimp only)
  go_wp2_with (first|(go_at_call 87;(with_reducible refine cB HM (cof_any _ _) ?_);clear HM;intro W1 HM))
  refine ⟨⟨⟨_,HM.out.sub msub⟩,rfl⟩,?_⟩
  (try dsimp only)
  go_wp2_with (first|(go_at_call 116;first|((with_reducible refine cB HM (told_yes _ _ _) ?_);clear HM;intro W1 HM)|((with_reducible refine cB HM (told_no _ _ _) ?_);clear HM;intro W1 HM)))
  refine ⟨⟨⟨_,HM.out.sub msub⟩,rfl⟩,?_⟩
  (try dsimp only)
  (repeat (first|((with_reducible refine wpQuiet_nil ?_);(try dsimp only))|go_big_quiet_step (fail)|quiet_step (fail)))
  go_wp2_with (first|(refine mS ?_;clear HM;intro W1 HM))
  refine ⟨⟨⟨_,HM.out.sub msub⟩,rfl⟩,?_⟩
  (try dsimp only)
  (repeat (first|((with_reducible refine wpQuiet_nil ?_);(try dsimp only))|go_big_quiet_step (fail)|quiet_step (fail)))
  clear HS0 hNE
  go_wp2_with fail
  exact bodyPost_ret (res_box_tmp rfl HM.out 0 rfl rfl rfl rfl) rfl ⟨by rw [HR.out];rfl,HM.out.below⟩

set_option maxHeartbeats 4000000 in
theorem typed_call (gc gm:Nat) (sv:Value) (l:List SymD) (n:NodeD) (p:Option Addr) (c:Nat) (ts:List ThT) (w:World) (hop:n.op=25) (hS:Sl w p (ts.flatMap ThT.cs)) (hf:∀ t,t ∈ ts→t.t.form) (hl:ts.length≤4611686018427387904) :
  Calls Tryz.prog 86 #[.pointer (some ⟨gc,0,none⟩),.agg n.cs.toArray,.slice p ts.length c] w fun e w'=>e = .returned (resV (callF (fnF n.text.toList) (ts.map ThT.t)))∧Below w.heap.size w w':=by
 have HM:=Lib.hid (Mem.start w)
 obtain ⟨op,kids,text,neg,hi,lo,sc,day⟩:=n
 obtain ⟨⟨⟨rk,ro⟩,re⟩,hr⟩:∃ r,callF (fnF text.toList) (ts.map ThT.t)=r:=⟨_,rfl⟩
 have HS:=Lib.hid hS
 have H1:=Lib.hid (fun W (h:Sl W p (ts.flatMap ThT.cs))=>(show Calls Tryz.prog 118 #[.string text,.slice p ts.length c] W fun e w'=>e = .returned (.tuple #[.agg #[.int .i64 rk,.int .i64 ro],.int .i64 re])∧Below W.heap.size W w' from by
  have h2:=call_any text p c ts W h hf hl
  rw [hr] at h2
  exact h2))
 have HR:=Lib.hid hr
 clear hS hf hr
 obtain rfl:op=25:=hop
 go_enter Tryz.func86,Tryz.ntmps86
 go_wp2_with (first|(go_at_call 118;(with_reducible refine cB HM (H1.out _ (HM.out.sl HS.out)) ?_);clear HM;intro W1 HM)|((with_reducible refine skip_op ?_ ?_);exact rfl)|refine mP ?_|(refine mS ?_;clear HM;intro W1 HM)|(refine hbxA (dst:=some 4) HM rfl rfl ?_;clear HM;intro g4 W1 HM)|(refine hal (dst:=some 6) HM rfl ?_;clear HM;intro g6 W1 HM)|(refine hal HM rfl ?_;clear HM;intro g1 W1 HM))
 exact bodyPost_ret (res_box_tmp rfl HM.out 0 rfl rfl rfl rfl) rfl ⟨by rw [HR.out];rfl,HM.out.below⟩

set_option maxHeartbeats 4000000 in
theorem typed_list (gc gm:Nat) (sv:Value) (l:List SymD) (n:NodeD) (p:Option Addr) (c:Nat) (ts:List ThT) (w:World) (hop:n.op=26) (hS:Sl w p (ts.flatMap ThT.cs)) (hf:∀ t,t ∈ ts→t.t.form) (hl:ts.length≤4611686018427387904) :
  Calls Tryz.prog 86 #[.pointer (some ⟨gc,0,none⟩),.agg n.cs.toArray,.slice p ts.length c] w fun e w'=>e = .returned (resV ((itemsF (ts.map ThT.t),0)))∧Below w.heap.size w w':=by
 have HM:=Lib.hid (Mem.start w)
 obtain ⟨op,kids,text,neg,hi,lo,sc,day⟩:=n
 obtain ⟨⟨rk,ro⟩,hr⟩:∃ r,itemsF (ts.map ThT.t)=r:=⟨_,rfl⟩
 have HS:=Lib.hid hS
 have H1:=Lib.hid (fun W (h:Sl W p (ts.flatMap ThT.cs))=>(show Calls Tryz.prog 119 #[.slice p ts.length c] W fun e w'=>e = .returned (.agg #[.int .i64 rk,.int .i64 ro])∧Below W.heap.size W w' from by
  have h2:=items_any p c ts W h hl
  rw [hr] at h2
  exact h2))
 have HR:=Lib.hid hr
 clear hS hf hr
 obtain rfl:op=26:=hop
 go_enter Tryz.func86,Tryz.ntmps86
 go_wp2_with (first|(go_at_call 119;(with_reducible refine cB HM (H1.out _ (HM.out.sl HS.out)) ?_);clear HM;intro W1 HM)|((with_reducible refine skip_op ?_ ?_);exact rfl)|refine mP ?_|(refine mS ?_;clear HM;intro W1 HM)|(refine hbxA (dst:=some 4) HM rfl rfl ?_;clear HM;intro g4 W1 HM)|(refine hal (dst:=some 6) HM rfl ?_;clear HM;intro g6 W1 HM)|(refine hal HM rfl ?_;clear HM;intro g1 W1 HM))
 exact bodyPost_ret (res_box_tmp rfl HM.out 0 rfl rfl rfl rfl) rfl ⟨by rw [HR.out];rfl,HM.out.below⟩

set_option maxHeartbeats 4000000 in
theorem typed_leaf (gc gm:Nat) (sv:Value) (l:List SymD) (n:NodeD) (p:Option Addr) (c k:Nat) (w:World) (hop:n.op < 8∨26 < n.op) (hC:CheckerAt w gc gm sv l) :
  Calls Tryz.prog 86 #[.pointer (some ⟨gc,0,none⟩),.agg n.cs.toArray,.slice p k c] w fun e w'=>e = .returned (resV (leafF l n.op n.text))∧Below w.heap.size w w':=by
 have HM:=Lib.hid (Mem.start w)
 obtain ⟨op,kids,text,neg,hi,lo,sc,day⟩:=n
 obtain ⟨⟨⟨rk,ro⟩,re⟩,hr⟩:∃ r,leafF l op text=r:=⟨_,rfl⟩
 have HC:=Lib.hid hC
 have H1:=Lib.hid (fun W (h:CheckerAt W gc gm sv l)=>(show Calls Tryz.prog 120 #[.pointer (some ⟨gc,0,none⟩),.agg (NodeD.cs ⟨op,kids,text,neg,hi,lo,sc,day⟩).toArray] W fun e w'=>e = .returned (.tuple #[.agg #[.int .i64 rk,.int .i64 ro],.int .i64 re])∧Below W.heap.size W w' from by
  have h2:=leaf_any gc gm sv l ⟨op,kids,text,neg,hi,lo,sc,day⟩ W h
  rw [show leafF l (NodeD.op ⟨op,kids,text,neg,hi,lo,sc,day⟩) (NodeD.text ⟨op,kids,text,neg,hi,lo,sc,day⟩)=((⟨rk,ro⟩,re):TyD × Int) from hr] at h2
  exact h2))
 have HR:=Lib.hid hr
 clear hC hr
 have b8:(op == 8)=false:=beq_false_of_ne (by have h:op < 8∨26 < op:=hop;omega)
 have b9:(op == 9)=false:=beq_false_of_ne (by have h:op < 8∨26 < op:=hop;omega)
 have b10:(op == 10)=false:=beq_false_of_ne (by have h:op < 8∨26 < op:=hop;omega)
 have b11:(op == 11)=false:=beq_false_of_ne (by have h:op < 8∨26 < op:=hop;omega)
 have b12:(op == 12)=false:=beq_false_of_ne (by have h:op < 8∨26 < op:=hop;omega)
 have b13:(op == 13)=false:=beq_false_of_ne (by have h:op < 8∨26 < op:=hop;omega)
 have b14:(op == 14)=false:=beq_false_of_ne (by have h:op < 8∨26 < op:=hop;omega)
 have b15:(op == 15)=false:=beq_false_of_ne (by have h:op < 8∨26 < op:=hop;omega)
 have b16:(op == 16)=false:=beq_false_of_ne (by have h:op < 8∨26 < op:=hop;omega)
 have b17:(op == 17)=false:=beq_false_of_ne (by have h:op < 8∨26 < op:=hop;omega)
 have b18:(op == 18)=false:=beq_false_of_ne (by have h:op < 8∨26 < op:=hop;omega)
 have b19:(op == 19)=false:=beq_false_of_ne (by have h:op < 8∨26 < op:=hop;omega)
 have b20:(op == 20)=false:=beq_false_of_ne (by have h:op < 8∨26 < op:=hop;omega)
 have b21:(op == 21)=false:=beq_false_of_ne (by have h:op < 8∨26 < op:=hop;omega)
 have b22:(op == 22)=false:=beq_false_of_ne (by have h:op < 8∨26 < op:=hop;omega)
 have b23:(op == 23)=false:=beq_false_of_ne (by have h:op < 8∨26 < op:=hop;omega)
 have b24:(op == 24)=false:=beq_false_of_ne (by have h:op < 8∨26 < op:=hop;omega)
 have b25:(op == 25)=false:=beq_false_of_ne (by have h:op < 8∨26 < op:=hop;omega)
 have b26:(op == 26)=false:=beq_false_of_ne (by have h:op < 8∨26 < op:=hop;omega)
 clear hop
 go_enter Tryz.func86,Tryz.ntmps86
 go_wp2_with (first|(go_at_call 120;(with_reducible refine cB HM (H1.out _ (HM.out.checker HC.out)) ?_);clear HM;intro W1 HM)|((with_reducible refine skip_op ?_ ?_);exact rfl)|refine mP ?_|(refine mS ?_;clear HM;intro W1 HM)|(refine hbxA (dst:=some 4) HM rfl rfl ?_;clear HM;intro g4 W1 HM)|(refine hal (dst:=some 6) HM rfl ?_;clear HM;intro g6 W1 HM)|(refine hal HM rfl ?_;clear HM;intro g1 W1 HM))
 exact bodyPost_ret (res_box_tmp rfl HM.out 0 rfl rfl rfl rfl) rfl ⟨by rw [HR.out];rfl,HM.out.below⟩

end Go.Proofs.YtheimopjglkgjaaGreatDoor

namespace Go.Proofs.YtheimopjglkgjaaGreatDoor
open Go.RowKit
set_option linter.unusedVariables false
set_option linter.unusedSimpArgs false
set_option maxRecDepth 100000



set_option maxHeartbeats 4000000 in
theorem typed_if (gc gm:Nat) (sv:Value) (l:List SymD) (n:NodeD) (b:Addr) (c:Nat) (x y z:ThT) (w:World) (hop:n.op=21) (hS:Cells w b (([x,y,z]:List ThT).flatMap ThT.cs)) (hc:3≤c) (hx:x.t.form) (hy:y.t.form) (hz:z.t.form) :
  Calls Tryz.prog 86 #[.pointer (some ⟨gc,0,none⟩),.agg n.cs.toArray,.slice (some b) 3 c] w fun e w'=>e = .returned (resV (toldF (meetB x.t.k x.t.o 1 0) ⟨(joinT y.t.k y.t.o z.t.k z.t.o).1,(joinT y.t.k y.t.o z.t.k z.t.o).2⟩))∧Below w.heap.size w w':=by
 have HM:=Lib.hid (Mem.start w)
 obtain ⟨op,kids,text,neg,hi,lo,sc,day⟩:=n
 obtain ⟨⟨xk,xo⟩,xq,xn,xc⟩:=x
 obtain ⟨⟨yk,yo⟩,yq,yn,yc⟩:=y
 obtain ⟨⟨zk,zo⟩,zq,zn,zc⟩:=z
 have T0:=Lib.hid (show Cells w (b.add (0 * 3)) [.int .i64 xk,.int .i64 xo] from (hS.elem ThT.cs 3 ThT.cs_len (i:=0) rfl).take 2)
 have U0:=Lib.hid (show Cells w (b.add (0 * 3)) [.int .i64 xk,.int .i64 xo,.slice xq xn xc] from hS.elem ThT.cs 3 ThT.cs_len (i:=0) rfl)
 have T1:=Lib.hid (show Cells w (b.add (1 * 3)) [.int .i64 yk,.int .i64 yo] from (hS.elem ThT.cs 3 ThT.cs_len (i:=1) rfl).take 2)
 have U1:=Lib.hid (show Cells w (b.add (1 * 3)) [.int .i64 yk,.int .i64 yo,.slice yq yn yc] from hS.elem ThT.cs 3 ThT.cs_len (i:=1) rfl)
 have T2:=Lib.hid (show Cells w (b.add (2 * 3)) [.int .i64 zk,.int .i64 zo] from (hS.elem ThT.cs 3 ThT.cs_len (i:=2) rfl).take 2)
 have U2:=Lib.hid (show Cells w (b.add (2 * 3)) [.int .i64 zk,.int .i64 zo,.slice zq zn zc] from hS.elem ThT.cs 3 ThT.cs_len (i:=2) rfl)
 obtain ⟨⟨jk,jo⟩,hj⟩:∃ j,joinT yk yo zk zo=j:=⟨_,rfl⟩
 obtain ⟨m,hm⟩:∃ m,meetB xk xo 1 0=m:=⟨_,rfl⟩
 have HX:=Lib.hid (show Sl w (some b) (([⟨⟨xk,xo⟩,xq,xn,xc⟩]:List ThT).flatMap ThT.cs) from ⟨(fun e=>by cases e),(fun a e=>by cases e;exact hS.take 3)⟩)
 have H1:=Lib.hid (fun W (h:Sl W (some b) (([⟨⟨xk,xo⟩,xq,xn,xc⟩]:List ThT).flatMap ThT.cs))=>(show Calls Tryz.prog 117 #[.slice (some b) 1 c,.int .i64 1] W fun e w'=>e = .returned (.bool m)∧Below W.heap.size W w' by
  have h2:=both_any (some b) c [⟨⟨xk,xo⟩,xq,xn,xc⟩] 1 W h (fun t ht=>by rw [List.mem_singleton.1 ht];exact hx) (by decide) (by simp)
  rw [show allB (([⟨⟨xk,xo⟩,xq,xn,xc⟩]:List ThT).map ThT.t) 1=m by rw [← hm];simp [allB]] at h2
  exact h2))
 have H2:=Lib.hid (fun W=>hj▸kJoin_any yk yo zk zo W hy hz)
 have HR:=Lib.hid (show toldF (meetB xk xo 1 0) ⟨(joinT yk yo zk zo).1,(joinT yk yo zk zo).2⟩=toldF m ⟨jk,jo⟩ by rw [hm,hj])
 clear hS hm hj
 obtain rfl:op=21:=hop
 cases m
 all_goals
  go_enter Tryz.func86,Tryz.ntmps86
  go_wp2_with (first|((with_reducible refine skip_op ?_ ?_);exact rfl)|refine mP ?_|(refine mS ?_;clear HM;intro W1 HM)|(refine hbxA (dst:=some 4) HM rfl rfl ?_;clear HM;intro g4 W1 HM)|(refine hal (dst:=some 6) HM rfl ?_;clear HM;intro g6 W1 HM)|(refine hal HM rfl ?_;clear HM;intro g1 W1 HM))
  refine wp_region_fork [(true,0),(true,1),(true,2),(true,3),(true,4),(true,5),(true,6),(true,7)] [(false,8),(true,9),(true,10),(true,11),(false,12),(false,13),(true,14)] [(false,12),(false,8),(true,9),(true,10),(true,11),(false,13),(true,14)] (by kernel_rfl) (by kernel_rfl) rfl (by kernel_rfl) (fun _ _ _ _ _ h=>h) HM.out _ (.cons_cons _ (.cons_cons _ .slnil)) ?_
  intro hNE W1 HM1;replace HM:=Lib.hid HM1;clear HM1
  have HS0:=Lib.hid (HM.out.sub (.cons_cons _ (.cons_cons _ .slnil)))
  simp only [wpFork,wpSteps,List.getElem?_cons_succ,List.getElem?_cons_zero]
  (repeat (first|((with_reducible refine wpQuiet_nil ?_);(try dsimp only))|refine mQ ?_|((with_reducible refine qat 92 ?_);(refine qixa (i:=1) rfl rfl rfl (by decide) ?_))|((with_reducible refine qat 96 ?_);(refine qixa (i:=2) rfl rfl rfl (by decide) ?_))|((with_reducible refine qat 94 ?_);(refine qdA (vs:=[.int .i64 yk,.int .i64 yo]) rfl rfl (fun W ⟨q,hq⟩=>hq▸q.mem.olds T1.out) ?_))|((with_reducible refine qat 98 ?_);(refine qdA (vs:=[.int .i64 zk,.int .i64 zo]) rfl rfl (fun W ⟨q,hq⟩=>hq▸q.mem.olds T2.out) ?_))|go_big_quiet_step (fail)|quiet_step (fail)))
  refine ⟨?_,?_⟩
  ·go_wp2_with (first|(go_at_call 16;(with_reducible refine cB HM (H2.out _) ?_);clear HM;intro W1 HM))
   refine ⟨⟨⟨_,HM.out.sub msub⟩,rfl⟩,?_⟩
   (try dsimp only)
   (repeat (first|((with_reducible refine wpQuiet_nil ?_);(try dsimp only))|go_big_quiet_step (fail)|quiet_step (fail)))
   go_wp2_with (first|(refine hal (dst:=some 10) HM rfl ?_;clear HM;intro g10 W1 HM))
   refine ⟨⟨⟨_,HM.out.sub msub⟩,rfl⟩,?_⟩
   (try dsimp only)
   go_wp2_with (first|(refine mS ?_;clear HM;intro W1 HM))
   refine ⟨⟨⟨_,HM.out.sub msub⟩,rfl⟩,?_⟩
   (try dsimp only)
   (repeat (first|((with_reducible refine wpQuiet_nil ?_);(try dsimp only))|go_big_quiet_step (fail)|quiet_step (fail)))
   clear HS0 hNE
   go_wp2_with fail
   refine wp_region_steps2 [(true,0),(true,1),(true,3),(false,2),(false,4),(true,5),(true,6),(false,7),(true,8)] (by kernel_rfl) (by kernel_rfl) rfl (by kernel_rfl) (fun _ _ _ _ _ h=>h) HM.out _ (.cons_cons _ (.cons _ (.cons_cons _ .slnil))) ?_
   intro hNE W1 HM1;replace HM:=Lib.hid HM1;clear HM1
   have HS0:=Lib.hid (HM.out.sub (.cons_cons _ (.cons _ (.cons_cons _ .slnil))))
   simp only [wpSteps,List.getElem?_cons_succ,List.getElem?_cons_zero]
   (repeat (first|((with_reducible refine wpQuiet_nil ?_);(try dsimp only))|refine mQ ?_|((with_reducible refine qat 103 ?_);(refine qslt (m:=1) rfl rfl rfl (by omega) ?_))|go_big_quiet_step (fail)|quiet_step (fail)))
   go_wp2_with (first|(go_at_call 117;(with_reducible refine cB HM (H1.out _ (HM.out.sl HX.out)) ?_);clear HM;intro W1 HM))
   refine ⟨⟨⟨_,HM.out.sub msub⟩,rfl⟩,?_⟩
   (try dsimp only)
   go_wp2_with (first|(go_at_call 116;first|((with_reducible refine cB HM (told_yes _ _ _) ?_);clear HM;intro W1 HM)|((with_reducible refine cB HM (told_no _ _ _) ?_);clear HM;intro W1 HM)))
   refine ⟨⟨⟨_,HM.out.sub msub⟩,rfl⟩,?_⟩
   (try dsimp only)
   (repeat (first|((with_reducible refine wpQuiet_nil ?_);(try dsimp only))|go_big_quiet_step (fail)|quiet_step (fail)))
   go_wp2_with (first|(refine mS ?_;clear HM;intro W1 HM))
   refine ⟨⟨⟨_,HM.out.sub msub⟩,rfl⟩,?_⟩
   (try dsimp only)
   (repeat (first|((with_reducible refine wpQuiet_nil ?_);(try dsimp only))|go_big_quiet_step (fail)|quiet_step (fail)))
   clear HS0 hNE
   go_wp2_with fail
   exact bodyPost_ret (res_box_tmp rfl HM.out 1 rfl rfl rfl rfl) rfl ⟨by rw [HR.out];rfl,HM.out.below⟩
  ·go_wp2_with (first|(refine hal (dst:=some 10) HM rfl ?_;clear HM;intro g10 W1 HM))
   refine ⟨⟨⟨_,HM.out.sub msub⟩,rfl⟩,?_⟩
   (try dsimp only)
   go_wp2_with (first|(go_at_call 16;(with_reducible refine cB HM (H2.out _) ?_);clear HM;intro W1 HM))
   refine ⟨⟨⟨_,HM.out.sub msub⟩,rfl⟩,?_⟩
   (try dsimp only)
   (repeat (first|((with_reducible refine wpQuiet_nil ?_);(try dsimp only))|go_big_quiet_step (fail)|quiet_step (fail)))
   go_wp2_with (first|(refine mS ?_;clear HM;intro W1 HM))
   refine ⟨⟨⟨_,HM.out.sub msub⟩,rfl⟩,?_⟩
   (try dsimp only)
   (repeat (first|((with_reducible refine wpQuiet_nil ?_);(try dsimp only))|go_big_quiet_step (fail)|quiet_step (fail)))
   clear HS0 hNE
   go_wp2_with fail
   refine wp_region_steps2 [(true,0),(true,1),(true,3),(false,2),(false,4),(true,5),(true,6),(false,7),(true,8)] (by kernel_rfl) (by kernel_rfl) rfl (by kernel_rfl) (fun _ _ _ _ _ h=>h) HM.out _ (.cons_cons _ (.cons _ (.cons_cons _ .slnil))) ?_
   intro hNE W1 HM1;replace HM:=Lib.hid HM1;clear HM1
   have HS0:=Lib.hid (HM.out.sub (.cons_cons _ (.cons _ (.cons_cons _ .slnil))))
   simp only [wpSteps,List.getElem?_cons_succ,List.getElem?_cons_zero]
   (repeat (first|((with_reducible refine wpQuiet_nil ?_);(try dsimp only))|refine mQ ?_|((with_reducible refine qat 103 ?_);(refine qslt (m:=1) rfl rfl rfl (by omega) ?_))|go_big_quiet_step (fail)|quiet_step (fail)))
   go_wp2_with (first|(go_at_call 117;(with_reducible refine cB HM (H1.out _ (HM.out.sl HX.out)) ?_);clear HM;intro W1 HM))
   refine ⟨⟨⟨_,HM.out.sub msub⟩,rfl⟩,?_⟩
   (try dsimp only)
   go_wp2_with (first|(go_at_call 116;first|((with_reducible refine cB HM (told_yes _ _ _) ?_);clear HM;intro W1 HM)|((with_reducible refine cB HM (told_no _ _ _) ?_);clear HM;intro W1 HM)))
   refine ⟨⟨⟨_,HM.out.sub msub⟩,rfl⟩,?_⟩
   (try dsimp only)
   (repeat (first|((with_reducible refine wpQuiet_nil ?_);(try dsimp only))|go_big_quiet_step (fail)|quiet_step (fail)))
   go_wp2_with (first|(refine mS ?_;clear HM;intro W1 HM))
   refine ⟨⟨⟨_,HM.out.sub msub⟩,rfl⟩,?_⟩
   (try dsimp only)
   (repeat (first|((with_reducible refine wpQuiet_nil ?_);(try dsimp only))|go_big_quiet_step (fail)|quiet_step (fail)))
   clear HS0 hNE
   go_wp2_with fail
   exact bodyPost_ret (res_box_tmp rfl HM.out 1 rfl rfl rfl rfl) rfl ⟨by rw [HR.out];rfl,HM.out.below⟩

end Go.Proofs.YtheimopjglkgjaaGreatDoor

namespace Go.Proofs.YtheimopjglkgjaaGreatDoor
open Go.RowKit
set_option linter.unusedVariables false
set_option linter.unusedSimpArgs false
set_option maxRecDepth 100000



set_option maxHeartbeats 4000000 in
theorem typed_path0 (gc gm:Nat) (sv:Value) (l:List SymD) (n:NodeD) (b:Addr) (c:Nat) (x:ThT) (w:World) (hop:n.op=24) (hS:Cells w b (([x]:List ThT).flatMap ThT.cs)) (h0:x.t=⟨0,0⟩) :
  Calls Tryz.prog 86 #[.pointer (some ⟨gc,0,none⟩),.agg n.cs.toArray,.slice (some b) 1 c] w fun e w'=>e = .returned (resV ((⟨0,0⟩,0)))∧Below w.heap.size w w':=by
 have HM:=Lib.hid (Mem.start w)
 obtain ⟨op,kids,text,neg,hi,lo,sc,day⟩:=n
 obtain ⟨⟨xk,xo⟩,xq,xn,xc⟩:=x
 have T0:=Lib.hid (show Cells w (b.add (0 * 3)) [.int .i64 xk,.int .i64 xo] from (hS.elem ThT.cs 3 ThT.cs_len (i:=0) rfl).take 2)
 have U0:=Lib.hid (show Cells w (b.add (0 * 3)) [.int .i64 xk,.int .i64 xo,.slice xq xn xc] from hS.elem ThT.cs 3 ThT.cs_len (i:=0) rfl)
 have b1:(xk == 0)=true:=by cases h0;rfl
 have b2:(xo == 0)=true:=by cases h0;rfl
 clear hS h0
 obtain rfl:op=24:=hop
 go_enter Tryz.func86,Tryz.ntmps86
 go_wp2_with (first|((with_reducible refine skip_op ?_ ?_);exact rfl)|refine mP ?_|(refine mS ?_;clear HM;intro W1 HM)|(refine hbxA (dst:=some 4) HM rfl rfl ?_;clear HM;intro g4 W1 HM)|(refine hal (dst:=some 6) HM rfl ?_;clear HM;intro g6 W1 HM)|(refine hal HM rfl ?_;clear HM;intro g1 W1 HM))
 refine wp_region_steps2 [(true,0),(true,1),(true,2),(true,3),(false,4),(true,5),(false,6),(false,7),(true,8),(true,9),(false,10),(true,11)] (by kernel_rfl) (by kernel_rfl) rfl (by kernel_rfl) (fun _ _ _ _ _ h=>h) HM.out _ (.cons _ (.cons_cons _ .slnil)) ?_
 intro hNE W1 HM1;replace HM:=Lib.hid HM1;clear HM1
 have HS0:=Lib.hid (HM.out.sub (.cons _ (.cons_cons _ .slnil)))
 simp only [wpSteps,List.getElem?_cons_succ,List.getElem?_cons_zero]
 (repeat (first|((with_reducible refine wpQuiet_nil ?_);(try dsimp only))|refine mQ ?_|((with_reducible refine qat 152 ?_);(refine qixa (i:=0) rfl rfl rfl (by decide) ?_))|((with_reducible refine qat 154 ?_);(refine qdA (vs:=[.int .i64 xk,.int .i64 xo]) rfl rfl (fun W ⟨q,hq⟩=>hq▸q.mem.olds T0.out) ?_))|go_big_quiet_step (fail)|quiet_step (fail)))
 go_wp2_with (first|(go_at_call 87;(with_reducible refine cB HM (cof_any _ _) ?_);clear HM;intro W1 HM))
 refine ⟨⟨⟨_,HM.out.sub msub⟩,rfl⟩,?_⟩
 (try dsimp only)
 (repeat (first|((with_reducible refine wpQuiet_nil ?_);(try dsimp only))|go_big_quiet_step (fail)|quiet_step (fail)))
 go_wp2_with (first|(go_at_call 87;(with_reducible refine cB HM (cof_any _ _) ?_);clear HM;intro W1 HM))
 refine ⟨⟨⟨_,HM.out.sub msub⟩,rfl⟩,?_⟩
 (try dsimp only)
 go_wp2_with (first|(go_at_call 116;first|((with_reducible refine cB HM (told_yes _ _ _) ?_);clear HM;intro W1 HM)|((with_reducible refine cB HM (told_no _ _ _) ?_);clear HM;intro W1 HM)))
 refine ⟨⟨⟨_,HM.out.sub msub⟩,rfl⟩,?_⟩
 (try dsimp only)
 (repeat (first|((with_reducible refine wpQuiet_nil ?_);(try dsimp only))|go_big_quiet_step (fail)|quiet_step (fail)))
 go_wp2_with (first|(refine mS ?_;clear HM;intro W1 HM))
 refine ⟨⟨⟨_,HM.out.sub msub⟩,rfl⟩,?_⟩
 (try dsimp only)
 (repeat (first|((with_reducible refine wpQuiet_nil ?_);(try dsimp only))|go_big_quiet_step (fail)|quiet_step (fail)))
 clear HS0 hNE
 go_wp2_with fail
 exact bodyPost_ret (res_box_tmp rfl HM.out 0 rfl rfl rfl rfl) rfl ⟨rfl,HM.out.below⟩

set_option maxHeartbeats 4000000 in
theorem typed_path1 (gc gm:Nat) (sv:Value) (l:List SymD) (n:NodeD) (b:Addr) (c:Nat) (x:ThT) (w:World) (hop:n.op=24) (hS:Cells w b (([x]:List ThT).flatMap ThT.cs)) (h0:x.t.k≠0) :
  Calls Tryz.prog 86 #[.pointer (some ⟨gc,0,none⟩),.agg n.cs.toArray,.slice (some b) 1 c] w fun e w'=>e = .returned (resV ((⟨0,0⟩,9)))∧Below w.heap.size w w':=by
 have HM:=Lib.hid (Mem.start w)
 obtain ⟨op,kids,text,neg,hi,lo,sc,day⟩:=n
 obtain ⟨⟨xk,xo⟩,xq,xn,xc⟩:=x
 have T0:=Lib.hid (show Cells w (b.add (0 * 3)) [.int .i64 xk,.int .i64 xo] from (hS.elem ThT.cs 3 ThT.cs_len (i:=0) rfl).take 2)
 have U0:=Lib.hid (show Cells w (b.add (0 * 3)) [.int .i64 xk,.int .i64 xo,.slice xq xn xc] from hS.elem ThT.cs 3 ThT.cs_len (i:=0) rfl)
 have b1:(xk == 0)=false:=beq_false_of_ne h0
 have b2:(xk != 0)=true:=by simpa using h0
 have b3:¬ xk=0:=h0
 clear hS h0
 obtain rfl:op=24:=hop
 go_enter Tryz.func86,Tryz.ntmps86
 go_wp2_with (first|((with_reducible refine skip_op ?_ ?_);exact rfl)|refine mP ?_|(refine mS ?_;clear HM;intro W1 HM)|(refine hbxA (dst:=some 4) HM rfl rfl ?_;clear HM;intro g4 W1 HM)|(refine hal (dst:=some 6) HM rfl ?_;clear HM;intro g6 W1 HM)|(refine hal HM rfl ?_;clear HM;intro g1 W1 HM))
 refine wp_region_steps2 [(true,0),(true,1),(true,2),(true,3),(false,4),(true,5),(false,6),(false,7),(true,8),(true,9),(false,10),(true,11)] (by kernel_rfl) (by kernel_rfl) rfl (by kernel_rfl) (fun _ _ _ _ _ h=>h) HM.out _ (.cons _ (.cons_cons _ .slnil)) ?_
 intro hNE W1 HM1;replace HM:=Lib.hid HM1;clear HM1
 have HS0:=Lib.hid (HM.out.sub (.cons _ (.cons_cons _ .slnil)))
 simp only [wpSteps,List.getElem?_cons_succ,List.getElem?_cons_zero]
 (repeat (first|((with_reducible refine wpQuiet_nil ?_);(try dsimp only))|refine mQ ?_|((with_reducible refine qat 152 ?_);(refine qixa (i:=0) rfl rfl rfl (by decide) ?_))|((with_reducible refine qat 154 ?_);(refine qdA (vs:=[.int .i64 xk,.int .i64 xo]) rfl rfl (fun W ⟨q,hq⟩=>hq▸q.mem.olds T0.out) ?_))|go_big_quiet_step (fail)|quiet_step (fail)))
 go_wp2_with (first|(go_at_call 87;(with_reducible refine cB HM (cof_any _ _) ?_);clear HM;intro W1 HM))
 refine ⟨⟨⟨_,HM.out.sub msub⟩,rfl⟩,?_⟩
 (try dsimp only)
 (repeat (first|((with_reducible refine wpQuiet_nil ?_);(try dsimp only))|go_big_quiet_step (fail)|quiet_step (fail)))
 go_wp2_with (first|(go_at_call 87;(with_reducible refine cB HM (cof_any _ _) ?_);clear HM;intro W1 HM))
 refine ⟨⟨⟨_,HM.out.sub msub⟩,rfl⟩,?_⟩
 (try dsimp only)
 go_wp2_with (first|(go_at_call 116;first|((with_reducible refine cB HM (told_yes _ _ _) ?_);clear HM;intro W1 HM)|((with_reducible refine cB HM (told_no _ _ _) ?_);clear HM;intro W1 HM)))
 refine ⟨⟨⟨_,HM.out.sub msub⟩,rfl⟩,?_⟩
 (try dsimp only)
 (repeat (first|((with_reducible refine wpQuiet_nil ?_);(try dsimp only))|go_big_quiet_step (fail)|quiet_step (fail)))
 go_wp2_with (first|(refine mS ?_;clear HM;intro W1 HM))
 refine ⟨⟨⟨_,HM.out.sub msub⟩,rfl⟩,?_⟩
 (try dsimp only)
 (repeat (first|((with_reducible refine wpQuiet_nil ?_);(try dsimp only))|go_big_quiet_step (fail)|quiet_step (fail)))
 clear HS0 hNE
 go_wp2_with fail
 exact bodyPost_ret (res_box_tmp rfl HM.out 0 rfl rfl rfl rfl) rfl ⟨rfl,HM.out.below⟩

set_option maxHeartbeats 4000000 in
theorem typed_path2 (gc gm:Nat) (sv:Value) (l:List SymD) (n:NodeD) (b:Addr) (c:Nat) (x:ThT) (w:World) (hop:n.op=24) (hS:Cells w b (([x]:List ThT).flatMap ThT.cs)) (h1:x.t.k=0) (h0:x.t.o≠0) :
  Calls Tryz.prog 86 #[.pointer (some ⟨gc,0,none⟩),.agg n.cs.toArray,.slice (some b) 1 c] w fun e w'=>e = .returned (resV ((⟨0,0⟩,9)))∧Below w.heap.size w w':=by
 have HM:=Lib.hid (Mem.start w)
 obtain ⟨op,kids,text,neg,hi,lo,sc,day⟩:=n
 obtain ⟨⟨xk,xo⟩,xq,xn,xc⟩:=x
 have T0:=Lib.hid (show Cells w (b.add (0 * 3)) [.int .i64 xk,.int .i64 xo] from (hS.elem ThT.cs 3 ThT.cs_len (i:=0) rfl).take 2)
 have U0:=Lib.hid (show Cells w (b.add (0 * 3)) [.int .i64 xk,.int .i64 xo,.slice xq xn xc] from hS.elem ThT.cs 3 ThT.cs_len (i:=0) rfl)
 have b1:(xk == 0)=true:=by rw [show xk=0 from h1];rfl
 have b2:(xo == 0)=false:=beq_false_of_ne h0
 clear hS h0 h1
 obtain rfl:op=24:=hop
 go_enter Tryz.func86,Tryz.ntmps86
 go_wp2_with (first|((with_reducible refine skip_op ?_ ?_);exact rfl)|refine mP ?_|(refine mS ?_;clear HM;intro W1 HM)|(refine hbxA (dst:=some 4) HM rfl rfl ?_;clear HM;intro g4 W1 HM)|(refine hal (dst:=some 6) HM rfl ?_;clear HM;intro g6 W1 HM)|(refine hal HM rfl ?_;clear HM;intro g1 W1 HM))
 refine wp_region_steps2 [(true,0),(true,1),(true,2),(true,3),(false,4),(true,5),(false,6),(false,7),(true,8),(true,9),(false,10),(true,11)] (by kernel_rfl) (by kernel_rfl) rfl (by kernel_rfl) (fun _ _ _ _ _ h=>h) HM.out _ (.cons _ (.cons_cons _ .slnil)) ?_
 intro hNE W1 HM1;replace HM:=Lib.hid HM1;clear HM1
 have HS0:=Lib.hid (HM.out.sub (.cons _ (.cons_cons _ .slnil)))
 simp only [wpSteps,List.getElem?_cons_succ,List.getElem?_cons_zero]
 (repeat (first|((with_reducible refine wpQuiet_nil ?_);(try dsimp only))|refine mQ ?_|((with_reducible refine qat 152 ?_);(refine qixa (i:=0) rfl rfl rfl (by decide) ?_))|((with_reducible refine qat 154 ?_);(refine qdA (vs:=[.int .i64 xk,.int .i64 xo]) rfl rfl (fun W ⟨q,hq⟩=>hq▸q.mem.olds T0.out) ?_))|go_big_quiet_step (fail)|quiet_step (fail)))
 go_wp2_with (first|(go_at_call 87;(with_reducible refine cB HM (cof_any _ _) ?_);clear HM;intro W1 HM))
 refine ⟨⟨⟨_,HM.out.sub msub⟩,rfl⟩,?_⟩
 (try dsimp only)
 (repeat (first|((with_reducible refine wpQuiet_nil ?_);(try dsimp only))|go_big_quiet_step (fail)|quiet_step (fail)))
 go_wp2_with (first|(go_at_call 87;(with_reducible refine cB HM (cof_any _ _) ?_);clear HM;intro W1 HM))
 refine ⟨⟨⟨_,HM.out.sub msub⟩,rfl⟩,?_⟩
 (try dsimp only)
 go_wp2_with (first|(go_at_call 116;first|((with_reducible refine cB HM (told_yes _ _ _) ?_);clear HM;intro W1 HM)|((with_reducible refine cB HM (told_no _ _ _) ?_);clear HM;intro W1 HM)))
 refine ⟨⟨⟨_,HM.out.sub msub⟩,rfl⟩,?_⟩
 (try dsimp only)
 (repeat (first|((with_reducible refine wpQuiet_nil ?_);(try dsimp only))|go_big_quiet_step (fail)|quiet_step (fail)))
 go_wp2_with (first|(refine mS ?_;clear HM;intro W1 HM))
 refine ⟨⟨⟨_,HM.out.sub msub⟩,rfl⟩,?_⟩
 (try dsimp only)
 (repeat (first|((with_reducible refine wpQuiet_nil ?_);(try dsimp only))|go_big_quiet_step (fail)|quiet_step (fail)))
 clear HS0 hNE
 go_wp2_with fail
 exact bodyPost_ret (res_box_tmp rfl HM.out 0 rfl rfl rfl rfl) rfl ⟨rfl,HM.out.below⟩

end Go.Proofs.YtheimopjglkgjaaGreatDoor

namespace Go.Proofs.YtheimopjglkgjaaGreatDoor
open Go.RowKit
set_option linter.unusedVariables false
set_option linter.unusedSimpArgs false
set_option maxRecDepth 100000

def ThsOk (w:World):List ThT→List ThD→Prop
 | [],[]=>True
 | x :: ts,d :: ds=>ThOk w x d∧ThsOk w ts ds
 | _,_=>False
theorem ThsOk.types {w:World}:∀ {ts:List ThT} {ds:List ThD},ThsOk w ts ds→ts.map ThT.t=ds.map ThD.t
 | [],[],_=>rfl
 | x :: ts,d :: ds,h=>by
  obtain ⟨h1,h2⟩:=(h:ThOk w x d∧ThsOk w ts ds)
  rw [List.map_cons,List.map_cons,h1.1,ThsOk.types h2]
 | [],_ :: _,h=>h.elim
 | _ :: _,[],h=>h.elim
theorem ThsOk.len {w:World} {ts:List ThT} {ds:List ThD} (h:ThsOk w ts ds):ts.length=ds.length:=by
 have:=congrArg List.length h.types
 simpa using this
def ThForm (d:ThD):Prop:=d.t.form∧∀ a,a ∈ d.qs→a.t.form
theorem ThsOk.forms {w:World} {ts:List ThT} {ds:List ThD} (h:ThsOk w ts ds) (hf:∀ d,d ∈ ds→ThForm d):∀ t,t ∈ ts→t.t.form:=fun t ht=>by
 have h1:t.t ∈ ts.map ThT.t:=List.mem_map_of_mem ht
 rw [h.types] at h1
 obtain ⟨d,hd,he⟩:=List.mem_map.1 h1
 rw [← he]
 exact (hf d hd).1

/-- The type of a node out of its parts. -/
def typedF (l:List SymD) (op:Int) (s:ByteArray) (ds:List ThD):TyD × Int:=
 if op=8∨op=10∨op=11∨op=12 then toldF (allB (ds.map ThD.t) 2) ⟨2,0⟩
 else if op=9 then addF (ds.map ThD.t)
 else if op=13∨op=14 then (match ds with | [x,y]=>toldF (meetB x.t.k x.t.o y.t.k y.t.o) ⟨1,0⟩|_=>(⟨0,0⟩,0))
 else if op=15∨op=16∨op=17∨op=18 then (match ds with | [x,y]=>toldF (ordB x.t.k x.t.o y.t.k y.t.o) ⟨1,0⟩|_=>(⟨0,0⟩,0))
 else if op=19∨op=20 then toldF (allB (ds.map ThD.t) 1) ⟨1,0⟩
 else if op=21 then (match ds with | [x,y,z]=>toldF (meetB x.t.k x.t.o 1 0) ⟨(joinT y.t.k y.t.o z.t.k z.t.o).1,(joinT y.t.k y.t.o z.t.k z.t.o).2⟩|_=>(⟨0,0⟩,0))
 else if op=22 then (match ds with | [x,y,z]=>toldF (ordB x.t.k x.t.o y.t.k y.t.o && ordB x.t.k x.t.o z.t.k z.t.o) ⟨1,0⟩|_=>(⟨0,0⟩,0))
 else if op=23 then (match ds with | [x,y]=>toldF (asksB x.t y.qs) ⟨1,0⟩|_=>(⟨0,0⟩,0))
 else if op=24 then (match ds with | [x]=>toldF (x.t.k == 0 && x.t.o == 0) ⟨0,0⟩|_=>(⟨0,0⟩,0))
 else if op=25 then callF (fnF s.toList) (ds.map ThD.t)
 else if op=26 then (itemsF (ds.map ThD.t),0)
 else leafF l op s

theorem two_of {α:Type} {l:List α} (h:l.length=2):∃ x y,l=[x,y]:=by
 match l,h with
 | [x,y],_=>exact ⟨x,y,rfl⟩
theorem three_of {α:Type} {l:List α} (h:l.length=3):∃ x y z,l=[x,y,z]:=by
 match l,h with
 | [x,y,z],_=>exact ⟨x,y,z,rfl⟩
theorem one_of {α:Type} {l:List α} (h:l.length=1):∃ x,l=[x]:=by
 match l,h with
 | [x],_=>exact ⟨x,rfl⟩
theorem kids_eq {op:Int} {k:Nat} {m:Int} (h:kidsB op k=true) (ha:arI op=(m,m)) (hm:0≤m):(k:Int)=m:=by
 rw [kids_int] at h
 have h1:=of_decide_eq_true h
 rw [ha] at h1
 have h2:m≠-1:=by omega
 rcases h1.2.2 with h3|h3
 ·exact absurd h3 h2
 ·exact Int.le_antisymm h3 h1.2.1

theorem typed_any (gc gm:Nat) (sv:Value) (l:List SymD) (n:NodeD) (p:Option Addr) (c:Nat) (ts:List ThT) (ds:List ThD) (w:World) (hC:CheckerAt w gc gm sv l) (hS:Sl w p (ts.flatMap ThT.cs)) (hD:ThsOk w ts ds) (hF:∀ d,d ∈ ds→ThForm d) (hk:kidsB n.op ts.length=true) (hc:ts.length≤c) (hl:ts.length≤4611686018427387904) (hq:∀ d,d ∈ ds→d.qs.length≤4611686018427387904) :
  Calls Tryz.prog 86 #[.pointer (some ⟨gc,0,none⟩),.agg n.cs.toArray,.slice p ts.length c] w fun e w'=>e = .returned (resV (typedF l n.op n.text ds))∧Below w.heap.size w w':=by
 have hT:=hD.types
 have hf:=hD.forms hF
 have hln:=hD.len
 unfold typedF
 by_cases h1:n.op=8∨n.op=10∨n.op=11∨n.op=12
 ·rw [if_pos h1,← hT]
  exact typed_num gc gm sv l n p c ts w h1 hS hf hl
 rw [if_neg h1]
 by_cases h2:n.op=9
 ·rw [if_pos h2,← hT]
  exact typed_add gc gm sv l n p c ts w h2 hS hf hl
 rw [if_neg h2]
 by_cases h3:n.op=13∨n.op=14
 ·rw [if_pos h3]
  have hlen:ts.length=2:=by have:=kids_eq (m:=2) hk (by rcases h3 with e|e <;> rw [e] <;> rfl) (by decide);omega
  obtain ⟨x,y,rfl⟩:=two_of hlen
  obtain ⟨x',y',rfl⟩:=two_of (hln▸hlen)
  obtain ⟨b,rfl,hb⟩:=hS.some_at (i:=0) ThT.cs_len (by decide) (by simp)
  obtain ⟨e1,e2,-⟩:=(hD:ThOk w x x'∧ThOk w y y'∧True)
  dsimp only
  rw [← e1.1,← e2.1]
  exact typed_eq gc gm sv l n b c x y w h3 hb (hf x (by simp)) (hf y (by simp))
 rw [if_neg h3]
 by_cases h4:n.op=15∨n.op=16∨n.op=17∨n.op=18
 ·rw [if_pos h4]
  have hlen:ts.length=2:=by have:=kids_eq (m:=2) hk (by rcases h4 with e|e|e|e <;> rw [e] <;> rfl) (by decide);omega
  obtain ⟨x,y,rfl⟩:=two_of hlen
  obtain ⟨x',y',rfl⟩:=two_of (hln▸hlen)
  obtain ⟨b,rfl,hb⟩:=hS.some_at (i:=0) ThT.cs_len (by decide) (by simp)
  obtain ⟨e1,e2,-⟩:=(hD:ThOk w x x'∧ThOk w y y'∧True)
  dsimp only
  rw [← e1.1,← e2.1]
  exact typed_lt gc gm sv l n b c x y w h4 hb (hf x (by simp)) (hf y (by simp))
 rw [if_neg h4]
 by_cases h5:n.op=19∨n.op=20
 ·rw [if_pos h5,← hT]
  exact typed_truth gc gm sv l n p c ts w h5 hS hf hl
 rw [if_neg h5]
 by_cases h6:n.op=21
 ·rw [if_pos h6]
  have hlen:ts.length=3:=by have:=kids_eq (m:=3) hk (by rw [h6];rfl) (by decide);omega
  obtain ⟨x,y,z,rfl⟩:=three_of hlen
  obtain ⟨x',y',z',rfl⟩:=three_of (hln▸hlen)
  obtain ⟨b,rfl,hb⟩:=hS.some_at (i:=0) ThT.cs_len (by decide) (by simp)
  obtain ⟨e1,e2,e3,-⟩:=(hD:ThOk w x x'∧ThOk w y y'∧ThOk w z z'∧True)
  dsimp only
  rw [← e1.1,← e2.1,← e3.1]
  exact typed_if gc gm sv l n b c x y z w h6 hb hc (hf x (by simp)) (hf y (by simp)) (hf z (by simp))
 rw [if_neg h6]
 by_cases h7:n.op=22
 ·rw [if_pos h7]
  have hlen:ts.length=3:=by have:=kids_eq (m:=3) hk (by rw [h7];rfl) (by decide);omega
  obtain ⟨x,y,z,rfl⟩:=three_of hlen
  obtain ⟨x',y',z',rfl⟩:=three_of (hln▸hlen)
  obtain ⟨b,rfl,hb⟩:=hS.some_at (i:=0) ThT.cs_len (by decide) (by simp)
  obtain ⟨e1,e2,e3,-⟩:=(hD:ThOk w x x'∧ThOk w y y'∧ThOk w z z'∧True)
  dsimp only
  rw [← e1.1,← e2.1,← e3.1]
  exact typed_between gc gm sv l n b c x y z w h7 hb (hf x (by simp)) (hf y (by simp)) (hf z (by simp))
 rw [if_neg h7]
 by_cases h8:n.op=23
 ·rw [if_pos h8]
  have hlen:ts.length=2:=by have:=kids_eq (m:=2) hk (by rw [h8];rfl) (by decide);omega
  obtain ⟨x,y,rfl⟩:=two_of hlen
  obtain ⟨x',y',rfl⟩:=two_of (hln▸hlen)
  obtain ⟨b,rfl,hb⟩:=hS.some_at (i:=0) ThT.cs_len (by decide) (by simp)
  obtain ⟨e1,e2,-⟩:=(hD:ThOk w x x'∧ThOk w y y'∧True)
  dsimp only
  rw [← e1.1]
  exact typed_in gc gm sv l n b c x y w h8 hb y' e2 (hF y' (by simp)).2 (hf x (by simp)) (hq y' (by simp))
 rw [if_neg h8]
 by_cases h9:n.op=24
 ·rw [if_pos h9]
  have hlen:ts.length=1:=by have:=kids_eq (m:=1) hk (by rw [h9];rfl) (by decide);omega
  obtain ⟨x,rfl⟩:=one_of hlen
  obtain ⟨x',rfl⟩:=one_of (hln▸hlen)
  obtain ⟨b,rfl,hb⟩:=hS.some_at (i:=0) ThT.cs_len (by decide) (by simp)
  obtain ⟨e1,-⟩:=(hD:ThOk w x x'∧True)
  show Calls _ _ _ _ fun e w'=>e = .returned (resV (toldF (x'.t.k == 0 && x'.t.o == 0) ⟨0,0⟩))∧_
  rw [← e1.1]
  by_cases h0:x.t.k=0
  ·by_cases h0' : x.t.o=0
   ·rw [show (x.t.k == 0 && x.t.o == 0)=true by rw [h0,h0'];rfl]
    refine typed_path0 gc gm sv l n b c x w h9 hb ?_
    obtain ⟨⟨xk,xo⟩,_,_,_⟩:=x
    obtain rfl:xk=0:=h0
    obtain rfl:xo=0:=h0'
    rfl
   ·rw [show (x.t.k == 0 && x.t.o == 0)=false by rw [Bool.and_eq_false_iff];exact Or.inr (beq_false_of_ne h0')]
    exact typed_path2 gc gm sv l n b c x w h9 hb h0 h0'
  ·rw [show (x.t.k == 0 && x.t.o == 0)=false by rw [Bool.and_eq_false_iff];exact Or.inl (beq_false_of_ne h0)]
   exact typed_path1 gc gm sv l n b c x w h9 hb h0
 rw [if_neg h9]
 by_cases h10:n.op=25
 ·rw [if_pos h10,← hT]
  exact typed_call gc gm sv l n p c ts w h10 hS hf hl
 rw [if_neg h10]
 by_cases h11:n.op=26
 ·rw [if_pos h11,← hT]
  exact typed_list gc gm sv l n p c ts w h11 hS hf hl
 rw [if_neg h11]
 exact typed_leaf gc gm sv l n p c ts.length w (by omega) hC

/-- The machine's step. -/
def partsD (n:NodeD) (ds:List ThD):List ThD:=ds.drop (ds.length - n.kids.toNat)
def stepT (l:List SymD) (ds:List ThD) (n:NodeD):ThD × Int:=
 if n.op=36∨n.op=37 then (⟨⟨0,0⟩,(partsD n ds).flatMap ThD.qs⟩,0)
 else if 30≤n.op∧n.op≤35 then (⟨⟨0,0⟩,(partsD n ds).map fun y=>⟨n.op != 30,y.t⟩⟩,0)
 else (⟨(typedF l n.op n.text (partsD n ds)).1,[]⟩,(typedF l n.op n.text (partsD n ds)).2)
def nextT (l:List SymD) (ds:List ThD) (n:NodeD):List ThD:=ds.take (ds.length - n.kids.toNat)++[(stepT l ds n).1]
def runT (l:List SymD):List NodeD→List ThD→ThD × Int
 | [],ds=>(ds.headD ⟨⟨0,0⟩,[]⟩,0)
 | n :: ns,ds=>if (stepT l ds n).2=0 then runT l ns (nextT l ds n) else (⟨⟨0,0⟩,[]⟩,(stepT l ds n).2)
def sizeT (ds:List ThD):Nat:=(ds.map fun d=>d.qs.length + 1).sum
end Go.Proofs.YtheimopjglkgjaaGreatDoor
