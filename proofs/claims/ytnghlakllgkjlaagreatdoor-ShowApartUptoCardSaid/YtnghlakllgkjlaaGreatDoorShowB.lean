/- Show: the text of a node out of its parts. (short) -/
import Derived.Test.YtnghlakllgkjlaaGreatDoorShowLeaf
namespace Go.Proofs.YtnghlakllgkjlaaGreatDoor
open Go.RowKit
set_option linter.unusedVariables false
set_option linter.unusedSimpArgs false
set_option maxRecDepth 100000
set_option maxHeartbeats 8000000 in
theorem shTell_neg (op kids:Int) (t:Tx) (neg:Bool) (hi lo:Nat) (sc day:Int) (b:Addr) (c:Nat) (p:Tx × Int) (w:World) (ho:op=8) (hS:Cells w b ([p].flatMap pcC)) (hp:p.1.length≤1000) (ht:t.length≤1099511627776) :
  Calls Tryz.prog 35 #[.agg #[.int .i64 op,.int .i64 kids,.string ⟨t.toArray⟩,.bool neg,.int .u64 hi,.int .u64 lo,.int .i64 sc,.int .i64 day],.slice (some b) 1 c] w fun e w'=>e = .returned (.string ⟨([45]++atF p.1 (lvlF p.2) 6).toArray⟩)∧RowKit.Below w.heap.size w w':=by
 subst ho
 have HM:=Lib.hid (Mem.start w)
 have E0:=Lib.hid (show Cells w (b.add (0 * 2)) [.string ⟨p.1.toArray⟩,.int .i64 (lvlF p.2)] from hS.elem pcC 2 pcC_len (i:=0) rfl)
 have HA0:=Lib.hid (fun W=>shAt_any p.1 (lvlF p.2) (6) W (by omega))
 have hA0:=atF_bd p.1 (lvlF p.2) (6)
 generalize atF p.1 (lvlF p.2) (6)=a0 at *
 generalize lvlF p.2=l0 at *
 obtain ⟨p,_⟩:=p
 dsimp only at *
 clear hS
 go_enter Tryz.func35,Tryz.ntmps35
 go_wp2_with (first|refine mP ?_|((with_reducible refine iat 2 ?_);refine mB ?_;clear HM;intro g2 W1 HM)|((with_reducible refine iat 13 ?_);(refine ixa rfl rfl rfl (i:=0) (by omega) ?_))|((with_reducible refine iat 14 ?_);(refine ldxW (HM.out.olds E0.out) rfl rfl ?_))|(go_at_call 81;(with_reducible refine cB HM (HA0.out _) ?_);clear HM;intro W1 HM)|((with_reducible refine iat 16 ?_);(refine tcat rfl rfl (by simp;omega) ?_)))
 go_ret
 exact ⟨by first|rfl|simp [List.append_assoc],HM.out.below⟩
set_option maxHeartbeats 8000000 in
theorem shTell_if (op kids:Int) (t:Tx) (neg:Bool) (hi lo:Nat) (sc day:Int) (b:Addr) (c:Nat) (p q r:Tx × Int) (w:World) (ho:op=21) (hS:Cells w b ([p,q,r].flatMap pcC)) (hp:p.1.length≤1000) (hq:q.1.length≤1000) (hr:r.1.length≤1000) (ht:t.length≤1099511627776) :
  Calls Tryz.prog 35 #[.agg #[.int .i64 op,.int .i64 kids,.string ⟨t.toArray⟩,.bool neg,.int .u64 hi,.int .u64 lo,.int .i64 sc,.int .i64 day],.slice (some b) 3 c] w fun e w'=>e = .returned (.string ⟨([105,102,32]++p.1++[32,116,104,101,110,32]++q.1++[32,101,108,115,101,32]++r.1).toArray⟩)∧RowKit.Below w.heap.size w w':=by
 subst ho
 have HM:=Lib.hid (Mem.start w)
 have E0:=Lib.hid (show Cells w (b.add (0 * 2)) [.string ⟨p.1.toArray⟩,.int .i64 (lvlF p.2)] from hS.elem pcC 2 pcC_len (i:=0) rfl)
 have E1:=Lib.hid (show Cells w (b.add (1 * 2)) [.string ⟨q.1.toArray⟩,.int .i64 (lvlF q.2)] from hS.elem pcC 2 pcC_len (i:=1) rfl)
 have E2:=Lib.hid (show Cells w (b.add (2 * 2)) [.string ⟨r.1.toArray⟩,.int .i64 (lvlF r.2)] from hS.elem pcC 2 pcC_len (i:=2) rfl)
 generalize lvlF p.2=l0 at *
 obtain ⟨p,_⟩:=p
 dsimp only at *
 generalize lvlF q.2=l1 at *
 obtain ⟨q,_⟩:=q
 dsimp only at *
 generalize lvlF r.2=l2 at *
 obtain ⟨r,_⟩:=r
 dsimp only at *
 clear hS
 go_enter Tryz.func35,Tryz.ntmps35
 go_wp2_with (first|refine mP ?_|((with_reducible refine iat 2 ?_);refine mB ?_;clear HM;intro g2 W1 HM))
 refine wp_region_mem (by kernel_rfl) (by kernel_rfl) HM.out ?_;intro hNE;(repeat (any_goals (first|((with_reducible refine skip_q ?_ ?_ ?_);(exact rfl);(rotate_left;(exact (hNE.elim fun p=>⟨p.W,p,rfl⟩))))|refine mQ ?_|((with_reducible refine qat 20 ?_);(refine qixa rfl rfl rfl (i:=0) (by omega) ?_))|((with_reducible refine qat 26 ?_);(refine qixa rfl rfl rfl (i:=1) (by omega) ?_))|((with_reducible refine qat 32 ?_);(refine qixa rfl rfl rfl (i:=2) (by omega) ?_))|((with_reducible refine qat 22 ?_);(refine qdx0 E0.out rfl rfl ?_))|((with_reducible refine qat 28 ?_);(refine qdx0 E1.out rfl rfl ?_))|((with_reducible refine qat 34 ?_);(refine qdx0 E2.out rfl rfl ?_))|((with_reducible refine qat 23 ?_);(refine qtcat rfl rfl (by simp;omega) ?_))|((with_reducible refine qat 24 ?_);(refine qtcat rfl rfl (by simp;omega) ?_))|((with_reducible refine qat 29 ?_);(refine qtcat rfl rfl (by simp;omega) ?_))|((with_reducible refine qat 30 ?_);(refine qtcat rfl rfl (by simp;omega) ?_))|((with_reducible refine qat 35 ?_);(refine qtcat rfl rfl (by simp;omega) ?_))|go_big_quiet_step (fail)|quiet_step (fail))));clear hNE;refine wpQuiet_nil ?_;intro W1 HM1;replace HM:=Lib.hid HM1;clear HM1
 go_wp2_with (first|refine mP ?_|((with_reducible refine iat 2 ?_);refine mB ?_;clear HM;intro g2 W1 HM))
 go_ret
 exact ⟨by first|rfl|simp [List.append_assoc],HM.out.below⟩
set_option maxHeartbeats 8000000 in
theorem shTell_between (op kids:Int) (t:Tx) (neg:Bool) (hi lo:Nat) (sc day:Int) (b:Addr) (c:Nat) (p q r:Tx × Int) (w:World) (ho:op=22) (hS:Cells w b ([p,q,r].flatMap pcC)) (hp:p.1.length≤1000) (hq:q.1.length≤1000) (hr:r.1.length≤1000) (ht:t.length≤1099511627776) :
  Calls Tryz.prog 35 #[.agg #[.int .i64 op,.int .i64 kids,.string ⟨t.toArray⟩,.bool neg,.int .u64 hi,.int .u64 lo,.int .i64 sc,.int .i64 day],.slice (some b) 3 c] w fun e w'=>e = .returned (.string ⟨(atF p.1 (lvlF p.2) 4++[32,98,101,116,119,101,101,110,32]++atF q.1 (lvlF q.2) 4++[32,97,110,100,32]++atF r.1 (lvlF r.2) 4).toArray⟩)∧RowKit.Below w.heap.size w w':=by
 subst ho
 have HM:=Lib.hid (Mem.start w)
 have E0:=Lib.hid (show Cells w (b.add (0 * 2)) [.string ⟨p.1.toArray⟩,.int .i64 (lvlF p.2)] from hS.elem pcC 2 pcC_len (i:=0) rfl)
 have E1:=Lib.hid (show Cells w (b.add (1 * 2)) [.string ⟨q.1.toArray⟩,.int .i64 (lvlF q.2)] from hS.elem pcC 2 pcC_len (i:=1) rfl)
 have E2:=Lib.hid (show Cells w (b.add (2 * 2)) [.string ⟨r.1.toArray⟩,.int .i64 (lvlF r.2)] from hS.elem pcC 2 pcC_len (i:=2) rfl)
 have HA0:=Lib.hid (fun W=>shAt_any p.1 (lvlF p.2) (4) W (by omega))
 have hA0:=atF_bd p.1 (lvlF p.2) (4)
 generalize atF p.1 (lvlF p.2) (4)=a0 at *
 have HA1:=Lib.hid (fun W=>shAt_any q.1 (lvlF q.2) (4) W (by omega))
 have hA1:=atF_bd q.1 (lvlF q.2) (4)
 generalize atF q.1 (lvlF q.2) (4)=a1 at *
 have HA2:=Lib.hid (fun W=>shAt_any r.1 (lvlF r.2) (4) W (by omega))
 have hA2:=atF_bd r.1 (lvlF r.2) (4)
 generalize atF r.1 (lvlF r.2) (4)=a2 at *
 generalize lvlF p.2=l0 at *
 obtain ⟨p,_⟩:=p
 dsimp only at *
 generalize lvlF q.2=l1 at *
 obtain ⟨q,_⟩:=q
 dsimp only at *
 generalize lvlF r.2=l2 at *
 obtain ⟨r,_⟩:=r
 dsimp only at *
 clear hS
 go_enter Tryz.func35,Tryz.ntmps35
 go_wp2_with (first|refine mP ?_|((with_reducible refine iat 2 ?_);refine mB ?_;clear HM;intro g2 W1 HM))
 refine wp_region_mem (by kernel_rfl) (by kernel_rfl) HM.out ?_;intro hNE;(repeat (any_goals (first|((with_reducible refine skip_q ?_ ?_ ?_);(exact rfl);(rotate_left;(exact (hNE.elim fun p=>⟨p.W,p,rfl⟩))))|refine mQ ?_|((with_reducible show wpQuiet _ _ _ _ (Oper.mk _ (Op.call { callee:=Callee.value (Operand.func 81),args:=_,argTypes:=_}) _ _ _ _ :: _) _);(refine qcall HM.out (fun W hC=>HA0.out W) Tryz.func81 rfl rfl rfl ?_))|((with_reducible show wpQuiet _ _ _ _ (Oper.mk _ (Op.call { callee:=Callee.value (Operand.func 81),args:=_,argTypes:=_}) _ _ _ _ :: _) _);(refine qcall HM.out (fun W hC=>HA1.out W) Tryz.func81 rfl rfl rfl ?_))|((with_reducible show wpQuiet _ _ _ _ (Oper.mk _ (Op.call { callee:=Callee.value (Operand.func 81),args:=_,argTypes:=_}) _ _ _ _ :: _) _);(refine qcall HM.out (fun W hC=>HA2.out W) Tryz.func81 rfl rfl rfl ?_))|((with_reducible refine qat 39 ?_);(refine qixa rfl rfl rfl (i:=0) (by omega) ?_))|((with_reducible refine qat 44 ?_);(refine qixa rfl rfl rfl (i:=1) (by omega) ?_))|((with_reducible refine qat 50 ?_);(refine qixa rfl rfl rfl (i:=2) (by omega) ?_))|((with_reducible refine qat 40 ?_);(refine shqW E0.out rfl rfl ?_))|((with_reducible refine qat 45 ?_);(refine shqW E1.out rfl rfl ?_))|((with_reducible refine qat 51 ?_);(refine shqW E2.out rfl rfl ?_))|((with_reducible refine qat 42 ?_);(refine qtcat rfl rfl (by simp;omega) ?_))|((with_reducible refine qat 47 ?_);(refine qtcat rfl rfl (by simp;omega) ?_))|((with_reducible refine qat 48 ?_);(refine qtcat rfl rfl (by simp;omega) ?_))|((with_reducible refine qat 53 ?_);(refine qtcat rfl rfl (by simp;omega) ?_))|go_big_quiet_step (fail)|quiet_step (fail))));clear hNE;refine wpQuiet_nil ?_;intro W1 HM1;replace HM:=Lib.hid HM1;clear HM1
 go_wp2_with (first|refine mP ?_|((with_reducible refine iat 2 ?_);refine mB ?_;clear HM;intro g2 W1 HM))
 go_ret
 exact ⟨by first|rfl|simp [List.append_assoc],HM.out.below⟩
set_option maxHeartbeats 8000000 in
theorem shTell_in (op kids:Int) (t:Tx) (neg:Bool) (hi lo:Nat) (sc day:Int) (b:Addr) (c:Nat) (p q:Tx × Int) (w:World) (ho:op=23) (hS:Cells w b ([p,q].flatMap pcC)) (hp:p.1.length≤1000) (hq:q.1.length≤1000) (ht:t.length≤1099511627776) :
  Calls Tryz.prog 35 #[.agg #[.int .i64 op,.int .i64 kids,.string ⟨t.toArray⟩,.bool neg,.int .u64 hi,.int .u64 lo,.int .i64 sc,.int .i64 day],.slice (some b) 2 c] w fun e w'=>e = .returned (.string ⟨(atF p.1 (lvlF p.2) 4++[32,105,110,32,40]++q.1++[41]).toArray⟩)∧RowKit.Below w.heap.size w w':=by
 subst ho
 have HM:=Lib.hid (Mem.start w)
 have E0:=Lib.hid (show Cells w (b.add (0 * 2)) [.string ⟨p.1.toArray⟩,.int .i64 (lvlF p.2)] from hS.elem pcC 2 pcC_len (i:=0) rfl)
 have E1:=Lib.hid (show Cells w (b.add (1 * 2)) [.string ⟨q.1.toArray⟩,.int .i64 (lvlF q.2)] from hS.elem pcC 2 pcC_len (i:=1) rfl)
 have HA0:=Lib.hid (fun W=>shAt_any p.1 (lvlF p.2) (4) W (by omega))
 have hA0:=atF_bd p.1 (lvlF p.2) (4)
 generalize atF p.1 (lvlF p.2) (4)=a0 at *
 generalize lvlF p.2=l0 at *
 obtain ⟨p,_⟩:=p
 dsimp only at *
 generalize lvlF q.2=l1 at *
 obtain ⟨q,_⟩:=q
 dsimp only at *
 clear hS
 go_enter Tryz.func35,Tryz.ntmps35
 go_wp2_with (first|refine mP ?_|((with_reducible refine iat 2 ?_);refine mB ?_;clear HM;intro g2 W1 HM))
 refine wp_region_mem (by kernel_rfl) (by kernel_rfl) HM.out ?_;intro hNE;(repeat (any_goals (first|((with_reducible refine skip_q ?_ ?_ ?_);(exact rfl);(rotate_left;(exact (hNE.elim fun p=>⟨p.W,p,rfl⟩))))|refine mQ ?_|((with_reducible show wpQuiet _ _ _ _ (Oper.mk _ (Op.call { callee:=Callee.value (Operand.func 81),args:=_,argTypes:=_}) _ _ _ _ :: _) _);(refine qcall HM.out (fun W hC=>HA0.out W) Tryz.func81 rfl rfl rfl ?_))|((with_reducible refine qat 57 ?_);(refine qixa rfl rfl rfl (i:=0) (by omega) ?_))|((with_reducible refine qat 62 ?_);(refine qixa rfl rfl rfl (i:=1) (by omega) ?_))|((with_reducible refine qat 58 ?_);(refine shqW E0.out rfl rfl ?_))|((with_reducible refine qat 64 ?_);(refine qdx0 E1.out rfl rfl ?_))|((with_reducible refine qat 60 ?_);(refine qtcat rfl rfl (by simp;omega) ?_))|((with_reducible refine qat 65 ?_);(refine qtcat rfl rfl (by simp;omega) ?_))|((with_reducible refine qat 66 ?_);(refine qtcat rfl rfl (by simp;omega) ?_))|go_big_quiet_step (fail)|quiet_step (fail))));clear hNE;refine wpQuiet_nil ?_;intro W1 HM1;replace HM:=Lib.hid HM1;clear HM1
 go_wp2_with (first|refine mP ?_|((with_reducible refine iat 2 ?_);refine mB ?_;clear HM;intro g2 W1 HM))
 go_ret
 exact ⟨by first|rfl|simp [List.append_assoc],HM.out.below⟩
set_option maxHeartbeats 8000000 in
theorem shTell_path (op kids:Int) (t:Tx) (neg:Bool) (hi lo:Nat) (sc day:Int) (b:Addr) (c:Nat) (p:Tx × Int) (w:World) (ho:op=24) (hS:Cells w b ([p].flatMap pcC)) (hp:p.1.length≤1000) (ht:t.length≤1099511627776) :
  Calls Tryz.prog 35 #[.agg #[.int .i64 op,.int .i64 kids,.string ⟨t.toArray⟩,.bool neg,.int .u64 hi,.int .u64 lo,.int .i64 sc,.int .i64 day],.slice (some b) 1 c] w fun e w'=>e = .returned (.string ⟨(atF p.1 (lvlF p.2) 7++[46]++t).toArray⟩)∧RowKit.Below w.heap.size w w':=by
 subst ho
 have HM:=Lib.hid (Mem.start w)
 have E0:=Lib.hid (show Cells w (b.add (0 * 2)) [.string ⟨p.1.toArray⟩,.int .i64 (lvlF p.2)] from hS.elem pcC 2 pcC_len (i:=0) rfl)
 have HA0:=Lib.hid (fun W=>shAt_any p.1 (lvlF p.2) (7) W (by omega))
 have hA0:=atF_bd p.1 (lvlF p.2) (7)
 generalize atF p.1 (lvlF p.2) (7)=a0 at *
 generalize lvlF p.2=l0 at *
 obtain ⟨p,_⟩:=p
 dsimp only at *
 clear hS
 go_enter Tryz.func35,Tryz.ntmps35
 go_wp2_with (first|refine mP ?_|((with_reducible refine iat 2 ?_);refine mB ?_;clear HM;intro g2 W1 HM))
 refine wp_region_mem (by kernel_rfl) (by kernel_rfl) HM.out ?_;intro hNE;(repeat (any_goals (first|((with_reducible refine skip_q ?_ ?_ ?_);(exact rfl);(rotate_left;(exact (hNE.elim fun p=>⟨p.W,p,rfl⟩))))|refine mQ ?_|((with_reducible show wpQuiet _ _ _ _ (Oper.mk _ (Op.call { callee:=Callee.value (Operand.func 81),args:=_,argTypes:=_}) _ _ _ _ :: _) _);(refine qcall HM.out (fun W hC=>HA0.out W) Tryz.func81 rfl rfl rfl ?_))|((with_reducible refine qat 70 ?_);(refine qixa rfl rfl rfl (i:=0) (by omega) ?_))|((with_reducible refine qat 71 ?_);(refine shqW E0.out rfl rfl ?_))|((with_reducible refine qat 73 ?_);(refine qtcat rfl rfl (by simp;omega) ?_))|((with_reducible refine qat 76 ?_);(refine qtcat rfl rfl (by simp;omega) ?_))|go_big_quiet_step (fail)|quiet_step (fail))));clear hNE;refine wpQuiet_nil ?_;intro W1 HM1;replace HM:=Lib.hid HM1;clear HM1
 go_wp2_with (first|refine mP ?_|((with_reducible refine iat 2 ?_);refine mB ?_;clear HM;intro g2 W1 HM))
 go_ret
 exact ⟨by first|rfl|simp [List.append_assoc],HM.out.below⟩
set_option maxHeartbeats 8000000 in
theorem shTell_call (op kids:Int) (t:Tx) (neg:Bool) (hi lo:Nat) (sc day:Int) (pp:Option Addr) (c:Nat) (ps:List (Tx × Int)) (w:World) (ho:op=25) (hS:Sl w pp (ps.flatMap pcC)) (hb:∀ x ∈ ps,x.1.length≤1000) (hl:ps.length≤300) (ht:t.length≤1099511627776) :
  Calls Tryz.prog 35 #[.agg #[.int .i64 op,.int .i64 kids,.string ⟨t.toArray⟩,.bool neg,.int .u64 hi,.int .u64 lo,.int .i64 sc,.int .i64 day],.slice pp ps.length c] w fun e w'=>e = .returned (.string ⟨(t++[40]++rowF (List.map (fun x:Tx × Int=>x.1) ps)++[41]).toArray⟩)∧RowKit.Below w.heap.size w w':=by
 subst ho
 have HM:=Lib.hid (Mem.start w)
 have HR:=Lib.hid (fun W (h:Sl W pp (ps.flatMap pcC))=>shRow_any pp c ps W h hb hl)
 have HS:=Lib.hid hS
 have hR:=rowF_bd (m:=1000) (l:=ps.map (·.1)) (fun x hx=>by obtain ⟨y,hy,rfl⟩:=List.mem_map.1 hx;exact hb y hy)
 have hR2:(1000 + 2) * (ps.map (·.1)).length≤(1000 + 2) * 300:=Nat.mul_le_mul_left _ (by rw [List.length_map];exact hl)
 generalize rowF (ps.map (·.1))=a0 at *
 generalize (1000 + 2) * (ps.map (·.1)).length=z at *
 clear hS hb
 go_enter Tryz.func35,Tryz.ntmps35
 go_wp2_with (first|refine mP ?_|((with_reducible refine iat 2 ?_);refine mB ?_;clear HM;intro g2 W1 HM))
 refine wp_region_mem (by kernel_rfl) (by kernel_rfl) HM.out ?_;intro hNE;(repeat (any_goals (first|((with_reducible refine skip_q ?_ ?_ ?_);(exact rfl);(rotate_left;(exact (hNE.elim fun p=>⟨p.W,p,rfl⟩))))|refine mQ ?_|((with_reducible show wpQuiet _ _ _ _ (Oper.mk _ (Op.call { callee:=Callee.value (Operand.func 82),args:=_,argTypes:=_}) _ _ _ _ :: _) _);(refine qcall HM.out (fun W hC=>HR.out W (Mem.sl hC HS.out)) Tryz.func82 rfl rfl rfl ?_))|((with_reducible refine qat 81 ?_);(refine qtcat rfl rfl (by simp;omega) ?_))|((with_reducible refine qat 84 ?_);(refine qtcat rfl rfl (by simp;omega) ?_))|((with_reducible refine qat 85 ?_);(refine qtcat rfl rfl (by simp;omega) ?_))|go_big_quiet_step (fail)|quiet_step (fail))));clear hNE;refine wpQuiet_nil ?_;intro W1 HM1;replace HM:=Lib.hid HM1;clear HM1
 go_wp2_with (first|refine mP ?_|((with_reducible refine iat 2 ?_);refine mB ?_;clear HM;intro g2 W1 HM))
 go_ret
 exact ⟨by first|rfl|simp [List.append_assoc],HM.out.below⟩
set_option maxHeartbeats 8000000 in
theorem shTell_list (op kids:Int) (t:Tx) (neg:Bool) (hi lo:Nat) (sc day:Int) (pp:Option Addr) (c:Nat) (ps:List (Tx × Int)) (w:World) (ho:op=26) (hS:Sl w pp (ps.flatMap pcC)) (hb:∀ x ∈ ps,x.1.length≤1000) (hl:ps.length≤300) (ht:t.length≤1099511627776) :
  Calls Tryz.prog 35 #[.agg #[.int .i64 op,.int .i64 kids,.string ⟨t.toArray⟩,.bool neg,.int .u64 hi,.int .u64 lo,.int .i64 sc,.int .i64 day],.slice pp ps.length c] w fun e w'=>e = .returned (.string ⟨(([91]:Tx)++rowF (List.map (fun x:Tx × Int=>x.1) ps)++[93]).toArray⟩)∧RowKit.Below w.heap.size w w':=by
 subst ho
 have HM:=Lib.hid (Mem.start w)
 have HR:=Lib.hid (fun W (h:Sl W pp (ps.flatMap pcC))=>shRow_any pp c ps W h hb hl)
 have HS:=Lib.hid hS
 have hR:=rowF_bd (m:=1000) (l:=ps.map (·.1)) (fun x hx=>by obtain ⟨y,hy,rfl⟩:=List.mem_map.1 hx;exact hb y hy)
 have hR2:(1000 + 2) * (ps.map (·.1)).length≤(1000 + 2) * 300:=Nat.mul_le_mul_left _ (by rw [List.length_map];exact hl)
 generalize rowF (ps.map (·.1))=a0 at *
 generalize (1000 + 2) * (ps.map (·.1)).length=z at *
 clear hS hb
 go_enter Tryz.func35,Tryz.ntmps35
 go_wp2_with (first|refine mP ?_|((with_reducible refine iat 2 ?_);refine mB ?_;clear HM;intro g2 W1 HM)|(go_at_call 82;(with_reducible refine cB HM (HR.out _ (HM.out.sl HS.out)) ?_);clear HM;intro W1 HM)|((with_reducible refine iat 90 ?_);(refine tcat rfl rfl (by simp;omega) ?_))|((with_reducible refine iat 91 ?_);(refine tcat rfl rfl (by simp;omega) ?_)))
 go_ret
 exact ⟨by first|rfl|simp [List.append_assoc],HM.out.below⟩
set_option maxHeartbeats 8000000 in
theorem shTell_ctx (op kids:Int) (t:Tx) (neg:Bool) (hi lo:Nat) (sc day:Int) (pp:Option Addr) (c:Nat) (ps:List (Tx × Int)) (w:World) (ho:op=27) (hS:Sl w pp (ps.flatMap pcC)) (hb:∀ x ∈ ps,x.1.length≤1000) (hl:ps.length≤300) (ht:t.length≤1099511627776) :
  Calls Tryz.prog 35 #[.agg #[.int .i64 op,.int .i64 kids,.string ⟨t.toArray⟩,.bool neg,.int .u64 hi,.int .u64 lo,.int .i64 sc,.int .i64 day],.slice pp ps.length c] w fun e w'=>e = .returned (.string ⟨(([123]:Tx)++rowF (List.map (fun x:Tx × Int=>x.1) ps)++[125]).toArray⟩)∧RowKit.Below w.heap.size w w':=by
 subst ho
 have HM:=Lib.hid (Mem.start w)
 have HR:=Lib.hid (fun W (h:Sl W pp (ps.flatMap pcC))=>shRow_any pp c ps W h hb hl)
 have HS:=Lib.hid hS
 have hR:=rowF_bd (m:=1000) (l:=ps.map (·.1)) (fun x hx=>by obtain ⟨y,hy,rfl⟩:=List.mem_map.1 hx;exact hb y hy)
 have hR2:(1000 + 2) * (ps.map (·.1)).length≤(1000 + 2) * 300:=Nat.mul_le_mul_left _ (by rw [List.length_map];exact hl)
 generalize rowF (ps.map (·.1))=a0 at *
 generalize (1000 + 2) * (ps.map (·.1)).length=z at *
 clear hS hb
 go_enter Tryz.func35,Tryz.ntmps35
 go_wp2_with (first|refine mP ?_|((with_reducible refine iat 2 ?_);refine mB ?_;clear HM;intro g2 W1 HM)|(go_at_call 82;(with_reducible refine cB HM (HR.out _ (HM.out.sl HS.out)) ?_);clear HM;intro W1 HM)|((with_reducible refine iat 96 ?_);(refine tcat rfl rfl (by simp;omega) ?_))|((with_reducible refine iat 97 ?_);(refine tcat rfl rfl (by simp;omega) ?_)))
 go_ret
 exact ⟨by first|rfl|simp [List.append_assoc],HM.out.below⟩
set_option maxHeartbeats 8000000 in
theorem shTell_entry (op kids:Int) (t:Tx) (neg:Bool) (hi lo:Nat) (sc day:Int) (b:Addr) (c:Nat) (p:Tx × Int) (w:World) (ho:op=28) (hS:Cells w b ([p].flatMap pcC)) (hp:p.1.length≤1000) (ht:t.length≤1099511627776) :
  Calls Tryz.prog 35 #[.agg #[.int .i64 op,.int .i64 kids,.string ⟨t.toArray⟩,.bool neg,.int .u64 hi,.int .u64 lo,.int .i64 sc,.int .i64 day],.slice (some b) 1 c] w fun e w'=>e = .returned (.string ⟨(t++[58,32]++p.1).toArray⟩)∧RowKit.Below w.heap.size w w':=by
 subst ho
 have HM:=Lib.hid (Mem.start w)
 have E0:=Lib.hid (show Cells w (b.add (0 * 2)) [.string ⟨p.1.toArray⟩,.int .i64 (lvlF p.2)] from hS.elem pcC 2 pcC_len (i:=0) rfl)
 generalize lvlF p.2=l0 at *
 obtain ⟨p,_⟩:=p
 dsimp only at *
 clear hS
 go_enter Tryz.func35,Tryz.ntmps35
 go_wp2_with (first|refine mP ?_|((with_reducible refine iat 2 ?_);refine mB ?_;clear HM;intro g2 W1 HM))
 refine wp_region_mem (by kernel_rfl) (by kernel_rfl) HM.out ?_;intro hNE;(repeat (any_goals (first|((with_reducible refine skip_q ?_ ?_ ?_);(exact rfl);(rotate_left;(exact (hNE.elim fun p=>⟨p.W,p,rfl⟩))))|refine mQ ?_|((with_reducible refine qat 104 ?_);(refine qixa rfl rfl rfl (i:=0) (by omega) ?_))|((with_reducible refine qat 106 ?_);(refine qdx0 E0.out rfl rfl ?_))|((with_reducible refine qat 102 ?_);(refine qtcat rfl rfl (by simp;omega) ?_))|((with_reducible refine qat 107 ?_);(refine qtcat rfl rfl (by simp;omega) ?_))|go_big_quiet_step (fail)|quiet_step (fail))));clear hNE;refine wpQuiet_nil ?_;intro W1 HM1;replace HM:=Lib.hid HM1;clear HM1
 go_wp2_with (first|refine mP ?_|((with_reducible refine iat 2 ?_);refine mB ?_;clear HM;intro g2 W1 HM))
 go_ret
 exact ⟨by first|rfl|simp [List.append_assoc],HM.out.below⟩
set_option maxHeartbeats 8000000 in
theorem shTell_some (op kids:Int) (t:Tx) (neg:Bool) (hi lo:Nat) (sc day:Int) (pp:Option Addr) (c:Nat) (ps:List (Tx × Int)) (w:World) (ho:op=36) (hS:Sl w pp (ps.flatMap pcC)) (hb:∀ x ∈ ps,x.1.length≤1000) (hl:ps.length≤300) (ht:t.length≤1099511627776) :
  Calls Tryz.prog 35 #[.agg #[.int .i64 op,.int .i64 kids,.string ⟨t.toArray⟩,.bool neg,.int .u64 hi,.int .u64 lo,.int .i64 sc,.int .i64 day],.slice pp ps.length c] w fun e w'=>e = .returned (.string ⟨(rowF (List.map (fun x:Tx × Int=>x.1) ps)).toArray⟩)∧RowKit.Below w.heap.size w w':=by
 subst ho
 have HM:=Lib.hid (Mem.start w)
 have HR:=Lib.hid (fun W (h:Sl W pp (ps.flatMap pcC))=>shRow_any pp c ps W h hb hl)
 have HS:=Lib.hid hS
 have hR:=rowF_bd (m:=1000) (l:=ps.map (·.1)) (fun x hx=>by obtain ⟨y,hy,rfl⟩:=List.mem_map.1 hx;exact hb y hy)
 have hR2:(1000 + 2) * (ps.map (·.1)).length≤(1000 + 2) * 300:=Nat.mul_le_mul_left _ (by rw [List.length_map];exact hl)
 generalize rowF (ps.map (·.1))=a0 at *
 generalize (1000 + 2) * (ps.map (·.1)).length=z at *
 clear hS hb
 go_enter Tryz.func35,Tryz.ntmps35
 go_wp2_with (first|refine mP ?_|((with_reducible refine iat 2 ?_);refine mB ?_;clear HM;intro g2 W1 HM)|(go_at_call 82;(with_reducible refine cB HM (HR.out _ (HM.out.sl HS.out)) ?_);clear HM;intro W1 HM))
 go_ret
 exact ⟨by first|rfl|simp [List.append_assoc],HM.out.below⟩
set_option maxHeartbeats 8000000 in
theorem shTell_not (op kids:Int) (t:Tx) (neg:Bool) (hi lo:Nat) (sc day:Int) (b:Addr) (c:Nat) (p:Tx × Int) (w:World) (ho:op=37) (hS:Cells w b ([p].flatMap pcC)) (hp:p.1.length≤1000) (ht:t.length≤1099511627776) :
  Calls Tryz.prog 35 #[.agg #[.int .i64 op,.int .i64 kids,.string ⟨t.toArray⟩,.bool neg,.int .u64 hi,.int .u64 lo,.int .i64 sc,.int .i64 day],.slice (some b) 1 c] w fun e w'=>e = .returned (.string ⟨([110,111,116,40]++p.1++[41]).toArray⟩)∧RowKit.Below w.heap.size w w':=by
 subst ho
 have HM:=Lib.hid (Mem.start w)
 have E0:=Lib.hid (show Cells w (b.add (0 * 2)) [.string ⟨p.1.toArray⟩,.int .i64 (lvlF p.2)] from hS.elem pcC 2 pcC_len (i:=0) rfl)
 generalize lvlF p.2=l0 at *
 obtain ⟨p,_⟩:=p
 dsimp only at *
 clear hS
 go_enter Tryz.func35,Tryz.ntmps35
 go_wp2_with (first|refine mP ?_|((with_reducible refine iat 2 ?_);refine mB ?_;clear HM;intro g2 W1 HM)|((with_reducible refine iat 115 ?_);(refine ixa rfl rfl rfl (i:=0) (by omega) ?_))|((with_reducible refine iat 117 ?_);(refine ldx0 (HM.out.olds E0.out) rfl rfl ?_))|((with_reducible refine iat 118 ?_);(refine tcat rfl rfl (by simp;omega) ?_))|((with_reducible refine iat 119 ?_);(refine tcat rfl rfl (by simp;omega) ?_)))
 go_ret
 exact ⟨by first|rfl|simp [List.append_assoc],HM.out.below⟩
set_option maxHeartbeats 8000000 in
theorem shTell_is (op kids:Int) (t:Tx) (neg:Bool) (hi lo:Nat) (sc day:Int) (b:Addr) (c:Nat) (p:Tx × Int) (w:World) (ho:op=30) (hS:Cells w b ([p].flatMap pcC)) (hp:p.1.length≤1000) (ht:t.length≤1099511627776) :
  Calls Tryz.prog 35 #[.agg #[.int .i64 op,.int .i64 kids,.string ⟨t.toArray⟩,.bool neg,.int .u64 hi,.int .u64 lo,.int .i64 sc,.int .i64 day],.slice (some b) 1 c] w fun e w'=>e = .returned (.string ⟨(atF p.1 (lvlF p.2) 4).toArray⟩)∧RowKit.Below w.heap.size w w':=by
 subst ho
 have HM:=Lib.hid (Mem.start w)
 have E0:=Lib.hid (show Cells w (b.add (0 * 2)) [.string ⟨p.1.toArray⟩,.int .i64 (lvlF p.2)] from hS.elem pcC 2 pcC_len (i:=0) rfl)
 have HA0:=Lib.hid (fun W=>shAt_any p.1 (lvlF p.2) (4) W (by omega))
 have hA0:=atF_bd p.1 (lvlF p.2) (4)
 generalize atF p.1 (lvlF p.2) (4)=a0 at *
 generalize lvlF p.2=l0 at *
 obtain ⟨p,_⟩:=p
 dsimp only at *
 clear hS
 go_enter Tryz.func35,Tryz.ntmps35
 go_wp2_with (first|refine mP ?_|((with_reducible refine iat 2 ?_);refine mB ?_;clear HM;intro g2 W1 HM)|((with_reducible refine iat 123 ?_);(refine ixa rfl rfl rfl (i:=0) (by omega) ?_))|((with_reducible refine iat 124 ?_);(refine ldxW (HM.out.olds E0.out) rfl rfl ?_))|(go_at_call 81;(with_reducible refine cB HM (HA0.out _) ?_);clear HM;intro W1 HM))
 go_ret
 exact ⟨by first|rfl|simp [List.append_assoc],HM.out.below⟩
set_option maxHeartbeats 8000000 in
theorem shTell_c31 (op kids:Int) (t:Tx) (neg:Bool) (hi lo:Nat) (sc day:Int) (b:Addr) (c:Nat) (p:Tx × Int) (w:World) (ho:op=31) (hS:Cells w b ([p].flatMap pcC)) (hp:p.1.length≤1000) (ht:t.length≤1099511627776) :
  Calls Tryz.prog 35 #[.agg #[.int .i64 op,.int .i64 kids,.string ⟨t.toArray⟩,.bool neg,.int .u64 hi,.int .u64 lo,.int .i64 sc,.int .i64 day],.slice (some b) 1 c] w fun e w'=>e = .returned (.string ⟨([60,32]++atF p.1 (lvlF p.2) 4).toArray⟩)∧RowKit.Below w.heap.size w w':=by
 subst ho
 have HM:=Lib.hid (Mem.start w)
 have E0:=Lib.hid (show Cells w (b.add (0 * 2)) [.string ⟨p.1.toArray⟩,.int .i64 (lvlF p.2)] from hS.elem pcC 2 pcC_len (i:=0) rfl)
 have HA0:=Lib.hid (fun W=>shAt_any p.1 (lvlF p.2) (4) W (by omega))
 have hA0:=atF_bd p.1 (lvlF p.2) (4)
 generalize atF p.1 (lvlF p.2) (4)=a0 at *
 have qi:=fun W:World=>(show (Instr.index 124 (.agg #[.string ⟨#[60]⟩,.string ⟨#[60,61]⟩,.string ⟨#[62]⟩,.string ⟨#[62,61]⟩]) (.int .i64 0)).run Tryz.prog W = .ok (.string ⟨#[60]⟩) W from by kernel_rfl)
 generalize lvlF p.2=l0 at *
 obtain ⟨p,_⟩:=p
 dsimp only at *
 clear hS
 go_enter Tryz.func35,Tryz.ntmps35
 go_wp2_with (first|refine mP ?_|((with_reducible refine iat 2 ?_);refine mB ?_;clear HM;intro g2 W1 HM))
 refine wp_region_mem (by kernel_rfl) (by kernel_rfl) HM.out ?_;intro hNE;(repeat (any_goals (first|((with_reducible refine skip_q ?_ ?_ ?_);(exact rfl);(rotate_left;(exact (hNE.elim fun p=>⟨p.W,p,rfl⟩))))|refine mQ ?_|((with_reducible show wpQuiet _ _ _ _ (Oper.mk _ (Op.call { callee:=Callee.value (Operand.func 81),args:=_,argTypes:=_}) _ _ _ _ :: _) _);(refine qcall HM.out (fun W hC=>HA0.out W) Tryz.func81 rfl rfl rfl ?_))|((with_reducible refine qat 138 ?_);(refine qixa rfl rfl rfl (i:=0) (by omega) ?_))|((with_reducible refine qat 139 ?_);(refine shqW E0.out rfl rfl ?_))|((with_reducible refine qat 136 ?_);(refine qtcat rfl rfl (by simp;omega) ?_))|((with_reducible refine qat 141 ?_);(refine qtcat rfl rfl (by simp;omega) ?_))|((with_reducible refine qat 135 ?_);(refine qaix rfl rfl qi ?_))|go_big_quiet_step (fail)|quiet_step (fail))));clear hNE;refine wpQuiet_nil ?_;intro W1 HM1;replace HM:=Lib.hid HM1;clear HM1
 go_wp2_with (first|refine mP ?_|((with_reducible refine iat 2 ?_);refine mB ?_;clear HM;intro g2 W1 HM))
 go_ret
 exact ⟨by first|rfl|simp [List.append_assoc],HM.out.below⟩
set_option maxHeartbeats 8000000 in
theorem shTell_c32 (op kids:Int) (t:Tx) (neg:Bool) (hi lo:Nat) (sc day:Int) (b:Addr) (c:Nat) (p:Tx × Int) (w:World) (ho:op=32) (hS:Cells w b ([p].flatMap pcC)) (hp:p.1.length≤1000) (ht:t.length≤1099511627776) :
  Calls Tryz.prog 35 #[.agg #[.int .i64 op,.int .i64 kids,.string ⟨t.toArray⟩,.bool neg,.int .u64 hi,.int .u64 lo,.int .i64 sc,.int .i64 day],.slice (some b) 1 c] w fun e w'=>e = .returned (.string ⟨([60,61,32]++atF p.1 (lvlF p.2) 4).toArray⟩)∧RowKit.Below w.heap.size w w':=by
 subst ho
 have HM:=Lib.hid (Mem.start w)
 have E0:=Lib.hid (show Cells w (b.add (0 * 2)) [.string ⟨p.1.toArray⟩,.int .i64 (lvlF p.2)] from hS.elem pcC 2 pcC_len (i:=0) rfl)
 have HA0:=Lib.hid (fun W=>shAt_any p.1 (lvlF p.2) (4) W (by omega))
 have hA0:=atF_bd p.1 (lvlF p.2) (4)
 generalize atF p.1 (lvlF p.2) (4)=a0 at *
 have qi:=fun W:World=>(show (Instr.index 124 (.agg #[.string ⟨#[60]⟩,.string ⟨#[60,61]⟩,.string ⟨#[62]⟩,.string ⟨#[62,61]⟩]) (.int .i64 1)).run Tryz.prog W = .ok (.string ⟨#[60,61]⟩) W from by kernel_rfl)
 generalize lvlF p.2=l0 at *
 obtain ⟨p,_⟩:=p
 dsimp only at *
 clear hS
 go_enter Tryz.func35,Tryz.ntmps35
 go_wp2_with (first|refine mP ?_|((with_reducible refine iat 2 ?_);refine mB ?_;clear HM;intro g2 W1 HM))
 refine wp_region_mem (by kernel_rfl) (by kernel_rfl) HM.out ?_;intro hNE;(repeat (any_goals (first|((with_reducible refine skip_q ?_ ?_ ?_);(exact rfl);(rotate_left;(exact (hNE.elim fun p=>⟨p.W,p,rfl⟩))))|refine mQ ?_|((with_reducible show wpQuiet _ _ _ _ (Oper.mk _ (Op.call { callee:=Callee.value (Operand.func 81),args:=_,argTypes:=_}) _ _ _ _ :: _) _);(refine qcall HM.out (fun W hC=>HA0.out W) Tryz.func81 rfl rfl rfl ?_))|((with_reducible refine qat 138 ?_);(refine qixa rfl rfl rfl (i:=0) (by omega) ?_))|((with_reducible refine qat 139 ?_);(refine shqW E0.out rfl rfl ?_))|((with_reducible refine qat 136 ?_);(refine qtcat rfl rfl (by simp;omega) ?_))|((with_reducible refine qat 141 ?_);(refine qtcat rfl rfl (by simp;omega) ?_))|((with_reducible refine qat 135 ?_);(refine qaix rfl rfl qi ?_))|go_big_quiet_step (fail)|quiet_step (fail))));clear hNE;refine wpQuiet_nil ?_;intro W1 HM1;replace HM:=Lib.hid HM1;clear HM1
 go_wp2_with (first|refine mP ?_|((with_reducible refine iat 2 ?_);refine mB ?_;clear HM;intro g2 W1 HM))
 go_ret
 exact ⟨by first|rfl|simp [List.append_assoc],HM.out.below⟩
set_option maxHeartbeats 8000000 in
theorem shTell_c33 (op kids:Int) (t:Tx) (neg:Bool) (hi lo:Nat) (sc day:Int) (b:Addr) (c:Nat) (p:Tx × Int) (w:World) (ho:op=33) (hS:Cells w b ([p].flatMap pcC)) (hp:p.1.length≤1000) (ht:t.length≤1099511627776) :
  Calls Tryz.prog 35 #[.agg #[.int .i64 op,.int .i64 kids,.string ⟨t.toArray⟩,.bool neg,.int .u64 hi,.int .u64 lo,.int .i64 sc,.int .i64 day],.slice (some b) 1 c] w fun e w'=>e = .returned (.string ⟨([62,32]++atF p.1 (lvlF p.2) 4).toArray⟩)∧RowKit.Below w.heap.size w w':=by
 subst ho
 have HM:=Lib.hid (Mem.start w)
 have E0:=Lib.hid (show Cells w (b.add (0 * 2)) [.string ⟨p.1.toArray⟩,.int .i64 (lvlF p.2)] from hS.elem pcC 2 pcC_len (i:=0) rfl)
 have HA0:=Lib.hid (fun W=>shAt_any p.1 (lvlF p.2) (4) W (by omega))
 have hA0:=atF_bd p.1 (lvlF p.2) (4)
 generalize atF p.1 (lvlF p.2) (4)=a0 at *
 have qi:=fun W:World=>(show (Instr.index 124 (.agg #[.string ⟨#[60]⟩,.string ⟨#[60,61]⟩,.string ⟨#[62]⟩,.string ⟨#[62,61]⟩]) (.int .i64 2)).run Tryz.prog W = .ok (.string ⟨#[62]⟩) W from by kernel_rfl)
 generalize lvlF p.2=l0 at *
 obtain ⟨p,_⟩:=p
 dsimp only at *
 clear hS
 go_enter Tryz.func35,Tryz.ntmps35
 go_wp2_with (first|refine mP ?_|((with_reducible refine iat 2 ?_);refine mB ?_;clear HM;intro g2 W1 HM))
 refine wp_region_mem (by kernel_rfl) (by kernel_rfl) HM.out ?_;intro hNE;(repeat (any_goals (first|((with_reducible refine skip_q ?_ ?_ ?_);(exact rfl);(rotate_left;(exact (hNE.elim fun p=>⟨p.W,p,rfl⟩))))|refine mQ ?_|((with_reducible show wpQuiet _ _ _ _ (Oper.mk _ (Op.call { callee:=Callee.value (Operand.func 81),args:=_,argTypes:=_}) _ _ _ _ :: _) _);(refine qcall HM.out (fun W hC=>HA0.out W) Tryz.func81 rfl rfl rfl ?_))|((with_reducible refine qat 138 ?_);(refine qixa rfl rfl rfl (i:=0) (by omega) ?_))|((with_reducible refine qat 139 ?_);(refine shqW E0.out rfl rfl ?_))|((with_reducible refine qat 136 ?_);(refine qtcat rfl rfl (by simp;omega) ?_))|((with_reducible refine qat 141 ?_);(refine qtcat rfl rfl (by simp;omega) ?_))|((with_reducible refine qat 135 ?_);(refine qaix rfl rfl qi ?_))|go_big_quiet_step (fail)|quiet_step (fail))));clear hNE;refine wpQuiet_nil ?_;intro W1 HM1;replace HM:=Lib.hid HM1;clear HM1
 go_wp2_with (first|refine mP ?_|((with_reducible refine iat 2 ?_);refine mB ?_;clear HM;intro g2 W1 HM))
 go_ret
 exact ⟨by first|rfl|simp [List.append_assoc],HM.out.below⟩
set_option maxHeartbeats 8000000 in
theorem shTell_c34 (op kids:Int) (t:Tx) (neg:Bool) (hi lo:Nat) (sc day:Int) (b:Addr) (c:Nat) (p:Tx × Int) (w:World) (ho:op=34) (hS:Cells w b ([p].flatMap pcC)) (hp:p.1.length≤1000) (ht:t.length≤1099511627776) :
  Calls Tryz.prog 35 #[.agg #[.int .i64 op,.int .i64 kids,.string ⟨t.toArray⟩,.bool neg,.int .u64 hi,.int .u64 lo,.int .i64 sc,.int .i64 day],.slice (some b) 1 c] w fun e w'=>e = .returned (.string ⟨([62,61,32]++atF p.1 (lvlF p.2) 4).toArray⟩)∧RowKit.Below w.heap.size w w':=by
 subst ho
 have HM:=Lib.hid (Mem.start w)
 have E0:=Lib.hid (show Cells w (b.add (0 * 2)) [.string ⟨p.1.toArray⟩,.int .i64 (lvlF p.2)] from hS.elem pcC 2 pcC_len (i:=0) rfl)
 have HA0:=Lib.hid (fun W=>shAt_any p.1 (lvlF p.2) (4) W (by omega))
 have hA0:=atF_bd p.1 (lvlF p.2) (4)
 generalize atF p.1 (lvlF p.2) (4)=a0 at *
 have qi:=fun W:World=>(show (Instr.index 124 (.agg #[.string ⟨#[60]⟩,.string ⟨#[60,61]⟩,.string ⟨#[62]⟩,.string ⟨#[62,61]⟩]) (.int .i64 3)).run Tryz.prog W = .ok (.string ⟨#[62,61]⟩) W from by kernel_rfl)
 generalize lvlF p.2=l0 at *
 obtain ⟨p,_⟩:=p
 dsimp only at *
 clear hS
 go_enter Tryz.func35,Tryz.ntmps35
 go_wp2_with (first|refine mP ?_|((with_reducible refine iat 2 ?_);refine mB ?_;clear HM;intro g2 W1 HM))
 refine wp_region_mem (by kernel_rfl) (by kernel_rfl) HM.out ?_;intro hNE;(repeat (any_goals (first|((with_reducible refine skip_q ?_ ?_ ?_);(exact rfl);(rotate_left;(exact (hNE.elim fun p=>⟨p.W,p,rfl⟩))))|refine mQ ?_|((with_reducible show wpQuiet _ _ _ _ (Oper.mk _ (Op.call { callee:=Callee.value (Operand.func 81),args:=_,argTypes:=_}) _ _ _ _ :: _) _);(refine qcall HM.out (fun W hC=>HA0.out W) Tryz.func81 rfl rfl rfl ?_))|((with_reducible refine qat 138 ?_);(refine qixa rfl rfl rfl (i:=0) (by omega) ?_))|((with_reducible refine qat 139 ?_);(refine shqW E0.out rfl rfl ?_))|((with_reducible refine qat 136 ?_);(refine qtcat rfl rfl (by simp;omega) ?_))|((with_reducible refine qat 141 ?_);(refine qtcat rfl rfl (by simp;omega) ?_))|((with_reducible refine qat 135 ?_);(refine qaix rfl rfl qi ?_))|go_big_quiet_step (fail)|quiet_step (fail))));clear hNE;refine wpQuiet_nil ?_;intro W1 HM1;replace HM:=Lib.hid HM1;clear HM1
 go_wp2_with (first|refine mP ?_|((with_reducible refine iat 2 ?_);refine mB ?_;clear HM;intro g2 W1 HM))
 go_ret
 exact ⟨by first|rfl|simp [List.append_assoc],HM.out.below⟩
set_option maxHeartbeats 8000000 in
theorem shTell_span (op kids:Int) (t:Tx) (neg:Bool) (hi lo:Nat) (sc day:Int) (b:Addr) (c:Nat) (p q:Tx × Int) (w:World) (ho:op=35) (ht2:t.length=2) (hS:Cells w b ([p,q].flatMap pcC)) (hp:p.1.length≤1000) (hq:q.1.length≤1000) (ht:t.length≤1099511627776) :
  Calls Tryz.prog 35 #[.agg #[.int .i64 op,.int .i64 kids,.string ⟨t.toArray⟩,.bool neg,.int .u64 hi,.int .u64 lo,.int .i64 sc,.int .i64 day],.slice (some b) 2 c] w fun e w'=>e = .returned (.string ⟨(t.take 1++atF p.1 (lvlF p.2) 4++[46,46]++atF q.1 (lvlF q.2) 4++t.drop 1).toArray⟩)∧RowKit.Below w.heap.size w w':=by
 subst ho
 have HM:=Lib.hid (Mem.start w)
 have E0:=Lib.hid (show Cells w (b.add (0 * 2)) [.string ⟨p.1.toArray⟩,.int .i64 (lvlF p.2)] from hS.elem pcC 2 pcC_len (i:=0) rfl)
 have E1:=Lib.hid (show Cells w (b.add (1 * 2)) [.string ⟨q.1.toArray⟩,.int .i64 (lvlF q.2)] from hS.elem pcC 2 pcC_len (i:=1) rfl)
 have HA0:=Lib.hid (fun W=>shAt_any p.1 (lvlF p.2) (4) W (by omega))
 have hA0:=atF_bd p.1 (lvlF p.2) (4)
 generalize atF p.1 (lvlF p.2) (4)=a0 at *
 have HA1:=Lib.hid (fun W=>shAt_any q.1 (lvlF q.2) (4) W (by omega))
 have hA1:=atF_bd q.1 (lvlF q.2) (4)
 generalize atF q.1 (lvlF q.2) (4)=a1 at *
 generalize lvlF p.2=l0 at *
 obtain ⟨p,_⟩:=p
 dsimp only at *
 generalize lvlF q.2=l1 at *
 obtain ⟨q,_⟩:=q
 dsimp only at *
 clear hS
 go_enter Tryz.func35,Tryz.ntmps35
 go_wp2_with (first|refine mP ?_|((with_reducible refine iat 2 ?_);refine mB ?_;clear HM;intro g2 W1 HM))
 refine wp_region_mem (by kernel_rfl) (by kernel_rfl) HM.out ?_;intro hNE;(repeat (any_goals (first|((with_reducible refine skip_q ?_ ?_ ?_);(exact rfl);(rotate_left;(exact (hNE.elim fun p=>⟨p.W,p,rfl⟩))))|refine mQ ?_|((with_reducible show wpQuiet _ _ _ _ (Oper.mk _ (Op.call { callee:=Callee.value (Operand.func 81),args:=_,argTypes:=_}) _ _ _ _ :: _) _);(refine qcall HM.out (fun W hC=>HA0.out W) Tryz.func81 rfl rfl rfl ?_))|((with_reducible show wpQuiet _ _ _ _ (Oper.mk _ (Op.call { callee:=Callee.value (Operand.func 81),args:=_,argTypes:=_}) _ _ _ _ :: _) _);(refine qcall HM.out (fun W hC=>HA1.out W) Tryz.func81 rfl rfl rfl ?_))|((with_reducible refine qat 148 ?_);(refine qixa rfl rfl rfl (i:=0) (by omega) ?_))|((with_reducible refine qat 154 ?_);(refine qixa rfl rfl rfl (i:=1) (by omega) ?_))|((with_reducible refine qat 149 ?_);(refine shqW E0.out rfl rfl ?_))|((with_reducible refine qat 155 ?_);(refine shqW E1.out rfl rfl ?_))|((with_reducible refine qat 151 ?_);(refine qtcat rfl rfl (by simp;omega) ?_))|((with_reducible refine qat 152 ?_);(refine qtcat rfl rfl (by simp;omega) ?_))|((with_reducible refine qat 157 ?_);(refine qtcat rfl rfl (by simp;omega) ?_))|((with_reducible refine qat 161 ?_);(refine qtcat rfl rfl (by simp;omega) ?_))|((with_reducible refine qat 146 ?_);(refine qtto rfl rfl (j:=1) rfl (by omega) ?_))|((with_reducible refine qat 160 ?_);(refine qtfrom rfl rfl (i:=1) rfl (by omega) ?_))|go_big_quiet_step (fail)|quiet_step (fail))));clear hNE;refine wpQuiet_nil ?_;intro W1 HM1;replace HM:=Lib.hid HM1;clear HM1
 go_wp2_with (first|refine mP ?_|((with_reducible refine iat 2 ?_);refine mB ?_;clear HM;intro g2 W1 HM))
 go_ret
 exact ⟨by first|rfl|simp [List.append_assoc],HM.out.below⟩
set_option maxHeartbeats 8000000 in
theorem shTell_two (op kids:Int) (t:Tx) (neg:Bool) (hi lo:Nat) (sc day:Int) (b:Addr) (c:Nat) (p q:Tx × Int) (w:World) (ho:9≤op∧op≤20) (hk:kids=2) (hS:Cells w b ([p,q].flatMap pcC)) (hp:p.1.length≤1000) (hq:q.1.length≤1000) (ht:t.length≤1099511627776) :
  Calls Tryz.prog 35 #[.agg #[.int .i64 op,.int .i64 kids,.string ⟨t.toArray⟩,.bool neg,.int .u64 hi,.int .u64 lo,.int .i64 sc,.int .i64 day],.slice (some b) 2 c] w fun e w'=>e = .returned (.string ⟨(atF p.1 (lvlF p.2) (askF op 0)++signF op++atF q.1 (lvlF q.2) (askF op 1)).toArray⟩)∧RowKit.Below w.heap.size w w':=by
 subst hk
 have HM:=Lib.hid (Mem.start w)
 have E0:=Lib.hid (show Cells w (b.add (0 * 2)) [.string ⟨p.1.toArray⟩,.int .i64 (lvlF p.2)] from hS.elem pcC 2 pcC_len (i:=0) rfl)
 have E1:=Lib.hid (show Cells w (b.add (1 * 2)) [.string ⟨q.1.toArray⟩,.int .i64 (lvlF q.2)] from hS.elem pcC 2 pcC_len (i:=1) rfl)
 have HA0:=Lib.hid (fun W=>shAt_any p.1 (lvlF p.2) (askF op 0) W (by omega))
 have hA0:=atF_bd p.1 (lvlF p.2) (askF op 0)
 generalize atF p.1 (lvlF p.2) (askF op 0)=a0 at *
 have HA1:=Lib.hid (fun W=>shAt_any q.1 (lvlF q.2) (askF op 1) W (by omega))
 have hA1:=atF_bd q.1 (lvlF q.2) (askF op 1)
 generalize atF q.1 (lvlF q.2) (askF op 1)=a1 at *
 have HB:=Lib.hid (fun W=>shBetween_any op W ho)
 have hsg:=signF_bd op
 generalize askF op 0=k0 at *
 generalize askF op 1=k1 at *
 generalize signF op=sg at *
 obtain ⟨ho1,ho2⟩:=ho
 generalize lvlF p.2=l0 at *
 obtain ⟨p,_⟩:=p
 dsimp only at *
 generalize lvlF q.2=l1 at *
 obtain ⟨q,_⟩:=q
 dsimp only at *
 clear hS
 go_enter Tryz.func35,Tryz.ntmps35
 go_wp2_with (first|refine mP ?_|((with_reducible refine iat 2 ?_);refine mB ?_;clear HM;intro g2 W1 HM)|(go_at_call 84;with_reducible refine cQ (HB.out _) ?_))
 refine wp_region_mem (by kernel_rfl) (by kernel_rfl) HM.out ?_;intro hNE;(repeat (any_goals (first|((with_reducible refine skip_q ?_ ?_ ?_);(exact rfl);(rotate_left;(exact (hNE.elim fun p=>⟨p.W,p,rfl⟩))))|refine mQ ?_|((with_reducible show wpQuiet _ _ _ _ (Oper.mk _ (Op.call { callee:=Callee.value (Operand.func 81),args:=_,argTypes:=_}) _ _ _ _ :: _) _);(refine qcall HM.out (fun W hC=>HA0.out W) Tryz.func81 rfl rfl rfl ?_))|((with_reducible show wpQuiet _ _ _ _ (Oper.mk _ (Op.call { callee:=Callee.value (Operand.func 81),args:=_,argTypes:=_}) _ _ _ _ :: _) _);(refine qcall HM.out (fun W hC=>HA1.out W) Tryz.func81 rfl rfl rfl ?_))|((with_reducible refine qat 175 ?_);(refine qixa rfl rfl rfl (i:=0) (by omega) ?_))|((with_reducible refine qat 182 ?_);(refine qixa rfl rfl rfl (i:=1) (by omega) ?_))|((with_reducible refine qat 176 ?_);(refine shqW E0.out rfl rfl ?_))|((with_reducible refine qat 183 ?_);(refine shqW E1.out rfl rfl ?_))|((with_reducible refine qat 180 ?_);(refine qtcat rfl rfl (by simp;omega) ?_))|((with_reducible refine qat 186 ?_);(refine qtcat rfl rfl (by simp;omega) ?_))|go_big_quiet_step (fail)|quiet_step (fail))));clear hNE;refine wpQuiet_nil ?_;intro W1 HM1;replace HM:=Lib.hid HM1;clear HM1
 go_wp2_with (first|refine mP ?_|((with_reducible refine iat 2 ?_);refine mB ?_;clear HM;intro g2 W1 HM))
 go_ret
 exact ⟨by first|rfl|simp [List.append_assoc],HM.out.below⟩
end Go.Proofs.YtnghlakllgkjlaaGreatDoor
