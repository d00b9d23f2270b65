/- Show's reference: the text of a node out of its parts' texts. (short) -/
import Derived.Test.YtnghlakllgkjlaaGreatDoorShowE
import Derived.Test.YtnghlakllgkjlaaGreatDoorDigT
import Derived.Test.YtnghlakllgkjlaaGreatDoorDateTold
namespace Go.Proofs.YtnghlakllgkjlaaGreatDoor
open Go.RowKit
set_option linter.unusedVariables false
set_option linter.unusedSimpArgs false
set_option maxRecDepth 100000
set_option maxHeartbeats 8000000 in
theorem rsTell_neg (op kids:Int) (t:Tx) (neg:Bool) (hi lo:Nat) (sc day:Int) (b:Addr) (c:Nat) (x:Tx) (w:World) (ho:op=8) (hS:Cells w b ([x].flatMap txC)) (hx:x.length≤1002) (ht:t.length≤1099511627776) :
  Calls Tryz.prog 75 #[.agg #[.int .i64 op,.int .i64 kids,.string ⟨t.toArray⟩,.bool neg,.int .u64 hi,.int .u64 lo,.int .i64 sc,.int .i64 day],.slice (some b) 1 c] w fun e w'=>e = .returned (.string ⟨([45]++x).toArray⟩)∧RowKit.Below w.heap.size w w':=by
 subst ho
 have HM:=Lib.hid (Mem.start w)
 have E0:=Lib.hid (show Cells w (b.add (0 * 1)) [.string ⟨x.toArray⟩] from hS.elem txC 1 txC_len (i:=0) rfl)
 clear hS
 go_enter Tryz.func75,Tryz.ntmps75
 go_wp2_with (first|refine mP ?_|((with_reducible refine iat 2 ?_);refine mB ?_;clear HM;intro g2 W1 HM)|((with_reducible refine iat 31 ?_);(refine ixa rfl rfl rfl (i:=0) (by omega) ?_))|((with_reducible refine iat 32 ?_);(refine ldx0 (HM.out.olds E0.out) rfl rfl ?_))|((with_reducible refine iat 33 ?_);(refine tcat rfl rfl (by simp;omega) ?_)))
 go_ret
 exact ⟨by first|rfl|simp [List.append_assoc],HM.out.below⟩
set_option maxHeartbeats 8000000 in
theorem rsTell_if (op kids:Int) (t:Tx) (neg:Bool) (hi lo:Nat) (sc day:Int) (b:Addr) (c:Nat) (x y z:Tx) (w:World) (ho:op=21) (hS:Cells w b ([x,y,z].flatMap txC)) (hx:x.length≤1002) (hy:y.length≤1002) (hz:z.length≤1002) (ht:t.length≤1099511627776) :
  Calls Tryz.prog 75 #[.agg #[.int .i64 op,.int .i64 kids,.string ⟨t.toArray⟩,.bool neg,.int .u64 hi,.int .u64 lo,.int .i64 sc,.int .i64 day],.slice (some b) 3 c] w fun e w'=>e = .returned (.string ⟨([105,102,32]++x++[32,116,104,101,110,32]++y++[32,101,108,115,101,32]++z).toArray⟩)∧RowKit.Below w.heap.size w w':=by
 subst ho
 have HM:=Lib.hid (Mem.start w)
 have E0:=Lib.hid (show Cells w (b.add (0 * 1)) [.string ⟨x.toArray⟩] from hS.elem txC 1 txC_len (i:=0) rfl)
 have E1:=Lib.hid (show Cells w (b.add (1 * 1)) [.string ⟨y.toArray⟩] from hS.elem txC 1 txC_len (i:=1) rfl)
 have E2:=Lib.hid (show Cells w (b.add (2 * 1)) [.string ⟨z.toArray⟩] from hS.elem txC 1 txC_len (i:=2) rfl)
 clear hS
 go_enter Tryz.func75,Tryz.ntmps75
 go_wp2_with (first|refine mP ?_|((with_reducible refine iat 2 ?_);refine mB ?_;clear HM;intro g2 W1 HM))
 refine wp_region_mem (by kernel_rfl) (by kernel_rfl) HM.out ?_;intro hNE;(repeat (any_goals (first|((with_reducible refine skip_q ?_ ?_ ?_);(exact rfl);(rotate_left;(exact (hNE.elim fun p=>⟨p.W,p,rfl⟩))))|refine mQ ?_|((with_reducible refine qat 37 ?_);(refine qixa rfl rfl rfl (i:=0) (by omega) ?_))|((with_reducible refine qat 42 ?_);(refine qixa rfl rfl rfl (i:=1) (by omega) ?_))|((with_reducible refine qat 47 ?_);(refine qixa rfl rfl rfl (i:=2) (by omega) ?_))|((with_reducible refine qat 38 ?_);(refine qdx0 E0.out rfl rfl ?_))|((with_reducible refine qat 43 ?_);(refine qdx0 E1.out rfl rfl ?_))|((with_reducible refine qat 48 ?_);(refine qdx0 E2.out rfl rfl ?_))|((with_reducible refine qat 39 ?_);(refine qtcat rfl rfl (by simp;omega) ?_))|((with_reducible refine qat 40 ?_);(refine qtcat rfl rfl (by simp;omega) ?_))|((with_reducible refine qat 44 ?_);(refine qtcat rfl rfl (by simp;omega) ?_))|((with_reducible refine qat 45 ?_);(refine qtcat rfl rfl (by simp;omega) ?_))|((with_reducible refine qat 49 ?_);(refine qtcat rfl rfl (by simp;omega) ?_))|go_big_quiet_step (fail)|quiet_step (fail))));clear hNE;refine wpQuiet_nil ?_;intro W1 HM1;replace HM:=Lib.hid HM1;clear HM1
 go_wp2_with (first|refine mP ?_|((with_reducible refine iat 2 ?_);refine mB ?_;clear HM;intro g2 W1 HM))
 go_ret
 exact ⟨by first|rfl|simp [List.append_assoc],HM.out.below⟩
set_option maxHeartbeats 8000000 in
theorem rsTell_between (op kids:Int) (t:Tx) (neg:Bool) (hi lo:Nat) (sc day:Int) (b:Addr) (c:Nat) (x y z:Tx) (w:World) (ho:op=22) (hS:Cells w b ([x,y,z].flatMap txC)) (hx:x.length≤1002) (hy:y.length≤1002) (hz:z.length≤1002) (ht:t.length≤1099511627776) :
  Calls Tryz.prog 75 #[.agg #[.int .i64 op,.int .i64 kids,.string ⟨t.toArray⟩,.bool neg,.int .u64 hi,.int .u64 lo,.int .i64 sc,.int .i64 day],.slice (some b) 3 c] w fun e w'=>e = .returned (.string ⟨(x++[32,98,101,116,119,101,101,110,32]++y++[32,97,110,100,32]++z).toArray⟩)∧RowKit.Below w.heap.size w w':=by
 subst ho
 have HM:=Lib.hid (Mem.start w)
 have E0:=Lib.hid (show Cells w (b.add (0 * 1)) [.string ⟨x.toArray⟩] from hS.elem txC 1 txC_len (i:=0) rfl)
 have E1:=Lib.hid (show Cells w (b.add (1 * 1)) [.string ⟨y.toArray⟩] from hS.elem txC 1 txC_len (i:=1) rfl)
 have E2:=Lib.hid (show Cells w (b.add (2 * 1)) [.string ⟨z.toArray⟩] from hS.elem txC 1 txC_len (i:=2) rfl)
 clear hS
 go_enter Tryz.func75,Tryz.ntmps75
 go_wp2_with (first|refine mP ?_|((with_reducible refine iat 2 ?_);refine mB ?_;clear HM;intro g2 W1 HM))
 refine wp_region_mem (by kernel_rfl) (by kernel_rfl) HM.out ?_;intro hNE;(repeat (any_goals (first|((with_reducible refine skip_q ?_ ?_ ?_);(exact rfl);(rotate_left;(exact (hNE.elim fun p=>⟨p.W,p,rfl⟩))))|refine mQ ?_|((with_reducible refine qat 53 ?_);(refine qixa rfl rfl rfl (i:=0) (by omega) ?_))|((with_reducible refine qat 57 ?_);(refine qixa rfl rfl rfl (i:=1) (by omega) ?_))|((with_reducible refine qat 62 ?_);(refine qixa rfl rfl rfl (i:=2) (by omega) ?_))|((with_reducible refine qat 54 ?_);(refine qdx0 E0.out rfl rfl ?_))|((with_reducible refine qat 58 ?_);(refine qdx0 E1.out rfl rfl ?_))|((with_reducible refine qat 63 ?_);(refine qdx0 E2.out rfl rfl ?_))|((with_reducible refine qat 55 ?_);(refine qtcat rfl rfl (by simp;omega) ?_))|((with_reducible refine qat 59 ?_);(refine qtcat rfl rfl (by simp;omega) ?_))|((with_reducible refine qat 60 ?_);(refine qtcat rfl rfl (by simp;omega) ?_))|((with_reducible refine qat 64 ?_);(refine qtcat rfl rfl (by simp;omega) ?_))|go_big_quiet_step (fail)|quiet_step (fail))));clear hNE;refine wpQuiet_nil ?_;intro W1 HM1;replace HM:=Lib.hid HM1;clear HM1
 go_wp2_with (first|refine mP ?_|((with_reducible refine iat 2 ?_);refine mB ?_;clear HM;intro g2 W1 HM))
 go_ret
 exact ⟨by first|rfl|simp [List.append_assoc],HM.out.below⟩
set_option maxHeartbeats 8000000 in
theorem rsTell_in (op kids:Int) (t:Tx) (neg:Bool) (hi lo:Nat) (sc day:Int) (b:Addr) (c:Nat) (x y:Tx) (w:World) (ho:op=23) (hS:Cells w b ([x,y].flatMap txC)) (hx:x.length≤1002) (hy:y.length≤1002) (ht:t.length≤1099511627776) :
  Calls Tryz.prog 75 #[.agg #[.int .i64 op,.int .i64 kids,.string ⟨t.toArray⟩,.bool neg,.int .u64 hi,.int .u64 lo,.int .i64 sc,.int .i64 day],.slice (some b) 2 c] w fun e w'=>e = .returned (.string ⟨(x++[32,105,110,32,40]++y++[41]).toArray⟩)∧RowKit.Below w.heap.size w w':=by
 subst ho
 have HM:=Lib.hid (Mem.start w)
 have E0:=Lib.hid (show Cells w (b.add (0 * 1)) [.string ⟨x.toArray⟩] from hS.elem txC 1 txC_len (i:=0) rfl)
 have E1:=Lib.hid (show Cells w (b.add (1 * 1)) [.string ⟨y.toArray⟩] from hS.elem txC 1 txC_len (i:=1) rfl)
 clear hS
 go_enter Tryz.func75,Tryz.ntmps75
 go_wp2_with (first|refine mP ?_|((with_reducible refine iat 2 ?_);refine mB ?_;clear HM;intro g2 W1 HM))
 refine wp_region_mem (by kernel_rfl) (by kernel_rfl) HM.out ?_;intro hNE;(repeat (any_goals (first|((with_reducible refine skip_q ?_ ?_ ?_);(exact rfl);(rotate_left;(exact (hNE.elim fun p=>⟨p.W,p,rfl⟩))))|refine mQ ?_|((with_reducible refine qat 68 ?_);(refine qixa rfl rfl rfl (i:=0) (by omega) ?_))|((with_reducible refine qat 72 ?_);(refine qixa rfl rfl rfl (i:=1) (by omega) ?_))|((with_reducible refine qat 69 ?_);(refine qdx0 E0.out rfl rfl ?_))|((with_reducible refine qat 73 ?_);(refine qdx0 E1.out rfl rfl ?_))|((with_reducible refine qat 70 ?_);(refine qtcat rfl rfl (by simp;omega) ?_))|((with_reducible refine qat 74 ?_);(refine qtcat rfl rfl (by simp;omega) ?_))|((with_reducible refine qat 75 ?_);(refine qtcat rfl rfl (by simp;omega) ?_))|go_big_quiet_step (fail)|quiet_step (fail))));clear hNE;refine wpQuiet_nil ?_;intro W1 HM1;replace HM:=Lib.hid HM1;clear HM1
 go_wp2_with (first|refine mP ?_|((with_reducible refine iat 2 ?_);refine mB ?_;clear HM;intro g2 W1 HM))
 go_ret
 exact ⟨by first|rfl|simp [List.append_assoc],HM.out.below⟩
set_option maxHeartbeats 8000000 in
theorem rsTell_path (op kids:Int) (t:Tx) (neg:Bool) (hi lo:Nat) (sc day:Int) (b:Addr) (c:Nat) (x:Tx) (w:World) (ho:op=24) (hS:Cells w b ([x].flatMap txC)) (hx:x.length≤1002) (ht:t.length≤1099511627776) :
  Calls Tryz.prog 75 #[.agg #[.int .i64 op,.int .i64 kids,.string ⟨t.toArray⟩,.bool neg,.int .u64 hi,.int .u64 lo,.int .i64 sc,.int .i64 day],.slice (some b) 1 c] w fun e w'=>e = .returned (.string ⟨(x++[46]++t).toArray⟩)∧RowKit.Below w.heap.size w w':=by
 subst ho
 have HM:=Lib.hid (Mem.start w)
 have E0:=Lib.hid (show Cells w (b.add (0 * 1)) [.string ⟨x.toArray⟩] from hS.elem txC 1 txC_len (i:=0) rfl)
 clear hS
 go_enter Tryz.func75,Tryz.ntmps75
 go_wp2_with (first|refine mP ?_|((with_reducible refine iat 2 ?_);refine mB ?_;clear HM;intro g2 W1 HM))
 refine wp_region_mem (by kernel_rfl) (by kernel_rfl) HM.out ?_;intro hNE;(repeat (any_goals (first|((with_reducible refine skip_q ?_ ?_ ?_);(exact rfl);(rotate_left;(exact (hNE.elim fun p=>⟨p.W,p,rfl⟩))))|refine mQ ?_|((with_reducible refine qat 79 ?_);(refine qixa rfl rfl rfl (i:=0) (by omega) ?_))|((with_reducible refine qat 80 ?_);(refine qdx0 E0.out rfl rfl ?_))|((with_reducible refine qat 81 ?_);(refine qtcat rfl rfl (by simp;omega) ?_))|((with_reducible refine qat 84 ?_);(refine qtcat rfl rfl (by simp;omega) ?_))|go_big_quiet_step (fail)|quiet_step (fail))));clear hNE;refine wpQuiet_nil ?_;intro W1 HM1;replace HM:=Lib.hid HM1;clear HM1
 go_wp2_with (first|refine mP ?_|((with_reducible refine iat 2 ?_);refine mB ?_;clear HM;intro g2 W1 HM))
 go_ret
 exact ⟨by first|rfl|simp [List.append_assoc],HM.out.below⟩
set_option maxHeartbeats 8000000 in
theorem rsTell_call (op kids:Int) (t:Tx) (neg:Bool) (hi lo:Nat) (sc day:Int) (pp:Option Addr) (c:Nat) (l:List Tx) (w:World) (ho:op=25) (hS:Sl w pp (l.flatMap txC)) (hb:∀ x ∈ l,x.length≤1002) (hl:l.length≤300) (ht:t.length≤1099511627776) :
  Calls Tryz.prog 75 #[.agg #[.int .i64 op,.int .i64 kids,.string ⟨t.toArray⟩,.bool neg,.int .u64 hi,.int .u64 lo,.int .i64 sc,.int .i64 day],.slice pp l.length c] w fun e w'=>e = .returned (.string ⟨(t++[40]++rowF l++[41]).toArray⟩)∧RowKit.Below w.heap.size w w':=by
 subst ho
 have HM:=Lib.hid (Mem.start w)
 have HR:=Lib.hid (fun W (h:Sl W pp (l.flatMap txC))=>rshJoin_any pp c l W h hb hl)
 have HS:=Lib.hid hS
 have hR:=rowF_bd2 hb hl l.length
 rw [List.take_length] at hR
 generalize rowF l=a0 at *
 clear hS hb
 go_enter Tryz.func75,Tryz.ntmps75
 go_wp2_with (first|refine mP ?_|((with_reducible refine iat 2 ?_);refine mB ?_;clear HM;intro g2 W1 HM))
 refine wp_region_mem (by kernel_rfl) (by kernel_rfl) HM.out ?_;intro hNE;(repeat (any_goals (first|((with_reducible refine skip_q ?_ ?_ ?_);(exact rfl);(rotate_left;(exact (hNE.elim fun p=>⟨p.W,p,rfl⟩))))|refine mQ ?_|((with_reducible show wpQuiet _ _ _ _ (Oper.mk _ (Op.call { callee:=Callee.value (Operand.func 131),args:=_,argTypes:=_}) _ _ _ _ :: _) _);(refine qcall HM.out (fun W hC=>HR.out W (Mem.sl hC HS.out)) Tryz.func131 rfl rfl rfl ?_))|((with_reducible refine qat 89 ?_);(refine qtcat rfl rfl (by simp;omega) ?_))|((with_reducible refine qat 92 ?_);(refine qtcat rfl rfl (by simp;omega) ?_))|((with_reducible refine qat 93 ?_);(refine qtcat rfl rfl (by simp;omega) ?_))|go_big_quiet_step (fail)|quiet_step (fail))));clear hNE;refine wpQuiet_nil ?_;intro W1 HM1;replace HM:=Lib.hid HM1;clear HM1
 go_wp2_with (first|refine mP ?_|((with_reducible refine iat 2 ?_);refine mB ?_;clear HM;intro g2 W1 HM))
 go_ret
 exact ⟨by first|rfl|simp [List.append_assoc],HM.out.below⟩
set_option maxHeartbeats 8000000 in
theorem rsTell_list (op kids:Int) (t:Tx) (neg:Bool) (hi lo:Nat) (sc day:Int) (pp:Option Addr) (c:Nat) (l:List Tx) (w:World) (ho:op=26) (hS:Sl w pp (l.flatMap txC)) (hb:∀ x ∈ l,x.length≤1002) (hl:l.length≤300) (ht:t.length≤1099511627776) :
  Calls Tryz.prog 75 #[.agg #[.int .i64 op,.int .i64 kids,.string ⟨t.toArray⟩,.bool neg,.int .u64 hi,.int .u64 lo,.int .i64 sc,.int .i64 day],.slice pp l.length c] w fun e w'=>e = .returned (.string ⟨(([91]:Tx)++rowF l++[93]).toArray⟩)∧RowKit.Below w.heap.size w w':=by
 subst ho
 have HM:=Lib.hid (Mem.start w)
 have HR:=Lib.hid (fun W (h:Sl W pp (l.flatMap txC))=>rshJoin_any pp c l W h hb hl)
 have HS:=Lib.hid hS
 have hR:=rowF_bd2 hb hl l.length
 rw [List.take_length] at hR
 generalize rowF l=a0 at *
 clear hS hb
 go_enter Tryz.func75,Tryz.ntmps75
 go_wp2_with (first|refine mP ?_|((with_reducible refine iat 2 ?_);refine mB ?_;clear HM;intro g2 W1 HM)|(go_at_call 131;(with_reducible refine cB HM (HR.out _ (HM.out.sl HS.out)) ?_);clear HM;intro W1 HM)|((with_reducible refine iat 98 ?_);(refine tcat rfl rfl (by simp;omega) ?_))|((with_reducible refine iat 99 ?_);(refine tcat rfl rfl (by simp;omega) ?_)))
 go_ret
 exact ⟨by first|rfl|simp [List.append_assoc],HM.out.below⟩
set_option maxHeartbeats 8000000 in
theorem rsTell_ctx (op kids:Int) (t:Tx) (neg:Bool) (hi lo:Nat) (sc day:Int) (pp:Option Addr) (c:Nat) (l:List Tx) (w:World) (ho:op=27) (hS:Sl w pp (l.flatMap txC)) (hb:∀ x ∈ l,x.length≤1002) (hl:l.length≤300) (ht:t.length≤1099511627776) :
  Calls Tryz.prog 75 #[.agg #[.int .i64 op,.int .i64 kids,.string ⟨t.toArray⟩,.bool neg,.int .u64 hi,.int .u64 lo,.int .i64 sc,.int .i64 day],.slice pp l.length c] w fun e w'=>e = .returned (.string ⟨(([123]:Tx)++rowF l++[125]).toArray⟩)∧RowKit.Below w.heap.size w w':=by
 subst ho
 have HM:=Lib.hid (Mem.start w)
 have HR:=Lib.hid (fun W (h:Sl W pp (l.flatMap txC))=>rshJoin_any pp c l W h hb hl)
 have HS:=Lib.hid hS
 have hR:=rowF_bd2 hb hl l.length
 rw [List.take_length] at hR
 generalize rowF l=a0 at *
 clear hS hb
 go_enter Tryz.func75,Tryz.ntmps75
 go_wp2_with (first|refine mP ?_|((with_reducible refine iat 2 ?_);refine mB ?_;clear HM;intro g2 W1 HM)|(go_at_call 131;(with_reducible refine cB HM (HR.out _ (HM.out.sl HS.out)) ?_);clear HM;intro W1 HM)|((with_reducible refine iat 104 ?_);(refine tcat rfl rfl (by simp;omega) ?_))|((with_reducible refine iat 105 ?_);(refine tcat rfl rfl (by simp;omega) ?_)))
 go_ret
 exact ⟨by first|rfl|simp [List.append_assoc],HM.out.below⟩
set_option maxHeartbeats 8000000 in
theorem rsTell_entry (op kids:Int) (t:Tx) (neg:Bool) (hi lo:Nat) (sc day:Int) (b:Addr) (c:Nat) (x:Tx) (w:World) (ho:op=28) (hS:Cells w b ([x].flatMap txC)) (hx:x.length≤1002) (ht:t.length≤1099511627776) :
  Calls Tryz.prog 75 #[.agg #[.int .i64 op,.int .i64 kids,.string ⟨t.toArray⟩,.bool neg,.int .u64 hi,.int .u64 lo,.int .i64 sc,.int .i64 day],.slice (some b) 1 c] w fun e w'=>e = .returned (.string ⟨(t++[58,32]++x).toArray⟩)∧RowKit.Below w.heap.size w w':=by
 subst ho
 have HM:=Lib.hid (Mem.start w)
 have E0:=Lib.hid (show Cells w (b.add (0 * 1)) [.string ⟨x.toArray⟩] from hS.elem txC 1 txC_len (i:=0) rfl)
 clear hS
 go_enter Tryz.func75,Tryz.ntmps75
 go_wp2_with (first|refine mP ?_|((with_reducible refine iat 2 ?_);refine mB ?_;clear HM;intro g2 W1 HM))
 refine wp_region_mem (by kernel_rfl) (by kernel_rfl) HM.out ?_;intro hNE;(repeat (any_goals (first|((with_reducible refine skip_q ?_ ?_ ?_);(exact rfl);(rotate_left;(exact (hNE.elim fun p=>⟨p.W,p,rfl⟩))))|refine mQ ?_|((with_reducible refine qat 112 ?_);(refine qixa rfl rfl rfl (i:=0) (by omega) ?_))|((with_reducible refine qat 113 ?_);(refine qdx0 E0.out rfl rfl ?_))|((with_reducible refine qat 110 ?_);(refine qtcat rfl rfl (by simp;omega) ?_))|((with_reducible refine qat 114 ?_);(refine qtcat rfl rfl (by simp;omega) ?_))|go_big_quiet_step (fail)|quiet_step (fail))));clear hNE;refine wpQuiet_nil ?_;intro W1 HM1;replace HM:=Lib.hid HM1;clear HM1
 go_wp2_with (first|refine mP ?_|((with_reducible refine iat 2 ?_);refine mB ?_;clear HM;intro g2 W1 HM))
 go_ret
 exact ⟨by first|rfl|simp [List.append_assoc],HM.out.below⟩
set_option maxHeartbeats 8000000 in
theorem rsTell_is (op kids:Int) (t:Tx) (neg:Bool) (hi lo:Nat) (sc day:Int) (b:Addr) (c:Nat) (x:Tx) (w:World) (ho:op=30) (hS:Cells w b ([x].flatMap txC)) (hx:x.length≤1002) (ht:t.length≤1099511627776) :
  Calls Tryz.prog 75 #[.agg #[.int .i64 op,.int .i64 kids,.string ⟨t.toArray⟩,.bool neg,.int .u64 hi,.int .u64 lo,.int .i64 sc,.int .i64 day],.slice (some b) 1 c] w fun e w'=>e = .returned (.string ⟨(x).toArray⟩)∧RowKit.Below w.heap.size w w':=by
 subst ho
 have HM:=Lib.hid (Mem.start w)
 have E0:=Lib.hid (show Cells w (b.add (0 * 1)) [.string ⟨x.toArray⟩] from hS.elem txC 1 txC_len (i:=0) rfl)
 clear hS
 go_enter Tryz.func75,Tryz.ntmps75
 go_wp2_with (first|refine mP ?_|((with_reducible refine iat 2 ?_);refine mB ?_;clear HM;intro g2 W1 HM)|((with_reducible refine iat 120 ?_);(refine ixa rfl rfl rfl (i:=0) (by omega) ?_))|((with_reducible refine iat 121 ?_);(refine ldx0 (HM.out.olds E0.out) rfl rfl ?_)))
 go_ret
 exact ⟨by first|rfl|simp [List.append_assoc],HM.out.below⟩
set_option maxHeartbeats 8000000 in
theorem rsTell_cmp (op kids:Int) (t:Tx) (neg:Bool) (hi lo:Nat) (sc day:Int) (b:Addr) (c:Nat) (x:Tx) (w:World) (ho:31≤op∧op≤34) (hS:Cells w b ([x].flatMap txC)) (hx:x.length≤1002) (ht:t.length≤1099511627776) :
  Calls Tryz.prog 75 #[.agg #[.int .i64 op,.int .i64 kids,.string ⟨t.toArray⟩,.bool neg,.int .u64 hi,.int .u64 lo,.int .i64 sc,.int .i64 day],.slice (some b) 1 c] w fun e w'=>e = .returned (.string ⟨(signF op++x).toArray⟩)∧RowKit.Below w.heap.size w w':=by
 have HB:=Lib.hid (fun W=>below_of_same (rshWord_any op W))
 have hsg:=signF_bd op
 generalize signF op=sg at *
 have HM:=Lib.hid (Mem.start w)
 have E0:=Lib.hid (show Cells w (b.add (0 * 1)) [.string ⟨x.toArray⟩] from hS.elem txC 1 txC_len (i:=0) rfl)
 clear hS
 obtain rfl|rfl|rfl|rfl:op=31∨op=32∨op=33∨op=34:=by omega
 all_goals
  go_enter Tryz.func75,Tryz.ntmps75
  go_wp2_with (first|refine mP ?_|((with_reducible refine iat 2 ?_);refine mB ?_;clear HM;intro g2 W1 HM))
  refine wp_region_mem (by kernel_rfl) (by kernel_rfl) HM.out ?_;intro hNE;(repeat (any_goals (first|((with_reducible refine skip_q ?_ ?_ ?_);(exact rfl);(rotate_left;(exact (hNE.elim fun p=>⟨p.W,p,rfl⟩))))|refine mQ ?_|((with_reducible show wpQuiet _ _ _ _ (Oper.mk _ (Op.call { callee:=Callee.value (Operand.func 132),args:=_,argTypes:=_}) _ _ _ _ :: _) _);(refine qcall HM.out (fun W hC=>HB.out W) Tryz.func132 rfl rfl rfl ?_))|((with_reducible refine qat 131 ?_);(refine qixa rfl rfl rfl (i:=0) (by omega) ?_))|((with_reducible refine qat 132 ?_);(refine qdx0 E0.out rfl rfl ?_))|((with_reducible refine qat 133 ?_);(refine qtcat rfl rfl (by simp;omega) ?_))|go_big_quiet_step (fail)|quiet_step (fail))));clear hNE;refine wpQuiet_nil ?_;intro W1 HM1;replace HM:=Lib.hid HM1;clear HM1
  go_wp2_with (first|refine mP ?_|((with_reducible refine iat 2 ?_);refine mB ?_;clear HM;intro g2 W1 HM))
  go_ret
  exact ⟨by first|rfl|simp [List.append_assoc],HM.out.below⟩
set_option maxHeartbeats 8000000 in
theorem rsTell_span (op kids:Int) (t:Tx) (neg:Bool) (hi lo:Nat) (sc day:Int) (b:Addr) (c:Nat) (x y:Tx) (w:World) (ho:op=35) (ht2:t.length=2) (hS:Cells w b ([x,y].flatMap txC)) (hx:x.length≤1002) (hy:y.length≤1002) (ht:t.length≤1099511627776) :
  Calls Tryz.prog 75 #[.agg #[.int .i64 op,.int .i64 kids,.string ⟨t.toArray⟩,.bool neg,.int .u64 hi,.int .u64 lo,.int .i64 sc,.int .i64 day],.slice (some b) 2 c] w fun e w'=>e = .returned (.string ⟨(t.take 1++x++[46,46]++y++t.drop 1).toArray⟩)∧RowKit.Below w.heap.size w w':=by
 subst ho
 have HM:=Lib.hid (Mem.start w)
 have E0:=Lib.hid (show Cells w (b.add (0 * 1)) [.string ⟨x.toArray⟩] from hS.elem txC 1 txC_len (i:=0) rfl)
 have E1:=Lib.hid (show Cells w (b.add (1 * 1)) [.string ⟨y.toArray⟩] from hS.elem txC 1 txC_len (i:=1) rfl)
 clear hS
 go_enter Tryz.func75,Tryz.ntmps75
 go_wp2_with (first|refine mP ?_|((with_reducible refine iat 2 ?_);refine mB ?_;clear HM;intro g2 W1 HM))
 refine wp_region_mem (by kernel_rfl) (by kernel_rfl) HM.out ?_;intro hNE;(repeat (any_goals (first|((with_reducible refine skip_q ?_ ?_ ?_);(exact rfl);(rotate_left;(exact (hNE.elim fun p=>⟨p.W,p,rfl⟩))))|refine mQ ?_|((with_reducible refine qat 140 ?_);(refine qixa rfl rfl rfl (i:=0) (by omega) ?_))|((with_reducible refine qat 145 ?_);(refine qixa rfl rfl rfl (i:=1) (by omega) ?_))|((with_reducible refine qat 141 ?_);(refine qdx0 E0.out rfl rfl ?_))|((with_reducible refine qat 146 ?_);(refine qdx0 E1.out rfl rfl ?_))|((with_reducible refine qat 142 ?_);(refine qtcat rfl rfl (by simp;omega) ?_))|((with_reducible refine qat 143 ?_);(refine qtcat rfl rfl (by simp;omega) ?_))|((with_reducible refine qat 147 ?_);(refine qtcat rfl rfl (by simp;omega) ?_))|((with_reducible refine qat 151 ?_);(refine qtcat rfl rfl (by simp;omega) ?_))|((with_reducible refine qat 138 ?_);(refine qtto rfl rfl (j:=1) rfl (by omega) ?_))|((with_reducible refine qat 150 ?_);(refine qtfrom rfl rfl (i:=1) rfl (by omega) ?_))|go_big_quiet_step (fail)|quiet_step (fail))));clear hNE;refine wpQuiet_nil ?_;intro W1 HM1;replace HM:=Lib.hid HM1;clear HM1
 go_wp2_with (first|refine mP ?_|((with_reducible refine iat 2 ?_);refine mB ?_;clear HM;intro g2 W1 HM))
 go_ret
 exact ⟨by first|rfl|simp [List.append_assoc],HM.out.below⟩
set_option maxHeartbeats 8000000 in
theorem rsTell_some (op kids:Int) (t:Tx) (neg:Bool) (hi lo:Nat) (sc day:Int) (pp:Option Addr) (c:Nat) (l:List Tx) (w:World) (ho:op=36) (hS:Sl w pp (l.flatMap txC)) (hb:∀ x ∈ l,x.length≤1002) (hl:l.length≤300) (ht:t.length≤1099511627776) :
  Calls Tryz.prog 75 #[.agg #[.int .i64 op,.int .i64 kids,.string ⟨t.toArray⟩,.bool neg,.int .u64 hi,.int .u64 lo,.int .i64 sc,.int .i64 day],.slice pp l.length c] w fun e w'=>e = .returned (.string ⟨(rowF l).toArray⟩)∧RowKit.Below w.heap.size w w':=by
 subst ho
 have HM:=Lib.hid (Mem.start w)
 have HR:=Lib.hid (fun W (h:Sl W pp (l.flatMap txC))=>rshJoin_any pp c l W h hb hl)
 have HS:=Lib.hid hS
 have hR:=rowF_bd2 hb hl l.length
 rw [List.take_length] at hR
 generalize rowF l=a0 at *
 clear hS hb
 go_enter Tryz.func75,Tryz.ntmps75
 go_wp2_with (first|refine mP ?_|((with_reducible refine iat 2 ?_);refine mB ?_;clear HM;intro g2 W1 HM)|(go_at_call 131;(with_reducible refine cB HM (HR.out _ (HM.out.sl HS.out)) ?_);clear HM;intro W1 HM))
 go_ret
 exact ⟨by first|rfl|simp [List.append_assoc],HM.out.below⟩
set_option maxHeartbeats 8000000 in
theorem rsTell_not (op kids:Int) (t:Tx) (neg:Bool) (hi lo:Nat) (sc day:Int) (b:Addr) (c:Nat) (x:Tx) (w:World) (ho:op=37) (hS:Cells w b ([x].flatMap txC)) (hx:x.length≤1002) (ht:t.length≤1099511627776) :
  Calls Tryz.prog 75 #[.agg #[.int .i64 op,.int .i64 kids,.string ⟨t.toArray⟩,.bool neg,.int .u64 hi,.int .u64 lo,.int .i64 sc,.int .i64 day],.slice (some b) 1 c] w fun e w'=>e = .returned (.string ⟨([110,111,116,40]++x++[41]).toArray⟩)∧RowKit.Below w.heap.size w w':=by
 subst ho
 have HM:=Lib.hid (Mem.start w)
 have E0:=Lib.hid (show Cells w (b.add (0 * 1)) [.string ⟨x.toArray⟩] from hS.elem txC 1 txC_len (i:=0) rfl)
 clear hS
 go_enter Tryz.func75,Tryz.ntmps75
 go_wp2_with (first|refine mP ?_|((with_reducible refine iat 2 ?_);refine mB ?_;clear HM;intro g2 W1 HM)|((with_reducible refine iat 159 ?_);(refine ixa rfl rfl rfl (i:=0) (by omega) ?_))|((with_reducible refine iat 160 ?_);(refine ldx0 (HM.out.olds E0.out) rfl rfl ?_))|((with_reducible refine iat 161 ?_);(refine tcat rfl rfl (by simp;omega) ?_))|((with_reducible refine iat 162 ?_);(refine tcat rfl rfl (by simp;omega) ?_)))
 go_ret
 exact ⟨by first|rfl|simp [List.append_assoc],HM.out.below⟩
set_option maxHeartbeats 8000000 in
theorem rsTell_two (op kids:Int) (t:Tx) (neg:Bool) (hi lo:Nat) (sc day:Int) (b:Addr) (c:Nat) (x y:Tx) (w:World) (ho:9≤op∧op≤20) (hS:Cells w b ([x,y].flatMap txC)) (hx:x.length≤1002) (hy:y.length≤1002) (ht:t.length≤1099511627776) :
  Calls Tryz.prog 75 #[.agg #[.int .i64 op,.int .i64 kids,.string ⟨t.toArray⟩,.bool neg,.int .u64 hi,.int .u64 lo,.int .i64 sc,.int .i64 day],.slice (some b) 2 c] w fun e w'=>e = .returned (.string ⟨(x++signF op++y).toArray⟩)∧RowKit.Below w.heap.size w w':=by
 have HB:=Lib.hid (fun W=>below_of_same (rshWord_any op W))
 have hsg:=signF_bd op
 generalize signF op=sg at *
 obtain ⟨ho1,ho2⟩:=ho
 have HM:=Lib.hid (Mem.start w)
 have E0:=Lib.hid (show Cells w (b.add (0 * 1)) [.string ⟨x.toArray⟩] from hS.elem txC 1 txC_len (i:=0) rfl)
 have E1:=Lib.hid (show Cells w (b.add (1 * 1)) [.string ⟨y.toArray⟩] from hS.elem txC 1 txC_len (i:=1) rfl)
 clear hS
 go_enter Tryz.func75,Tryz.ntmps75
 go_wp2_with (first|refine mP ?_|((with_reducible refine iat 2 ?_);refine mB ?_;clear HM;intro g2 W1 HM))
 refine wp_region_mem (by kernel_rfl) (by kernel_rfl) HM.out ?_;intro hNE;(repeat (any_goals (first|((with_reducible refine skip_q ?_ ?_ ?_);(exact rfl);(rotate_left;(exact (hNE.elim fun p=>⟨p.W,p,rfl⟩))))|refine mQ ?_|((with_reducible show wpQuiet _ _ _ _ (Oper.mk _ (Op.call { callee:=Callee.value (Operand.func 132),args:=_,argTypes:=_}) _ _ _ _ :: _) _);(refine qcall HM.out (fun W hC=>HB.out W) Tryz.func132 rfl rfl rfl ?_))|((with_reducible refine qat 167 ?_);(refine qixa rfl rfl rfl (i:=0) (by omega) ?_))|((with_reducible refine qat 174 ?_);(refine qixa rfl rfl rfl (i:=1) (by omega) ?_))|((with_reducible refine qat 168 ?_);(refine qdx0 E0.out rfl rfl ?_))|((with_reducible refine qat 175 ?_);(refine qdx0 E1.out rfl rfl ?_))|((with_reducible refine qat 172 ?_);(refine qtcat rfl rfl (by simp;omega) ?_))|((with_reducible refine qat 176 ?_);(refine qtcat rfl rfl (by simp;omega) ?_))|go_big_quiet_step (fail)|quiet_step (fail))));clear hNE;refine wpQuiet_nil ?_;intro W1 HM1;replace HM:=Lib.hid HM1;clear HM1
 go_wp2_with (first|refine mP ?_|((with_reducible refine iat 2 ?_);refine mB ?_;clear HM;intro g2 W1 HM))
 go_ret
 exact ⟨by first|rfl|simp [List.append_assoc],HM.out.below⟩
set_option maxHeartbeats 8000000 in
theorem rsTell_word (op kids:Int) (t:Tx) (neg:Bool) (hi lo:Nat) (sc day:Int) (pp:Option Addr) (c:Nat) (w:World) (ho:1≤op∧op≤3) (ht:t.length≤1099511627776) :
  Calls Tryz.prog 75 #[.agg #[.int .i64 op,.int .i64 kids,.string ⟨t.toArray⟩,.bool neg,.int .u64 hi,.int .u64 lo,.int .i64 sc,.int .i64 day],.slice pp 0 c] w fun e w'=>e = .returned (.string ⟨(signF op).toArray⟩)∧RowKit.Below w.heap.size w w':=by
 have HB:=Lib.hid (fun W=>below_of_same (rshWord_any op W))
 have hsg:=signF_bd op
 generalize signF op=sg at *
 obtain ⟨ho1,ho2⟩:=ho
 have HM:=Lib.hid (Mem.start w)
 go_enter Tryz.func75,Tryz.ntmps75
 go_wp2_with (first|refine mP ?_|((with_reducible refine iat 2 ?_);refine mB ?_;clear HM;intro g2 W1 HM)|(go_at_call 132;(with_reducible refine cB HM (HB.out _) ?_);clear HM;intro W1 HM))
 go_ret
 exact ⟨by first|rfl|simp [List.append_assoc],HM.out.below⟩
set_option maxHeartbeats 8000000 in
theorem rsTell_any29 (op kids:Int) (t:Tx) (neg:Bool) (hi lo:Nat) (sc day:Int) (pp:Option Addr) (c:Nat) (w:World) (ho:op=29) (ht:t.length≤1099511627776) :
  Calls Tryz.prog 75 #[.agg #[.int .i64 op,.int .i64 kids,.string ⟨t.toArray⟩,.bool neg,.int .u64 hi,.int .u64 lo,.int .i64 sc,.int .i64 day],.slice pp 0 c] w fun e w'=>e = .returned (.string ⟨([45]).toArray⟩)∧RowKit.Below w.heap.size w w':=by
 subst ho
 have HM:=Lib.hid (Mem.start w)
 go_enter Tryz.func75,Tryz.ntmps75
 go_wp2_with (first|refine mP ?_|((with_reducible refine iat 2 ?_);refine mB ?_;clear HM;intro g2 W1 HM))
 go_ret
 exact ⟨by first|rfl|simp [List.append_assoc],HM.out.below⟩
set_option maxHeartbeats 8000000 in
theorem rsTell_name (op kids:Int) (t:Tx) (neg:Bool) (hi lo:Nat) (sc day:Int) (pp:Option Addr) (c:Nat) (w:World) (ho:op=7) (ht:t.length≤1099511627776) :
  Calls Tryz.prog 75 #[.agg #[.int .i64 op,.int .i64 kids,.string ⟨t.toArray⟩,.bool neg,.int .u64 hi,.int .u64 lo,.int .i64 sc,.int .i64 day],.slice pp 0 c] w fun e w'=>e = .returned (.string ⟨(t).toArray⟩)∧RowKit.Below w.heap.size w w':=by
 subst ho
 have HM:=Lib.hid (Mem.start w)
 go_enter Tryz.func75,Tryz.ntmps75
 go_wp2_with (first|refine mP ?_|((with_reducible refine iat 2 ?_);refine mB ?_;clear HM;intro g2 W1 HM))
 go_ret
 exact ⟨by first|rfl|simp [List.append_assoc],HM.out.below⟩
set_option maxHeartbeats 8000000 in
theorem rsTell_num (op kids:Int) (t:Tx) (neg:Bool) (hi lo:Nat) (sc day:Int) (pp:Option Addr) (c:Nat) (w:World) (ho:op=4) (hok:(DcD.mk neg hi lo sc).ok=true) (hwf:(DcD.mk neg hi lo sc).wf) (ht:t.length≤1099511627776) :
  Calls Tryz.prog 75 #[.agg #[.int .i64 op,.int .i64 kids,.string ⟨t.toArray⟩,.bool neg,.int .u64 hi,.int .u64 lo,.int .i64 sc,.int .i64 day],.slice pp 0 c] w fun e w'=>e = .returned (.string ⟨(leafT 4 t ⟨neg,hi,lo,sc⟩ day).toArray⟩)∧RowKit.Below w.heap.size w w':=by
 subst ho
 have HD:=Lib.hid (fun W=>(show Calls Tryz.prog 42 #[.agg #[.bool neg,.int .u64 hi,.int .u64 lo,.int .i64 sc]] W fun e w'=>e = .returned (.string ⟨(leafT 4 t ⟨neg,hi,lo,sc⟩ day).toArray⟩)∧RowKit.Below W.heap.size W w' from rDec_any ⟨neg,hi,lo,sc⟩ W hok hwf))
 generalize leafT 4 t ⟨neg,hi,lo,sc⟩ day=T at *
 clear hok hwf
 have HM:=Lib.hid (Mem.start w)
 go_enter Tryz.func75,Tryz.ntmps75
 go_wp2_with (first|refine mP ?_|((with_reducible refine iat 2 ?_);refine mB ?_;clear HM;intro g2 W1 HM)|(go_at_call 42;(with_reducible refine cB HM (HD.out _) ?_);clear HM;intro W1 HM))
 go_ret
 exact ⟨by first|rfl|simp [List.append_assoc],HM.out.below⟩
set_option maxHeartbeats 8000000 in
theorem rsTell_text (op kids:Int) (t:Tx) (neg:Bool) (hi lo:Nat) (sc day:Int) (pp:Option Addr) (c:Nat) (w:World) (ho:op=5) (ht:t.length≤1099511627776) :
  Calls Tryz.prog 75 #[.agg #[.int .i64 op,.int .i64 kids,.string ⟨t.toArray⟩,.bool neg,.int .u64 hi,.int .u64 lo,.int .i64 sc,.int .i64 day],.slice pp 0 c] w fun e w'=>e = .returned (.string ⟨(leafT 5 t ⟨neg,hi,lo,sc⟩ day).toArray⟩)∧RowKit.Below w.heap.size w w':=by
 subst ho
 have HD:=Lib.hid (fun W=>(show Calls Tryz.prog 43 #[.string ⟨t.toArray⟩] W fun e w'=>e = .returned (.string ⟨(leafT 5 t ⟨neg,hi,lo,sc⟩ day).toArray⟩)∧RowKit.Below W.heap.size W w' from rquoted_any ⟨t.toArray⟩ W ht))
 generalize leafT 5 t ⟨neg,hi,lo,sc⟩ day=T at *
 have HM:=Lib.hid (Mem.start w)
 go_enter Tryz.func75,Tryz.ntmps75
 go_wp2_with (first|refine mP ?_|((with_reducible refine iat 2 ?_);refine mB ?_;clear HM;intro g2 W1 HM)|(go_at_call 43;(with_reducible refine cB HM (HD.out _) ?_);clear HM;intro W1 HM))
 go_ret
 exact ⟨by first|rfl|simp [List.append_assoc],HM.out.below⟩
set_option maxHeartbeats 8000000 in
theorem rsTell_day (op kids:Int) (t:Tx) (neg:Bool) (hi lo:Nat) (sc day:Int) (pp:Option Addr) (c:Nat) (w:World) (ho:op=6) (hv:Cal.isB day=true) (ht:t.length≤1099511627776) :
  Calls Tryz.prog 75 #[.agg #[.int .i64 op,.int .i64 kids,.string ⟨t.toArray⟩,.bool neg,.int .u64 hi,.int .u64 lo,.int .i64 sc,.int .i64 day],.slice pp 0 c] w fun e w'=>e = .returned (.string ⟨([64,34]++(dayB day).data.toList++[34]).toArray⟩)∧RowKit.Below w.heap.size w w':=by
 subst ho
 have hs:(dayB day).data.toList.length≤10:=dayB_size day
 have HD:=Lib.hid (fun W=>(show Calls Tryz.prog 44 #[.int .i64 day] W fun e w'=>e = .returned (.string ⟨(dayB day).data.toList.toArray⟩)∧RowKit.Below W.heap.size W w' from told_any day W hv))
 generalize (dayB day).data.toList=D at *
 clear hv
 have HM:=Lib.hid (Mem.start w)
 go_enter Tryz.func75,Tryz.ntmps75
 go_wp2_with (first|refine mP ?_|((with_reducible refine iat 2 ?_);refine mB ?_;clear HM;intro g2 W1 HM)|(go_at_call 44;(with_reducible refine cB HM (HD.out _) ?_);clear HM;intro W1 HM)|((with_reducible refine iat 22 ?_);(refine tcat rfl rfl (by simp;omega) ?_))|((with_reducible refine iat 23 ?_);(refine tcat rfl rfl (by simp;omega) ?_)))
 go_ret
 exact ⟨by first|rfl|simp [List.append_assoc],HM.out.below⟩
theorem kids_fixr {op k:Int} {m:Int} (h:kidsB op k=true) (ha:arI op=(m,m)) (hm:0≤m):k=m:=by
 unfold kidsB at h
 have:=of_decide_eq_true h
 rw [ha] at this
 simp only at this
 omega
theorem spanr_two {t:Tx} {neg:Bool} {n:Nat} {sc day:Int} (h:okB 35 ⟨t.toArray⟩ neg n sc day=true):t.length=2:=by
 unfold okB spanB at h
 rw [if_neg (by decide),if_neg (by decide),if_neg (by decide),if_pos rfl,decide_eq_true_eq,ByteArray.toList_eq] at h
 have h:t=[91,93]∨t=[91,41]∨t=[40,93]∨t=[40,41]:=h
 rcases h with rfl|rfl|rfl|rfl <;> rfl
theorem lenr_one {l:List Tx} (h:l.length=1):∃ a,l=[a]:=List.length_eq_one_iff.1 h
theorem lenr_two {l:List Tx} (h:l.length=2):∃ a b,l=[a,b]:=by
 match l,h with
 | [a,b],_=>exact ⟨a,b,rfl⟩
theorem lenr_three {l:List Tx} (h:l.length=3):∃ a b c,l=[a,b,c]:=by
 match l,h with
 | [a,b,c],_=>exact ⟨a,b,c,rfl⟩
theorem somer_cells {l:List Tx} {w:World} {p:Option Addr} (h:Sl w p (l.flatMap txC)) (hl:0 < l.length):∃ b,p=some b∧Cells w b (l.flatMap txC):=by
 obtain ⟨b,e,hb⟩:=h.some_at txC_len (by decide) hl
 exact ⟨b,e,hb⟩
set_option maxHeartbeats 8000000 in
theorem rsTell_any (n:NodeD) (p:Option Addr) (c:Nat) (l:List Tx) (w:World) (hS:Sl w p (l.flatMap txC)) (hf:fieldsB n=true) (hk:kidsB n.op n.kids=true) (hl:(l.length:Int)=n.kids) (hb:∀ x ∈ l,x.length≤1002) (h300:l.length≤300) (hwf:n.wf) :
  Calls Tryz.prog 75 #[.agg n.cs.toArray,.slice p l.length c] w fun e w'=>e = .returned (.string ⟨(tellF n l).toArray⟩)∧RowKit.Below w.heap.size w w':=by
 have hop:=kidsB_op hk
 have hok:=fields_ok hf
 have htx:=hwf.text
 have hw1:=hwf.hi
 have hw2:=hwf.lo
 obtain ⟨op,kids,text,neg,hi,lo,sc,day⟩:=n
 obtain ⟨t,rfl⟩:∃ t:Tx,text=⟨t.toArray⟩:=⟨text.data.toList,rfl⟩
 simp only at hop hok hk hl
 have ht:t.length≤1099511627776:=htx
 clear hf hwf htx
 by_cases hleaf:1≤op∧op≤7∨op=29
 ·have h0:kids=0:=kids_fixr hk (by unfold arI;rw [if_pos (by omega)]) (by omega)
  obtain rfl:l=[]:=List.length_eq_zero_iff.1 (by omega)
  have hcs:(1≤op∧op≤3)∨op=4∨op=5∨op=6∨op=7∨op=29:=by omega
  rcases hcs with h|rfl|rfl|rfl|rfl|rfl
  ·refine (rsTell_word op kids t neg hi lo sc day p c w h ht).mono fun e W ⟨he,hB⟩=>⟨he.trans ?_,hB⟩
   obtain rfl|rfl|rfl:op=1∨op=2∨op=3:=by omega
   all_goals rfl
  ·unfold okB at hok
   rw [if_pos rfl,Bool.and_eq_true] at hok
   exact rsTell_num 4 kids t neg hi lo sc day p c w rfl hok.1 ⟨hw1,hw2⟩ ht
  ·exact rsTell_text 5 kids t neg hi lo sc day p c w rfl ht
  ·unfold okB at hok
   rw [if_neg (by decide),if_neg (by decide),if_pos rfl,Bool.and_eq_true,decide_eq_true_eq,decide_eq_true_eq] at hok
   exact rsTell_day 6 kids t neg hi lo sc day p c w rfl ((Cal.isB_iff day).2 hok) ht
  ·exact rsTell_name 7 kids t neg hi lo sc day p c w rfl ht
  ·exact rsTell_any29 29 kids t neg hi lo sc day p c w rfl ht
 by_cases h2:9≤op∧op≤20
 ·have h0:kids=2:=kids_fixr hk (by unfold arI;rw [if_neg (by omega),if_neg (by omega),if_pos (by omega)]) (by omega)
  obtain ⟨x,y,rfl⟩:=lenr_two (show l.length=2 by omega)
  obtain ⟨b,rfl,hc⟩:=somer_cells hS (by simp)
  have h:=rsTell_two op kids t neg hi lo sc day b c x y w h2 hc (hb x (by simp)) (hb y (by simp)) ht
  have e:tellF ⟨op,kids,⟨t.toArray⟩,neg,hi,lo,sc,day⟩ [x,y]=x++signF op++y:=by
   unfold tellF
   simp only [List.getD_cons_zero,List.getD_cons_succ]
   repeat (rw [if_neg (by omega)])
  rw [e]
  exact h
 have hcs:op=8∨op=21∨op=22∨op=23∨op=24∨op=25∨op=26∨op=27∨op=28∨op=30∨op=31∨op=32∨op=33∨op=34∨op=35∨op=36∨op=37:=by omega
 rcases hcs with rfl|rfl|rfl|rfl|rfl|rfl|rfl|rfl|rfl|rfl|rfl|rfl|rfl|rfl|rfl|rfl|rfl
 ·have h0:kids=1:=kids_fixr hk (by decide) (by decide)
  obtain ⟨x,rfl⟩:=lenr_one (show l.length=1 by omega)
  obtain ⟨b,rfl,hc⟩:=somer_cells hS (by simp)
  refine (rsTell_neg 8 kids t neg hi lo sc day b c x w rfl hc (hb x (by simp)) ht).mono fun e W ⟨he,hB⟩=>⟨he.trans ?_,hB⟩
  rfl
 ·have h0:kids=3:=kids_fixr hk (by decide) (by decide)
  obtain ⟨x,y,z,rfl⟩:=lenr_three (show l.length=3 by omega)
  obtain ⟨b,rfl,hc⟩:=somer_cells hS (by simp)
  refine (rsTell_if 21 kids t neg hi lo sc day b c x y z w rfl hc (hb x (by simp)) (hb y (by simp)) (hb z (by simp)) ht).mono fun e W ⟨he,hB⟩=>⟨he.trans ?_,hB⟩
  rfl
 ·have h0:kids=3:=kids_fixr hk (by decide) (by decide)
  obtain ⟨x,y,z,rfl⟩:=lenr_three (show l.length=3 by omega)
  obtain ⟨b,rfl,hc⟩:=somer_cells hS (by simp)
  refine (rsTell_between 22 kids t neg hi lo sc day b c x y z w rfl hc (hb x (by simp)) (hb y (by simp)) (hb z (by simp)) ht).mono fun e W ⟨he,hB⟩=>⟨he.trans ?_,hB⟩
  rfl
 ·have h0:kids=2:=kids_fixr hk (by decide) (by decide)
  obtain ⟨x,y,rfl⟩:=lenr_two (show l.length=2 by omega)
  obtain ⟨b,rfl,hc⟩:=somer_cells hS (by simp)
  refine (rsTell_in 23 kids t neg hi lo sc day b c x y w rfl hc (hb x (by simp)) (hb y (by simp)) ht).mono fun e W ⟨he,hB⟩=>⟨he.trans ?_,hB⟩
  rfl
 ·have h0:kids=1:=kids_fixr hk (by decide) (by decide)
  obtain ⟨x,rfl⟩:=lenr_one (show l.length=1 by omega)
  obtain ⟨b,rfl,hc⟩:=somer_cells hS (by simp)
  refine (rsTell_path 24 kids t neg hi lo sc day b c x w rfl hc (hb x (by simp)) ht).mono fun e W ⟨he,hB⟩=>⟨he.trans ?_,hB⟩
  rfl
 ·refine (rsTell_call 25 kids t neg hi lo sc day p c l w rfl hS hb h300 ht).mono fun e W ⟨he,hB⟩=>⟨he.trans ?_,hB⟩
  rfl
 ·refine (rsTell_list 26 kids t neg hi lo sc day p c l w rfl hS hb h300 ht).mono fun e W ⟨he,hB⟩=>⟨he.trans ?_,hB⟩
  rfl
 ·refine (rsTell_ctx 27 kids t neg hi lo sc day p c l w rfl hS hb h300 ht).mono fun e W ⟨he,hB⟩=>⟨he.trans ?_,hB⟩
  rfl
 ·have h0:kids=1:=kids_fixr hk (by decide) (by decide)
  obtain ⟨x,rfl⟩:=lenr_one (show l.length=1 by omega)
  obtain ⟨b,rfl,hc⟩:=somer_cells hS (by simp)
  refine (rsTell_entry 28 kids t neg hi lo sc day b c x w rfl hc (hb x (by simp)) ht).mono fun e W ⟨he,hB⟩=>⟨he.trans ?_,hB⟩
  rfl
 ·have h0:kids=1:=kids_fixr hk (by decide) (by decide)
  obtain ⟨x,rfl⟩:=lenr_one (show l.length=1 by omega)
  obtain ⟨b,rfl,hc⟩:=somer_cells hS (by simp)
  refine (rsTell_is 30 kids t neg hi lo sc day b c x w rfl hc (hb x (by simp)) ht).mono fun e W ⟨he,hB⟩=>⟨he.trans ?_,hB⟩
  rfl
 ·have h0:kids=1:=kids_fixr hk (by decide) (by decide)
  obtain ⟨x,rfl⟩:=lenr_one (show l.length=1 by omega)
  obtain ⟨b,rfl,hc⟩:=somer_cells hS (by simp)
  refine (rsTell_cmp 31 kids t neg hi lo sc day b c x w (by omega) hc (hb x (by simp)) ht).mono fun e W ⟨he,hB⟩=>⟨he.trans ?_,hB⟩
  rfl
 ·have h0:kids=1:=kids_fixr hk (by decide) (by decide)
  obtain ⟨x,rfl⟩:=lenr_one (show l.length=1 by omega)
  obtain ⟨b,rfl,hc⟩:=somer_cells hS (by simp)
  refine (rsTell_cmp 32 kids t neg hi lo sc day b c x w (by omega) hc (hb x (by simp)) ht).mono fun e W ⟨he,hB⟩=>⟨he.trans ?_,hB⟩
  rfl
 ·have h0:kids=1:=kids_fixr hk (by decide) (by decide)
  obtain ⟨x,rfl⟩:=lenr_one (show l.length=1 by omega)
  obtain ⟨b,rfl,hc⟩:=somer_cells hS (by simp)
  refine (rsTell_cmp 33 kids t neg hi lo sc day b c x w (by omega) hc (hb x (by simp)) ht).mono fun e W ⟨he,hB⟩=>⟨he.trans ?_,hB⟩
  rfl
 ·have h0:kids=1:=kids_fixr hk (by decide) (by decide)
  obtain ⟨x,rfl⟩:=lenr_one (show l.length=1 by omega)
  obtain ⟨b,rfl,hc⟩:=somer_cells hS (by simp)
  refine (rsTell_cmp 34 kids t neg hi lo sc day b c x w (by omega) hc (hb x (by simp)) ht).mono fun e W ⟨he,hB⟩=>⟨he.trans ?_,hB⟩
  rfl
 ·have h0:kids=2:=kids_fixr hk (by decide) (by decide)
  obtain ⟨x,y,rfl⟩:=lenr_two (show l.length=2 by omega)
  obtain ⟨b,rfl,hc⟩:=somer_cells hS (by simp)
  have ht2:t.length=2:=spanr_two hok
  refine (rsTell_span 35 kids t neg hi lo sc day b c x y w rfl ht2 hc (hb x (by simp)) (hb y (by simp)) ht).mono fun e W ⟨he,hB⟩=>⟨he.trans ?_,hB⟩
  rfl
 ·refine (rsTell_some 36 kids t neg hi lo sc day p c l w rfl hS hb h300 ht).mono fun e W ⟨he,hB⟩=>⟨he.trans ?_,hB⟩
  rfl
 ·have h0:kids=1:=kids_fixr hk (by decide) (by decide)
  obtain ⟨x,rfl⟩:=lenr_one (show l.length=1 by omega)
  obtain ⟨b,rfl,hc⟩:=somer_cells hS (by simp)
  refine (rsTell_not 37 kids t neg hi lo sc day b c x w rfl hc (hb x (by simp)) ht).mono fun e W ⟨he,hB⟩=>⟨he.trans ?_,hB⟩
  rfl
end Go.Proofs.YtnghlakllgkjlaaGreatDoor
