/- Show: the text of a node without parts; the bounds of signs. (short) -/
import Derived.Test.YtnghlakllgkjlaaGreatDoorShowA
namespace Go.Proofs.YtnghlakllgkjlaaGreatDoor
open Go.RowKit
set_option linter.unusedVariables false
set_option linter.unusedSimpArgs false
set_option maxRecDepth 100000
theorem signF_none {op:Int} (h:op < 1∨37 < op):signF op=[]:=by
 unfold signF
 repeat (rw [if_neg (by omega)])
theorem signF_bd (op:Int):(signF op).length≤9:=by
 rcases op_cases op with rfl|rfl|rfl|rfl|rfl|rfl|rfl|rfl|rfl|rfl|rfl|rfl|rfl|rfl|rfl|rfl|rfl|rfl|rfl|rfl|rfl|rfl|rfl|rfl|rfl|rfl|rfl|rfl|rfl|rfl|rfl|rfl|rfl|rfl|rfl|rfl|rfl|h
 all_goals first|decide|(rw [signF_none h];decide)
section
variable {P:Program} {ops:Array Oper} {a:Act} {rest:List Oper} {C:World→Prop} {K:Act→Prop}
variable {dst:Option Tmp} {ty0:TypeId} {pos:String} {after:Array Edge} {gd:Option (Nat × Bool)}
theorem qaix {t:TypeId} {x ix:Operand} {u k v:Value} (hx:a.eval x=u) (hi:a.eval ix=k) (hr:∀ W,(Instr.index t u k).run P W = .ok v W)
  (h:wpQuiet P ops C K (⟨dst,.move (.const v),ty0,pos,after,gd⟩ :: rest) a):wpQuiet P ops C K (⟨dst,.index t x ix,ty0,pos,after,gd⟩ :: rest) a:=by
 refine as_moveQ (o:=⟨dst,.index t x ix,ty0,pos,after,gd⟩) (fun V _=>quiet_value ?_) h
 show (do pure (.value (← Instr.index t (a.eval x) (a.eval ix))):Sem Next).run P V=_
 rw [hx,hi]
 simp only [Sem.run_bind,hr V,Result.andThen_ok]
 rfl
end
theorem dayB_size (n:Int):(dayB n).size≤10:=by
 unfold dayB
 split
 ·rename_i hb
  obtain ⟨y1,y2,m1,m2,d1,d2⟩:=spl_bd hb
  have sy:=padB_size (n:=Cal.splY n) (k:=4) (itoa_len (n:=Cal.splY n) (by omega) 4 (by simp;omega) (by omega))
  have sm:=padB_size (n:=Cal.splM n) (k:=2) (itoa_len (n:=Cal.splM n) (by omega) 2 (by simp;omega) (by omega))
  have sd:=padB_size (n:=Cal.splD n) (k:=2) (itoa_len (n:=Cal.splD n) (by omega) 2 (by simp;omega) (by omega))
  unfold dateB
  simp only [ByteArray.size_append,sy,sm,sd]
  have:dashB.size=1:=rfl
  omega
 ·show 0≤10
  omega
theorem fields_ok {n:NodeD} (h:fieldsB n=true):okB n.op n.text n.neg n.num n.sc n.day=true:=by
 unfold fieldsB at h
 simp only [Bool.and_eq_true] at h
 exact h.1.1.1
noncomputable def leafT (op:Int) (t:Tx) (d:DcD) (day:Int):Tx:=
 if op=4 then dcmT d.neg d.n d.sc else if op=5 then quotedL t else if op=6 then [64,34]++(dayB day).data.toList++[34] else if op=7 then t else if op=29 then [45] else signF op
set_option maxHeartbeats 4000000 in
theorem shLeaf_const (op kids:Int) (t:Tx) (neg:Bool) (hi lo:Nat) (sc day:Int) (w:World) (ho:op=1∨op=2∨op=3∨op=7∨op=29) :
  Calls Tryz.prog 83 #[.agg #[.int .i64 op,.int .i64 kids,.string ⟨t.toArray⟩,.bool neg,.int .u64 hi,.int .u64 lo,.int .i64 sc,.int .i64 day]] w fun e w'=>e = .returned (.string ⟨(leafT op t ⟨neg,hi,lo,sc⟩ day).toArray⟩)∧RowKit.Below w.heap.size w w':=by
 rcases ho with rfl|rfl|rfl|rfl|rfl
 all_goals
  have HM:=Lib.hid (Mem.start w)
  go_enter Tryz.func83,Tryz.ntmps83
  go_wp2_with (first|refine mP ?_|((with_reducible refine iat 1 ?_);refine mB ?_;clear HM;intro g1 W1 HM))
  go_ret
  exact ⟨rfl,HM.out.below⟩
set_option maxHeartbeats 4000000 in
theorem shLeaf_num (op kids:Int) (t:Tx) (neg:Bool) (hi lo:Nat) (sc day:Int) (w:World) (ho:op=4) (hok:(DcD.mk neg hi lo sc).ok=true) (hwf:(DcD.mk neg hi lo sc).wf) :
  Calls Tryz.prog 83 #[.agg #[.int .i64 op,.int .i64 kids,.string ⟨t.toArray⟩,.bool neg,.int .u64 hi,.int .u64 lo,.int .i64 sc,.int .i64 day]] w fun e w'=>e = .returned (.string ⟨(leafT op t ⟨neg,hi,lo,sc⟩ day).toArray⟩)∧RowKit.Below w.heap.size w w':=by
 subst ho
 have HM:=Lib.hid (Mem.start w)
 have HD:=Lib.hid (fun W=>(show Calls Tryz.prog 47 #[.agg #[.bool neg,.int .u64 hi,.int .u64 lo,.int .i64 sc]] W fun e w'=>e = .returned (.tuple #[.string ⟨(leafT 4 t ⟨neg,hi,lo,sc⟩ day).toArray⟩,.int .i64 0])∧RowKit.Below W.heap.size W w' from dPrint_any ⟨neg,hi,lo,sc⟩ W hok hwf))
 generalize leafT 4 t ⟨neg,hi,lo,sc⟩ day=T at *
 clear hok hwf
 go_enter Tryz.func83,Tryz.ntmps83
 go_wp2_with (first|refine mP ?_|((with_reducible refine iat 1 ?_);refine mB ?_;clear HM;intro g1 W1 HM)|(go_at_call 47;(with_reducible refine cB HM (HD.out _) ?_);clear HM;intro W1 HM))
 go_ret
 exact ⟨rfl,HM.out.below⟩
set_option maxHeartbeats 4000000 in
theorem shLeaf_text (op kids:Int) (t:Tx) (neg:Bool) (hi lo:Nat) (sc day:Int) (w:World) (ho:op=5) (hT:U8 w) (ht:t.length≤1000) (hv:textB ⟨t.toArray⟩=true) :
  Calls Tryz.prog 83 #[.agg #[.int .i64 op,.int .i64 kids,.string ⟨t.toArray⟩,.bool neg,.int .u64 hi,.int .u64 lo,.int .i64 sc,.int .i64 day]] w fun e w'=>e = .returned (.string ⟨(leafT op t ⟨neg,hi,lo,sc⟩ day).toArray⟩)∧RowKit.Below w.heap.size w w':=by
 subst ho
 have HM:=Lib.hid (Mem.start w)
 have HT:=Lib.hid hT
 obtain ⟨cs,hcs⟩:=Option.isSome_iff_exists.1 ((textB_chars _).symm.trans hv)
 have HD:=Lib.hid (fun W (h:U8 W)=>(show Calls Tryz.prog 48 #[.string ⟨t.toArray⟩] W fun e w'=>e = .returned (.tuple #[.string ⟨(leafT 5 t ⟨neg,hi,lo,sc⟩ day).toArray⟩,.int .i64 0])∧RowKit.Below W.heap.size W w' from by
  have h1:=quote_any ⟨t.toArray⟩ W h (by show t.length≤_;omega)
  rw [quoteV_some hcs] at h1
  exact h1))
 generalize leafT 5 t ⟨neg,hi,lo,sc⟩ day=T at *
 clear hT hv hcs
 go_enter Tryz.func83,Tryz.ntmps83
 go_wp2_with (first|refine mP ?_|((with_reducible refine iat 1 ?_);refine mB ?_;clear HM;intro g1 W1 HM)|(go_at_call 48;(with_reducible refine cB HM (HD.out _ (U8.below HT.out HM.out.below)) ?_);clear HM;intro W1 HM))
 go_ret
 exact ⟨rfl,HM.out.below⟩
abbrev PowT (w : World) : Prop := Lib.TabIs Tryz.prog w "internal/strconv.uint64pow10" .u64 Lib.pow10Tab
set_option maxHeartbeats 4000000 in
theorem shLeaf_day (op kids:Int) (t:Tx) (neg:Bool) (hi lo:Nat) (sc day:Int) (w:World) (ho:op=6) (hT:PowT w) (hv:1≤day∧day≤3652059) :
  Calls Tryz.prog 83 #[.agg #[.int .i64 op,.int .i64 kids,.string ⟨t.toArray⟩,.bool neg,.int .u64 hi,.int .u64 lo,.int .i64 sc,.int .i64 day]] w fun e w'=>e = .returned (.string ⟨(leafT op t ⟨neg,hi,lo,sc⟩ day).toArray⟩)∧RowKit.Below w.heap.size w w':=by
 subst ho
 have HM:=Lib.hid (Mem.start w)
 have HT:=Lib.hid hT
 have hs:(dayB day).data.toList.length≤10:=dayB_size day
 have HD:=Lib.hid (fun W (h:PowT W)=>(show Calls Tryz.prog 49 #[.int .i64 day] W fun e w'=>e = .returned (.tuple #[.string ⟨(dayB day).data.toList.toArray⟩,.int .i64 (Cal.splE day)])∧RowKit.Below W.heap.size W w' from print_any day W h))
 have HL:=Lib.hid (show leafT 6 t ⟨neg,hi,lo,sc⟩ day=[64,34]++(dayB day).data.toList++[34] from rfl)
 generalize leafT 6 t ⟨neg,hi,lo,sc⟩ day=T at *
 generalize (dayB day).data.toList=D at *
 generalize Cal.splE day=E at *
 clear hT hv
 go_enter Tryz.func83,Tryz.ntmps83
 go_wp2_with (first|refine mP ?_|((with_reducible refine iat 1 ?_);refine mB ?_;clear HM;intro g1 W1 HM)|(go_at_call 49;(with_reducible refine cB HM (HD.out _ (tab_below HM.out.below HT.out)) ?_);clear HM;intro W1 HM)|((with_reducible refine iat 41 ?_);(refine tcat rfl rfl (by simp;omega) ?_))|((with_reducible refine iat 42 ?_);(refine tcat rfl rfl (by simp;omega) ?_)))
 go_ret
 exact ⟨by rw [HL.out];rfl,HM.out.below⟩
end Go.Proofs.YtnghlakllgkjlaaGreatDoor
