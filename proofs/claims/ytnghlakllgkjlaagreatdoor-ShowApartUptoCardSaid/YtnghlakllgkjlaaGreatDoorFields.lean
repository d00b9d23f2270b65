/- The reference's fields. -/
import Derived.Test.YtnghlakllgkjlaaGreatDoorPlainA
import Derived.RegionTactic
import Derived.ChangeAlike
namespace Go.Proofs.YtnghlakllgkjlaaGreatDoor
open Go.RowKit
set_option linter.unusedVariables false
set_option linter.unusedSimpArgs false
set_option maxRecDepth 100000
theorem is3_any (n:Int) (w:World) :
  Calls Tryz.prog 94 #[.int .i64 n] w fun e w'=>e = .returned (.bool (decide (1≤n) && decide (n≤3652059)))∧w=w':=by
 by_cases h1:1≤n
 ·by_cases h2:n≤3652059
  ·have e:(decide (1≤n) && decide (n≤3652059))=true:=by simp [h1,h2]
   rw [e]
   go_enter Tryz.func94,Tryz.ntmps94
   go_wp2
   go_ret
   exact ⟨rfl,rfl⟩
  ·have e:(decide (1≤n) && decide (n≤3652059))=false:=by simp [h2]
   rw [e]
   have h3:decide (n≤3652059)=false:=decide_eq_false h2
   clear e h2
   go_enter Tryz.func94,Tryz.ntmps94
   go_wp2
   go_ret
   exact ⟨rfl,rfl⟩
 ·have e:(decide (1≤n) && decide (n≤3652059))=false:=by simp [h1]
  rw [e]
  have h3:n < 1:=by omega
  clear e h1
  go_enter Tryz.func94,Tryz.ntmps94
  go_wp2
  go_ret
  exact ⟨rfl,rfl⟩
def FieldsPost (op:Int) (text:ByteArray) (neg:Bool) (hi lo:Nat) (sc day:Int) (N:Nat) (w:World) (e:Ending) (w' : World):Prop:=
 e = .returned (.bool (okB op text neg N sc day && (decide (op=4) || (!neg && decide (hi=0∧lo=0∧sc=0))) && (usesText op || decide (text.toList=[])) && (decide (op=6) || decide (day=0))))∧Below w.heap.size w w'
theorem fields_close {b:Bool} {op:Int} {text:ByteArray} {neg:Bool} {hi lo:Nat} {sc day:Int} {N:Nat} {w w' : World} (hb:Below w.heap.size w w')
  (h:(okB op text neg N sc day && (decide (op=4) || (!neg && decide (hi=0∧lo=0∧sc=0))) && (usesText op || decide (text.toList=[])) && (decide (op=6) || decide (day=0)))=b):FieldsPost op text neg hi lo sc day N w (.returned (.bool b)) w':=⟨by rw [h],hb⟩
set_option maxHeartbeats 4000000 in
theorem fields_num (kids:Int) (text:ByteArray) (neg:Bool) (hi lo:Nat) (sc day:Int) (N:Nat) (w:World) (h:W2 N hi lo) :
  Calls Tryz.prog 68 #[nodeV 4 kids text neg hi lo sc day] w (FieldsPost 4 text neg hi lo sc day N w):=by
 have HM:=Lib.hid (Mem.start w)
 obtain ⟨d,hd⟩:∃ d,dcmB neg N sc=d:=⟨_,rfl⟩
 have HF:=Lib.hid (fun W=>hd▸rForm_any neg N hi lo sc W h)
 have HD:=Lib.hid hd
 clear h hd
 unfold nodeV
 go_enter Tryz.func68,Tryz.ntmps68
 go_wp2_with (first|refine mP ?_|(refine mS ?_;clear HM;intro W1 HM)|(refine hbxA (dst:=some 1) HM rfl rfl ?_;clear HM;intro g1 W1 HM)|(refine hal HM rfl ?_;clear HM;intro g1 W1 HM))
 have k2:=(box_cells (HM.out.get (k:=0) rfl) 0) 2 _ rfl
 have k3:=(box_cells (HM.out.get (k:=0) rfl) 0) 3 _ rfl
 have k4:=(box_cells (HM.out.get (k:=0) rfl) 0) 4 _ rfl
 have k5:=(box_cells (HM.out.get (k:=0) rfl) 0) 5 _ rfl
 have k6:=(box_cells (HM.out.get (k:=0) rfl) 0) 6 _ rfl
 have k7:=(box_cells (HM.out.get (k:=0) rfl) 0) 7 _ rfl
 have kg:=(HM.out.get (k:=0) rfl).lt rfl
 have kg1:g1 < W1.heap.size:=kg.2
 simp only [add_none,Nat.zero_add] at k2 k3 k4 k5 k6 k7
 go_region
 have HM2:Hid (Mem w ((W1.alloc (.cells #[.bool neg,.int .u64 hi,.int .u64 lo,.int .i64 sc] 26)).drew) [.box W1.heap.size 26 [.bool neg,.int .u64 hi,.int .u64 lo,.int .i64 sc],.box g1 46 [.int .i64 4,.int .i64 kids,.string text,.bool neg,.int .u64 hi,.int .u64 lo,.int .i64 sc,.int .i64 day]]):=Lib.hid ((new_box HM.out _).next (RowKit.Below.refl _ _).drew)
 clear HM k2 k3 k4 k5 k6 k7 kg kg1
 generalize (W1.alloc (.cells #[.bool neg,.int .u64 hi,.int .u64 lo,.int .i64 sc] 26)).drew=W2 at HM2 ⊢
 generalize W1.heap.size=g4 at HM2 ⊢
 have HM:=HM2
 clear HM2
 go_wp2_with (first|refine mP ?_|(refine mS ?_;clear HM;intro W1 HM)|(refine hal HM rfl ?_;clear HM;intro g1 W1 HM)|(refine hbxA HM rfl rfl ?_;clear HM;intro g1 W1 HM)|(go_at_call 92;(with_reducible refine cB HM (HF.out _) ?_);clear HM;intro W1 HM))
 all_goals go_ret
 all_goals refine fields_close HM.out.below ?_
 all_goals clear HM
 all_goals (try (have hn:neg=false:=(by assumption);subst hn))
 all_goals first|(have hx:(!d)=true:=(by assumption);have hy:d=false:=(by simpa using hx);have hz:=HD.out;rw [hy] at hz;simp [okB,usesText,namedOp,hz];done)|(have hx:d=false:=(by assumption);have hz:=HD.out;rw [hx] at hz;simp [okB,usesText,namedOp,hz];done)|(have hx:¬ d=true:=(by assumption);have hy:d=false:=(by simpa using hx);have hz:=HD.out;rw [hy] at hz;simp [okB,usesText,namedOp,hz];done)|(have hz:d=true:=(by first|assumption|(have hx:(!d)=false:=(by assumption);simpa using hx)|(have hx:¬ (!d)=true:=(by assumption);simpa using hx));have hw:=HD.out;rw [hz] at hw;rw [Bool.eq_iff_iff];simp [okB,usesText,namedOp,hw, *];done)
set_option maxHeartbeats 4000000 in
theorem fields_text (kids:Int) (text:ByteArray) (neg:Bool) (hi lo:Nat) (sc day:Int) (N:Nat) (w:World) (h:text.size≤1099511627776) :
  Calls Tryz.prog 68 #[nodeV 5 kids text neg hi lo sc day] w (FieldsPost 5 text neg hi lo sc day N w):=by
 have HM:=Lib.hid (Mem.start w)
 obtain ⟨d,hd⟩:∃ d,textB text=d:=⟨_,rfl⟩
 have HF:=Lib.hid (fun W=>hd▸rValid_any text W h)
 have HD:=Lib.hid hd
 clear hd
 unfold nodeV
 go_enter Tryz.func68,Tryz.ntmps68
 go_wp2_with (first|refine mP ?_|(refine mS ?_;clear HM;intro W1 HM)|(refine hbxA (dst:=some 1) HM rfl rfl ?_;clear HM;intro g1 W1 HM)|(refine hal HM rfl ?_;clear HM;intro g1 W1 HM))
 have k2:=(box_cells (HM.out.get (k:=0) rfl) 0) 2 _ rfl
 have k3:=(box_cells (HM.out.get (k:=0) rfl) 0) 3 _ rfl
 have k4:=(box_cells (HM.out.get (k:=0) rfl) 0) 4 _ rfl
 have k5:=(box_cells (HM.out.get (k:=0) rfl) 0) 5 _ rfl
 have k6:=(box_cells (HM.out.get (k:=0) rfl) 0) 6 _ rfl
 have k7:=(box_cells (HM.out.get (k:=0) rfl) 0) 7 _ rfl
 have kg:=(HM.out.get (k:=0) rfl).lt rfl
 have kg1:g1 < W1.heap.size:=kg.2
 simp only [add_none,Nat.zero_add] at k2 k3 k4 k5 k6 k7
 go_region
 have HM2:Hid (Mem w ((W1.alloc (.cells #[.bool neg,.int .u64 hi,.int .u64 lo,.int .i64 sc] 26)).drew) [.box W1.heap.size 26 [.bool neg,.int .u64 hi,.int .u64 lo,.int .i64 sc],.box g1 46 [.int .i64 5,.int .i64 kids,.string text,.bool neg,.int .u64 hi,.int .u64 lo,.int .i64 sc,.int .i64 day]]):=Lib.hid ((new_box HM.out _).next (RowKit.Below.refl _ _).drew)
 clear HM k2 k3 k4 k5 k6 k7 kg kg1
 generalize (W1.alloc (.cells #[.bool neg,.int .u64 hi,.int .u64 lo,.int .i64 sc] 26)).drew=W2 at HM2 ⊢
 generalize W1.heap.size=g4 at HM2 ⊢
 have HM:=HM2
 clear HM2
 go_wp2_with (first|refine mP ?_|(refine mS ?_;clear HM;intro W1 HM)|(refine hal HM rfl ?_;clear HM;intro g1 W1 HM)|(refine hbxA HM rfl rfl ?_;clear HM;intro g1 W1 HM)|(go_at_call 93;(with_reducible refine cB HM (HF.out _) ?_);clear HM;intro W1 HM))
 all_goals go_ret
 all_goals refine fields_close HM.out.below ?_
 all_goals clear HM
 all_goals (try (have hn:neg=false:=(by assumption);subst hn))
 all_goals first|(have hx:(!d)=true:=(by assumption);have hy:d=false:=(by simpa using hx);have hz:=HD.out;rw [hy] at hz;simp [okB,usesText,namedOp,hz];done)|(have hx:d=false:=(by assumption);have hz:=HD.out;rw [hx] at hz;simp [okB,usesText,namedOp,hz];done)|(have hx:¬ d=true:=(by assumption);have hy:d=false:=(by simpa using hx);have hz:=HD.out;rw [hy] at hz;simp [okB,usesText,namedOp,hz];done)|(have hz:d=true:=(by first|assumption|(have hx:(!d)=false:=(by assumption);simpa using hx)|(have hx:¬ (!d)=true:=(by assumption);simpa using hx));have hw:=HD.out;rw [hz] at hw;have hs:text.size≤1000∨¬ text.size≤1000:=(by omega);rcases hs with hs|hs <;> (first|(exfalso;omega)|(rw [Bool.eq_iff_iff];simp [okB,usesText,namedOp,hw, *];done)))
set_option maxHeartbeats 4000000 in
theorem fields_date (kids:Int) (text:ByteArray) (neg:Bool) (hi lo:Nat) (sc day:Int) (N:Nat) (w:World) :
  Calls Tryz.prog 68 #[nodeV 6 kids text neg hi lo sc day] w (FieldsPost 6 text neg hi lo sc day N w):=by
 have HM:=Lib.hid (Mem.start w)
 obtain ⟨d,hd⟩:∃ d,(decide (1≤day) && decide (day≤3652059))=d:=⟨_,rfl⟩
 have HF:=Lib.hid (fun W=>hd▸is3_any day W)
 have HD:=Lib.hid hd
 clear hd
 unfold nodeV
 go_enter Tryz.func68,Tryz.ntmps68
 go_wp2_with (first|refine mP ?_|(refine mS ?_;clear HM;intro W1 HM)|(refine hbxA (dst:=some 1) HM rfl rfl ?_;clear HM;intro g1 W1 HM)|(refine hal HM rfl ?_;clear HM;intro g1 W1 HM))
 have k2:=(box_cells (HM.out.get (k:=0) rfl) 0) 2 _ rfl
 have k3:=(box_cells (HM.out.get (k:=0) rfl) 0) 3 _ rfl
 have k4:=(box_cells (HM.out.get (k:=0) rfl) 0) 4 _ rfl
 have k5:=(box_cells (HM.out.get (k:=0) rfl) 0) 5 _ rfl
 have k6:=(box_cells (HM.out.get (k:=0) rfl) 0) 6 _ rfl
 have k7:=(box_cells (HM.out.get (k:=0) rfl) 0) 7 _ rfl
 have kg:=(HM.out.get (k:=0) rfl).lt rfl
 have kg1:g1 < W1.heap.size:=kg.2
 simp only [add_none,Nat.zero_add] at k2 k3 k4 k5 k6 k7
 go_region
 have HM2:Hid (Mem w ((W1.alloc (.cells #[.bool neg,.int .u64 hi,.int .u64 lo,.int .i64 sc] 26)).drew) [.box W1.heap.size 26 [.bool neg,.int .u64 hi,.int .u64 lo,.int .i64 sc],.box g1 46 [.int .i64 6,.int .i64 kids,.string text,.bool neg,.int .u64 hi,.int .u64 lo,.int .i64 sc,.int .i64 day]]):=Lib.hid ((new_box HM.out _).next (RowKit.Below.refl _ _).drew)
 clear HM k2 k3 k4 k5 k6 k7 kg kg1
 generalize (W1.alloc (.cells #[.bool neg,.int .u64 hi,.int .u64 lo,.int .i64 sc] 26)).drew=W2 at HM2 ⊢
 generalize W1.heap.size=g4 at HM2 ⊢
 have HM:=HM2
 clear HM2
 go_wp2_with (first|refine mP ?_|(refine mS ?_;clear HM;intro W1 HM)|(refine hal HM rfl ?_;clear HM;intro g1 W1 HM)|(refine hbxA HM rfl rfl ?_;clear HM;intro g1 W1 HM)|(go_at_call 94;(with_reducible refine (HF.out _).mono ?_);rintro e W2 ⟨rfl,rfl⟩))
 all_goals go_ret
 all_goals refine fields_close HM.out.below ?_
 all_goals clear HM
 all_goals (try (have hn:neg=false:=(by assumption);subst hn))
 all_goals first|(have hx:(!d)=true:=(by assumption);have hy:d=false:=(by simpa using hx);have hz:=HD.out;rw [hy] at hz;simp [okB,usesText,namedOp,hz];done)|(have hx:d=false:=(by assumption);have hz:=HD.out;rw [hx] at hz;simp [okB,usesText,namedOp,hz];done)|(have hx:¬ d=true:=(by assumption);have hy:d=false:=(by simpa using hx);have hz:=HD.out;rw [hy] at hz;simp [okB,usesText,namedOp,hz];done)|(have hz:d=true:=(by first|assumption|(have hx:(!d)=false:=(by assumption);simpa using hx)|(have hx:¬ (!d)=true:=(by assumption);simpa using hx));have hw:=HD.out;rw [hz] at hw;rw [Bool.eq_iff_iff];simp [okB,usesText,namedOp,hw, *];done)
set_option maxHeartbeats 4000000 in
theorem fields_name7 (kids:Int) (text:ByteArray) (neg:Bool) (hi lo:Nat) (sc day:Int) (N:Nat) (w:World) :
  Calls Tryz.prog 68 #[nodeV 7 kids text neg hi lo sc day] w (FieldsPost 7 text neg hi lo sc day N w):=by
 have HM:=Lib.hid (Mem.start w)
 obtain ⟨d,hd⟩:∃ d,nameB text=d:=⟨_,rfl⟩
 have HF:=Lib.hid (fun W=>hd▸rname_any text W)
 have HD:=Lib.hid hd
 clear hd
 unfold nodeV
 go_enter Tryz.func68,Tryz.ntmps68
 go_wp2_with (first|refine mP ?_|(refine mS ?_;clear HM;intro W1 HM)|(refine hbxA (dst:=some 1) HM rfl rfl ?_;clear HM;intro g1 W1 HM)|(refine hal HM rfl ?_;clear HM;intro g1 W1 HM))
 have k2:=(box_cells (HM.out.get (k:=0) rfl) 0) 2 _ rfl
 have k3:=(box_cells (HM.out.get (k:=0) rfl) 0) 3 _ rfl
 have k4:=(box_cells (HM.out.get (k:=0) rfl) 0) 4 _ rfl
 have k5:=(box_cells (HM.out.get (k:=0) rfl) 0) 5 _ rfl
 have k6:=(box_cells (HM.out.get (k:=0) rfl) 0) 6 _ rfl
 have k7:=(box_cells (HM.out.get (k:=0) rfl) 0) 7 _ rfl
 have kg:=(HM.out.get (k:=0) rfl).lt rfl
 have kg1:g1 < W1.heap.size:=kg.2
 simp only [add_none,Nat.zero_add] at k2 k3 k4 k5 k6 k7
 go_region
 have HM2:Hid (Mem w ((W1.alloc (.cells #[.bool neg,.int .u64 hi,.int .u64 lo,.int .i64 sc] 26)).drew) [.box W1.heap.size 26 [.bool neg,.int .u64 hi,.int .u64 lo,.int .i64 sc],.box g1 46 [.int .i64 7,.int .i64 kids,.string text,.bool neg,.int .u64 hi,.int .u64 lo,.int .i64 sc,.int .i64 day]]):=Lib.hid ((new_box HM.out _).next (RowKit.Below.refl _ _).drew)
 clear HM k2 k3 k4 k5 k6 k7 kg kg1
 generalize (W1.alloc (.cells #[.bool neg,.int .u64 hi,.int .u64 lo,.int .i64 sc] 26)).drew=W2 at HM2 ⊢
 generalize W1.heap.size=g4 at HM2 ⊢
 have HM:=HM2
 clear HM2
 go_wp2_with (first|refine mP ?_|(refine mS ?_;clear HM;intro W1 HM)|(refine hal HM rfl ?_;clear HM;intro g1 W1 HM)|(refine hbxA HM rfl rfl ?_;clear HM;intro g1 W1 HM)|(go_at_call 95;(with_reducible refine (HF.out _).mono ?_);rintro e W2 ⟨rfl,rfl⟩))
 all_goals go_ret
 all_goals refine fields_close HM.out.below ?_
 all_goals clear HM
 all_goals (try (have hn:neg=false:=(by assumption);subst hn))
 all_goals first|(have hx:(!d)=true:=(by assumption);have hy:d=false:=(by simpa using hx);have hz:=HD.out;rw [hy] at hz;simp [okB,usesText,namedOp,hz];done)|(have hx:d=false:=(by assumption);have hz:=HD.out;rw [hx] at hz;simp [okB,usesText,namedOp,hz];done)|(have hx:¬ d=true:=(by assumption);have hy:d=false:=(by simpa using hx);have hz:=HD.out;rw [hy] at hz;simp [okB,usesText,namedOp,hz];done)|(have hz:d=true:=(by first|assumption|(have hx:(!d)=false:=(by assumption);simpa using hx)|(have hx:¬ (!d)=true:=(by assumption);simpa using hx));have hw:=HD.out;rw [hz] at hw;rw [Bool.eq_iff_iff];simp [okB,usesText,namedOp,hw, *];done)
set_option maxHeartbeats 4000000 in
theorem fields_name24 (kids:Int) (text:ByteArray) (neg:Bool) (hi lo:Nat) (sc day:Int) (N:Nat) (w:World) :
  Calls Tryz.prog 68 #[nodeV 24 kids text neg hi lo sc day] w (FieldsPost 24 text neg hi lo sc day N w):=by
 have HM:=Lib.hid (Mem.start w)
 obtain ⟨d,hd⟩:∃ d,nameB text=d:=⟨_,rfl⟩
 have HF:=Lib.hid (fun W=>hd▸rname_any text W)
 have HD:=Lib.hid hd
 clear hd
 unfold nodeV
 go_enter Tryz.func68,Tryz.ntmps68
 go_wp2_with (first|refine mP ?_|(refine mS ?_;clear HM;intro W1 HM)|(refine hbxA (dst:=some 1) HM rfl rfl ?_;clear HM;intro g1 W1 HM)|(refine hal HM rfl ?_;clear HM;intro g1 W1 HM))
 have k2:=(box_cells (HM.out.get (k:=0) rfl) 0) 2 _ rfl
 have k3:=(box_cells (HM.out.get (k:=0) rfl) 0) 3 _ rfl
 have k4:=(box_cells (HM.out.get (k:=0) rfl) 0) 4 _ rfl
 have k5:=(box_cells (HM.out.get (k:=0) rfl) 0) 5 _ rfl
 have k6:=(box_cells (HM.out.get (k:=0) rfl) 0) 6 _ rfl
 have k7:=(box_cells (HM.out.get (k:=0) rfl) 0) 7 _ rfl
 have kg:=(HM.out.get (k:=0) rfl).lt rfl
 have kg1:g1 < W1.heap.size:=kg.2
 simp only [add_none,Nat.zero_add] at k2 k3 k4 k5 k6 k7
 go_region
 have HM2:Hid (Mem w ((W1.alloc (.cells #[.bool neg,.int .u64 hi,.int .u64 lo,.int .i64 sc] 26)).drew) [.box W1.heap.size 26 [.bool neg,.int .u64 hi,.int .u64 lo,.int .i64 sc],.box g1 46 [.int .i64 24,.int .i64 kids,.string text,.bool neg,.int .u64 hi,.int .u64 lo,.int .i64 sc,.int .i64 day]]):=Lib.hid ((new_box HM.out _).next (RowKit.Below.refl _ _).drew)
 clear HM k2 k3 k4 k5 k6 k7 kg kg1
 generalize (W1.alloc (.cells #[.bool neg,.int .u64 hi,.int .u64 lo,.int .i64 sc] 26)).drew=W2 at HM2 ⊢
 generalize W1.heap.size=g4 at HM2 ⊢
 have HM:=HM2
 clear HM2
 go_wp2_with (first|refine mP ?_|(refine mS ?_;clear HM;intro W1 HM)|(refine hal HM rfl ?_;clear HM;intro g1 W1 HM)|(refine hbxA HM rfl rfl ?_;clear HM;intro g1 W1 HM)|(go_at_call 95;(with_reducible refine (HF.out _).mono ?_);rintro e W2 ⟨rfl,rfl⟩))
 all_goals go_ret
 all_goals refine fields_close HM.out.below ?_
 all_goals clear HM
 all_goals (try (have hn:neg=false:=(by assumption);subst hn))
 all_goals first|(have hx:(!d)=true:=(by assumption);have hy:d=false:=(by simpa using hx);have hz:=HD.out;rw [hy] at hz;simp [okB,usesText,namedOp,hz];done)|(have hx:d=false:=(by assumption);have hz:=HD.out;rw [hx] at hz;simp [okB,usesText,namedOp,hz];done)|(have hx:¬ d=true:=(by assumption);have hy:d=false:=(by simpa using hx);have hz:=HD.out;rw [hy] at hz;simp [okB,usesText,namedOp,hz];done)|(have hz:d=true:=(by first|assumption|(have hx:(!d)=false:=(by assumption);simpa using hx)|(have hx:¬ (!d)=true:=(by assumption);simpa using hx));have hw:=HD.out;rw [hz] at hw;rw [Bool.eq_iff_iff];simp [okB,usesText,namedOp,hw, *];done)
set_option maxHeartbeats 4000000 in
theorem fields_name25 (kids:Int) (text:ByteArray) (neg:Bool) (hi lo:Nat) (sc day:Int) (N:Nat) (w:World) :
  Calls Tryz.prog 68 #[nodeV 25 kids text neg hi lo sc day] w (FieldsPost 25 text neg hi lo sc day N w):=by
 have HM:=Lib.hid (Mem.start w)
 obtain ⟨d,hd⟩:∃ d,nameB text=d:=⟨_,rfl⟩
 have HF:=Lib.hid (fun W=>hd▸rname_any text W)
 have HD:=Lib.hid hd
 clear hd
 unfold nodeV
 go_enter Tryz.func68,Tryz.ntmps68
 go_wp2_with (first|refine mP ?_|(refine mS ?_;clear HM;intro W1 HM)|(refine hbxA (dst:=some 1) HM rfl rfl ?_;clear HM;intro g1 W1 HM)|(refine hal HM rfl ?_;clear HM;intro g1 W1 HM))
 have k2:=(box_cells (HM.out.get (k:=0) rfl) 0) 2 _ rfl
 have k3:=(box_cells (HM.out.get (k:=0) rfl) 0) 3 _ rfl
 have k4:=(box_cells (HM.out.get (k:=0) rfl) 0) 4 _ rfl
 have k5:=(box_cells (HM.out.get (k:=0) rfl) 0) 5 _ rfl
 have k6:=(box_cells (HM.out.get (k:=0) rfl) 0) 6 _ rfl
 have k7:=(box_cells (HM.out.get (k:=0) rfl) 0) 7 _ rfl
 have kg:=(HM.out.get (k:=0) rfl).lt rfl
 have kg1:g1 < W1.heap.size:=kg.2
 simp only [add_none,Nat.zero_add] at k2 k3 k4 k5 k6 k7
 go_region
 have HM2:Hid (Mem w ((W1.alloc (.cells #[.bool neg,.int .u64 hi,.int .u64 lo,.int .i64 sc] 26)).drew) [.box W1.heap.size 26 [.bool neg,.int .u64 hi,.int .u64 lo,.int .i64 sc],.box g1 46 [.int .i64 25,.int .i64 kids,.string text,.bool neg,.int .u64 hi,.int .u64 lo,.int .i64 sc,.int .i64 day]]):=Lib.hid ((new_box HM.out _).next (RowKit.Below.refl _ _).drew)
 clear HM k2 k3 k4 k5 k6 k7 kg kg1
 generalize (W1.alloc (.cells #[.bool neg,.int .u64 hi,.int .u64 lo,.int .i64 sc] 26)).drew=W2 at HM2 ⊢
 generalize W1.heap.size=g4 at HM2 ⊢
 have HM:=HM2
 clear HM2
 go_wp2_with (first|refine mP ?_|(refine mS ?_;clear HM;intro W1 HM)|(refine hal HM rfl ?_;clear HM;intro g1 W1 HM)|(refine hbxA HM rfl rfl ?_;clear HM;intro g1 W1 HM)|(go_at_call 95;(with_reducible refine (HF.out _).mono ?_);rintro e W2 ⟨rfl,rfl⟩))
 all_goals go_ret
 all_goals refine fields_close HM.out.below ?_
 all_goals clear HM
 all_goals (try (have hn:neg=false:=(by assumption);subst hn))
 all_goals first|(have hx:(!d)=true:=(by assumption);have hy:d=false:=(by simpa using hx);have hz:=HD.out;rw [hy] at hz;simp [okB,usesText,namedOp,hz];done)|(have hx:d=false:=(by assumption);have hz:=HD.out;rw [hx] at hz;simp [okB,usesText,namedOp,hz];done)|(have hx:¬ d=true:=(by assumption);have hy:d=false:=(by simpa using hx);have hz:=HD.out;rw [hy] at hz;simp [okB,usesText,namedOp,hz];done)|(have hz:d=true:=(by first|assumption|(have hx:(!d)=false:=(by assumption);simpa using hx)|(have hx:¬ (!d)=true:=(by assumption);simpa using hx));have hw:=HD.out;rw [hz] at hw;rw [Bool.eq_iff_iff];simp [okB,usesText,namedOp,hw, *];done)
set_option maxHeartbeats 4000000 in
theorem fields_name28 (kids:Int) (text:ByteArray) (neg:Bool) (hi lo:Nat) (sc day:Int) (N:Nat) (w:World) :
  Calls Tryz.prog 68 #[nodeV 28 kids text neg hi lo sc day] w (FieldsPost 28 text neg hi lo sc day N w):=by
 have HM:=Lib.hid (Mem.start w)
 obtain ⟨d,hd⟩:∃ d,nameB text=d:=⟨_,rfl⟩
 have HF:=Lib.hid (fun W=>hd▸rname_any text W)
 have HD:=Lib.hid hd
 clear hd
 unfold nodeV
 go_enter Tryz.func68,Tryz.ntmps68
 go_wp2_with (first|refine mP ?_|(refine mS ?_;clear HM;intro W1 HM)|(refine hbxA (dst:=some 1) HM rfl rfl ?_;clear HM;intro g1 W1 HM)|(refine hal HM rfl ?_;clear HM;intro g1 W1 HM))
 have k2:=(box_cells (HM.out.get (k:=0) rfl) 0) 2 _ rfl
 have k3:=(box_cells (HM.out.get (k:=0) rfl) 0) 3 _ rfl
 have k4:=(box_cells (HM.out.get (k:=0) rfl) 0) 4 _ rfl
 have k5:=(box_cells (HM.out.get (k:=0) rfl) 0) 5 _ rfl
 have k6:=(box_cells (HM.out.get (k:=0) rfl) 0) 6 _ rfl
 have k7:=(box_cells (HM.out.get (k:=0) rfl) 0) 7 _ rfl
 have kg:=(HM.out.get (k:=0) rfl).lt rfl
 have kg1:g1 < W1.heap.size:=kg.2
 simp only [add_none,Nat.zero_add] at k2 k3 k4 k5 k6 k7
 go_region
 have HM2:Hid (Mem w ((W1.alloc (.cells #[.bool neg,.int .u64 hi,.int .u64 lo,.int .i64 sc] 26)).drew) [.box W1.heap.size 26 [.bool neg,.int .u64 hi,.int .u64 lo,.int .i64 sc],.box g1 46 [.int .i64 28,.int .i64 kids,.string text,.bool neg,.int .u64 hi,.int .u64 lo,.int .i64 sc,.int .i64 day]]):=Lib.hid ((new_box HM.out _).next (RowKit.Below.refl _ _).drew)
 clear HM k2 k3 k4 k5 k6 k7 kg kg1
 generalize (W1.alloc (.cells #[.bool neg,.int .u64 hi,.int .u64 lo,.int .i64 sc] 26)).drew=W2 at HM2 ⊢
 generalize W1.heap.size=g4 at HM2 ⊢
 have HM:=HM2
 clear HM2
 go_wp2_with (first|refine mP ?_|(refine mS ?_;clear HM;intro W1 HM)|(refine hal HM rfl ?_;clear HM;intro g1 W1 HM)|(refine hbxA HM rfl rfl ?_;clear HM;intro g1 W1 HM)|(go_at_call 95;(with_reducible refine (HF.out _).mono ?_);rintro e W2 ⟨rfl,rfl⟩))
 all_goals go_ret
 all_goals refine fields_close HM.out.below ?_
 all_goals clear HM
 all_goals (try (have hn:neg=false:=(by assumption);subst hn))
 all_goals first|(have hx:(!d)=true:=(by assumption);have hy:d=false:=(by simpa using hx);have hz:=HD.out;rw [hy] at hz;simp [okB,usesText,namedOp,hz];done)|(have hx:d=false:=(by assumption);have hz:=HD.out;rw [hx] at hz;simp [okB,usesText,namedOp,hz];done)|(have hx:¬ d=true:=(by assumption);have hy:d=false:=(by simpa using hx);have hz:=HD.out;rw [hy] at hz;simp [okB,usesText,namedOp,hz];done)|(have hz:d=true:=(by first|assumption|(have hx:(!d)=false:=(by assumption);simpa using hx)|(have hx:¬ (!d)=true:=(by assumption);simpa using hx));have hw:=HD.out;rw [hz] at hw;rw [Bool.eq_iff_iff];simp [okB,usesText,namedOp,hw, *];done)
set_option maxHeartbeats 4000000 in
theorem fields_spant (kids:Int) (text:ByteArray) (neg:Bool) (hi lo:Nat) (sc day:Int) (N:Nat) (w:World) (h4:(text.toList == [40,41])=true) :
  Calls Tryz.prog 68 #[nodeV 35 kids text neg hi lo sc day] w (FieldsPost 35 text neg hi lo sc day N w):=by
 have HM:=Lib.hid (Mem.start w)
 unfold nodeV
 go_enter Tryz.func68,Tryz.ntmps68
 go_wp2_with (first|refine mP ?_|(refine mS ?_;clear HM;intro W1 HM)|(refine hbxA (dst:=some 1) HM rfl rfl ?_;clear HM;intro g1 W1 HM)|(refine hal HM rfl ?_;clear HM;intro g1 W1 HM))
 have k2:=(box_cells (HM.out.get (k:=0) rfl) 0) 2 _ rfl
 have k3:=(box_cells (HM.out.get (k:=0) rfl) 0) 3 _ rfl
 have k4:=(box_cells (HM.out.get (k:=0) rfl) 0) 4 _ rfl
 have k5:=(box_cells (HM.out.get (k:=0) rfl) 0) 5 _ rfl
 have k6:=(box_cells (HM.out.get (k:=0) rfl) 0) 6 _ rfl
 have k7:=(box_cells (HM.out.get (k:=0) rfl) 0) 7 _ rfl
 have kg:=(HM.out.get (k:=0) rfl).lt rfl
 have kg1:g1 < W1.heap.size:=kg.2
 simp only [add_none,Nat.zero_add] at k2 k3 k4 k5 k6 k7
 go_region
 have HM2:Hid (Mem w ((W1.alloc (.cells #[.bool neg,.int .u64 hi,.int .u64 lo,.int .i64 sc] 26)).drew) [.box W1.heap.size 26 [.bool neg,.int .u64 hi,.int .u64 lo,.int .i64 sc],.box g1 46 [.int .i64 35,.int .i64 kids,.string text,.bool neg,.int .u64 hi,.int .u64 lo,.int .i64 sc,.int .i64 day]]):=Lib.hid ((new_box HM.out _).next (RowKit.Below.refl _ _).drew)
 clear HM k2 k3 k4 k5 k6 k7 kg kg1
 generalize (W1.alloc (.cells #[.bool neg,.int .u64 hi,.int .u64 lo,.int .i64 sc] 26)).drew=W2 at HM2 ⊢
 generalize W1.heap.size=g4 at HM2 ⊢
 have HM:=HM2
 clear HM2
 go_wp2_with (first|refine mP ?_|(refine mS ?_;clear HM;intro W1 HM)|(refine hal HM rfl ?_;clear HM;intro g1 W1 HM)|(refine hbxA HM rfl rfl ?_;clear HM;intro g1 W1 HM))
 all_goals go_ret
 all_goals refine fields_close HM.out.below ?_
 all_goals clear HM
 all_goals first|(exfalso;have h1:¬ text.toList=[91,93]:=(by assumption);have h2:¬ text.toList=[91,41]:=(by assumption);have h3:¬ text.toList=[40,93]:=(by assumption);have hd:((!text.toList == [91,93])=false∨(!text.toList == [91,41])=false)∨(!text.toList == [40,93])=false:=(by assumption);simp [h1,h2,h3] at hd;done)|(rw [Bool.eq_iff_iff];simp [okB,usesText,namedOp,spanB,show text.toList=[40,41] from beq_iff_eq.1 h4, *];done)
set_option maxHeartbeats 4000000 in
theorem fields_spanf (kids:Int) (text:ByteArray) (neg:Bool) (hi lo:Nat) (sc day:Int) (N:Nat) (w:World) (h4:(text.toList == [40,41])=false) :
  Calls Tryz.prog 68 #[nodeV 35 kids text neg hi lo sc day] w (FieldsPost 35 text neg hi lo sc day N w):=by
 have HM:=Lib.hid (Mem.start w)
 unfold nodeV
 go_enter Tryz.func68,Tryz.ntmps68
 go_wp2_with (first|refine mP ?_|(refine mS ?_;clear HM;intro W1 HM)|(refine hbxA (dst:=some 1) HM rfl rfl ?_;clear HM;intro g1 W1 HM)|(refine hal HM rfl ?_;clear HM;intro g1 W1 HM))
 have k2:=(box_cells (HM.out.get (k:=0) rfl) 0) 2 _ rfl
 have k3:=(box_cells (HM.out.get (k:=0) rfl) 0) 3 _ rfl
 have k4:=(box_cells (HM.out.get (k:=0) rfl) 0) 4 _ rfl
 have k5:=(box_cells (HM.out.get (k:=0) rfl) 0) 5 _ rfl
 have k6:=(box_cells (HM.out.get (k:=0) rfl) 0) 6 _ rfl
 have k7:=(box_cells (HM.out.get (k:=0) rfl) 0) 7 _ rfl
 have kg:=(HM.out.get (k:=0) rfl).lt rfl
 have kg1:g1 < W1.heap.size:=kg.2
 simp only [add_none,Nat.zero_add] at k2 k3 k4 k5 k6 k7
 go_region
 have HM2:Hid (Mem w ((W1.alloc (.cells #[.bool neg,.int .u64 hi,.int .u64 lo,.int .i64 sc] 26)).drew) [.box W1.heap.size 26 [.bool neg,.int .u64 hi,.int .u64 lo,.int .i64 sc],.box g1 46 [.int .i64 35,.int .i64 kids,.string text,.bool neg,.int .u64 hi,.int .u64 lo,.int .i64 sc,.int .i64 day]]):=Lib.hid ((new_box HM.out _).next (RowKit.Below.refl _ _).drew)
 clear HM k2 k3 k4 k5 k6 k7 kg kg1
 generalize (W1.alloc (.cells #[.bool neg,.int .u64 hi,.int .u64 lo,.int .i64 sc] 26)).drew=W2 at HM2 ⊢
 generalize W1.heap.size=g4 at HM2 ⊢
 have HM:=HM2
 clear HM2
 go_wp2_with (first|refine mP ?_|(refine mS ?_;clear HM;intro W1 HM)|(refine hal HM rfl ?_;clear HM;intro g1 W1 HM)|(refine hbxA HM rfl rfl ?_;clear HM;intro g1 W1 HM))
 all_goals go_ret
 all_goals refine fields_close HM.out.below ?_
 all_goals clear HM
 all_goals first|(exfalso;have h1:¬ text.toList=[91,93]:=(by assumption);have h2:¬ text.toList=[91,41]:=(by assumption);have h3:¬ text.toList=[40,93]:=(by assumption);have hd:((!text.toList == [91,93])=false∨(!text.toList == [91,41])=false)∨(!text.toList == [40,93])=false:=(by assumption);simp [h1,h2,h3] at hd;done)|(rw [Bool.eq_iff_iff];simp [okB,usesText,namedOp,spanB,show ¬ text.toList=[40,41] from ne_of_beq_false h4, *];done)
set_option maxHeartbeats 4000000 in
theorem fields_rest (op:Int) (h4:op≠4) (h5:op≠5) (h6:op≠6) (h35:op≠35) (hn:namedOp op=false) (kids:Int) (text:ByteArray) (neg:Bool) (hi lo:Nat) (sc day:Int) (N:Nat) (w:World) :
  Calls Tryz.prog 68 #[nodeV op kids text neg hi lo sc day] w (FieldsPost op text neg hi lo sc day N w):=by
 have HM:=Lib.hid (Mem.start w)
 have HC:=Lib.hid (show okB op text neg N sc day=true∧usesText op=false∧decide (op=4)=false∧decide (op=6)=false by simp [okB,usesText,h4,h5,h6,h35,hn])
 have hn' : ¬ (op=7∨op=24∨op=25∨op=28):=of_decide_eq_false hn
 have b4:(op == 4)=false:=beq_false_of_ne h4
 have b5:(op == 5)=false:=beq_false_of_ne h5
 have b6:(op == 6)=false:=beq_false_of_ne h6
 have b35:(op == 35)=false:=beq_false_of_ne h35
 have b7:(op == 7)=false:=beq_false_of_ne (by omega)
 have b24:(op == 24)=false:=beq_false_of_ne (by omega)
 have b25:(op == 25)=false:=beq_false_of_ne (by omega)
 have b28:(op == 28)=false:=beq_false_of_ne (by omega)
 clear h4 h5 h6 h35 hn hn'
 unfold nodeV
 go_enter Tryz.func68,Tryz.ntmps68
 go_wp2_with (first|refine mP ?_|(refine mS ?_;clear HM;intro W1 HM)|(refine hbxA (dst:=some 1) HM rfl rfl ?_;clear HM;intro g1 W1 HM)|(refine hal HM rfl ?_;clear HM;intro g1 W1 HM))
 have k2:=(box_cells (HM.out.get (k:=0) rfl) 0) 2 _ rfl
 have k3:=(box_cells (HM.out.get (k:=0) rfl) 0) 3 _ rfl
 have k4:=(box_cells (HM.out.get (k:=0) rfl) 0) 4 _ rfl
 have k5:=(box_cells (HM.out.get (k:=0) rfl) 0) 5 _ rfl
 have k6:=(box_cells (HM.out.get (k:=0) rfl) 0) 6 _ rfl
 have k7:=(box_cells (HM.out.get (k:=0) rfl) 0) 7 _ rfl
 have kg:=(HM.out.get (k:=0) rfl).lt rfl
 have kg1:g1 < W1.heap.size:=kg.2
 simp only [add_none,Nat.zero_add] at k2 k3 k4 k5 k6 k7
 go_region
 have HM2:Hid (Mem w ((W1.alloc (.cells #[.bool neg,.int .u64 hi,.int .u64 lo,.int .i64 sc] 26)).drew) [.box W1.heap.size 26 [.bool neg,.int .u64 hi,.int .u64 lo,.int .i64 sc],.box g1 46 [.int .i64 op,.int .i64 kids,.string text,.bool neg,.int .u64 hi,.int .u64 lo,.int .i64 sc,.int .i64 day]]):=Lib.hid ((new_box HM.out _).next (RowKit.Below.refl _ _).drew)
 clear HM k2 k3 k4 k5 k6 k7 kg kg1
 generalize (W1.alloc (.cells #[.bool neg,.int .u64 hi,.int .u64 lo,.int .i64 sc] 26)).drew=W2 at HM2 ⊢
 generalize W1.heap.size=g4 at HM2 ⊢
 have HM:=HM2
 clear HM2
 go_wp2_with (first|refine mP ?_|(refine mS ?_;clear HM;intro W1 HM)|(refine hal HM rfl ?_;clear HM;intro g1 W1 HM)|(refine hbxA HM rfl rfl ?_;clear HM;intro g1 W1 HM))
 all_goals go_ret
 all_goals refine fields_close HM.out.below ?_
 all_goals clear HM
 all_goals (obtain ⟨c1,c2,c3,c4⟩:=HC.out;rw [c1,c2,c3,c4];rw [Bool.eq_iff_iff];simp [*])
theorem fields_any (n:NodeD) (w:World) (h:n.wf) :
  Calls Tryz.prog 68 #[n.val] w fun e w'=>e = .returned (.bool (fieldsB n))∧Below w.heap.size w w':=by
 have key:Calls Tryz.prog 68 #[nodeV n.op n.kids n.text n.neg n.hi n.lo n.sc n.day] w (FieldsPost n.op n.text n.neg n.hi n.lo n.sc n.day n.num w):=by
  have hw:=NodeD.w2 h
  have ht:=h.text
  clear h
  generalize n.num=N at hw ⊢
  obtain ⟨op,kids,text,neg,hi,lo,sc,day⟩:=n
  dsimp only at hw ht ⊢
  by_cases h4:op=4
  ·subst h4;exact fields_num kids text neg hi lo sc day N w hw
  by_cases h5:op=5
  ·subst h5;exact fields_text kids text neg hi lo sc day N w ht
  by_cases h6:op=6
  ·subst h6;exact fields_date kids text neg hi lo sc day N w
  by_cases h35:op=35
  ·subst h35
   cases he:(text.toList == [40,41])
   ·exact fields_spanf kids text neg hi lo sc day N w he
   ·exact fields_spant kids text neg hi lo sc day N w he
  cases hn:namedOp op
  ·exact fields_rest op h4 h5 h6 h35 hn kids text neg hi lo sc day N w
  ·rcases (of_decide_eq_true hn:op=7∨op=24∨op=25∨op=28) with rfl|rfl|rfl|rfl
   ·exact fields_name7 kids text neg hi lo sc day N w
   ·exact fields_name24 kids text neg hi lo sc day N w
   ·exact fields_name25 kids text neg hi lo sc day N w
   ·exact fields_name28 kids text neg hi lo sc day N w
 exact key
end Go.Proofs.YtnghlakllgkjlaaGreatDoor
