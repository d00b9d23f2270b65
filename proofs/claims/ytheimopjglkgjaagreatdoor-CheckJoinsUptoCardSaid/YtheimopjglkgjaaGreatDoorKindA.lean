/- Package kind and its reference: Form, under, Under; number. Package kind's under and Under; the reference's Under and Join. The reference's Under and Join. The reference's Fits of samples, Under. The reference's Under. check.meet and the reference's Meet, of types in form. Package kind's Join. The reference's of, Join. The reference's Join; ordered of both; of types in form. ordered of both, of types in form. -/
import Derived.Test.YtheimopjglkgjaaGreatDoorShelf
import Derived.Test.YtheimopjglkgjaaGreatDoorSepA
import Derived.Lib.QuietBelow
import Derived.Deep.DeepCutAuto
import Derived.Test.YtheimopjglkgjaaGreatDoorTypes
namespace Go.Proofs.YtheimopjglkgjaaGreatDoor
open Go.RowKit
set_option linter.unusedVariables false
set_option maxRecDepth 100000

/-- Which of the ten types; -1: none. -/
def tyN (k o:Int):Int:=if 0≤k∧k≤4∧o=0 then k else if k=5∧0≤o∧o≤4 then 5 + o else -1
def formB (k o:Int):Bool:=decide (0≤tyN k o)

set_option maxHeartbeats 2000000 in
theorem kForm_any (k o:Int) (w:World) :
  Calls Tryz.prog 34 #[.agg #[.int .i64 k,.int .i64 o]] w fun e w'=>e = .returned (.bool (formB k o))∧Below w.heap.size w w':=by
 have HA:=Lib.hid (At.new w 42 #[.int .i64 k,.int .i64 o])
 have HB:=Lib.hid ((Below.refl _ w).alloc (Nat.le_refl _) (.cells #[.int .i64 k,.int .i64 o] 42))
 have k0:=HA.out.cell 0 (v:=.int .i64 k) rfl
 have k1:=HA.out.cell 1 (v:=.int .i64 o) rfl
 obtain ⟨b,hb⟩:∃ b,formB k o=b:=⟨_,rfl⟩
 have hf:(formB k o=true↔(0≤k∧k≤4∧o=0)∨(k=5∧0≤o∧o≤4)):=by
  unfold formB tyN
  rw [decide_eq_true_eq]
  split
  ·omega
  ·split <;> omega
 rw [hb] at hf
 have HV:=Lib.hid hb
 clear hb
 by_cases h5:k=5
 ·have e5:(k == 5)=true:=beq_iff_eq.2 h5
  by_cases h0:0≤o
  ·have d0:decide (0≤o)=true:=decide_eq_true h0
   have d5:decide (o < 5)=b:=by
    rw [Bool.eq_iff_iff,hf,decide_eq_true_eq];omega
   clear h0 h5 hf
   go_enter Tryz.func34,Tryz.ntmps34
   go_wp2
   go_ret
   exact ⟨ret_bool HV.out.symm,HB.out⟩
  ·have d0:decide (0≤o)=false:=decide_eq_false h0
   have hb:b=false:=by rw [← Bool.not_eq_true,hf];omega
   subst hb
   clear h0 h5 hf
   go_enter Tryz.func34,Tryz.ntmps34
   go_wp2
   go_ret
   exact ⟨ret_bool HV.out.symm,HB.out⟩
 ·have e5:(k == 5)=false:=beq_false_of_ne h5
  by_cases h0:0≤k
  ·have d0:decide (0≤k)=true:=decide_eq_true h0
   by_cases h4:k < 5
   ·have d4:decide (k < 5)=true:=decide_eq_true h4
    have e0:(o == 0)=b:=by
     rw [Bool.eq_iff_iff,hf,beq_iff_eq];omega
    clear h0 h4 h5 hf
    go_enter Tryz.func34,Tryz.ntmps34
    go_wp2
    go_ret
    exact ⟨ret_bool HV.out.symm,HB.out⟩
   ·have d4:decide (k < 5)=false:=decide_eq_false h4
    have hb:b=false:=by rw [← Bool.not_eq_true,hf];omega
    subst hb
    clear h0 h4 h5 hf
    go_enter Tryz.func34,Tryz.ntmps34
    go_wp2
    go_ret
    exact ⟨ret_bool HV.out.symm,HB.out⟩
  ·have d0:decide (0≤k)=false:=decide_eq_false h0
   have hb:b=false:=by rw [← Bool.not_eq_true,hf];omega
   subst hb
   clear h0 h5 hf
   go_enter Tryz.func34,Tryz.ntmps34
   go_wp2
   go_ret
   exact ⟨ret_bool HV.out.symm,HB.out⟩
end Go.Proofs.YtheimopjglkgjaaGreatDoor

namespace Go.Proofs.YtheimopjglkgjaaGreatDoor
open Go.Shelf Go.RowKit Go.Sort
set_option linter.unusedVariables false
set_option maxRecDepth 100000

def underB (k o k' o' : Int):Bool:=decide ((k=k'∧o=o')∨k' = 0∨(k=5∧k' = 5∧o' = 0))

set_option maxHeartbeats 2000000 in
theorem under_any (k o k' o' : Int) (w:World) :
  Calls Tryz.prog 35 #[.agg #[.int .i64 k,.int .i64 o],.agg #[.int .i64 k',.int .i64 o']] w fun e w'=>e = .returned (.bool (underB k o k' o'))∧Below w.heap.size w w':=by
 go_enter Tryz.func35,Tryz.ntmps35
 go_wp2
 all_goals go_ret
 all_goals refine ⟨ret_bool ?_,((RowKit.Below.refl _ _).alloc (Nat.le_refl _) _).alloc (by simp) _⟩
 all_goals unfold underB
 all_goals first
  |(symm;rw [decide_eq_true_eq];omega)
  |(symm;rw [decide_eq_false_iff_not];omega)
  |(rw [Bool.eq_iff_iff,beq_iff_eq,decide_eq_true_eq];omega)

/-- Two boxed types, known whole. -/
def Two (w0 W:World) (k o k' o' : Int):Prop:=At W w0.heap.size 42 #[.int .i64 k,.int .i64 o]∧At W (w0.heap.size + 1) 42 #[.int .i64 k',.int .i64 o']∧RowKit.Below w0.heap.size w0 W
theorem Two.start (w:World) (k o k' o' : Int):Two w ((w.alloc (.cells #[.int .i64 k,.int .i64 o] 42)).alloc (.cells #[.int .i64 k',.int .i64 o'] 42)) k o k' o':=
 ⟨(At.new w _ _).alloc _,At.new1 w _ _ _,((RowKit.Below.refl _ _).alloc (Nat.le_refl _) _).alloc (by simp) _⟩
theorem Two.next {w0 W W' : World} {k o k' o' : Int} (h:Two w0 W k o k' o') (hb:RowKit.Below W.heap.size W W'):Two w0 W' k o k' o':=
 ⟨h.1.below hb h.1.lt,h.2.1.below hb h.2.1.lt,h.2.2.trans (hb.mono h.2.2.size)⟩
theorem Two.cells {w0 W:World} {k o k' o' : Int} (h:Two w0 W k o k' o'):W.cell? ⟨w0.heap.size,0,none⟩=some (.int .i64 k)∧W.cell? ⟨w0.heap.size,1,none⟩=some (.int .i64 o)∧W.cell? ⟨w0.heap.size + 1,0,none⟩=some (.int .i64 k')∧W.cell? ⟨w0.heap.size + 1,1,none⟩=some (.int .i64 o'):=
 ⟨h.1.cell 0 rfl,h.1.cell 1 rfl,h.2.1.cell 0 rfl,h.2.1.cell 1 rfl⟩

def underR (k o k' o' : Int):Value:=if formB k o && formB k' o' then .tuple #[.bool (underB k o k' o'),.int .i64 0] else .tuple #[.bool false,.int .i64 2]
theorem underR_no {k o k' o' : Int} (h:(formB k o && formB k' o')=false):underR k o k' o' = .tuple #[.bool false,.int .i64 2]:=by unfold underR;rw [h];rfl
theorem underR_yes {k o k' o' : Int} (h:(formB k o && formB k' o')=true):underR k o k' o' = .tuple #[.bool (underB k o k' o'),.int .i64 0]:=by unfold underR;rw [h];rfl

set_option maxHeartbeats 2000000 in
theorem kUnder_any (k o k' o' : Int) (w:World) :
  Calls Tryz.prog 17 #[.agg #[.int .i64 k,.int .i64 o],.agg #[.int .i64 k',.int .i64 o']] w fun e w'=>e = .returned (underR k o k' o')∧RowKit.Below w.heap.size w w':=by
 have HT:=Lib.hid (Two.start w k o k' o')
 go_enter Tryz.func17,Tryz.ntmps17
 go_wp2_with fail
 generalize (w.alloc (.cells #[.int .i64 k,.int .i64 o] 42)).alloc (.cells #[.int .i64 k',.int .i64 o'] 42)=W0 at HT ⊢
 refine (kForm_any k o _).mono ?_
 rintro e w1 ⟨rfl,hb⟩
 have HT1:=Lib.hid (HT.out.next hb)
 obtain ⟨k0,k1,k2,k3⟩:=HT1.out.cells
 clear hb HT
 cases hf:formB k o
 ·go_wp2_with fail
  go_ret2
  exact ⟨by rw [underR_no (by rw [hf];rfl)];rfl,HT1.out.2.2⟩
 ·go_wp2_with fail
  refine (kForm_any k' o' _).mono ?_
  rintro e w2 ⟨rfl,hb⟩
  have HT2:=Lib.hid (HT1.out.next hb)
  clear k0 k1 k2 k3
  obtain ⟨k0,k1,k2,k3⟩:=HT2.out.cells
  clear hb HT1
  cases hf' : formB k' o'
  ·go_wp2_with fail
   go_ret2
   exact ⟨by rw [underR_no (by rw [hf,hf'];rfl)];rfl,HT2.out.2.2⟩
  ·go_wp2_with fail
   refine (under_any k o k' o' _).mono ?_
   rintro e w3 ⟨rfl,hb⟩
   have HT3:=Lib.hid (HT2.out.next hb)
   clear hb HT2
   go_wp2_with fail
   go_ret2
   exact ⟨by rw [underR_yes (by rw [hf,hf'];rfl)];rfl,HT3.out.2.2⟩
end Go.Proofs.YtheimopjglkgjaaGreatDoor

namespace Go.Proofs.YtheimopjglkgjaaGreatDoor
open Go.Shelf Go.RowKit Go.Sort
set_option linter.unusedVariables false
set_option maxRecDepth 100000

end Go.Proofs.YtheimopjglkgjaaGreatDoor

namespace Go.Proofs.YtheimopjglkgjaaGreatDoor
open Go.Shelf Go.RowKit Go.Sort
set_option linter.unusedVariables false
set_option maxRecDepth 100000

end Go.Proofs.YtheimopjglkgjaaGreatDoor

namespace Go.Proofs.YtheimopjglkgjaaGreatDoor
open Go.Shelf Go.RowKit Go.Sort
set_option linter.unusedVariables false
set_option maxRecDepth 100000

theorem formB_iff (k o:Int):formB k o=true↔(0≤k∧k≤4∧o=0)∨(k=5∧0≤o∧o≤4):=by
 unfold formB tyN
 rw [decide_eq_true_eq]
 split
 ·omega
 ·split <;> omega

end Go.Proofs.YtheimopjglkgjaaGreatDoor

namespace Go.Proofs.YtheimopjglkgjaaGreatDoor
open Go.Shelf Go.RowKit Go.Sort
set_option linter.unusedVariables false
set_option maxRecDepth 100000

def meetB (k o k' o' : Int):Bool:=underB k o k' o' || underB k' o' k o

set_option maxHeartbeats 2000000 in
theorem meet_any (k o k' o' : Int) (w:World) (h:formB k o=true) (h' : formB k' o' = true) :
  Calls Tryz.prog 56 #[.agg #[.int .i64 k,.int .i64 o],.agg #[.int .i64 k',.int .i64 o']] w fun e w'=>e = .returned (.bool (meetB k o k' o'))∧RowKit.Below w.heap.size w w':=by
 have HT:=Lib.hid (Two.start w k o k' o')
 have HM:=Lib.hid (show meetB k o k' o' = (underB k o k' o' || underB k' o' k o) from rfl)
 go_enter Tryz.func56,Tryz.ntmps56
 go_wp2_with fail
 generalize (w.alloc (.cells #[.int .i64 k,.int .i64 o] 42)).alloc (.cells #[.int .i64 k',.int .i64 o'] 42)=W0 at HT ⊢
 refine (kUnder_any k o k' o' _).mono ?_
 rintro e w1 ⟨rfl,hb⟩
 rw [underR_yes (by rw [h,h'];rfl)]
 have HT1:=Lib.hid (HT.out.next hb)
 obtain ⟨k0,k1,k2,k3⟩:=HT1.out.cells
 clear hb HT
 go_wp2_with fail
 refine (kUnder_any k' o' k o _).mono ?_
 rintro e w2 ⟨rfl,hb⟩
 rw [underR_yes (by rw [h,h'];rfl)]
 have HT2:=Lib.hid (HT1.out.next hb)
 clear hb HT1
 cases hu:underB k o k' o'
 ·rw [hu] at HM
  go_wp2_with fail
  go_ret
  exact ⟨by rw [HM.out];rfl,HT2.out.2.2⟩
 ·rw [hu] at HM
  go_wp2_with fail
  go_ret
  exact ⟨by rw [HM.out];rfl,HT2.out.2.2⟩

end Go.Proofs.YtheimopjglkgjaaGreatDoor

namespace Go.Proofs.YtheimopjglkgjaaGreatDoor
open Go.Shelf Go.RowKit Go.Sort
set_option linter.unusedVariables false
set_option maxRecDepth 100000

/-- The least type above both. -/
def joinT (k o k' o' : Int):Int × Int:=if underB k o k' o' then (k',o') else if underB k' o' k o then (k,o) else if k=5∧k' = 5 then (5,0) else (0,0)

/-- Two boxed types and a third block for the answer. -/
def Three (w0 W:World) (k o k' o' : Int):Prop:=At W w0.heap.size 42 #[.int .i64 k,.int .i64 o]∧At W (w0.heap.size + 1) 42 #[.int .i64 k',.int .i64 o']∧At W (w0.heap.size + 2) 42 #[.int .i64 0,.int .i64 0]∧RowKit.Below w0.heap.size w0 W
theorem Three.start (w:World) (k o k' o' : Int):Three w (((w.alloc (.cells #[.int .i64 k,.int .i64 o] 42)).alloc (.cells #[.int .i64 k',.int .i64 o'] 42)).alloc (.cells #[.int .i64 0,.int .i64 0] 42)) k o k' o':=
 ⟨((At.new w _ _).alloc _).alloc _,(At.new1 w _ _ _).alloc _,At.new2 w _ _ _ _,(((RowKit.Below.refl _ _).alloc (Nat.le_refl _) _).alloc (by simp) _).alloc (by simp;omega) _⟩
theorem Three.next {w0 W W' : World} {k o k' o' : Int} (h:Three w0 W k o k' o') (hb:RowKit.Below W.heap.size W W'):Three w0 W' k o k' o':=
 ⟨h.1.below hb h.1.lt,h.2.1.below hb h.2.1.lt,h.2.2.1.below hb h.2.2.1.lt,h.2.2.2.trans (hb.mono h.2.2.2.size)⟩
theorem Three.cells {w0 W:World} {k o k' o' : Int} (h:Three w0 W k o k' o'):W.cell? ⟨w0.heap.size,0,none⟩=some (.int .i64 k)∧W.cell? ⟨w0.heap.size,1,none⟩=some (.int .i64 o)∧W.cell? ⟨w0.heap.size + 1,0,none⟩=some (.int .i64 k')∧W.cell? ⟨w0.heap.size + 1,1,none⟩=some (.int .i64 o')∧W.cell? ⟨w0.heap.size + 1 + 1,0,none⟩=some (.int .i64 0)∧W.cell? ⟨w0.heap.size + 1 + 1,1,none⟩=some (.int .i64 0)∧W.frozen? ⟨w0.heap.size + 1 + 1,0,none⟩=false∧W.frozen? ⟨w0.heap.size + 1 + 1,1,none⟩=false:=
 ⟨h.1.cell 0 rfl,h.1.cell 1 rfl,h.2.1.cell 0 rfl,h.2.1.cell 1 rfl,h.2.2.1.cell 0 rfl,h.2.2.1.cell 1 rfl,h.2.2.1.free 0,h.2.2.1.free 1⟩

set_option maxHeartbeats 2000000 in
theorem kJoin_any (k o k' o' : Int) (w:World) (h:formB k o=true) (h' : formB k' o' = true) :
  Calls Tryz.prog 16 #[.agg #[.int .i64 k,.int .i64 o],.agg #[.int .i64 k',.int .i64 o']] w fun e w'=>e = .returned (.tuple #[.agg #[.int .i64 (joinT k o k' o').1,.int .i64 (joinT k o k' o').2],.int .i64 0])∧RowKit.Below w.heap.size w w':=by
 have HT:=Lib.hid (Three.start w k o k' o')
 obtain ⟨j,hj⟩:∃ j,joinT k o k' o' = j:=⟨_,rfl⟩
 rw [hj]
 have HJ:=Lib.hid hj
 clear hj
 go_enter Tryz.func16,Tryz.ntmps16
 go_wp2_with fail
 generalize ((w.alloc (.cells #[.int .i64 k,.int .i64 o] 42)).alloc (.cells #[.int .i64 k',.int .i64 o'] 42)).alloc (.cells #[.int .i64 0,.int .i64 0] 42)=W0 at HT ⊢
 refine (kForm_any k o _).mono ?_
 rintro e w1 ⟨rfl,hb⟩
 rw [h]
 have HT1:=Lib.hid (HT.out.next hb)
 obtain ⟨k0,k1,k2,k3,-⟩:=HT1.out.cells
 clear hb HT
 go_wp2_with fail
 refine (kForm_any k' o' _).mono ?_
 rintro e w2 ⟨rfl,hb⟩
 rw [h']
 have HT2:=Lib.hid (HT1.out.next hb)
 clear hb HT1 k0 k1 k2 k3
 obtain ⟨k0,k1,k2,k3,-⟩:=HT2.out.cells
 go_wp2_with fail
 refine (under_any k o k' o' _).mono ?_
 rintro e w3 ⟨rfl,hb⟩
 have HT3:=Lib.hid (HT2.out.next hb)
 clear hb HT2 k0 k1 k2 k3
 obtain ⟨k0,k1,k2,k3,r0,r1,f0,f1⟩:=HT3.out.cells
 cases hu:underB k o k' o'
 ·go_wp2_with fail
  refine (under_any k' o' k o _).mono ?_
  rintro e w4 ⟨rfl,hb⟩
  have HT4:=Lib.hid (HT3.out.next hb)
  clear hb HT3 k0 k1 k2 k3 r0 r1 f0 f1
  obtain ⟨k0,k1,k2,k3,r0,r1,f0,f1⟩:=HT4.out.cells
  cases hv:underB k' o' k o
  ·by_cases h5:k=5
   ·have b5:(k == 5)=true:=beq_iff_eq.2 h5
    by_cases h6:k' = 5
    ·have b6:(k' == 5)=true:=beq_iff_eq.2 h6
     have HE:=Lib.hid (show j=(5,0) by rw [← HJ.out];unfold joinT;rw [hu,hv,if_pos (c:=k=5∧k' = 5) ⟨h5,h6⟩];rfl)
     clear h5 h6
     go_wp2_with fail
     refine bodyPost_ret (v:=.tuple #[.agg #[.int .i64 5,.int .i64 0],.int .i64 0]) (by simp [results,Tryz.results16,go_sem,r0,r1]) rfl ⟨by rw [HE.out],?_⟩
     exact (HT4.out.2.2.2.setCell (p:=⟨w.heap.size + 1 + 1,0,none⟩) (by simp;omega) _).setCell (p:=⟨w.heap.size + 1 + 1,1,none⟩) (by simp;omega) _
    ·have b6:(k' == 5)=false:=beq_false_of_ne h6
     have HE:=Lib.hid (show j=(0,0) by rw [← HJ.out];unfold joinT;rw [hu,hv,if_neg (c:=k=5∧k' = 5) (fun x=>h6 x.2)];rfl)
     clear h5 h6
     go_wp2_with fail
     refine bodyPost_ret (v:=.tuple #[.agg #[.int .i64 0,.int .i64 0],.int .i64 0]) (by simp [results,Tryz.results16,go_sem,r0,r1]) rfl ⟨by rw [HE.out],?_⟩
     exact (HT4.out.2.2.2.setCell (p:=⟨w.heap.size + 1 + 1,0,none⟩) (by simp;omega) _).setCell (p:=⟨w.heap.size + 1 + 1,1,none⟩) (by simp;omega) _
   ·have b5:(k == 5)=false:=beq_false_of_ne h5
    have HE:=Lib.hid (show j=(0,0) by rw [← HJ.out];unfold joinT;rw [hu,hv,if_neg (c:=k=5∧k' = 5) (fun x=>h5 x.1)];rfl)
    clear h5
    go_wp2_with fail
    refine bodyPost_ret (v:=.tuple #[.agg #[.int .i64 0,.int .i64 0],.int .i64 0]) (by simp [results,Tryz.results16,go_sem,r0,r1]) rfl ⟨by rw [HE.out],?_⟩
    exact (HT4.out.2.2.2.setCell (p:=⟨w.heap.size + 1 + 1,0,none⟩) (by simp;omega) _).setCell (p:=⟨w.heap.size + 1 + 1,1,none⟩) (by simp;omega) _
  ·have HE:=Lib.hid (show j=(k,o) by rw [← HJ.out];unfold joinT;rw [hu,hv];rfl)
   go_wp2_with fail
   refine bodyPost_ret (v:=.tuple #[.agg #[.int .i64 k,.int .i64 o],.int .i64 0]) (by simp [results,Tryz.results16,go_sem,r0,r1]) rfl ⟨by rw [HE.out],?_⟩
   exact (HT4.out.2.2.2.setCell (p:=⟨w.heap.size + 1 + 1,0,none⟩) (by simp;omega) _).setCell (p:=⟨w.heap.size + 1 + 1,1,none⟩) (by simp;omega) _
 ·have HE:=Lib.hid (show j=(k',o') by rw [← HJ.out];unfold joinT;rw [hu];rfl)
  go_wp2_with fail
  refine bodyPost_ret (v:=.tuple #[.agg #[.int .i64 k',.int .i64 o'],.int .i64 0]) (by simp [results,Tryz.results16,go_sem,r0,r1]) rfl ⟨by rw [HE.out],?_⟩
  exact (HT3.out.2.2.2.setCell (p:=⟨w.heap.size + 1 + 1,0,none⟩) (by simp;omega) _).setCell (p:=⟨w.heap.size + 1 + 1,1,none⟩) (by simp;omega) _
end Go.Proofs.YtheimopjglkgjaaGreatDoor

namespace Go.Proofs.YtheimopjglkgjaaGreatDoor
open Go.Shelf Go.RowKit Go.Sort
set_option linter.unusedVariables false
set_option maxRecDepth 100000

/-- The i-th of the ten types. -/
def tyK (i:Nat):Int:=if i < 5 then i else 5
def tyO (i:Nat):Int:=if i < 5 then 0 else (i:Int) - 5
theorem ty_form (i:Nat) (h:i < 10):formB (tyK i) (tyO i)=true:=by
 rw [formB_iff]
 unfold tyK tyO
 split <;> omega
/-- What the reference's loop has come to after i rounds. -/
def joinF (k o k' o' : Int):Nat→Int × Int
 | 0=>(0,0)
 | i + 1=>if underB k o (tyK i) (tyO i) && underB k' o' (tyK i) (tyO i) && underB (tyK i) (tyO i) (joinF k o k' o' i).1 (joinF k o k' o' i).2 then (tyK i,tyO i) else joinF k o k' o' i
theorem ty_ten {k o:Int} (h:formB k o=true):∃ i,i < 10∧k=tyK i∧o=tyO i:=by
 rcases (formB_iff k o).1 h with ⟨h0,h4,rfl⟩ | ⟨rfl,h0,h4⟩
 ·refine ⟨k.toNat,by omega,?_,?_⟩ <;> (try unfold tyK) <;> (try unfold tyO) <;> split <;> omega
 ·refine ⟨(o + 5).toNat,by omega,?_,?_⟩ <;> (try unfold tyK) <;> (try unfold tyO) <;> split <;> omega
theorem joinF_ten:∀ i,i < 10→∀ j,j < 10→joinF (tyK i) (tyO i) (tyK j) (tyO j) 10=joinT (tyK i) (tyO i) (tyK j) (tyO j):=by decide
theorem joinF_eq {k o k' o' : Int} (h:formB k o=true) (h' : formB k' o' = true):joinF k o k' o' 10=joinT k o k' o':=by
 obtain ⟨i,hi,rfl,rfl⟩:=ty_ten h
 obtain ⟨j,hj,rfl,rfl⟩:=ty_ten h'
 exact joinF_ten i hi j hj
theorem joinF_form (k o k' o' : Int) (i:Nat) (hi:i≤10):formB (joinF k o k' o' i).1 (joinF k o k' o' i).2=true:=by
 induction i with
 | zero=>rfl
 | succ i ih=>
  unfold joinF
  split
  ·exact ty_form i (by omega)
  ·exact ih (by omega)

end Go.Proofs.YtheimopjglkgjaaGreatDoor

namespace Go.Proofs.YtheimopjglkgjaaGreatDoor
open Go.Shelf Go.RowKit Go.Sort
set_option linter.unusedVariables false
set_option linter.unusedSimpArgs false
set_option maxRecDepth 100000

end Go.Proofs.YtheimopjglkgjaaGreatDoor

namespace Go.Proofs.YtheimopjglkgjaaGreatDoor
open Go.Shelf Go.RowKit Go.Sort
set_option linter.unusedVariables false
set_option linter.unusedSimpArgs false
set_option maxRecDepth 100000

def hitB (k o k' o' : Int) (i:Nat):Bool:=meetB k o i 0 && meetB k' o' i 0
/-- Is there a kind with an order that both may be? -/
def ordB (k o k' o' : Int):Bool:=hitB k o k' o' 2 || hitB k o k' o' 3 || hitB k o k' o' 4
/-- What is still to be looked at, from i on. -/
def ordF (k o k' o' : Int) (i:Nat):Bool:=if i=2 then ordB k o k' o' else if i=3 then hitB k o k' o' 3 || hitB k o k' o' 4 else if i=4 then hitB k o k' o' 4 else false
theorem ordF_step {k o k' o' : Int} {i:Nat} (h2:2≤i) (h4:i≤4):ordF k o k' o' i=(hitB k o k' o' i || ordF k o k' o' (i + 1)):=by
 have:i=2∨i=3∨i=4:=by omega
 rcases this with rfl|rfl|rfl <;> simp [ordF,ordB,Bool.or_assoc]

theorem cof_any (k:Int) (w:World) :
  Calls Tryz.prog 87 #[.int .i64 k] w fun e w'=>e = .returned (.agg #[.int .i64 k,.int .i64 0])∧RowKit.Below w.heap.size w w':=by
 have HM:=Lib.hid (Mem.start w)
 go_enter Tryz.func87,Tryz.ntmps87
 go_wp2_with (first|(refine mS ?_;clear HM;intro W1 HM)|(refine hal HM rfl ?_;clear HM;intro g1 W1 HM))
 exact bodyPost_ret (res_box rfl HM.out 0 rfl rfl rfl) rfl ⟨rfl,HM.out.below⟩

end Go.Proofs.YtheimopjglkgjaaGreatDoor
