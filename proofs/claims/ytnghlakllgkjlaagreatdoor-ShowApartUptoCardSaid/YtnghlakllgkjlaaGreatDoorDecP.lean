/- A decimal's text: the program's Print, the reference's Told. (short) -/
import Derived.Test.YtnghlakllgkjlaaGreatDoorShowPlain
import Derived.Test.YtnghlakllgkjlaaGreatDoorSepA
import Derived.Test.YtnghlakllgkjlaaGreatDoorDigE
import Derived.Test.YtnghlakllgkjlaaGreatDoorShelf
namespace Go.Proofs.YtnghlakllgkjlaaGreatDoor
open Go.RowKit
set_option linter.unusedVariables false
set_option linter.unusedSimpArgs false
set_option maxRecDepth 100000
instance shStr:StrT Tryz.prog 9:=⟨Tryz.underlying9⟩
theorem rep_one (x:UInt8):∀ m,Lib.repeatL [x] m=List.replicate m x
 | 0=>rfl
 | m + 1=>by rw [List.replicate_succ,← rep_one x m];rfl
theorem padT_no {s:Tx} {sc:Nat} (h:¬ s.length≤sc):padT s sc=s:=if_neg h
theorem padT_yes {s:Tx} {sc:Nat} (h:s.length≤sc):padT s sc=List.replicate (sc + 1 - s.length) 48++s:=if_pos h
theorem dotT_yes {s:Tx} {k:Nat} (h:0 < k):dotT s k=s.take (s.length - k)++46 :: s.drop (s.length - k):=if_pos h
theorem dot_app (a b:Tx):a++[46]++b=a++46 :: b:=by rw [List.append_assoc];rfl
set_option maxHeartbeats 8000000 in
theorem dPrint_core (neg:Bool) (hi lo:Nat) (sc:Int) (k:Nat) (t:Tx) (w:World) (hk1:sc≤k) (hk2:(k:Int)≤sc) (h18:k≤18) (hl1:0 < t.length) (hl2:t.length≤35)
  (HT:Hid (∀ W,Calls Tryz.prog 103 #[.agg #[.int .u64 hi,.int .u64 lo]] W fun e w'=>e = .returned (.string ⟨t.toArray⟩)∧RowKit.Below W.heap.size W w'))
  (HF:Hid (∀ W g t,RowKit.Below w.heap.size w W→(Res.box g t [.bool neg,.int .u64 hi,.int .u64 lo,.int .i64 sc]).holds w.heap.size W→Calls Tryz.prog 88 #[.slice (some ⟨g,0,none⟩) 1 1] W fun e w'=>e = .returned (.int .i64 0)∧RowKit.Below W.heap.size W w')) :
  Calls Tryz.prog 47 #[.agg #[.bool neg,.int .u64 hi,.int .u64 lo,.int .i64 sc]] w fun e w'=>e = .returned (.tuple #[.string ⟨((if neg then [45] else [])++dotT (padT t k) k).toArray⟩,.int .i64 0])∧RowKit.Below w.heap.size w w':=by
 have HM:=Lib.hid (Mem.start w)
 have HR:=Lib.hid (fun (W:World) (v:Int) (hv:v=((k + 1 - t.length:Nat):Int))=>(show Calls Tryz.prog 104 #[.string ⟨#[48]⟩,.int .i64 v] W fun e w'=>e = .returned (.string ⟨(List.replicate (k + 1 - t.length) 48).toArray⟩)∧RowKit.Below W.heap.size W w' from by
  subst hv
  have h:=Tryz.strings_Repeat ⟨#[48]⟩ (k + 1 - t.length) W (by omega) (by show 1 * _≤_;omega)
  rw [show (⟨#[48]⟩:ByteArray).data.toList=[48] from rfl,rep_one] at h
  exact h))
 have hpl1:=padT_len t k
 have hpl2:=padT_bd t k
 obtain ⟨s,hs⟩:∃ s,padT t k=s:=⟨_,rfl⟩
 rw [hs] at hpl1 hpl2 ⊢
 by_cases hp:t.length≤k
 ·have HP:=Lib.hid (show s=_ from hs.symm.trans (padT_yes hp))
  have d1:decide ((t.length:Int)≤sc)=true:=decide_eq_true (by omega)
  have d2:decide ((0:Int) < sc)=true:=decide_eq_true (by omega)
  have HD:=Lib.hid (dotT_yes (s:=s) (k:=k) (by omega))
  clear hs
  cases neg
  ·go_enter Tryz.func47,Tryz.ntmps47
   go_wp2_with (first|refine mP ?_|(refine mL ?_;clear HM;intro g1 W1 HM)|((with_reducible refine iat 1 ?_);refine mB ?_;clear HM;intro g1 W1 HM)|(go_at_call 88;(with_reducible refine cB HM (HF.out _ _ _ HM.out.below (HM.out.get (k:=0) rfl)) ?_);clear HM;intro W1 HM)|(go_at_call 103;(with_reducible refine cB HM (HT.out _) ?_);clear HM;intro W1 HM)|(go_at_call 104;(with_reducible refine cB HM (HR.out _ _ (by omega)) ?_);clear HM;intro W1 HM)|((with_reducible refine iat 28 ?_);(refine tcat rfl rfl (by simp;omega) ?_)))
   rw [← HP.out]
   refine wp_region_mem (by kernel_rfl) (by kernel_rfl) HM.out ?_;intro hNE;(repeat (any_goals (first|refine mQ ?_|((with_reducible refine qat 38 ?_);(refine qtto rfl rfl (j:=s.length - k) (by omega) (by omega) ?_))|((with_reducible refine qat 39 ?_);(refine qtcat rfl rfl (by simp;omega) ?_))|((with_reducible refine qat 46 ?_);(refine qtfrom rfl rfl (i:=s.length - k) (by omega) (by omega) ?_))|((with_reducible refine qat 47 ?_);(refine qtcat rfl rfl (by simp;omega) ?_))|go_big_quiet_step (fail)|quiet_step (fail))));clear hNE;refine wpQuiet_nil ?_;intro W1 HM1;replace HM:=Lib.hid HM1;clear HM1
   go_wp2_with (first|refine mP ?_|(refine mL ?_;clear HM;intro g1 W1 HM)|((with_reducible refine iat 1 ?_);refine mB ?_;clear HM;intro g1 W1 HM))
   go_ret2
   exact ⟨by rw [HD.out];rfl,HM.out.below⟩
  ·go_enter Tryz.func47,Tryz.ntmps47
   go_wp2_with (first|refine mP ?_|(refine mL ?_;clear HM;intro g1 W1 HM)|((with_reducible refine iat 1 ?_);refine mB ?_;clear HM;intro g1 W1 HM)|(go_at_call 88;(with_reducible refine cB HM (HF.out _ _ _ HM.out.below (HM.out.get (k:=0) rfl)) ?_);clear HM;intro W1 HM)|(go_at_call 103;(with_reducible refine cB HM (HT.out _) ?_);clear HM;intro W1 HM)|(go_at_call 104;(with_reducible refine cB HM (HR.out _ _ (by omega)) ?_);clear HM;intro W1 HM)|((with_reducible refine iat 28 ?_);(refine tcat rfl rfl (by simp;omega) ?_)))
   rw [← HP.out]
   refine wp_region_mem (by kernel_rfl) (by kernel_rfl) HM.out ?_;intro hNE;(repeat (any_goals (first|refine mQ ?_|((with_reducible refine qat 38 ?_);(refine qtto rfl rfl (j:=s.length - k) (by omega) (by omega) ?_))|((with_reducible refine qat 39 ?_);(refine qtcat rfl rfl (by simp;omega) ?_))|((with_reducible refine qat 46 ?_);(refine qtfrom rfl rfl (i:=s.length - k) (by omega) (by omega) ?_))|((with_reducible refine qat 47 ?_);(refine qtcat rfl rfl (by simp;omega) ?_))|go_big_quiet_step (fail)|quiet_step (fail))));clear hNE;refine wpQuiet_nil ?_;intro W1 HM1;replace HM:=Lib.hid HM1;clear HM1
   go_wp2_with (first|refine mP ?_|(refine mL ?_;clear HM;intro g1 W1 HM)|((with_reducible refine iat 1 ?_);refine mB ?_;clear HM;intro g1 W1 HM)|((with_reducible refine iat 51 ?_);(refine tcat rfl rfl (by simp;omega) ?_)))
   go_ret2
   exact ⟨by rw [HD.out];rfl,HM.out.below⟩
 ·have HP:=Lib.hid (show s=t from hs.symm.trans (padT_no hp))
  have d1:decide ((t.length:Int)≤sc)=false:=decide_eq_false (by omega)
  clear hs
  by_cases hz:k=0
  ·have HD:=Lib.hid (show dotT s k=s by rw [hz];rfl)
   have d2:decide ((0:Int) < sc)=false:=decide_eq_false (by omega)
   clear hz
   cases neg
   ·go_enter Tryz.func47,Tryz.ntmps47
    go_wp2_with (first|refine mP ?_|(refine mL ?_;clear HM;intro g1 W1 HM)|((with_reducible refine iat 1 ?_);refine mB ?_;clear HM;intro g1 W1 HM)|(go_at_call 88;(with_reducible refine cB HM (HF.out _ _ _ HM.out.below (HM.out.get (k:=0) rfl)) ?_);clear HM;intro W1 HM)|(go_at_call 103;(with_reducible refine cB HM (HT.out _) ?_);clear HM;intro W1 HM))
    go_ret2
    exact ⟨by rw [HD.out,HP.out];rfl,HM.out.below⟩
   ·go_enter Tryz.func47,Tryz.ntmps47
    go_wp2_with (first|refine mP ?_|(refine mL ?_;clear HM;intro g1 W1 HM)|((with_reducible refine iat 1 ?_);refine mB ?_;clear HM;intro g1 W1 HM)|(go_at_call 88;(with_reducible refine cB HM (HF.out _ _ _ HM.out.below (HM.out.get (k:=0) rfl)) ?_);clear HM;intro W1 HM)|(go_at_call 103;(with_reducible refine cB HM (HT.out _) ?_);clear HM;intro W1 HM)|((with_reducible refine iat 51 ?_);(refine tcat rfl rfl (by simp;omega) ?_)))
    go_ret2
    exact ⟨by rw [HD.out,HP.out];rfl,HM.out.below⟩
  ·have HD:=Lib.hid (dotT_yes (s:=s) (k:=k) (by omega))
   have d2:decide ((0:Int) < sc)=true:=decide_eq_true (by omega)
   cases neg
   ·go_enter Tryz.func47,Tryz.ntmps47
    go_wp2_with (first|refine mP ?_|(refine mL ?_;clear HM;intro g1 W1 HM)|((with_reducible refine iat 1 ?_);refine mB ?_;clear HM;intro g1 W1 HM)|(go_at_call 88;(with_reducible refine cB HM (HF.out _ _ _ HM.out.below (HM.out.get (k:=0) rfl)) ?_);clear HM;intro W1 HM)|(go_at_call 103;(with_reducible refine cB HM (HT.out _) ?_);clear HM;intro W1 HM))
    rw [← HP.out]
    refine wp_region_mem (by kernel_rfl) (by kernel_rfl) HM.out ?_;intro hNE;(repeat (any_goals (first|refine mQ ?_|((with_reducible refine qat 38 ?_);(refine qtto rfl rfl (j:=s.length - k) (by omega) (by omega) ?_))|((with_reducible refine qat 39 ?_);(refine qtcat rfl rfl (by simp;omega) ?_))|((with_reducible refine qat 46 ?_);(refine qtfrom rfl rfl (i:=s.length - k) (by omega) (by omega) ?_))|((with_reducible refine qat 47 ?_);(refine qtcat rfl rfl (by simp;omega) ?_))|go_big_quiet_step (fail)|quiet_step (fail))));clear hNE;refine wpQuiet_nil ?_;intro W1 HM1;replace HM:=Lib.hid HM1;clear HM1
    go_wp2_with (first|refine mP ?_|(refine mL ?_;clear HM;intro g1 W1 HM)|((with_reducible refine iat 1 ?_);refine mB ?_;clear HM;intro g1 W1 HM))
    go_ret2
    exact ⟨by rw [HD.out];rfl,HM.out.below⟩
   ·go_enter Tryz.func47,Tryz.ntmps47
    go_wp2_with (first|refine mP ?_|(refine mL ?_;clear HM;intro g1 W1 HM)|((with_reducible refine iat 1 ?_);refine mB ?_;clear HM;intro g1 W1 HM)|(go_at_call 88;(with_reducible refine cB HM (HF.out _ _ _ HM.out.below (HM.out.get (k:=0) rfl)) ?_);clear HM;intro W1 HM)|(go_at_call 103;(with_reducible refine cB HM (HT.out _) ?_);clear HM;intro W1 HM))
    rw [← HP.out]
    refine wp_region_mem (by kernel_rfl) (by kernel_rfl) HM.out ?_;intro hNE;(repeat (any_goals (first|refine mQ ?_|((with_reducible refine qat 38 ?_);(refine qtto rfl rfl (j:=s.length - k) (by omega) (by omega) ?_))|((with_reducible refine qat 39 ?_);(refine qtcat rfl rfl (by simp;omega) ?_))|((with_reducible refine qat 46 ?_);(refine qtfrom rfl rfl (i:=s.length - k) (by omega) (by omega) ?_))|((with_reducible refine qat 47 ?_);(refine qtcat rfl rfl (by simp;omega) ?_))|go_big_quiet_step (fail)|quiet_step (fail))));clear hNE;refine wpQuiet_nil ?_;intro W1 HM1;replace HM:=Lib.hid HM1;clear HM1
    go_wp2_with (first|refine mP ?_|(refine mL ?_;clear HM;intro g1 W1 HM)|((with_reducible refine iat 1 ?_);refine mB ?_;clear HM;intro g1 W1 HM)|((with_reducible refine iat 51 ?_);(refine tcat rfl rfl (by simp;omega) ?_)))
    go_ret2
    exact ⟨by rw [HD.out];rfl,HM.out.below⟩
theorem formed_one (d:DcD) (w:World) (hwf:d.wf) (hok:d.ok=true) (W:World) (g:Nat) (t:TypeId) (hb:RowKit.Below w.heap.size w W) (hbox:(Res.box g t d.cs).holds w.heap.size W) :
  Calls Tryz.prog 88 #[.slice (some ⟨g,0,none⟩) 1 1] W fun e w'=>e = .returned (.int .i64 0)∧RowKit.Below W.heap.size W w':=by
 have h:=formed_any (some ⟨g,0,none⟩) 1 1 [d] W ⟨(fun e=>by cases e),fun a e=>by cases e;exact box_cells hbox 0⟩ (fun i x hx=>by
  have:=List.mem_of_getElem? hx
  simp only [List.mem_cons,List.not_mem_nil,or_false] at this
  subst this
  exact hwf) (by simp) rfl
 have e : [d].all DcD.ok=true:=by rw [List.all_cons,hok];rfl
 rw [e] at h
 exact h
theorem dPrint_any (d:DcD) (w:World) (hok:d.ok=true) (hwf:d.wf) :
  Calls Tryz.prog 47 #[.agg d.cs.toArray] w fun e w'=>e = .returned (.tuple #[.string ⟨(dcmT d.neg d.n d.sc).toArray⟩,.int .i64 0])∧RowKit.Below w.heap.size w w':=by
 have hw2:W2 d.n d.hi d.lo:=DcD.w2 hwf
 obtain ⟨h34,h0,h18,-⟩:=DcD.ok_parts hok
 exact dPrint_core d.neg d.hi d.lo d.sc d.sc.toNat (txt d.n) w (by omega) (by omega) (by omega) (txt_len d.n) (txt_bd 34 d.n h34) (Lib.hid fun W=>text_any d.n d.hi d.lo W hw2) (Lib.hid fun W g t hb hx=>formed_one d w hwf hok W g t hb hx)
end Go.Proofs.YtnghlakllgkjlaaGreatDoor
