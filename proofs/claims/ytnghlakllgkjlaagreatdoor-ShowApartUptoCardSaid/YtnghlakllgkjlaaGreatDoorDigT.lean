/- The reference's texts of numbers: Told of digits, of a decimal. (short) -/
import Derived.Test.YtnghlakllgkjlaaGreatDoorDecP
namespace Go.Proofs.YtnghlakllgkjlaaGreatDoor
open Go.RowKit
set_option linter.unusedVariables false
set_option linter.unusedSimpArgs false
set_option maxRecDepth 100000
theorem d48_ext {d:Nat} (h:d≤9):(⟨#[48,49,50,51,52,53,54,55,56,57]⟩:ByteArray).extract d (d + 1)=⟨[d48 d].toArray⟩:=by
 have h:d=0∨d=1∨d=2∨d=3∨d=4∨d=5∨d=6∨d=7∨d=8∨d=9:=by omega
 rcases h with rfl|rfl|rfl|rfl|rfl|rfl|rfl|rfl|rfl|rfl <;> decide +kernel
section
variable {P:Program} {ops:Array Oper} {a:Act} {rest:List Oper} {C:World→Prop} {K:Act→Prop}
variable {dst:Option Tmp} {ty0:TypeId} {pos:String} {after:Array Edge} {gd:Option (Nat × Bool)}
theorem qdigit {t:TypeId} [hT:StrT P t] {x lo hi:Operand} {d:Nat} {u v:Int} (hx:a.eval x = .string ⟨#[48,49,50,51,52,53,54,55,56,57]⟩) (hlo:a.eval lo = .int .i64 u) (hu:u=(d:Int)) (hhi:a.eval hi = .int .i64 v) (hv:v=((d + 1:Nat):Int)) (hd:d≤9)
  (h:wpQuiet P ops C K (⟨dst,.move (.const (.string ⟨[d48 d].toArray⟩)),ty0,pos,after,gd⟩ :: rest) a):wpQuiet P ops C K (⟨dst,.slice t x (some lo) (some hi) none,ty0,pos,after,gd⟩ :: rest) a:=
 qssls hx hlo hu hhi hv (by omega) (by show d + 1≤10;omega) (by rw [d48_ext hd];exact h)
end
theorem rev_step {l:List Nat} {m x:Nat} (h:l[m]? = some x):((l.drop (m + 1)).map d48).reverse++[d48 x]=((l.drop m).map d48).reverse:=by
 obtain ⟨hm,he⟩:=List.getElem?_eq_some_iff.1 h
 rw [List.drop_eq_getElem_cons hm,he,List.map_cons,List.reverse_cons]
set_option maxHeartbeats 8000000 in
theorem toldd_any (p:Option Addr) (cap:Nat) (n:Nat) (w:World) (hS:Sl w p ((dig n).flatMap dgC)) (hl:(dig n).length≤1048576) :
  Calls Tryz.prog 96 #[.slice p (dig n).length cap] w fun e w'=>e = .returned (.string ⟨(txt n).toArray⟩)∧RowKit.Below w.heap.size w w':=by
 have HM:=Lib.hid (Mem.start w)
 by_cases h0:n=0
 ·subst h0
  have HT:=Lib.hid (show txt 0=[48] by rw [txt_small (by omega)];rfl)
  rw [dig_zero]
  go_enter Tryz.func96,Tryz.ntmps96
  go_wp2_with fail
  go_ret
  exact ⟨by rw [HT.out];rfl,HM.out.below⟩
 ·have HT:=Lib.hid (txt_dig h0)
  have HN:=Lib.hid (fun x hx=>dig_nine n x hx)
  have hpos:=dig_len_pos h0
  have hne:((dig n).length:Int)≠0:=by omega
  have q1:(((dig n).length:Int) == 0)=false:=beq_false_of_ne hne
  have HS:=Lib.hid hS
  generalize dig n=l at *
  generalize txt n=T at *
  clear h0 hS hne
  go_enter Tryz.func96,Tryz.ntmps96
  go_wp2_with fail
  go_loopw [3,4] (fun sv iv wr=>∃ (m:Nat) (v:Int),sv = .string ⟨((l.drop m).map d48).reverse.toArray⟩∧iv = .int .i64 v∧v=(m:Int) - 1∧m≤l.length∧Hid (Mem w wr [])) (fun _ iv _=>(intOf iv + 1).toNat)
  case atStart=>exact ⟨l.length,_,by rw [List.drop_length];rfl,rfl,by omega,Nat.le_refl _,HM⟩
  case round=>
   clear HM
   obtain ⟨m,v,rfl,rfl,hv,hm,HM⟩:=hrel
   obtain _|m:=m
   ·have q2:decide ((0:Int)≤v)=false:=decide_eq_false (by omega)
    go_wp2_with fail
    go_ret
    exact ⟨by rw [HT.out];rfl,HM.out.below⟩
   ·have q2:decide ((0:Int)≤v)=true:=decide_eq_true (by omega)
    have hlt:m < l.length:=by omega
    obtain ⟨b,rfl,hb⟩:=HS.out.some_at dgC_len (by decide) hlt
    obtain ⟨x,hx⟩:∃ x,l[m]? = some x:=⟨_,List.getElem?_eq_getElem hlt⟩
    have hx9:=HN.out x (List.mem_of_getElem? hx)
    have HE:=Lib.hid (show Cells w (b.add (m * 1)) [.int .i64 (x:Int)] from hb.elem dgC 1 dgC_len hx)
    have HX:=Lib.hid (rev_step hx)
    have hsl:((l.drop (m + 1)).map d48).reverse.length≤l.length:=by simp
    have hl2:=hl
    obtain rfl:v=(m:Int):=by omega
    clear hx hb hv
    generalize ((l.drop (m + 1)).map d48).reverse=s at *
    go_wp2_with fail
    refine wp_region_mem (by kernel_rfl) (by kernel_rfl) HM.out ?_;intro hNE;(repeat (any_goals (first|((with_reducible refine skip_q ?_ ?_ ?_);(exact rfl);(rotate_left;(exact (hNE.elim fun p=>⟨p.W,p,rfl⟩))))|refine mQ ?_|((with_reducible refine qat 18 ?_);(refine qixa rfl rfl rfl hlt ?_))|((with_reducible refine qat 19 ?_);(refine qdx0 HE.out rfl rfl ?_))|((with_reducible refine qat 22 ?_);(refine qixa rfl rfl rfl hlt ?_))|((with_reducible refine qat 23 ?_);(refine qdx0 HE.out rfl rfl ?_))|((with_reducible refine qat 25 ?_);(refine qdigit rfl rfl rfl rfl (by omega) hx9 ?_))|((with_reducible refine qat 26 ?_);(refine qtcat rfl rfl (by simp;omega) ?_))|go_big_quiet_step (fail)|quiet_step (fail))));clear hNE;refine wpQuiet_nil ?_;intro W1 HM1;replace HM:=Lib.hid HM1;clear HM1
    go_wp2_with fail
    rw [HX.out]
    go_roundw
    case rel=>exact ⟨m,_,rfl,rfl,by omega,by omega,HM⟩
    case measure=>first|(simp [intOf];done)|(simp [intOf];omega)
theorem rep_pad {t:Tx} {j k:Nat} (h:¬ j + t.length≤k) (h2:j=0∨j + t.length≤k + 1):List.replicate j 48++t=padT t k:=by
 by_cases hp:t.length≤k
 ·rw [padT_yes hp,show k + 1 - t.length=j by omega]
 ·rw [padT_no hp,show j=0 by omega];rfl
set_option maxHeartbeats 8000000 in
theorem rDec_core (neg:Bool) (hi lo:Nat) (sc:Int) (k:Nat) (t:Tx) (D:List Nat) (F:Tx) (w:World) (hk1:sc≤k) (hk2:(k:Int)≤sc) (hk3:k≤18) (hl1:0 < t.length) (hl2:t.length≤35)
  (HO:Hid (∀ W,Calls Tryz.prog 97 #[.agg #[.int .u64 hi,.int .u64 lo]] W fun e w'=>∃ p c,e = .returned (.slice p D.length c)∧Mem W w' [.row p c 3 1 D.length (D.flatMap dgC)]))
  (HT:Hid (∀ W p c,Sl W p (D.flatMap dgC)→Calls Tryz.prog 96 #[.slice p D.length c] W fun e w'=>e = .returned (.string ⟨t.toArray⟩)∧RowKit.Below W.heap.size W w'))
  (hF:F=(if neg then [45] else [])++dotT (padT t k) k) :
  Calls Tryz.prog 42 #[.agg #[.bool neg,.int .u64 hi,.int .u64 lo,.int .i64 sc]] w fun e w'=>e = .returned (.string ⟨F.toArray⟩)∧RowKit.Below w.heap.size w w':=by
 have HM:=Lib.hid (Mem.start w)
 have HF:=Lib.hid hF
 clear hF
 go_enter Tryz.func42,Tryz.ntmps42
 go_wp2_with (first|refine mP ?_|((with_reducible refine iat 1 ?_);refine mB ?_;clear HM;intro g1 W1 HM)|(go_at_call 97;(with_reducible refine (HO.out _).mono ?_);rintro e W2 ⟨p1,c1,rfl,hM2⟩;have HM1:=Lib.hid (HM.out.comp2 hM2);clear HM hM2;(try clear W1);rename World=>W1;have HM:=Lib.hid HM1.out;clear HM1;simp only [List.cons_append,List.nil_append] at HM)|(go_at_call 96;(with_reducible refine cB HM (HT.out _ _ _ (row_sl (HM.out.get (k:=0) rfl))) ?_);clear HM;intro W1 HM))
 go_loopw [3] (fun sv wr=>∃ (j:Nat),sv = .string ⟨(List.replicate j 48++t).toArray⟩∧(j=0∨j + t.length≤k + 1)∧Hid (Mem w wr [.box g1 26 [.bool neg,.int .u64 hi,.int .u64 lo,.int .i64 sc]])) (fun sv _=>match sv with | .string s=>k + 1 - s.size|_=>0)
 case atStart=>exact ⟨0,rfl,Or.inl rfl,Lib.hid (HM.out.sub msub)⟩
 case round=>
  clear HM
  obtain ⟨j,rfl,hj,HM⟩:=hrel
  obtain ⟨s,hs⟩:∃ s,List.replicate j 48++t=s:=⟨_,rfl⟩
  have hsl0:s.length=j + t.length:=by rw [← hs,List.length_append,List.length_replicate]
  have hsl1:s.length≤j + t.length:=by omega
  have hsl2:j + t.length≤s.length:=by omega
  clear hsl0
  have HS:=Lib.hid hs
  rw [hs]
  by_cases hc:j + t.length≤k
  ·have d1:decide ((s.length:Int)≤sc)=true:=decide_eq_true (by omega)
   have hN:=Lib.hid (show 48 :: s=List.replicate (j + 1) 48++t by rw [← HS.out,List.replicate_succ];rfl)
   clear hs
   go_wp2_with (first|refine mP ?_|(refine mB ?_;clear HM;intro g1 W1 HM)|((with_reducible refine iat 14 ?_);(refine tcat rfl rfl (by simp;omega) ?_)))
   go_roundw
   case rel=>exact ⟨j + 1,by rw [← hN.out];rfl,Or.inr (by omega),HM⟩
   case measure=>simp [ByteArray.size];omega
  ·have d1:decide ((s.length:Int)≤sc)=false:=decide_eq_false (by omega)
   have HP:=Lib.hid (show F=(if neg then [45] else [])++dotT s k by rw [HF.out,← rep_pad (t:=t) hc hj,hs])
   clear hs HF
   by_cases hz:k=0
   ·have HD:=Lib.hid (show dotT s k=s by rw [hz];rfl)
    have d2:decide ((0:Int) < sc)=false:=decide_eq_false (by omega)
    clear hz
    cases neg
    ·have HG:=Lib.hid (show F=dotT s k from HP.out)
     clear HP
     go_wp2_with (first|refine mP ?_|(refine mB ?_;clear HM;intro g1 W1 HM))
     go_ret
     exact ⟨by rw [HG.out,HD.out];rfl,HM.out.below⟩
    ·have HG:=Lib.hid (show F=45 :: dotT s k from HP.out)
     clear HP
     go_wp2_with (first|refine mP ?_|(refine mB ?_;clear HM;intro g1 W1 HM)|((with_reducible refine iat 37 ?_);(refine tcat rfl rfl (by simp;omega) ?_)))
     go_ret
     exact ⟨by rw [HG.out,HD.out];rfl,HM.out.below⟩
   ·have HD:=Lib.hid ((dotT_yes (s:=s) (k:=k) (by omega)).trans (dot_app _ _).symm)
    have d2:decide ((0:Int) < sc)=true:=decide_eq_true (by omega)
    cases neg
    ·have HG:=Lib.hid (show F=dotT s k from HP.out)
     clear HP
     go_wp2_with (first|refine mP ?_|(refine mB ?_;clear HM;intro g1 W1 HM))
     refine wp_region_mem (by kernel_rfl) (by kernel_rfl) HM.out ?_;intro hNE;(repeat (any_goals (first|((with_reducible refine skip_q ?_ ?_ ?_);(exact rfl);(rotate_left;(exact (hNE.elim fun p=>⟨p.W,p,rfl⟩))))|refine mQ ?_|((with_reducible refine qat 24 ?_);(refine qtto rfl rfl (j:=s.length - k) (by omega) (by omega) ?_))|((with_reducible refine qat 25 ?_);(refine qtcat rfl rfl (by simp;omega) ?_))|((with_reducible refine qat 32 ?_);(refine qtfrom rfl rfl (i:=s.length - k) (by omega) (by omega) ?_))|((with_reducible refine qat 33 ?_);(refine qtcat rfl rfl (by simp;omega) ?_))|go_big_quiet_step (fail)|quiet_step (fail))));clear hNE;refine wpQuiet_nil ?_;intro W1 HM1;replace HM:=Lib.hid HM1;clear HM1
     go_wp2_with (first|refine mP ?_|(refine mB ?_;clear HM;intro g1 W1 HM))
     go_ret
     exact ⟨by rw [HG.out,HD.out];rfl,HM.out.below⟩
    ·have HG:=Lib.hid (show F=45 :: dotT s k from HP.out)
     clear HP
     go_wp2_with (first|refine mP ?_|(refine mB ?_;clear HM;intro g1 W1 HM))
     refine wp_region_mem (by kernel_rfl) (by kernel_rfl) HM.out ?_;intro hNE;(repeat (any_goals (first|((with_reducible refine skip_q ?_ ?_ ?_);(exact rfl);(rotate_left;(exact (hNE.elim fun p=>⟨p.W,p,rfl⟩))))|refine mQ ?_|((with_reducible refine qat 24 ?_);(refine qtto rfl rfl (j:=s.length - k) (by omega) (by omega) ?_))|((with_reducible refine qat 25 ?_);(refine qtcat rfl rfl (by simp;omega) ?_))|((with_reducible refine qat 32 ?_);(refine qtfrom rfl rfl (i:=s.length - k) (by omega) (by omega) ?_))|((with_reducible refine qat 33 ?_);(refine qtcat rfl rfl (by simp;omega) ?_))|go_big_quiet_step (fail)|quiet_step (fail))));clear hNE;refine wpQuiet_nil ?_;intro W1 HM1;replace HM:=Lib.hid HM1;clear HM1
     go_wp2_with (first|refine mP ?_|(refine mB ?_;clear HM;intro g1 W1 HM)|((with_reducible refine iat 37 ?_);(refine tcat rfl rfl (by simp;omega) ?_)))
     go_ret
     exact ⟨by rw [HG.out,HD.out];rfl,HM.out.below⟩
theorem rDec_any (d:DcD) (w:World) (hok:d.ok=true) (hwf:d.wf) :
  Calls Tryz.prog 42 #[.agg d.cs.toArray] w fun e w'=>e = .returned (.string ⟨(dcmT d.neg d.n d.sc).toArray⟩)∧RowKit.Below w.heap.size w w':=by
 have hw2:W2 d.n d.hi d.lo:=DcD.w2 hwf
 obtain ⟨h34,h0,h18,-⟩:=DcD.ok_parts hok
 have hdl:=dig_len 34 d.n h34
 exact rDec_core d.neg d.hi d.lo d.sc d.sc.toNat (txt d.n) (dig d.n) _ w (by omega) (by omega) (by omega) (txt_len d.n) (txt_bd 34 d.n h34) (Lib.hid fun W=>ofd_any d.n d.hi d.lo W hw2) (Lib.hid fun W p c hS=>toldd_any p c d.n W hS (by omega)) rfl
end Go.Proofs.YtnghlakllgkjlaaGreatDoor
