/- The reference's ToLong, To. The reference's To, make1, digits, number. -/
import Derived.Test.YtheimopjglkgjaaGreatDoorRlxA
import Derived.Test.YtheimopjglkgjaaGreatDoorSepA
namespace Go.Proofs.YtheimopjglkgjaaGreatDoor
open Go.RowKit
set_option linter.unusedVariables false
set_option linter.unusedSimpArgs false
set_option maxRecDepth 100000
theorem dgt_mono (n:Nat):∀ m,m≤n→(dgt m).length≤(dgt n).length:=by
 induction n using Nat.strongRecOn with
 | ind n ih=>
  intro m hm
  by_cases h0:m=0
  ·subst h0;rw [dgt_zero];exact Nat.zero_le _
  ·rw [dgt_pos h0,dgt_pos (n:=n) (by omega),List.length_cons,List.length_cons]
   have:=ih (n / 10) (by omega) (m / 10) (by omega)
   omega
def fitsL (n:Nat):Bool:=decide (n / 2 ^ 256=0)
theorem fitsL_len (n:Nat):(((dgt (n / 2 ^ 256)).length:Int) == 0)=fitsL n:=by
 unfold fitsL
 generalize n / 2 ^ 256=m
 by_cases h:m=0
 ·subst h;rw [dgt_zero];rfl
 ·rw [dgt_pos h,List.length_cons,decide_eq_false h]
  simp;omega
def wV (n k:Nat):List Value:=[.int .u64 (wd n k 0:Nat),.int .u64 (wd n k 1:Nat),.int .u64 (wd n k 2:Nat),.int .u64 (wd n k 3:Nat)]
theorem shl_le {b r:Nat} (hb:b≤1) (hr:r < 64):b * 2 ^ r < 18446744073709551616:=by
 have h1:2 ^ r≤2 ^ 63:=Nat.pow_le_pow_right (by omega) (by omega)
 have h2:b * 2 ^ r≤1 * 2 ^ r:=Nat.mul_le_mul_right _ hb
 omega
theorem word_step {n k q r b:Nat} (hk:k=64 * q + r) (hr:r < 64) (hb:b=n / 2 ^ k % 2):bits .or .u64 (wd n k q:Nat) (IntKind.u64.wrap ((b:Int) * 2 ^ r))=(wd n (k + 1) q:Nat):=by
 have hb1:b≤1:=by omega
 have hs:=shl_le hb1 hr
 rw [wd_at hk hr,← hb,← bits_or (wd_lt n k q) hs]
 congr 1
 rw [show ((b:Int) * 2 ^ r)=((b * 2 ^ r:Nat):Int) by push_cast;rfl]
 generalize b * 2 ^ r=x at hs
 simp [IntKind.wrap,IntKind.signed,IntKind.bits]
 omega
theorem wV_step {n k q r b:Nat} (hk:k=64 * q + r) (hr:r < 64) (hb:b=n / 2 ^ k % 2) (hq:q < 4):wV n (k + 1)=(wV n k).set q (.int .u64 (bits .or .u64 (wd n k q:Nat) (IntKind.u64.wrap ((b:Int) * 2 ^ r)))):=by
 rw [word_step hk hr hb]
 have ho:∀ j,j≠q→wd n (k + 1) j=wd n k j:=fun j hj=>by
  rcases Nat.lt_or_gt_of_ne hj with h|h
  ·exact wd_below (by omega)
  ·exact wd_above (by omega)
 unfold wV
 match q,hq with
 | 0,_=>rw [ho 1 (by omega),ho 2 (by omega),ho 3 (by omega)];rfl
 | 1,_=>rw [ho 0 (by omega),ho 2 (by omega),ho 3 (by omega)];rfl
 | 2,_=>rw [ho 0 (by omega),ho 1 (by omega),ho 3 (by omega)];rfl
 | 3,_=>rw [ho 0 (by omega),ho 1 (by omega),ho 2 (by omega)];rfl
set_option maxHeartbeats 8000000 in
theorem rToLong (p:Option Addr) (c m n:Nat) (w:World) (hm:(dgt n).length=m) (hS:Sl w p (nV (dgt n))) (hb:m≤1000) :
  Calls Tryz.prog 188 #[.slice p m c] w fun e w'=>e = .returned (.tuple #[.agg (wV n 256).toArray,.bool (fitsL n)])∧Below w.heap.size w w':=by
 have HM:=Lib.hid (Mem.start w)
 have HLe:=Lib.hid (show ∀ k,(dgt (n / 2 ^ k)).length≤1000 from fun k=>Nat.le_trans (dgt_mono n _ (Nat.div_le_self _ _)) (by omega))
 have HF:=Lib.hid (fitsL_len n)
 have h0:m=(dgt (n / 2 ^ 0)).length:=by rw [← hm];simp
 have hS0:Sl w p (nV (dgt (n / 2 ^ 0))):=by simpa using hS
 have HS:=Lib.hid hS0
 have HH:=Lib.hid (fun (k:Nat) (p:Option Addr) (c:Nat) W h=>rHalf p c (dgt (n / 2 ^ k)).length (n / 2 ^ k) W rfl h (HLe.out k))
 have HD:=Lib.hid (show ∀ k,n / 2 ^ k / 2=n / 2 ^ (k + 1) from fun k=>by rw [Nat.div_div_eq_div_mul,Nat.pow_succ])
 obtain ⟨F,hF⟩:∃ F:Nat→List Nat,∀ k,F k=dgt (n / 2 ^ k):=⟨_,fun k=>rfl⟩
 obtain ⟨B,hB⟩:∃ B:Nat→Nat,∀ k,B k=n / 2 ^ k % 2:=⟨_,fun k=>rfl⟩
 have HB1:=Lib.hid (show ∀ k,B k≤1 from fun k=>by rw [hB];omega)
 have HB:=Lib.hid hB
 simp only [HD.out,← hF,← hB] at HH
 simp only [← hF] at HLe HS h0 HF
 have HW0:=Lib.hid (show wV n 0=[.int .u64 0,.int .u64 0,.int .u64 0,.int .u64 0] by unfold wV;simp only [wd_nil];rfl)
 clear hm hS hS0 hF hB
 subst h0
 go_enter Tryz.func188,Tryz.ntmps188
 go_wp2_with (first|refine mP ?_|(refine mS ?_;clear HM;intro W1 HM)|(refine hal (dst:=some 2) HM rfl ?_;clear HM;intro g2 W1 HM)|(refine hal (dst:=some 4) HM rfl ?_;clear HM;intro g4 W1 HM))
 go_loopw [5,0] (fun iv dv wr=>∃ (k:Nat) (p:Option Addr) (c:Nat),iv = .int .i64 k∧dv = .slice p (F k).length c∧k≤256∧Hid (Sl wr p (nV (F k)))∧Hid (Mem w wr [.box g4 133 (wV n k),.box g2 133 [.int .u64 0,.int .u64 0,.int .u64 0,.int .u64 0]])) (fun iv _ _=>256 - (intOf iv).toNat)
 case atStart=>exact ⟨0,p,c,rfl,rfl,by omega,Lib.hid (HM.out.sl HS.out),by rw [HW0.out];exact HM⟩
 case round=>
  clear HM HS
  obtain ⟨k,p,c,rfl,rfl,hk,HS,HM⟩:=hrel
  by_cases hlt:k < 256
  ·have d1:decide ((k:Int) < 256)=true:=decide_eq_true (by omega)
   have d1' : decide (k < 256)=true:=decide_eq_true hlt
   obtain ⟨r,hr⟩:∃ r,k % 64=r:=⟨_,rfl⟩
   have hr64:r < 64:=by omega
   have hb1:=HB1.out k
   have hq:k / 64=0∨k / 64=1∨k / 64=2∨k / 64=3:=by omega
   have hrem:(k:Int) % 64=(r:Int):=by omega
   rcases hq with hq|hq|hq|hq
   all_goals
    have HST:=Lib.hid (wV_step (n:=n) (show k=64 * (k / 64) + r by omega) hr64 (HB.out k) (by omega))
    rw [hq] at HST
    go_wp2_with (first|(go_at_call 202;(with_reducible refine (HH.out k _ _ _ HS.out).mono ?_);rintro e W2 ⟨p2,c2,rfl,hM2⟩;have HS2:=Lib.hid (row_sl (hM2.get (k:=0) rfl));have HM1:=Lib.hid (HM.out.comp2 hM2);clear HM HS hM2;rename World=>W1;have HM:=HM1;have HS:=HS2;clear HM1 HS2))
    have hdiv:(k:Int) / 64=((k / 64:Nat):Int):=by push_cast;rfl
    rw [hq] at hdiv
    simp only [List.cons_append,List.nil_append] at HM
    unfold wV at HM
    refine wp_region_mem3 13 [(0,0),(0,1),(0,2),(0,3),(0,4),(0,5),(0,6),(0,7),(0,8),(0,9),(0,10),(0,11),(0,12),(3,13)] (by kernel_rfl) (by kernel_rfl) rfl (by kernel_rfl) (fun _ _ _ _ _ h=>h) HM.out _ (.cons_cons _ (.cons_cons _ (List.nil_sublist _))) ?_
    intro hNE W1 HM1;replace HM:=Lib.hid HM1;clear HM1
    have HS0:=Lib.hid (HM.out.sub (.cons_cons _ (.cons_cons _ (List.nil_sublist _))))
    simp only [wpSteps3,List.getElem?_cons_succ,List.getElem?_cons_zero]
    (repeat (first|((with_reducible refine wpQuiet_nil ?_);(try dsimp only))|refine mQ ?_|go_big_quiet_step (fail)|quiet_step (fail)))
    go_wp2_with (first|(refine mS ?_;clear HM;intro W1 HM))
    refine ⟨trivial,?_⟩
    (try dsimp only)
    clear HS0 hNE
    go_wp2_with fail
    go_roundw
    case rel=>exact ⟨k + 1,p2,c2,by go_num,rfl,hlt,Lib.hid (row_sl (HM.out.get (k:=0) rfl)),Lib.hid (by rw [HST.out];exact HM.out.sub (.cons _ (.refl _)))⟩
    case measure=>simp [intOf];omega
  ·obtain rfl:k=256:=by omega
   go_wp2_with (first|refine mP ?_|(refine mS ?_;clear HM;intro W1 HM)|(refine hal HM rfl ?_;clear HM;intro g1 W1 HM))
   rw [HF.out]
   exact bodyPost_ret (res_box_tmp rfl HM.out 1 rfl rfl rfl rfl) rfl ⟨rfl,HM.out.below⟩
theorem wV_small {n:Nat} (h:n < 10 ^ 34):wV n 256=[.int .u64 (n % 18446744073709551616:Nat),.int .u64 (n / 18446744073709551616:Nat),.int .u64 0,.int .u64 0]∧fitsL n=true:=by
 have h2:(10:Nat) ^ 34=10000000000000000000000000000000000:=by decide
 rw [h2] at h
 unfold wV fitsL
 rw [wd_full (by omega),wd_full (by omega),wd_full (by omega),wd_full (by omega)]
 have e0:n / 2 ^ (64 * 0) % 18446744073709551616=n % 18446744073709551616:=by simp
 have e1:n / 2 ^ (64 * 1) % 18446744073709551616=n / 18446744073709551616:=by
  rw [show (2:Nat) ^ (64 * 1)=18446744073709551616 by decide];omega
 have e2:n / 2 ^ (64 * 2)=0:=Nat.div_eq_of_lt (Nat.lt_of_lt_of_le h (by decide))
 have e3:n / 2 ^ (64 * 3)=0:=Nat.div_eq_of_lt (Nat.lt_of_lt_of_le h (by decide))
 have e4:n / 2 ^ 256=0:=Nat.div_eq_of_lt (Nat.lt_of_lt_of_le h (by decide))
 rw [e0,e1,e2,e3,e4]
 exact ⟨rfl,rfl⟩
set_option maxHeartbeats 4000000 in
theorem rTo (p:Option Addr) (c m n:Nat) (w:World) (hm:(dgt n).length=m) (hS:Sl w p (nV (dgt n))) (hb:m≤34) :
  Calls Tryz.prog 167 #[.slice p m c] w fun e w'=>e = .returned (.tuple #[.agg #[.int .u64 (n / 18446744073709551616:Nat),.int .u64 (n % 18446744073709551616:Nat)],.bool true])∧Below w.heap.size w w':=by
 have HM:=Lib.hid (Mem.start w)
 obtain ⟨h1,h2⟩:=wV_small (lt_dgt (k:=34) (by rw [hm];exact hb))
 have HL:=Lib.hid (fun W h=>rToLong p c m n W hm h (by omega))
 simp only [h1,h2] at HL
 obtain ⟨hi,hhi⟩:∃ x,n / 18446744073709551616=x:=⟨_,rfl⟩
 obtain ⟨lo,hlo⟩:∃ x,n % 18446744073709551616=x:=⟨_,rfl⟩
 rw [hhi,hlo] at HL ⊢
 have HS:=Lib.hid hS
 clear h1 h2 hhi hlo hm hS
 go_enter Tryz.func167,Tryz.ntmps167
 go_wp2_with (first|(go_at_call 188;(with_reducible refine cB HM (HL.out _ (HM.out.sl HS.out)) ?_);clear HM;intro W1 HM)|((with_reducible refine skip_op ?_ ?_);exact rfl)|refine mP ?_|(refine mS ?_;clear HM;intro W1 HM)|(refine hal (dst:=some 2) HM rfl ?_;clear HM;intro g2 W1 HM)|(refine hal (dst:=some 4) HM rfl ?_;clear HM;intro g4 W1 HM))
 refine wp_region_steps2 [(true,0),(true,1),(true,2),(true,3),(true,4),(true,5),(true,6),(true,7),(true,8),(true,9),(true,10),(true,11),(true,12),(true,13),(true,14),(true,15),(false,16),(true,17)] (by kernel_rfl) (by kernel_rfl) rfl (by kernel_rfl) (fun _ _ _ _ _ h=>h) HM.out _ (.cons_cons _ (.cons _ .slnil)) ?_
 intro hNE W1 HM1;replace HM:=Lib.hid HM1;clear HM1
 have HS0:=Lib.hid (HM.out.sub (.cons_cons _ (.cons _ .slnil)))
 simp only [wpSteps,List.getElem?_cons_succ,List.getElem?_cons_zero]
 (repeat (first|((with_reducible refine skip_q ?_ ?_ ?_);(exact rfl);(rotate_left;(exact (hNE.elim fun p=>⟨p.W,p,rfl⟩))))|((with_reducible refine wpQuiet_nil ?_);(try dsimp only))|refine mQ ?_|go_big_quiet_step (fail)|quiet_step (fail)))
 go_wp2_with (first|(refine mS ?_;clear HM;intro W1 HM))
 refine ⟨⟨⟨_,HM.out.sub msub⟩,rfl⟩,?_⟩
 (try dsimp only)
 (repeat (first|((with_reducible refine wpQuiet_nil ?_);(try dsimp only))|go_big_quiet_step (fail)|quiet_step (fail)))
 clear HS0 hNE
 go_wp2_with fail
 exact bodyPost_ret (res_box_tmp rfl HM.out 1 rfl rfl rfl rfl) rfl ⟨rfl,HM.out.below⟩
set_option maxHeartbeats 4000000 in
theorem rMake (p:Option Addr) (c m n s:Nat) (w:World) (hm:(dgt n).length=m) (hS:Sl w p (nV (dgt n))) (hb:m≤34) (hs:s≤1000) (ht:s=0∨n % 10≠0) :
  Calls Tryz.prog 139 #[.bool false,.slice p m c,.int .i64 s] w fun e w'=>e = .returned (.agg (decCs n s).toArray)∧Below w.heap.size w w':=by
 have HM:=Lib.hid (Mem.start w)
 by_cases h0:n=0
 ·subst h0
  obtain rfl:s=0:=by omega
  have hm0:m=0:=by rw [← hm,dgt_zero];rfl
  subst hm0
  clear hm hS ht
  go_enter Tryz.func139,Tryz.ntmps139
  go_wp2_with (first|((with_reducible refine skip_op ?_ ?_);exact rfl)|refine mP ?_|(refine mS ?_;clear HM;intro W1 HM)|(refine hal (dst:=some 6) HM rfl ?_;clear HM;intro g6 W1 HM)|(refine hal HM rfl ?_;clear HM;intro g1 W1 HM))
  exact bodyPost_ret (res_box rfl HM.out 0 rfl rfl rfl) rfl ⟨rfl,HM.out.below⟩
 ·have HTo:=Lib.hid (fun W h=>rTo p c m n W hm h hb)
  have hm1:0 < m:=by rw [← hm,dgt_pos h0,List.length_cons];omega
  have d1:((m:Int) == 0)=false:=by simpa using (show ¬ ((m:Int)=0) by omega)
  obtain ⟨b,rfl,hbC⟩:=hS.some (by intro e;have:=congrArg List.length e;rw [nV_len,hm] at this;simp at this;omega)
  have HX:=Lib.hid (hbC 0 (.int .i64 (n % 10:Nat)) (nV_at (by rw [dgt_pos h0];rfl)))
  have HS:=Lib.hid hS
  have d0:0 < s→(((n % 10:Nat):Int) == 0)=false:=fun h=>by
   have h2:n % 10≠0:=by omega
   generalize n % 10=q at h2 ⊢
   simpa using (show ¬ ((q:Int)=0) by omega)
  have HV:=Lib.hid (show decCs n s=[.bool false,.int .u64 (n / 18446744073709551616:Nat),.int .u64 (n % 18446744073709551616:Nat),.int .i64 s] from rfl)
  rw [HV.out]
  obtain ⟨hi,hhi⟩:∃ x,n / 18446744073709551616=x:=⟨_,rfl⟩
  obtain ⟨lo,hlo⟩:∃ x,n % 18446744073709551616=x:=⟨_,rfl⟩
  rw [hhi,hlo] at HTo ⊢
  generalize n % 10=q at HX d0
  clear hm hS ht hbC HV hhi hlo h0
  rcases Nat.eq_zero_or_pos s with hs0|hs0
  ·subst hs0
   clear d0
   go_enter Tryz.func139,Tryz.ntmps139
   go_wp2_with (first|((with_reducible refine skip_op ?_ ?_);exact rfl)|refine mP ?_|(refine mS ?_;clear HM;intro W1 HM)|(refine hal (dst:=some 6) HM rfl ?_;clear HM;intro g6 W1 HM)|(refine hal (dst:=some 7) HM rfl ?_;clear HM;intro g7 W1 HM))
   go_loopw [2,1] (fun iv cv wr=>iv = .int .i64 0∧cv = .slice (some b) m c∧Hid (Mem w wr [.box g6 34 [.bool false,.int .u64 0,.int .u64 0,.int .i64 0]])) (fun iv _ _=>0)
   case atStart=>exact ⟨rfl,rfl,HM⟩
   case round=>
    clear HM
    obtain ⟨rfl,rfl,HM⟩:=hrel
    go_wp2_with (first|(go_at_call 167;(with_reducible refine cB HM (HTo.out _ (HM.out.sl HS.out)) ?_);clear HM;intro W1 HM)|((with_reducible refine skip_op ?_ ?_);exact rfl)|refine mP ?_|(refine mS ?_;clear HM;intro W1 HM)|(refine hal (dst:=some 6) HM rfl ?_;clear HM;intro g6 W1 HM)|(refine hal (dst:=some 7) HM rfl ?_;clear HM;intro g7 W1 HM))
    exact bodyPost_ret (res_box rfl HM.out 1 rfl rfl rfl) rfl ⟨rfl,HM.out.below⟩
  ·have d2:=d0 hs0
   have d3:decide ((0:Int) < s)=true:=decide_eq_true (by omega)
   clear d0
   go_enter Tryz.func139,Tryz.ntmps139
   go_wp2_with (first|((with_reducible refine skip_op ?_ ?_);exact rfl)|refine mP ?_|(refine mS ?_;clear HM;intro W1 HM)|(refine hal (dst:=some 6) HM rfl ?_;clear HM;intro g6 W1 HM)|(refine hal (dst:=some 7) HM rfl ?_;clear HM;intro g7 W1 HM))
   go_loopw [2,1] (fun iv cv wr=>iv = .int .i64 s∧cv = .slice (some b) m c∧Hid (Mem w wr [.box g6 34 [.bool false,.int .u64 0,.int .u64 0,.int .i64 0]])) (fun iv _ _=>0)
   case atStart=>exact ⟨rfl,rfl,HM⟩
   case round=>
    clear HM
    obtain ⟨rfl,rfl,HM⟩:=hrel
    go_wp2_with (first|((with_reducible refine iat 17 ?_);(refine ixa rfl rfl (i:=0) rfl hm1 ?_))|((with_reducible refine iat 18 ?_);(refine ldx1 (HM.out.old HX.out) (by first|rfl|(rw [Nat.mul_one];rfl)) ?_))|(go_at_call 167;(with_reducible refine cB HM (HTo.out _ (HM.out.sl HS.out)) ?_);clear HM;intro W1 HM)|((with_reducible refine skip_op ?_ ?_);exact rfl)|refine mP ?_|(refine mS ?_;clear HM;intro W1 HM)|(refine hal (dst:=some 6) HM rfl ?_;clear HM;intro g6 W1 HM)|(refine hal (dst:=some 7) HM rfl ?_;clear HM;intro g7 W1 HM))
    exact bodyPost_ret (res_box rfl HM.out 1 rfl rfl rfl) rfl ⟨rfl,HM.out.below⟩
set_option maxHeartbeats 4000000 in
theorem rDigits (s:ByteArray) (w:World) (hd:∀ b ∈ s.data.toList,dg b=true) (h0:s.data.toList≠[]) (hs:s.size≤1000) :
  Calls Tryz.prog 137 #[.string s] w fun e w'=>e = .returned (.bool true)∧w=w':=by
 have hlen:s.data.toList.length=s.size:=by simp
 have HB:=Lib.hid (show ∀ i,i < s.size→∃ b,s.data.toList[i]? = some b∧48≤b.toNat∧b.toNat≤57 from fun i hi=>by
  obtain ⟨b,hb⟩:∃ b,s.data.toList[i]? = some b:=⟨_,List.getElem?_eq_getElem (by rw [hlen];exact hi)⟩
  exact ⟨b,hb,(Cal.digB_iff b).1 (hd b (List.mem_of_getElem? hb))⟩)
 obtain ⟨hne1,hne2,hpos⟩:=str_full h0
 clear hd h0 hlen
 go_enter Tryz.func137,Tryz.ntmps137
 go_wp2_with fail
 go_loopw [3] (fun iv wr=>∃ k:Nat,iv = .int .i64 k∧k≤s.size∧wr=w) (fun iv _=>s.size - (intOf iv).toNat)
 case atStart=>exact ⟨0,rfl,Nat.zero_le _,rfl⟩
 case round=>
  obtain ⟨k,rfl,hk,rfl⟩:=hrel
  by_cases hlt:k < s.size
  ·obtain ⟨b,hb,hb3,hb4⟩:=HB.out k hlt
   have HBi:=Lib.hid hb
   have hlt3:=Lib.hid (show k + 1≤s.size from hlt)
   have d1:decide ((k:Int) < s.size)=true:=decide_eq_true (by omega)
   have d2:decide ((b.toNat:Int) < 48)=false:=decide_eq_false (by omega)
   have d3:decide ((57:Int) < b.toNat)=false:=decide_eq_false (by omega)
   clear hb
   go_wp2_with (first|((with_reducible refine iat 12 ?_);(refine six rfl rfl rfl HBi.out ?_))|((with_reducible refine iat 17 ?_);(refine six rfl rfl rfl HBi.out ?_)))
   go_roundw
   case rel=>exact ⟨k + 1,by go_num,hlt3.out,by trivial⟩
   case measure=>have:=hlt3.out;simp [intOf];omega
  ·have d1:decide ((k:Int) < s.size)=false:=decide_eq_false (by omega)
   go_wp2_with fail
   go_ret
   exact ⟨rfl,rfl⟩
set_option maxHeartbeats 4000000 in
theorem rNumber (s:ByteArray) (l:List UInt8) (w:World) (hsl:s.data.toList=l) (hd:∀ b ∈ l,dg b=true) (hs:s.size≤1000) :
  Calls Tryz.prog 138 #[.string s] w fun e w'=>∃ (p2:Option Addr) (c2:Nat),e = .returned (.slice p2 (dgt (dval l)).length c2)∧Mem w w' [.row p2 c2 3 1 (dgt (dval l)).length (nV (dgt (dval l)))]:=by
 have HM:=Lib.hid ((Mem.start w).row0 3 1)
 have hlen:l.length=s.size:=by rw [← hsl];simp
 have HL:=Lib.hid hlen
 have HB:=Lib.hid (show ∀ i,i < s.size→∃ b,s.data.toList[i]? = some b∧l[i]? = some b∧48≤b.toNat∧b.toNat≤57 from fun i hi=>by
  obtain ⟨b,hb⟩:∃ b,l[i]? = some b:=⟨_,List.getElem?_eq_getElem (by rw [hlen];exact hi)⟩
  exact ⟨b,by rw [hsl];exact hb,hb,(Cal.digB_iff b).1 (hd b (List.mem_of_getElem? hb))⟩)
 have HC:=Lib.hid (cut_dL hd)
 obtain ⟨h2,hh2⟩:∃ h2,dgt (dval l)=h2:=⟨_,rfl⟩
 rw [hh2] at HC ⊢
 clear hsl hd hlen hh2
 go_enter Tryz.func138,Tryz.ntmps138
 go_wp2_with fail
 go_loopw [4,3] (fun iv dv wr=>∃ (k:Nat) (p:Option Addr) (c:Nat),iv = .int .i64 ((k:Int) - 1)∧k≤s.size∧dv = .slice p (dL (l.drop k)).length c∧Hid (Mem w wr [.row p c 3 1 (dL (l.drop k)).length (nV (dL (l.drop k)))])) (fun iv _ _=>(intOf iv + 1).toNat)
 case atStart=>
  have h0:l.drop s.size=[]:=List.drop_of_length_le (by rw [HL.out];exact Nat.le_refl _)
  refine ⟨s.size,none,0,rfl,Nat.le_refl _,by rw [h0];rfl,by rw [h0];exact HM⟩
 case round=>
  clear HM
  obtain ⟨k,p,c,rfl,hk,rfl,HM⟩:=hrel
  have hdl:(dL (l.drop k)).length=s.size - k:=by rw [dL_len,List.length_drop,HL.out]
  rcases Nat.eq_zero_or_pos k with rfl|hpos
  ·rw [List.drop_zero] at *
   have hnc:=(row_cap (HM.out.get (k:=0) rfl)).1
   have HCt:=Lib.hid (fun W h=>rCut p c (dL l).length (dL l) W rfl h hnc (by omega))
   have hml:h2.length≤(dL l).length:=by rw [← HC.out];exact cutL_le _
   have HT:=Lib.hid (show (nV (dL l)).take (h2.length * 1)=nV h2 by rw [nV_take,Nat.mul_one,← HC.out,← cutL_take])
   rw [HC.out] at HCt
   clear hdl
   go_wp2_with (first|(go_at_call 166;(with_reducible refine (HCt.out _ (row_sl (HM.out.get (k:=0) rfl))).mono ?_);rintro e W1 ⟨rfl,hb⟩;replace HM:=Lib.hid (HM.out.next hb);clear hb))
   go_ret
   have h3:=HM.out.trunc (k:=0) rfl hml
   rw [HT.out] at h3
   exact ⟨_,_,rfl,h3⟩
  ·obtain ⟨j,rfl⟩:∃ j,k=j + 1:=⟨k - 1,by omega⟩
   obtain ⟨b,hb,hb2,hb3,hb4⟩:=HB.out j (by omega)
   have HBi:=Lib.hid hb
   have HD:=Lib.hid (show dL (l.drop j)=dL (l.drop (j + 1))++[dv b] by rw [drop_cons hb2,dL_cons])
   have hcast:((j + 1:Nat):Int) - 1=(j:Int):=by omega
   have hdv:(b.toNat:Int) - 48=(dv b:Nat):=by unfold dv;omega
   have hdv2:dv b≤9:=by unfold dv;omega
   obtain ⟨T,hT⟩:∃ T,dL (l.drop (j + 1))=T:=⟨_,rfl⟩
   rw [hT] at HD HM hdl ⊢
   have hTl:T.length≤1000:=by omega
   rw [hcast]
   clear hb hb2 hT
   go_wp2_with (first|((with_reducible refine iat 15 ?_);(refine six rfl rfl (i:=j) rfl HBi.out ?_))|(refine apb rfl HM.out 1 0 rfl rfl rfl rfl rfl rfl (by omega) (by omega) (by omega) ?_;intro p1 cap1 W1 HM1;replace HM:=Lib.hid HM1;clear HM1;simp only [List.set] at HM)|((with_reducible refine ibuildSlice ?_);refine bs1c (v:=.int _ _) rfl HM.out rfl rfl ?_;intro g1 W1 HM1;replace HM:=Lib.hid HM1;clear HM1))
   go_roundw
   case rel=>
    have hnd:(dL (l.drop j)).length=T.length + 1:=by rw [HD.out,List.length_append];rfl
    have hnv:(nV T).take (T.length * 1)++[.int .i64 (dv b:Nat)]=nV (dL (l.drop j)):=by
     rw [HD.out,List.take_of_length_le (by rw [nV_len];omega)];unfold nV;rw [List.map_append];rfl
    refine ⟨j,p1,cap1,rfl,by omega,by rw [hnd],Lib.hid ?_⟩
    have h3:=HM.out.sub (.cons _ (.refl _))
    rw [hnv] at h3
    rw [hnd]
    exact h3
   case measure=>simp [intOf]
end Go.Proofs.YtheimopjglkgjaaGreatDoor
