/- The reader goes behind all bytes of a kind: digits, letters and digits, blanks. The reader's number; dec's Parse of what it has gone behind. The reader's sign. The reader's quoted text. -/
import Derived.Test.YtnghlakllgkjlaaGreatDoorLexP
import Derived.Test.YtnghlakllgkjlaaGreatDoorTypes
import Derived.Test.YtnghlakllgkjlaaGreatDoorUnqA
import Derived.ScopeJumps
namespace Go.Proofs.YtnghlakllgkjlaaGreatDoor
open Go.RowKit
set_option linter.unusedVariables false
set_option linter.unusedSimpArgs false
set_option maxRecDepth 100000
theorem rd_at {w0 W:World} {R:Nat} {T:List Res} {s:ByteArray} {k on oc:Nat} {op:Option Addr} {bo bf:Bool} (h:Mem w0 W (.box R 265 [.string s,.int .i64 k,.slice op on oc,.bool bo,.bool bf] :: T)):(intOf ((W.cell? ⟨R,1,none⟩).getD undef)).toNat=k:=by
 have h1:=box_cells (h.get (k:=0) rfl) 1 0 (.int .i64 k) rfl
 rw [add_none] at h1
 rw [h1]
 simp [intOf]
set_option maxHeartbeats 4000000 in
theorem whileDg (w0 W:World) (R:Nat) (T:List Res) (s:ByteArray) (i on oc:Nat) (op:Option Addr) (bo bf:Bool) (HM0:Mem w0 W (.box R 265 [.string s,.int .i64 i,.slice op on oc,.bool bo,.bool bf] :: T)) (hi:i≤s.size) (hs:s.size≤1000) :
  Calls Tryz.prog 221 #[.pointer (some ⟨R,0,none⟩),.func (.func 253) #[] #[]] W fun e w'=>e = .returned (.tuple #[])∧Mem w0 w' (.box R 265 [.string s,.int .i64 (spanE dg s.data.toList i:Nat),.slice op on oc,.bool bo,.bool bf] :: T):=by
 have HM:=Lib.hid HM0
 clear HM0
 have hlen:s.data.toList.length=s.size:=by simp
 have HL:=Lib.hid hlen
 obtain ⟨r,hr⟩:∃ r,spanE dg s.data.toList i=r:=⟨_,rfl⟩
 rw [hr]
 have HR:=Lib.hid hr
 have HF:=Lib.hid (fun b W=>lDg b W)
 clear hr hlen
 go_enter Tryz.func221,Tryz.ntmps221
 go_wp2_with fail
 go_loopw [26] (fun _ wr=>∃ k:Nat,k≤s.size∧Hid (spanE dg s.data.toList k=r)∧Hid (Mem w0 wr (.box R 265 [.string s,.int .i64 k,.slice op on oc,.bool bo,.bool bf] :: T))) (fun _ wr=>s.size - (intOf ((wr.cell? ⟨R,1,none⟩).getD undef)).toNat)
 case atStart=>exact ⟨i,hi,HR,HM⟩
 case round=>
  clear HM HR
  obtain ⟨k,hk,HR,HM⟩:=hrel
  have HK:=Lib.hid (rd_at HM.out)
  by_cases hlt:k < s.size
  ·obtain ⟨b,hb⟩:∃ b,s.data.toList[k]? = some b:=⟨_,List.getElem?_eq_getElem (by rw [HL.out];exact hlt)⟩
   have HBi:=Lib.hid hb
   have d1:decide ((k:Int) < s.size)=true:=decide_eq_true (by omega)
   have hlt3:=Lib.hid (show k + 1≤s.size from hlt)
   have HFb:=Lib.hid (fun W=>HF.out b W)
   cases hp:dg b with
   | true=>
    have HR2:=Lib.hid (show spanE dg s.data.toList (k + 1)=r by rw [← HR.out];exact (spanE_yes hb hp).symm)
    rw [hp] at HFb
    clear hb hp
    go_wp2_with fail
    refine wp_region_steps2 [(true,0),(true,1),(true,2),(true,3),(true,4),(true,5),(true,6),(true,7),(true,8),(true,9),(true,10),(true,11),(true,12),(true,13),(true,14),(true,15),(true,16),(true,17),(true,18),(true,19),(true,20),(false,21),(true,22)] (by kernel_rfl) (by kernel_rfl) rfl (by kernel_rfl) (fun _ _ _ _ _ h=>h) HM.out _ (.cons_cons _ (List.nil_sublist _)) ?_
    intro hNE W1 HM1;replace HM:=Lib.hid HM1;clear HM1
    have HS0:=Lib.hid (HM.out.sub (.cons_cons _ (List.nil_sublist _)))
    simp only [wpSteps,List.getElem?_cons_succ,List.getElem?_cons_zero]
    (repeat (first|((with_reducible refine skip_q ?_ ?_ ?_);(exact rfl);(rotate_left;(exact (hNE.elim fun p=>⟨p.W,p,rfl⟩))))|refine mQ ?_|((with_reducible refine wpQuiet_nil ?_);(try dsimp only))|((with_reducible refine qat 24 ?_);(refine qsix rfl rfl rfl HBi.out ?_))|go_big_quiet_step (fail)|quiet_step (fail)))
    go_wp2_with (first|((with_reducible refine skip_op ?_ ?_);exact rfl)|(go_at_call 253;(with_reducible refine (HFb.out _).mono ?_);rintro e W2 ⟨rfl,rfl⟩))
    refine ⟨⟨⟨_,HM.out.sub msub⟩,rfl⟩,?_⟩
    (try dsimp only)
    (repeat (first|((with_reducible refine wpQuiet_nil ?_);(try dsimp only))|go_big_quiet_step (fail)|quiet_step (fail)))
    clear HS0 hNE
    go_wp2_with (first|((with_reducible refine skip_op ?_ ?_);exact rfl)|refine mP ?_|(refine mS ?_;clear HM;intro W1 HM))
    go_roundw
    case rel=>exact ⟨k + 1,hlt3.out,HR2,HM⟩
    case measure=>have:=hlt3.out;rw [rd_at (k:=k + 1) HM.out,HK.out];omega
   | false=>
    have HR2:=Lib.hid (show k=r by rw [← HR.out];exact (spanE_no hb hp).symm)
    rw [hp] at HFb
    clear hb hp
    go_wp2_with fail
    refine wp_region_steps2 [(true,0),(true,1),(true,2),(true,3),(true,4),(true,5),(true,6),(true,7),(true,8),(true,9),(true,10),(true,11),(true,12),(true,13),(true,14),(true,15),(true,16),(true,17),(true,18),(true,19),(true,20),(false,21),(true,22)] (by kernel_rfl) (by kernel_rfl) rfl (by kernel_rfl) (fun _ _ _ _ _ h=>h) HM.out _ (.cons_cons _ (List.nil_sublist _)) ?_
    intro hNE W1 HM1;replace HM:=Lib.hid HM1;clear HM1
    have HS0:=Lib.hid (HM.out.sub (.cons_cons _ (List.nil_sublist _)))
    simp only [wpSteps,List.getElem?_cons_succ,List.getElem?_cons_zero]
    (repeat (first|((with_reducible refine skip_q ?_ ?_ ?_);(exact rfl);(rotate_left;(exact (hNE.elim fun p=>⟨p.W,p,rfl⟩))))|refine mQ ?_|((with_reducible refine wpQuiet_nil ?_);(try dsimp only))|((with_reducible refine qat 24 ?_);(refine qsix rfl rfl rfl HBi.out ?_))|go_big_quiet_step (fail)|quiet_step (fail)))
    go_wp2_with (first|((with_reducible refine skip_op ?_ ?_);exact rfl)|(go_at_call 253;(with_reducible refine (HFb.out _).mono ?_);rintro e W2 ⟨rfl,rfl⟩))
    refine ⟨⟨⟨_,HM.out.sub msub⟩,rfl⟩,?_⟩
    (try dsimp only)
    (repeat (first|((with_reducible refine wpQuiet_nil ?_);(try dsimp only))|go_big_quiet_step (fail)|quiet_step (fail)))
    clear HS0 hNE
    go_wp2_with fail
    go_end0
    exact ⟨rfl,HR2.out▸HM.out⟩
  ·have HR2:=Lib.hid (show k=r by rw [← HR.out];exact (spanE_end (by rw [HL.out];omega)).symm)
   have d1:decide ((k:Int) < s.size)=false:=decide_eq_false (by omega)
   go_wp2_with fail
   refine wp_region_mem (by kernel_rfl) (by kernel_rfl) HM.out ?_;intro hNE;(repeat (any_goals (first|((with_reducible refine skip_q ?_ ?_ ?_);(exact rfl);(rotate_left;(exact (hNE.elim fun p=>⟨p.W,p,rfl⟩))))|refine mQ ?_|go_big_quiet_step (fail)|quiet_step (fail))));clear hNE;refine wpQuiet_nil ?_;intro W1 HM1;replace HM:=Lib.hid HM1;clear HM1
   go_wp2_with fail
   go_end0
   exact ⟨rfl,HR2.out▸HM.out⟩
set_option maxHeartbeats 4000000 in
theorem whileWd (w0 W:World) (R:Nat) (T:List Res) (s:ByteArray) (i on oc:Nat) (op:Option Addr) (bo bf:Bool) (HM0:Mem w0 W (.box R 265 [.string s,.int .i64 i,.slice op on oc,.bool bo,.bool bf] :: T)) (hi:i≤s.size) (hs:s.size≤1000) :
  Calls Tryz.prog 221 #[.pointer (some ⟨R,0,none⟩),.func (.func 257) #[] #[]] W fun e w'=>e = .returned (.tuple #[])∧Mem w0 w' (.box R 265 [.string s,.int .i64 (spanE wdB s.data.toList i:Nat),.slice op on oc,.bool bo,.bool bf] :: T):=by
 have HM:=Lib.hid HM0
 clear HM0
 have hlen:s.data.toList.length=s.size:=by simp
 have HL:=Lib.hid hlen
 obtain ⟨r,hr⟩:∃ r,spanE wdB s.data.toList i=r:=⟨_,rfl⟩
 rw [hr]
 have HR:=Lib.hid hr
 have HF:=Lib.hid (fun b W=>lWd b W)
 clear hr hlen
 go_enter Tryz.func221,Tryz.ntmps221
 go_wp2_with fail
 go_loopw [26] (fun _ wr=>∃ k:Nat,k≤s.size∧Hid (spanE wdB s.data.toList k=r)∧Hid (Mem w0 wr (.box R 265 [.string s,.int .i64 k,.slice op on oc,.bool bo,.bool bf] :: T))) (fun _ wr=>s.size - (intOf ((wr.cell? ⟨R,1,none⟩).getD undef)).toNat)
 case atStart=>exact ⟨i,hi,HR,HM⟩
 case round=>
  clear HM HR
  obtain ⟨k,hk,HR,HM⟩:=hrel
  have HK:=Lib.hid (rd_at HM.out)
  by_cases hlt:k < s.size
  ·obtain ⟨b,hb⟩:∃ b,s.data.toList[k]? = some b:=⟨_,List.getElem?_eq_getElem (by rw [HL.out];exact hlt)⟩
   have HBi:=Lib.hid hb
   have d1:decide ((k:Int) < s.size)=true:=decide_eq_true (by omega)
   have hlt3:=Lib.hid (show k + 1≤s.size from hlt)
   have HFb:=Lib.hid (fun W=>HF.out b W)
   cases hp:wdB b with
   | true=>
    have HR2:=Lib.hid (show spanE wdB s.data.toList (k + 1)=r by rw [← HR.out];exact (spanE_yes hb hp).symm)
    rw [hp] at HFb
    clear hb hp
    go_wp2_with fail
    refine wp_region_steps2 [(true,0),(true,1),(true,2),(true,3),(true,4),(true,5),(true,6),(true,7),(true,8),(true,9),(true,10),(true,11),(true,12),(true,13),(true,14),(true,15),(true,16),(true,17),(true,18),(true,19),(true,20),(false,21),(true,22)] (by kernel_rfl) (by kernel_rfl) rfl (by kernel_rfl) (fun _ _ _ _ _ h=>h) HM.out _ (.cons_cons _ (List.nil_sublist _)) ?_
    intro hNE W1 HM1;replace HM:=Lib.hid HM1;clear HM1
    have HS0:=Lib.hid (HM.out.sub (.cons_cons _ (List.nil_sublist _)))
    simp only [wpSteps,List.getElem?_cons_succ,List.getElem?_cons_zero]
    (repeat (first|((with_reducible refine skip_q ?_ ?_ ?_);(exact rfl);(rotate_left;(exact (hNE.elim fun p=>⟨p.W,p,rfl⟩))))|refine mQ ?_|((with_reducible refine wpQuiet_nil ?_);(try dsimp only))|((with_reducible refine qat 24 ?_);(refine qsix rfl rfl rfl HBi.out ?_))|go_big_quiet_step (fail)|quiet_step (fail)))
    go_wp2_with (first|((with_reducible refine skip_op ?_ ?_);exact rfl)|(go_at_call 257;(with_reducible refine (HFb.out _).mono ?_);rintro e W2 ⟨rfl,rfl⟩))
    refine ⟨⟨⟨_,HM.out.sub msub⟩,rfl⟩,?_⟩
    (try dsimp only)
    (repeat (first|((with_reducible refine wpQuiet_nil ?_);(try dsimp only))|go_big_quiet_step (fail)|quiet_step (fail)))
    clear HS0 hNE
    go_wp2_with (first|((with_reducible refine skip_op ?_ ?_);exact rfl)|refine mP ?_|(refine mS ?_;clear HM;intro W1 HM))
    go_roundw
    case rel=>exact ⟨k + 1,hlt3.out,HR2,HM⟩
    case measure=>have:=hlt3.out;rw [rd_at (k:=k + 1) HM.out,HK.out];omega
   | false=>
    have HR2:=Lib.hid (show k=r by rw [← HR.out];exact (spanE_no hb hp).symm)
    rw [hp] at HFb
    clear hb hp
    go_wp2_with fail
    refine wp_region_steps2 [(true,0),(true,1),(true,2),(true,3),(true,4),(true,5),(true,6),(true,7),(true,8),(true,9),(true,10),(true,11),(true,12),(true,13),(true,14),(true,15),(true,16),(true,17),(true,18),(true,19),(true,20),(false,21),(true,22)] (by kernel_rfl) (by kernel_rfl) rfl (by kernel_rfl) (fun _ _ _ _ _ h=>h) HM.out _ (.cons_cons _ (List.nil_sublist _)) ?_
    intro hNE W1 HM1;replace HM:=Lib.hid HM1;clear HM1
    have HS0:=Lib.hid (HM.out.sub (.cons_cons _ (List.nil_sublist _)))
    simp only [wpSteps,List.getElem?_cons_succ,List.getElem?_cons_zero]
    (repeat (first|((with_reducible refine skip_q ?_ ?_ ?_);(exact rfl);(rotate_left;(exact (hNE.elim fun p=>⟨p.W,p,rfl⟩))))|refine mQ ?_|((with_reducible refine wpQuiet_nil ?_);(try dsimp only))|((with_reducible refine qat 24 ?_);(refine qsix rfl rfl rfl HBi.out ?_))|go_big_quiet_step (fail)|quiet_step (fail)))
    go_wp2_with (first|((with_reducible refine skip_op ?_ ?_);exact rfl)|(go_at_call 257;(with_reducible refine (HFb.out _).mono ?_);rintro e W2 ⟨rfl,rfl⟩))
    refine ⟨⟨⟨_,HM.out.sub msub⟩,rfl⟩,?_⟩
    (try dsimp only)
    (repeat (first|((with_reducible refine wpQuiet_nil ?_);(try dsimp only))|go_big_quiet_step (fail)|quiet_step (fail)))
    clear HS0 hNE
    go_wp2_with fail
    go_end0
    exact ⟨rfl,HR2.out▸HM.out⟩
  ·have HR2:=Lib.hid (show k=r by rw [← HR.out];exact (spanE_end (by rw [HL.out];omega)).symm)
   have d1:decide ((k:Int) < s.size)=false:=decide_eq_false (by omega)
   go_wp2_with fail
   refine wp_region_mem (by kernel_rfl) (by kernel_rfl) HM.out ?_;intro hNE;(repeat (any_goals (first|((with_reducible refine skip_q ?_ ?_ ?_);(exact rfl);(rotate_left;(exact (hNE.elim fun p=>⟨p.W,p,rfl⟩))))|refine mQ ?_|go_big_quiet_step (fail)|quiet_step (fail))));clear hNE;refine wpQuiet_nil ?_;intro W1 HM1;replace HM:=Lib.hid HM1;clear HM1
   go_wp2_with fail
   go_end0
   exact ⟨rfl,HR2.out▸HM.out⟩
set_option maxHeartbeats 4000000 in
theorem whileBl (w0 W:World) (R:Nat) (T:List Res) (s:ByteArray) (i on oc:Nat) (op:Option Addr) (bo bf:Bool) (HM0:Mem w0 W (.box R 265 [.string s,.int .i64 i,.slice op on oc,.bool bo,.bool bf] :: T)) (hi:i≤s.size) (hs:s.size≤1000) :
  Calls Tryz.prog 221 #[.pointer (some ⟨R,0,none⟩),.func (.func 222) #[] #[]] W fun e w'=>e = .returned (.tuple #[])∧Mem w0 w' (.box R 265 [.string s,.int .i64 (spanE blankB s.data.toList i:Nat),.slice op on oc,.bool bo,.bool bf] :: T):=by
 have HM:=Lib.hid HM0
 clear HM0
 have hlen:s.data.toList.length=s.size:=by simp
 have HL:=Lib.hid hlen
 obtain ⟨r,hr⟩:∃ r,spanE blankB s.data.toList i=r:=⟨_,rfl⟩
 rw [hr]
 have HR:=Lib.hid hr
 have HF:=Lib.hid (fun b W=>lBl b W)
 clear hr hlen
 go_enter Tryz.func221,Tryz.ntmps221
 go_wp2_with fail
 go_loopw [26] (fun _ wr=>∃ k:Nat,k≤s.size∧Hid (spanE blankB s.data.toList k=r)∧Hid (Mem w0 wr (.box R 265 [.string s,.int .i64 k,.slice op on oc,.bool bo,.bool bf] :: T))) (fun _ wr=>s.size - (intOf ((wr.cell? ⟨R,1,none⟩).getD undef)).toNat)
 case atStart=>exact ⟨i,hi,HR,HM⟩
 case round=>
  clear HM HR
  obtain ⟨k,hk,HR,HM⟩:=hrel
  have HK:=Lib.hid (rd_at HM.out)
  by_cases hlt:k < s.size
  ·obtain ⟨b,hb⟩:∃ b,s.data.toList[k]? = some b:=⟨_,List.getElem?_eq_getElem (by rw [HL.out];exact hlt)⟩
   have HBi:=Lib.hid hb
   have d1:decide ((k:Int) < s.size)=true:=decide_eq_true (by omega)
   have hlt3:=Lib.hid (show k + 1≤s.size from hlt)
   have HFb:=Lib.hid (fun W=>HF.out b W)
   cases hp:blankB b with
   | true=>
    have HR2:=Lib.hid (show spanE blankB s.data.toList (k + 1)=r by rw [← HR.out];exact (spanE_yes hb hp).symm)
    rw [hp] at HFb
    clear hb hp
    go_wp2_with fail
    refine wp_region_steps2 [(true,0),(true,1),(true,2),(true,3),(true,4),(true,5),(true,6),(true,7),(true,8),(true,9),(true,10),(true,11),(true,12),(true,13),(true,14),(true,15),(true,16),(true,17),(true,18),(true,19),(true,20),(false,21),(true,22)] (by kernel_rfl) (by kernel_rfl) rfl (by kernel_rfl) (fun _ _ _ _ _ h=>h) HM.out _ (.cons_cons _ (List.nil_sublist _)) ?_
    intro hNE W1 HM1;replace HM:=Lib.hid HM1;clear HM1
    have HS0:=Lib.hid (HM.out.sub (.cons_cons _ (List.nil_sublist _)))
    simp only [wpSteps,List.getElem?_cons_succ,List.getElem?_cons_zero]
    (repeat (first|((with_reducible refine skip_q ?_ ?_ ?_);(exact rfl);(rotate_left;(exact (hNE.elim fun p=>⟨p.W,p,rfl⟩))))|refine mQ ?_|((with_reducible refine wpQuiet_nil ?_);(try dsimp only))|((with_reducible refine qat 24 ?_);(refine qsix rfl rfl rfl HBi.out ?_))|go_big_quiet_step (fail)|quiet_step (fail)))
    go_wp2_with (first|((with_reducible refine skip_op ?_ ?_);exact rfl)|(go_at_call 222;(with_reducible refine (HFb.out _).mono ?_);rintro e W2 ⟨rfl,rfl⟩))
    refine ⟨⟨⟨_,HM.out.sub msub⟩,rfl⟩,?_⟩
    (try dsimp only)
    (repeat (first|((with_reducible refine wpQuiet_nil ?_);(try dsimp only))|go_big_quiet_step (fail)|quiet_step (fail)))
    clear HS0 hNE
    go_wp2_with (first|((with_reducible refine skip_op ?_ ?_);exact rfl)|refine mP ?_|(refine mS ?_;clear HM;intro W1 HM))
    go_roundw
    case rel=>exact ⟨k + 1,hlt3.out,HR2,HM⟩
    case measure=>have:=hlt3.out;rw [rd_at (k:=k + 1) HM.out,HK.out];omega
   | false=>
    have HR2:=Lib.hid (show k=r by rw [← HR.out];exact (spanE_no hb hp).symm)
    rw [hp] at HFb
    clear hb hp
    go_wp2_with fail
    refine wp_region_steps2 [(true,0),(true,1),(true,2),(true,3),(true,4),(true,5),(true,6),(true,7),(true,8),(true,9),(true,10),(true,11),(true,12),(true,13),(true,14),(true,15),(true,16),(true,17),(true,18),(true,19),(true,20),(false,21),(true,22)] (by kernel_rfl) (by kernel_rfl) rfl (by kernel_rfl) (fun _ _ _ _ _ h=>h) HM.out _ (.cons_cons _ (List.nil_sublist _)) ?_
    intro hNE W1 HM1;replace HM:=Lib.hid HM1;clear HM1
    have HS0:=Lib.hid (HM.out.sub (.cons_cons _ (List.nil_sublist _)))
    simp only [wpSteps,List.getElem?_cons_succ,List.getElem?_cons_zero]
    (repeat (first|((with_reducible refine skip_q ?_ ?_ ?_);(exact rfl);(rotate_left;(exact (hNE.elim fun p=>⟨p.W,p,rfl⟩))))|refine mQ ?_|((with_reducible refine wpQuiet_nil ?_);(try dsimp only))|((with_reducible refine qat 24 ?_);(refine qsix rfl rfl rfl HBi.out ?_))|go_big_quiet_step (fail)|quiet_step (fail)))
    go_wp2_with (first|((with_reducible refine skip_op ?_ ?_);exact rfl)|(go_at_call 222;(with_reducible refine (HFb.out _).mono ?_);rintro e W2 ⟨rfl,rfl⟩))
    refine ⟨⟨⟨_,HM.out.sub msub⟩,rfl⟩,?_⟩
    (try dsimp only)
    (repeat (first|((with_reducible refine wpQuiet_nil ?_);(try dsimp only))|go_big_quiet_step (fail)|quiet_step (fail)))
    clear HS0 hNE
    go_wp2_with fail
    go_end0
    exact ⟨rfl,HR2.out▸HM.out⟩
  ·have HR2:=Lib.hid (show k=r by rw [← HR.out];exact (spanE_end (by rw [HL.out];omega)).symm)
   have d1:decide ((k:Int) < s.size)=false:=decide_eq_false (by omega)
   go_wp2_with fail
   refine wp_region_mem (by kernel_rfl) (by kernel_rfl) HM.out ?_;intro hNE;(repeat (any_goals (first|((with_reducible refine skip_q ?_ ?_ ?_);(exact rfl);(rotate_left;(exact (hNE.elim fun p=>⟨p.W,p,rfl⟩))))|refine mQ ?_|go_big_quiet_step (fail)|quiet_step (fail))));clear hNE;refine wpQuiet_nil ?_;intro W1 HM1;replace HM:=Lib.hid HM1;clear HM1
   go_wp2_with fail
   go_end0
   exact ⟨rfl,HR2.out▸HM.out⟩
theorem ext_list (s:ByteArray) (i k:Nat):(s.extract i k).data.toList=(s.data.toList.drop i).take (k - i):=by
 rw [ByteArray.data_extract]
 simp [Array.toList_extract,List.extract_eq_take_drop]
theorem idx_none {c:UInt8}:∀ {l:List UInt8},(∀ b ∈ l,b≠c)→Lib.indexByte l c = -1
 | [],_=>rfl
 | b :: l,h=>by
  unfold Lib.indexByte
  rw [if_neg (by simpa using h b (List.mem_cons_self ..)),idx_none (fun x hx=>h x (List.mem_cons_of_mem _ hx))]
  rfl
theorem idx_at {c:UInt8} {r:List UInt8}:∀ {l:List UInt8},(∀ b ∈ l,b≠c)→Lib.indexByte (l++c :: r) c=l.length
 | [],_=>by unfold Lib.indexByte;simp
 | b :: l,h=>by
  rw [List.cons_append]
  unfold Lib.indexByte
  have hr:=idx_at (c:=c) (r:=r) (l:=l) (fun x hx=>h x (List.mem_cons_of_mem _ hx))
  rw [if_neg (by simpa using h b (List.mem_cons_self ..)),hr]
  have h2:¬ ((l.length:Int) == -1)=true:=by simp
  rw [if_neg h2]
  simp
theorem dg_ne {b:UInt8} (h:dg b=true):b≠46∧b≠45∧b≠34∧b≠64:=by
 have:=(Cal.digB_iff b).1 h
 refine ⟨?_,?_,?_,?_⟩ <;> (rintro rfl;revert this;decide)
theorem numE_dot {l:List UInt8} {i k:Nat} {c:UInt8} (hk:spanE dg l i=k) (h1:l[k]? = some 46) (h2:l[k + 1]? = some c) (h3:dg c=true):numE l i=spanE dg l (k + 1):=by
 unfold numE
 simp only [hk]
 rw [if_pos ⟨h1,by rw [h2];exact congrArg some h3⟩]
theorem numE_one {l:List UInt8} {i k:Nat} (hk:spanE dg l i=k) (h:¬ (l[k]? = some 46∧(l[k + 1]?.map dg)=some true)):numE l i=k:=by
 unfold numE
 simp only [hk]
 rw [if_neg h]
theorem take_at (l:List UInt8) (i k:Nat) (hk:i + k≤l.length) (p:UInt8→Bool) (h:∀ j,i≤j→j < i + k→∃ b,l[j]? = some b∧p b=true):∀ b ∈ (l.drop i).take k,p b=true:=fun b hb=>by
 obtain ⟨j,hj⟩:=List.mem_iff_getElem?.1 hb
 rw [List.getElem?_take] at hj
 split at hj
 ·rename_i hjk
  rw [List.getElem?_drop] at hj
  obtain ⟨c,hc,hp⟩:=h (i + j) (by omega) (by omega)
  rw [hj] at hc
  rw [Option.some.inj hc]
  exact hp
 ·cases hj
theorem num_parts {l:List UInt8} {i:Nat} {c:UInt8} (hc:l[i]? = some c) (hd:dg c=true) :
  i < numE l i∧numE l i≤l.length∧numD l i≠[]∧(∀ b ∈ numD l i,dg b=true)∧(∀ b ∈ numF l i,dg b=true)∧(l.drop i).take (numE l i - i)=numD l i++(if numF l i=[] then [] else 46 :: numF l i):=by
 have hil:i < l.length:=(List.getElem?_eq_some_iff.1 hc).1
 obtain ⟨k,hk⟩:∃ k,spanE dg l i=k:=⟨_,rfl⟩
 have hle:=spanE_le (p:=dg) (l:=l) (i:=i) (by omega)
 rw [hk] at hle
 have hik:i < k:=by
  have:=spanE_yes hc hd
  have h2:=(spanE_le (p:=dg) (l:=l) (i:=i + 1) (by omega)).1
  omega
 have hsp:spanL dg (l.drop i)=k - i:=by have:i + spanL dg (l.drop i)=k:=hk;omega
 have hD:numD l i=(l.drop i).take (k - i):=by unfold numD;rw [hsp]
 have hDd:∀ b ∈ numD l i,dg b=true:=by
  rw [hD]
  exact take_at l i (k - i) (by omega) dg (fun j h1 h2=>spanE_in _ i j rfl h1 (by rw [hk];omega))
 have hDn:numD l i≠[]:=by
  rw [hD]
  intro e
  have:=congrArg List.length e
  rw [List.length_take,List.length_drop] at this
  simp at this
  omega
 by_cases hdot:l[k]? = some 46∧(l[k + 1]?.map dg)=some true
 ·obtain ⟨h1,h2⟩:=hdot
  cases h3:l[k + 1]? with
  | none=>rw [h3] at h2;cases h2
  | some c2=>
   rw [h3] at h2
   have h4:dg c2=true:=Option.some.inj h2
   have hkl:k + 1 < l.length:=(List.getElem?_eq_some_iff.1 h3).1
   obtain ⟨e,he⟩:∃ e,spanE dg l (k + 1)=e:=⟨_,rfl⟩
   have hle2:=spanE_le (p:=dg) (l:=l) (i:=k + 1) (by omega)
   rw [he] at hle2
   have hke:k + 1 < e:=by
    have:=spanE_yes h3 h4
    have h5:=(spanE_le (p:=dg) (l:=l) (i:=k + 1 + 1) (by omega)).1
    omega
   have hE:numE l i=e:=by rw [numE_dot hk h1 h3 h4,he]
   have hF:numF l i=(l.drop (k + 1)).take (e - (k + 1)):=by unfold numF;rw [hk,hE,if_neg (by omega)]
   have hFd:∀ b ∈ numF l i,dg b=true:=by
    rw [hF]
    exact take_at l (k + 1) (e - (k + 1)) (by omega) dg (fun j h1 h2=>spanE_in _ (k + 1) j rfl h1 (by rw [he];omega))
   have hFn:numF l i≠[]:=by
    rw [hF]
    intro e'
    have:=congrArg List.length e'
    rw [List.length_take,List.length_drop] at this
    simp at this
    omega
   refine ⟨by omega,by omega,hDn,hDd,hFd,?_⟩
   rw [if_neg hFn,hE,hD,hF]
   apply List.ext_getElem?
   intro j
   have hlen:((l.drop i).take (k - i)).length=k - i:=by rw [List.length_take,List.length_drop];omega
   rw [List.getElem?_append,hlen]
   split
   ·rename_i hj
    rw [List.getElem?_take,List.getElem?_take,if_pos (by omega),if_pos hj]
   ·rename_i hj
    cases hj2:j - (k - i) with
    | zero=>
     rw [List.getElem?_take,if_pos (by omega),List.getElem?_drop,show i + j=k by omega,h1]
     rfl
    | succ m=>
     rw [List.getElem?_cons_succ,List.getElem?_take,List.getElem?_take,List.getElem?_drop,List.getElem?_drop,show i + j=k + 1 + m by omega]
     by_cases hm:m < e - (k + 1)
     ·rw [if_pos (by omega),if_pos hm]
     ·rw [if_neg (by omega),if_neg hm]
 ·have hE:numE l i=k:=numE_one hk hdot
  have hF:numF l i=[]:=by unfold numF;rw [hk,hE,if_pos rfl]
  refine ⟨by omega,by omega,hDn,hDd,(by rw [hF];intro b hb;cases hb),?_⟩
  rw [hF,if_pos rfl,List.append_nil,hE,hD]
theorem decParse_at (s:ByteArray) (i:Nat) {c:UInt8} (w:World) (hc:s.data.toList[i]? = some c) (hd:dg c=true) (hs:s.size≤1000) :
  Calls Tryz.prog 57 #[.string (s.extract i (numE s.data.toList i))] w fun e w'=>e = .returned (decV (decT (numD s.data.toList i) (numF s.data.toList i)))∧Below w.heap.size w w':=by
 obtain ⟨h1,h2,h3,h4,h5,h6⟩:=num_parts hc hd
 have hlen:s.data.toList.length=s.size:=by simp
 obtain ⟨S,hS⟩:∃ S,s.extract i (numE s.data.toList i)=S:=⟨_,rfl⟩
 have hSl:=ext_list s i (numE s.data.toList i)
 rw [hS,h6] at hSl
 rw [hS]
 obtain ⟨ds,hds⟩:∃ x,numD s.data.toList i=x:=⟨_,rfl⟩
 obtain ⟨fs,hfs⟩:∃ x,numF s.data.toList i=x:=⟨_,rfl⟩
 rw [hds,hfs] at hSl
 rw [hds] at h3 h4
 rw [hfs] at h5
 rw [hds,hfs]
 have hSz:S.size=S.data.toList.length:=by simp
 have hSz2:S.size≤1000:=by
  have h7:=ext_list s i (numE s.data.toList i)
  rw [hS] at h7
  rw [hSz,h7,List.length_take,List.length_drop]
  omega
 have hpre:Lib.hasPrefix S.data.toList [45]=false:=by
  cases ds with
  | nil=>exact absurd rfl h3
  | cons a ds=>
   rw [hSl]
   have:=(dg_ne (h4 a (List.mem_cons_self ..))).2.1
   show [45].isPrefixOf (a :: _)=false
   simp [List.isPrefixOf,Ne.symm this]
 by_cases hf:fs=[]
 ·subst hf
  rw [if_pos rfl,List.append_nil] at hSl
  refine decParse_core S S ⟨#[]⟩ ds [] false w hSl rfl rfl h3 h4 h5 (by rw [← hSl,← hSz];simpa using hSz2) (fun W=>cut_none S W (by rw [hSl];exact idx_none (fun b hb=>(dg_ne (h4 b hb)).1))) hpre
 ·rw [if_neg hf] at hSl
  have hix:Lib.indexByte S.data.toList 46=ds.length:=by rw [hSl];exact idx_at (fun b hb=>(dg_ne (h4 b hb)).1)
  have hsl:S.size=ds.length + (fs.length + 1):=by rw [hSz,hSl];simp
  refine decParse_core S (S.extract 0 ds.length) (S.extract (ds.length + 1) S.size) ds fs true w ?_ ?_ (by cases fs with|nil=>exact absurd rfl hf|cons a b=>rfl) h3 h4 h5 (by omega) (fun W=>cut_some S ds.length W hix (by omega) (by omega)) hpre
  ·rw [ext_list,hSl];simp
  ·rw [ext_list,hSl,hsl]
   simp
   exact List.take_of_length_le (by omega)
theorem lDgB (b:UInt8) (w:World):Calls Tryz.prog 253 #[.int .u8 b.toNat] w fun e w'=>e = .returned (.bool (dg b))∧Below w.heap.size w w':=
 (lDg b w).mono fun e w' ⟨h1,h2⟩=>⟨h1,h2▸Below.refl _ _⟩
set_option maxHeartbeats 4000000 in
theorem lNumber (w0 W:World) (R:Nat) (T:List Res) (s:ByteArray) (i on oc:Nat) (op:Option Addr) (bo bf:Bool) {c:UInt8} (HM0:Mem w0 W (.box R 265 [.string s,.int .i64 i,.slice op on oc,.bool bo,.bool bf] :: T)) (hc:s.data.toList[i]? = some c) (hd:dg c=true) (hs:s.size≤1000) :
  Calls Tryz.prog 254 #[.pointer (some ⟨R,0,none⟩)] W fun e w'=>e = .returned (decV (decT (numD s.data.toList i) (numF s.data.toList i)))∧Mem w0 w' (.box R 265 [.string s,.int .i64 (numE s.data.toList i:Nat),.slice op on oc,.bool bo,.bool bf] :: T):=by
 have HM:=Lib.hid HM0
 have hlen:s.data.toList.length=s.size:=by simp
 have hil:i < s.size:=by rw [← hlen];exact (List.getElem?_eq_some_iff.1 hc).1
 obtain ⟨n1,n2,-⟩:=num_parts hc hd
 have HP:=Lib.hid (fun W=>decParse_at s i W hc hd hs)
 obtain ⟨E,hE⟩:∃ x,numE s.data.toList i=x:=⟨_,rfl⟩
 rw [hE] at HP n1 n2 ⊢
 rw [hlen] at n2
 obtain ⟨⟨⟨n,sc⟩,ee⟩,hdv⟩:∃ x,decT (numD s.data.toList i) (numF s.data.toList i)=x:=⟨_,rfl⟩
 rw [hdv] at HP ⊢
 obtain ⟨nh,hnh⟩:∃ x,n / 18446744073709551616=x:=⟨_,rfl⟩
 obtain ⟨nl,hnl⟩:∃ x,n % 18446744073709551616=x:=⟨_,rfl⟩
 have hv:decV ((n,sc),ee) = .tuple #[.agg #[.bool false,.int .u64 nh,.int .u64 nl,.int .i64 sc],.int .i64 ee]:=by rw [← hnh,← hnl];rfl
 rw [hv] at HP ⊢
 obtain ⟨k,hk⟩:∃ k,spanE dg s.data.toList i=k:=⟨_,rfl⟩
 have hle:=spanE_le (p:=dg) (l:=s.data.toList) (i:=i) (by omega)
 rw [hk,hlen] at hle
 have HW1:=Lib.hid (fun W T (h:Mem w0 W (.box R 265 [.string s,.int .i64 i,.slice op on oc,.bool bo,.bool bf] :: T))=>hk▸whileDg w0 W R T s i on oc op bo bf h (by omega) hs)
 have hiE:i≤E:=by omega
 have HDg:=Lib.hid (fun b W=>lDgB b W)
 by_cases hk1:k + 1 < s.size
 ·obtain ⟨b1,hb1⟩:∃ b,s.data.toList[k]? = some b:=⟨_,List.getElem?_eq_getElem (by omega)⟩
  obtain ⟨b2,hb2⟩:∃ b,s.data.toList[k + 1]? = some b:=⟨_,List.getElem?_eq_getElem (by omega)⟩
  have HB1:=Lib.hid hb1
  have HB2:=Lib.hid hb2
  have d1:decide ((k:Int) + 1 < s.size)=true:=decide_eq_true (by omega)
  by_cases hdot:b1=46
  ·subst hdot
   have HD2:=Lib.hid (fun W=>HDg.out b2 W)
   cases hp:dg b2 with
   | true=>
    have hE2:spanE dg s.data.toList (k + 1)=E:=by rw [← hE];exact (numE_dot hk hb1 hb2 hp).symm
    have HW2:=Lib.hid (fun W T (h:Mem w0 W (.box R 265 [.string s,.int .i64 ((k:Int) + 1),.slice op on oc,.bool bo,.bool bf] :: T))=>hE2▸whileDg w0 W R T s (k + 1) on oc op bo bf h (by omega) hs)
    rw [hp] at HD2
    clear HM0 hc hd hE hdv hv hk hb1 hb2 hp hE2 hnh hnl
    go_enter Tryz.func254,Tryz.ntmps254
    go_wp2_with (first|(go_at_call 221;(with_reducible refine (HW1.out _ _ (HM.out.perm (List.Perm.swap _ _ _))).mono ?_);rintro e W2 ⟨rfl,hM2⟩;have HM1:=Lib.hid hM2;clear hM2;clear HM;(try clear W1);rename World=>W1;have HM:=HM1;clear HM1)|((with_reducible refine skip_op ?_ ?_);exact rfl)|refine mP ?_|(refine mS ?_;clear HM;intro W1 HM)|(refine hal (dst:=some 2) HM rfl ?_;clear HM;intro g2 W1 HM))
    refine wp_region_mem (by kernel_rfl) (by kernel_rfl) HM.out ?_;intro hNE;(repeat (any_goals (first|((with_reducible refine skip_q ?_ ?_ ?_);(exact rfl);(rotate_left;(exact (hNE.elim fun p=>⟨p.W,p,rfl⟩))))|refine mQ ?_|((with_reducible show wpQuiet _ _ _ _ (Oper.mk _ (Op.call { callee:=Callee.value (Operand.func 253),args:=_,argTypes:=_}) _ _ _ _ :: _) _);(refine qcall HM.out (fun W hC=>HD2.out _) Tryz.func253 rfl rfl rfl ?_))|((with_reducible refine qat 31 ?_);(refine qsix rfl rfl rfl HB1.out ?_))|((with_reducible refine qat 44 ?_);(refine qsix rfl rfl (i:=k + 1) rfl HB2.out ?_))|go_big_quiet_step (fail)|quiet_step (fail))));clear hNE;refine wpQuiet_nil ?_;intro W1 HM1;replace HM:=Lib.hid HM1;clear HM1
    go_wp2_with (first|(go_at_call 221;(with_reducible refine (HW2.out _ _ HM.out).mono ?_);rintro e W2 ⟨rfl,hM2⟩;have HM1:=Lib.hid hM2;clear hM2;clear HM;(try clear W1);rename World=>W1;have HM:=HM1;clear HM1)|((with_reducible refine skip_op ?_ ?_);exact rfl)|refine mP ?_|(refine mS ?_;clear HM;intro W1 HM)|(refine hal (dst:=some 2) HM rfl ?_;clear HM;intro g2 W1 HM))
    refine wp_region_steps2 [(true,0),(true,1),(true,2),(true,3),(true,4),(true,5),(true,6),(true,7),(true,8),(true,9),(false,10),(true,11),(true,12),(false,13),(true,14)] (by kernel_rfl) (by kernel_rfl) rfl (by kernel_rfl) (fun _ _ _ _ _ h=>h) HM.out _ (.cons_cons _ (.cons _ (List.nil_sublist _))) ?_
    intro hNE W1 HM1;replace HM:=Lib.hid HM1;clear HM1
    have HS0:=Lib.hid (HM.out.sub (.cons_cons _ (.cons _ (List.nil_sublist _))))
    simp only [wpSteps,List.getElem?_cons_succ,List.getElem?_cons_zero]
    (repeat (first|refine mQ ?_|((with_reducible refine wpQuiet_nil ?_);(try dsimp only))|((with_reducible refine qat 65 ?_);(refine qssls rfl rfl rfl rfl rfl hiE n2 ?_))|go_big_quiet_step (fail)|quiet_step (fail)))
    go_wp2_with (first|(go_at_call 57;(with_reducible refine cB HM (HP.out _) ?_);clear HM;intro W1 HM))
    refine ⟨⟨⟨_,HM.out.sub msub⟩,rfl⟩,?_⟩
    (try dsimp only)
    (repeat (first|((with_reducible refine wpQuiet_nil ?_);(try dsimp only))|go_big_quiet_step (fail)|quiet_step (fail)))
    go_wp2_with (first|(refine mS ?_;clear HM;intro W1 HM))
    refine ⟨⟨⟨_,HM.out.sub msub⟩,rfl⟩,?_⟩
    (try dsimp only)
    (repeat (first|((with_reducible refine wpQuiet_nil ?_);(try dsimp only))|go_big_quiet_step (fail)|quiet_step (fail)))
    clear HS0 hNE
    go_wp2_with fail
    exact bodyPost_ret (res_box_tmp rfl HM.out 1 rfl rfl rfl rfl) rfl ⟨rfl,HM.out.sub (.cons_cons _ (.cons _ (.refl _)))⟩
   | false=>
    have hE2:k=E:=by rw [← hE];exact (numE_one hk (fun h=>by rw [hb2] at h;have:=Option.some.inj h.2;rw [hp] at this;cases this)).symm
    subst hE2
    rw [hp] at HD2
    clear HM0 hc hd hE hdv hv hk hb1 hb2 hp hnh hnl
    go_enter Tryz.func254,Tryz.ntmps254
    go_wp2_with (first|(go_at_call 221;(with_reducible refine (HW1.out _ _ (HM.out.perm (List.Perm.swap _ _ _))).mono ?_);rintro e W2 ⟨rfl,hM2⟩;have HM1:=Lib.hid hM2;clear hM2;clear HM;(try clear W1);rename World=>W1;have HM:=HM1;clear HM1)|((with_reducible refine skip_op ?_ ?_);exact rfl)|refine mP ?_|(refine mS ?_;clear HM;intro W1 HM)|(refine hal (dst:=some 2) HM rfl ?_;clear HM;intro g2 W1 HM))
    refine wp_region_mem (by kernel_rfl) (by kernel_rfl) HM.out ?_;intro hNE;(repeat (any_goals (first|((with_reducible refine skip_q ?_ ?_ ?_);(exact rfl);(rotate_left;(exact (hNE.elim fun p=>⟨p.W,p,rfl⟩))))|refine mQ ?_|((with_reducible show wpQuiet _ _ _ _ (Oper.mk _ (Op.call { callee:=Callee.value (Operand.func 253),args:=_,argTypes:=_}) _ _ _ _ :: _) _);(refine qcall HM.out (fun W hC=>HD2.out _) Tryz.func253 rfl rfl rfl ?_))|((with_reducible refine qat 31 ?_);(refine qsix rfl rfl rfl HB1.out ?_))|((with_reducible refine qat 44 ?_);(refine qsix rfl rfl (i:=k + 1) rfl HB2.out ?_))|go_big_quiet_step (fail)|quiet_step (fail))));clear hNE;refine wpQuiet_nil ?_;intro W1 HM1;replace HM:=Lib.hid HM1;clear HM1
    go_wp2_with fail
    refine wp_region_steps2 [(true,0),(true,1),(true,2),(true,3),(true,4),(true,5),(true,6),(true,7),(true,8),(true,9),(false,10),(true,11),(true,12),(false,13),(true,14)] (by kernel_rfl) (by kernel_rfl) rfl (by kernel_rfl) (fun _ _ _ _ _ h=>h) HM.out _ (.cons_cons _ (.cons _ (List.nil_sublist _))) ?_
    intro hNE W1 HM1;replace HM:=Lib.hid HM1;clear HM1
    have HS0:=Lib.hid (HM.out.sub (.cons_cons _ (.cons _ (List.nil_sublist _))))
    simp only [wpSteps,List.getElem?_cons_succ,List.getElem?_cons_zero]
    (repeat (first|refine mQ ?_|((with_reducible refine wpQuiet_nil ?_);(try dsimp only))|((with_reducible refine qat 65 ?_);(refine qssls rfl rfl rfl rfl rfl hiE n2 ?_))|go_big_quiet_step (fail)|quiet_step (fail)))
    go_wp2_with (first|(go_at_call 57;(with_reducible refine cB HM (HP.out _) ?_);clear HM;intro W1 HM))
    refine ⟨⟨⟨_,HM.out.sub msub⟩,rfl⟩,?_⟩
    (try dsimp only)
    (repeat (first|((with_reducible refine wpQuiet_nil ?_);(try dsimp only))|go_big_quiet_step (fail)|quiet_step (fail)))
    go_wp2_with (first|(refine mS ?_;clear HM;intro W1 HM))
    refine ⟨⟨⟨_,HM.out.sub msub⟩,rfl⟩,?_⟩
    (try dsimp only)
    (repeat (first|((with_reducible refine wpQuiet_nil ?_);(try dsimp only))|go_big_quiet_step (fail)|quiet_step (fail)))
    clear HS0 hNE
    go_wp2_with fail
    exact bodyPost_ret (res_box_tmp rfl HM.out 1 rfl rfl rfl rfl) rfl ⟨rfl,HM.out.sub (.cons_cons _ (.cons _ (.refl _)))⟩
  ·have hE2:k=E:=by rw [← hE];exact (numE_one hk (fun h=>by rw [hb1] at h;exact hdot (Option.some.inj h.1))).symm
   subst hE2
   have hq:((b1.toNat:Int) == 46)=false:=by simpa using fun e:(b1.toNat:Int)=46=>hdot (UInt8.toNat_inj.1 (by show b1.toNat=46;omega))
   clear HM0 hc hd hE hdv hv hk hb1 hb2 hnh hnl hdot
   go_enter Tryz.func254,Tryz.ntmps254
   go_wp2_with (first|(go_at_call 221;(with_reducible refine (HW1.out _ _ (HM.out.perm (List.Perm.swap _ _ _))).mono ?_);rintro e W2 ⟨rfl,hM2⟩;have HM1:=Lib.hid hM2;clear hM2;clear HM;(try clear W1);rename World=>W1;have HM:=HM1;clear HM1)|((with_reducible refine skip_op ?_ ?_);exact rfl)|refine mP ?_|(refine mS ?_;clear HM;intro W1 HM)|(refine hal (dst:=some 2) HM rfl ?_;clear HM;intro g2 W1 HM))
   refine wp_region_mem (by kernel_rfl) (by kernel_rfl) HM.out ?_;intro hNE;(repeat (any_goals (first|((with_reducible refine skip_q ?_ ?_ ?_);(exact rfl);(rotate_left;(exact (hNE.elim fun p=>⟨p.W,p,rfl⟩))))|refine mQ ?_|((with_reducible refine qat 31 ?_);(refine qsix rfl rfl rfl HB1.out ?_))|go_big_quiet_step (fail)|quiet_step (fail))));clear hNE;refine wpQuiet_nil ?_;intro W1 HM1;replace HM:=Lib.hid HM1;clear HM1
   go_wp2_with fail
   refine wp_region_steps2 [(true,0),(true,1),(true,2),(true,3),(true,4),(true,5),(true,6),(true,7),(true,8),(true,9),(false,10),(true,11),(true,12),(false,13),(true,14)] (by kernel_rfl) (by kernel_rfl) rfl (by kernel_rfl) (fun _ _ _ _ _ h=>h) HM.out _ (.cons_cons _ (.cons _ (List.nil_sublist _))) ?_
   intro hNE W1 HM1;replace HM:=Lib.hid HM1;clear HM1
   have HS0:=Lib.hid (HM.out.sub (.cons_cons _ (.cons _ (List.nil_sublist _))))
   simp only [wpSteps,List.getElem?_cons_succ,List.getElem?_cons_zero]
   (repeat (first|refine mQ ?_|((with_reducible refine wpQuiet_nil ?_);(try dsimp only))|((with_reducible refine qat 65 ?_);(refine qssls rfl rfl rfl rfl rfl hiE n2 ?_))|go_big_quiet_step (fail)|quiet_step (fail)))
   go_wp2_with (first|(go_at_call 57;(with_reducible refine cB HM (HP.out _) ?_);clear HM;intro W1 HM))
   refine ⟨⟨⟨_,HM.out.sub msub⟩,rfl⟩,?_⟩
   (try dsimp only)
   (repeat (first|((with_reducible refine wpQuiet_nil ?_);(try dsimp only))|go_big_quiet_step (fail)|quiet_step (fail)))
   go_wp2_with (first|(refine mS ?_;clear HM;intro W1 HM))
   refine ⟨⟨⟨_,HM.out.sub msub⟩,rfl⟩,?_⟩
   (try dsimp only)
   (repeat (first|((with_reducible refine wpQuiet_nil ?_);(try dsimp only))|go_big_quiet_step (fail)|quiet_step (fail)))
   clear HS0 hNE
   go_wp2_with fail
   exact bodyPost_ret (res_box_tmp rfl HM.out 1 rfl rfl rfl rfl) rfl ⟨rfl,HM.out.sub (.cons_cons _ (.cons _ (.refl _)))⟩
 ·have hE2:k=E:=by rw [← hE];exact (numE_one hk (fun h=>by rw [List.getElem?_eq_none (show s.data.toList.length≤k + 1 by omega)] at h;exact absurd h.2 (by simp))).symm
  subst hE2
  have d1:decide ((k:Int) + 1 < s.size)=false:=decide_eq_false (by omega)
  clear HM0 hc hd hE hdv hv hk hnh hnl
  go_enter Tryz.func254,Tryz.ntmps254
  go_wp2_with (first|(go_at_call 221;(with_reducible refine (HW1.out _ _ (HM.out.perm (List.Perm.swap _ _ _))).mono ?_);rintro e W2 ⟨rfl,hM2⟩;have HM1:=Lib.hid hM2;clear hM2;clear HM;(try clear W1);rename World=>W1;have HM:=HM1;clear HM1)|((with_reducible refine skip_op ?_ ?_);exact rfl)|refine mP ?_|(refine mS ?_;clear HM;intro W1 HM)|(refine hal (dst:=some 2) HM rfl ?_;clear HM;intro g2 W1 HM))
  refine wp_region_mem (by kernel_rfl) (by kernel_rfl) HM.out ?_;intro hNE;(repeat (any_goals (first|((with_reducible refine skip_q ?_ ?_ ?_);(exact rfl);(rotate_left;(exact (hNE.elim fun p=>⟨p.W,p,rfl⟩))))|refine mQ ?_|go_big_quiet_step (fail)|quiet_step (fail))));clear hNE;refine wpQuiet_nil ?_;intro W1 HM1;replace HM:=Lib.hid HM1;clear HM1
  go_wp2_with fail
  refine wp_region_steps2 [(true,0),(true,1),(true,2),(true,3),(true,4),(true,5),(true,6),(true,7),(true,8),(true,9),(false,10),(true,11),(true,12),(false,13),(true,14)] (by kernel_rfl) (by kernel_rfl) rfl (by kernel_rfl) (fun _ _ _ _ _ h=>h) HM.out _ (.cons_cons _ (.cons _ (List.nil_sublist _))) ?_
  intro hNE W1 HM1;replace HM:=Lib.hid HM1;clear HM1
  have HS0:=Lib.hid (HM.out.sub (.cons_cons _ (.cons _ (List.nil_sublist _))))
  simp only [wpSteps,List.getElem?_cons_succ,List.getElem?_cons_zero]
  (repeat (first|refine mQ ?_|((with_reducible refine wpQuiet_nil ?_);(try dsimp only))|((with_reducible refine qat 65 ?_);(refine qssls rfl rfl rfl rfl rfl hiE n2 ?_))|go_big_quiet_step (fail)|quiet_step (fail)))
  go_wp2_with (first|(go_at_call 57;(with_reducible refine cB HM (HP.out _) ?_);clear HM;intro W1 HM))
  refine ⟨⟨⟨_,HM.out.sub msub⟩,rfl⟩,?_⟩
  (try dsimp only)
  (repeat (first|((with_reducible refine wpQuiet_nil ?_);(try dsimp only))|go_big_quiet_step (fail)|quiet_step (fail)))
  go_wp2_with (first|(refine mS ?_;clear HM;intro W1 HM))
  refine ⟨⟨⟨_,HM.out.sub msub⟩,rfl⟩,?_⟩
  (try dsimp only)
  (repeat (first|((with_reducible refine wpQuiet_nil ?_);(try dsimp only))|go_big_quiet_step (fail)|quiet_step (fail)))
  clear HS0 hNE
  go_wp2_with fail
  exact bodyPost_ret (res_box_tmp rfl HM.out 1 rfl rfl rfl rfl) rfl ⟨rfl,HM.out.sub (.cons_cons _ (.cons _ (.refl _)))⟩
theorem ba_ext {a b:ByteArray} (h:a.data.toList=b.data.toList):a=b:=by
 rcases a with ⟨⟨a⟩⟩
 rcases b with ⟨⟨b⟩⟩
 simp at h
 rw [h]
theorem ext_ext (s:ByteArray) (i n:Nat) (h:i + n≤s.size):(s.extract i s.size).extract 0 n=s.extract i (i + n):=by
 apply ba_ext
 rw [ext_list,ext_list,ext_list,List.drop_zero,List.take_take,Nat.sub_zero,Nat.add_sub_cancel_left,Nat.min_eq_left (by omega)]
theorem pre2 (l:List UInt8) (x y:UInt8):Lib.hasPrefix l [x,y]=(l[0]? == some x && l[1]? == some y):=by
 show [x,y].isPrefixOf l=_
 match l with
 | []=>simp [List.isPrefixOf]
 | [a]=>simp [List.isPrefixOf]
 | a :: b :: r=>simp [List.isPrefixOf,Bool.beq_comm]
def hitK (h0 h1 h2 h3:Bool):Nat→Bool
 | 0=>false
 | 1=>h0
 | 2=>h0 || h1
 | 3=>h0 || h1 || h2
 | _=>h0 || h1 || h2 || h3
def hitN (h0 h1 h2 h3:Bool) (k:Nat):Int:=if hitK h0 h1 h2 h3 k then 2 else 0
theorem sgn1_idx (b:UInt8):decide (0≤Lib.indexByte [40,41,91,93,123,125,44,58,46,43,45,42,47,61,60,62] b)=sgn1 b:=by
 have key:∀ n:Fin 256,decide (0≤Lib.indexByte [40,41,91,93,123,125,44,58,46,43,45,42,47,61,60,62] (UInt8.ofNat n.val))=sgn1 (UInt8.ofNat n.val):=by decide
 have h:=key ⟨b.toNat,b.toNat_lt⟩
 simpa using h
theorem signN_hits {l:List UInt8} {i:Nat} {c:UInt8} (hc:l[i]? = some c) :
  signN l i=(if hitK (Lib.hasPrefix (l.drop i) [46,46]) (Lib.hasPrefix (l.drop i) [33,61]) (Lib.hasPrefix (l.drop i) [60,61]) (Lib.hasPrefix (l.drop i) [62,61]) 4 then 2 else if sgn1 c then 1 else 0)∧
   (hitK (Lib.hasPrefix (l.drop i) [46,46]) (Lib.hasPrefix (l.drop i) [33,61]) (Lib.hasPrefix (l.drop i) [60,61]) (Lib.hasPrefix (l.drop i) [62,61]) 4=true→i + 2≤l.length):=by
 rw [pre2,pre2,pre2,pre2,List.getElem?_drop,List.getElem?_drop,Nat.add_zero,hc]
 unfold signN hitK
 rw [hc]
 cases hb:l[i + 1]? with
 | none=>simp
 | some b=>
  have hl:i + 1 < l.length:=(List.getElem?_eq_some_iff.1 hb).1
  refine ⟨?_,fun _=>by omega⟩
  simp only [sgn2]
  simp
set_option maxHeartbeats 8000000 in
theorem lSign (w0 W:World) (R:Nat) (T:List Res) (s:ByteArray) (i on oc:Nat) (op:Option Addr) (bo bf:Bool) {c:UInt8} (HM0:Mem w0 W (.box R 265 [.string s,.int .i64 i,.slice op on oc,.bool bo,.bool bf] :: T)) (hc:s.data.toList[i]? = some c) (hs:s.size≤1000) :
  Calls Tryz.prog 258 #[.pointer (some ⟨R,0,none⟩)] W fun e w'=>e = .returned (.tuple #[.string (s.extract i (i + signN s.data.toList i)),.bool (decide (0 < signN s.data.toList i))])∧Mem w0 w' (.box R 265 [.string s,.int .i64 (i + signN s.data.toList i:Nat),.slice op on oc,.bool bo,.bool bf] :: T):=by
 have HM:=Lib.hid HM0
 have hlen:s.data.toList.length=s.size:=by simp
 have hil:i < s.size:=by rw [← hlen];exact (List.getElem?_eq_some_iff.1 hc).1
 obtain ⟨hN,hN2⟩:=signN_hits hc
 obtain ⟨m,hm⟩:∃ m,signN s.data.toList i=m:=⟨_,rfl⟩
 rw [hm] at hN ⊢
 obtain ⟨S,hS⟩:∃ S,s.extract i s.size=S:=⟨_,rfl⟩
 have hSl:S.data.toList=s.data.toList.drop i:=by rw [← hS,ext_list,List.take_of_length_le (by rw [List.length_drop];omega)]
 have hSz:S.size=s.size - i:=by
  have:S.size=S.data.toList.length:=by simp
  rw [this,hSl,List.length_drop,hlen]
 have HSx:=Lib.hid (show ∀ n,i + n≤s.size→S.extract 0 n=s.extract i (i + n) from fun n hn=>by rw [← hS];exact ext_ext s i n hn)
 have HS:=Lib.hid hS
 have HP:=Lib.hid (show ∀ (x y:UInt8) (W:World),Calls Tryz.prog 153 #[.string S,.string ⟨#[x,y]⟩] W fun e w'=>e = .returned (.bool (Lib.hasPrefix (s.data.toList.drop i) [x,y]))∧W=w' from fun x y W=>
  (Tryz.strings_HasPrefix S ⟨#[x,y]⟩ W).mono fun e w' ⟨h1,h2⟩=>⟨by rw [h1,hSl],h2.symm⟩)
 obtain ⟨h0,hh0⟩:∃ b,Lib.hasPrefix (s.data.toList.drop i) [46,46]=b:=⟨_,rfl⟩
 obtain ⟨h1,hh1⟩:∃ b,Lib.hasPrefix (s.data.toList.drop i) [33,61]=b:=⟨_,rfl⟩
 obtain ⟨h2,hh2⟩:∃ b,Lib.hasPrefix (s.data.toList.drop i) [60,61]=b:=⟨_,rfl⟩
 obtain ⟨h3,hh3⟩:∃ b,Lib.hasPrefix (s.data.toList.drop i) [62,61]=b:=⟨_,rfl⟩
 rw [hh0,hh1,hh2,hh3] at hN hN2
 have HP0:=Lib.hid (fun W=>hh0▸HP.out 46 46 W)
 have HP1:=Lib.hid (fun W=>hh1▸HP.out 33 61 W)
 have HP2:=Lib.hid (fun W=>hh2▸HP.out 60 61 W)
 have HP3:=Lib.hid (fun W=>hh3▸HP.out 62 61 W)
 have HC:=Lib.hid (show S.data.toList[0]? = some c by rw [hSl,List.getElem?_drop];exact hc)
 obtain ⟨ix,hix⟩:∃ k,Lib.indexByte [40,41,91,93,123,125,44,58,46,43,45,42,47,61,60,62] c=k:=⟨_,rfl⟩
 have HI:=Lib.hid (show ∀ W,Calls Tryz.prog 116 #[.string ⟨#[40,41,91,93,123,125,44,58,46,43,45,42,47,61,60,62]⟩,.int .u8 c.toNat] W fun e w'=>e = .returned (.int .i64 ix)∧W=w' from fun W=>
  (Tryz.strings_IndexByte ⟨#[40,41,91,93,123,125,44,58,46,43,45,42,47,61,60,62]⟩ c.toNat W).mono fun e w' ⟨g1,g2⟩=>⟨by rw [g1];simp [hix],g2.symm⟩)
 have hsg:=sgn1_idx c
 rw [hix] at hsg
 have HNm:=Lib.hid hN
 have HN2:=Lib.hid (show hitK h0 h1 h2 h3 4=true→i + 2≤s.size from fun h=>by have:=hN2 h;omega)
 have HSg:=Lib.hid hsg
 have hSp:1≤S.size:=by omega
 have hS2:=Lib.hid (show hitK h0 h1 h2 h3 4=true→2≤S.size from fun h=>by have:=hN2 h;omega)
 clear HM0 hc hS hSl HP hh0 hh1 hh2 hh3 hix hsg hN hN2 hm hlen hSz
 go_enter Tryz.func258,Tryz.ntmps258
 go_wp2_with fail
 refine wp_region_mem (by kernel_rfl) (by kernel_rfl) HM.out ?_;intro hNE;(repeat (any_goals (first|((with_reducible refine skip_q ?_ ?_ ?_);(exact rfl);(rotate_left;(exact (hNE.elim fun p=>⟨p.W,p,rfl⟩))))|refine mQ ?_|((with_reducible refine qat 16 ?_);(refine qsslf rfl rfl rfl (Nat.le_of_lt hil) ?_))|go_big_quiet_step (fail)|quiet_step (fail))));clear hNE;refine wpQuiet_nil ?_;intro W1 HM1;replace HM:=Lib.hid HM1;clear HM1
 rw [HS.out]
 go_wp2_with fail
 go_loopw [18,5] (fun kv nv wr=>∃ k:Nat,kv = .int .i64 k∧k≤4∧nv = .int .i64 (hitN h0 h1 h2 h3 k)∧Hid (Mem w0 wr (.box R 265 [.string s,.int .i64 i,.slice op on oc,.bool bo,.bool bf] :: T))) (fun kv _ _=>4 - (intOf kv).toNat)
 case atStart=>exact ⟨0,rfl,Nat.zero_le _,rfl,HM⟩
 case round=>
  clear HM
  obtain ⟨k,rfl,hk,rfl,HM⟩:=hrel
  by_cases hlt:k < 4
  ·obtain rfl|rfl|rfl|rfl:k=0∨k=1∨k=2∨k=3:=by omega
   ·cases h0
    all_goals
     go_wp2_with (first|((with_reducible refine iat 20 ?_);(refine ixc Tryz.underlying124 rfl rfl (i:=0) rfl (by decide) rfl ?_))|(go_at_call 153;(with_reducible refine (HP0.out _).mono ?_);rintro e W2 ⟨rfl,rfl⟩))
     go_roundw
     case rel=>exact ⟨1,by go_num,by omega,by simp [hitN,hitK],HM⟩
     case measure=>simp [intOf]
   ·cases h1
    all_goals
     go_wp2_with (first|((with_reducible refine iat 20 ?_);(refine ixc Tryz.underlying124 rfl rfl (i:=1) rfl (by decide) rfl ?_))|(go_at_call 153;(with_reducible refine (HP1.out _).mono ?_);rintro e W2 ⟨rfl,rfl⟩))
     go_roundw
     case rel=>exact ⟨2,by go_num,by omega,by simp [hitN,hitK],HM⟩
     case measure=>simp [intOf]
   ·cases h2
    all_goals
     go_wp2_with (first|((with_reducible refine iat 20 ?_);(refine ixc Tryz.underlying124 rfl rfl (i:=2) rfl (by decide) rfl ?_))|(go_at_call 153;(with_reducible refine (HP2.out _).mono ?_);rintro e W2 ⟨rfl,rfl⟩))
     go_roundw
     case rel=>exact ⟨3,by go_num,by omega,by simp [hitN,hitK],HM⟩
     case measure=>simp [intOf]
   ·cases h3
    all_goals
     go_wp2_with (first|((with_reducible refine iat 20 ?_);(refine ixc Tryz.underlying124 rfl rfl (i:=3) rfl (by decide) rfl ?_))|(go_at_call 153;(with_reducible refine (HP3.out _).mono ?_);rintro e W2 ⟨rfl,rfl⟩))
     go_roundw
     case rel=>exact ⟨4,by go_num,by omega,by simp [hitN,hitK],HM⟩
     case measure=>simp [intOf]
  ·obtain rfl:k=4:=by omega
   cases hh:hitK h0 h1 h2 h3 4 with
   | true=>
    have hm2:m=2:=by rw [HNm.out,hh];rfl
    subst hm2
    rw [show hitN h0 h1 h2 h3 4=2 by unfold hitN;rw [hh];rfl]
    have h2s:=hS2.out hh
    have HE:=Lib.hid (HSx.out 2 (HN2.out hh))
    go_wp2_with (first|((with_reducible refine iat 43 ?_);(refine sslh rfl rfl (j:=2) rfl h2s ?_))|((with_reducible refine skip_op ?_ ?_);exact rfl)|refine mP ?_|(refine mS ?_;clear HM;intro W1 HM))
    rw [HE.out]
    go_wp2_with fail
    go_ret2
    exact ⟨rfl,HM.out⟩
   | false=>
    rw [show hitN h0 h1 h2 h3 4=0 by unfold hitN;rw [hh];rfl]
    cases hs1:sgn1 c with
    | true=>
     have hm2:m=1:=by rw [HNm.out,hh,hs1];rfl
     subst hm2
     have g1:decide (0≤ix)=true:=by rw [HSg.out,hs1]
     have HE:=Lib.hid (HSx.out 1 (by omega))
     clear hs1 hh
     go_wp2_with (first|((with_reducible refine iat 29 ?_);(refine six rfl rfl (i:=0) rfl HC.out ?_))|(go_at_call 116;(with_reducible refine (HI.out _).mono ?_);rintro e W2 ⟨rfl,rfl⟩)|((with_reducible refine iat 43 ?_);(refine sslh rfl rfl (j:=1) rfl hSp ?_))|((with_reducible refine skip_op ?_ ?_);exact rfl)|refine mP ?_|(refine mS ?_;clear HM;intro W1 HM))
     rw [HE.out]
     go_wp2_with fail
     go_ret2
     exact ⟨rfl,HM.out⟩
    | false=>
     have hm2:m=0:=by rw [HNm.out,hh,hs1];rfl
     subst hm2
     have g1:decide (0≤ix)=false:=by rw [HSg.out,hs1]
     have HE:=Lib.hid (HSx.out 0 (by omega))
     clear hs1 hh
     go_wp2_with (first|((with_reducible refine iat 29 ?_);(refine six rfl rfl (i:=0) rfl HC.out ?_))|(go_at_call 116;(with_reducible refine (HI.out _).mono ?_);rintro e W2 ⟨rfl,rfl⟩)|((with_reducible refine iat 43 ?_);(refine sslh rfl rfl (j:=0) rfl (Nat.zero_le _) ?_))|((with_reducible refine skip_op ?_ ?_);exact rfl)|refine mP ?_|(refine mS ?_;clear HM;intro W1 HM))
     rw [HE.out]
     go_wp2_with fail
     go_ret2
     exact ⟨rfl,HM.out⟩
theorem wp_label_in {P:Program} {a:Act} {w:World} {Q:Exit→Act→World→Prop} {c x0:Code} (l:Nat) (J:Act→World→Prop) (μ:Act→World→Nat) (hf:findLabel c l=some (Code.seq .skip x0))
  (first:(∀ a w,J a w→x0.wp P (Exit.jump l J Q) a w)→c.wp P (Exit.jump l J Q) a w)
  (pass:∀ a w,J a w→x0.wp P (Exit.jump l (fun a' w'=>J a' w'∧μ a' w' < μ a w) Q) a w):(Code.scope c).wp P Q a w:=
 wp_scope_jumps l J μ hf (first fun a w hJ=>by
  intro b k cs
  obtain ⟨e,x,y,hq,harr⟩:=pass a w hJ b k cs
  refine ⟨e,x,y,?_,harr⟩
  cases e with
  | goto l'=>exact ⟨hq.1,hq.2.1⟩
  | normal=>exact hq
  | exit id=>exact hq
  | ret=>exact hq
  | panic ch=>exact hq
  | outgrown=>exact hq)
  (fun a w h=>wp_behind_skip (pass a w h))
def QE (l:List UInt8) (k:Nat):Option Nat:=quoE l (l.length + 1) k
theorem QE_end {l:List UInt8} {k:Nat} (h:l.length≤k):QE l k=none:=by unfold QE quoE;rw [List.getElem?_eq_none h]
theorem QE_two {l:List UInt8} {k:Nat} (h:l[k]? = some 92):QE l k=QE l (k + 2):=by
 have h2:QE l k=quoE l l.length (k + 2):=by unfold QE quoE;rw [h];simp only;rw [if_pos trivial,← quoE.eq_def]
 rw [h2]
 exact quoE_more l _ _ _ (by omega) (by omega)
theorem QE_one {l:List UInt8} {k:Nat} {b:UInt8} (h:l[k]? = some b) (h1:b≠92) (h2:b≠34):QE l k=QE l (k + 1):=by
 have h3:QE l k=quoE l l.length (k + 1):=by unfold QE quoE;rw [h];simp only;rw [if_neg h1,if_neg h2,← quoE.eq_def]
 rw [h3]
 exact quoE_more l _ _ _ (by omega) (by omega)
theorem QE_at {l:List UInt8} {k:Nat} (h:l[k]? = some 34):QE l k=some (k + 1):=by
 unfold QE quoE
 rw [h]
 rfl
theorem textF_no {s:ByteArray} {i:Nat} (h:s.data.toList[i]?≠some 34):textF s i=none:=by unfold textF;rw [if_neg h]
theorem textF_open {s:ByteArray} {i:Nat} (h:s.data.toList[i]? = some 34) (h2:QE s.data.toList (i + 1)=none):textF s i=none:=by
 unfold textF
 have:QE s.data.toList (i + 1)=quoE s.data.toList (s.size + 1) (i + 1):=by unfold QE;rw [show s.data.toList.length=s.size by simp]
 rw [if_pos h,← this,h2]
theorem textF_at {s:ByteArray} {i k:Nat} (h:s.data.toList[i]? = some 34) (h2:QE s.data.toList (i + 1)=some k):textF s i=if (unqR (s.extract i k)).2=0 then some ((unqR (s.extract i k)).1,k) else none:=by
 unfold textF
 have:QE s.data.toList (i + 1)=quoE s.data.toList (s.size + 1) (i + 1):=by unfold QE;rw [show s.data.toList.length=s.size by simp]
 rw [if_pos h,← this,h2]
def QPost (r:Option (ByteArray × Nat)) (w0:World) (R:Nat) (T:List Res) (s:ByteArray) (op:Option Addr) (on oc:Nat) (bo bf:Bool) (e:Ending) (w' : World):Prop:=
 match r with
 | none=>∃ (t:ByteArray) (k:Nat),e = .returned (.tuple #[.string t,.bool false])∧Mem w0 w' (.box R 265 [.string s,.int .i64 k,.slice op on oc,.bool bo,.bool bf] :: T)
 | some (t,k)=>e = .returned (.tuple #[.string t,.bool true])∧Mem w0 w' (.box R 265 [.string s,.int .i64 k,.slice op on oc,.bool bo,.bool bf] :: T)
set_option maxHeartbeats 8000000 in
theorem lQuoted (w0 W:World) (R:Nat) (T:List Res) (s:ByteArray) (i on oc:Nat) (op:Option Addr) (bo bf:Bool) (HM0:Mem w0 W (.box R 265 [.string s,.int .i64 i,.slice op on oc,.bool bo,.bool bf] :: T)) (hi:i≤s.size) (hs:s.size≤1000) (hT:U8 w0) :
  Calls Tryz.prog 255 #[.pointer (some ⟨R,0,none⟩)] W (QPost (textF s i) w0 R T s op on oc bo bf):=by
 have HM:=Lib.hid HM0
 have HT:=Lib.hid hT
 have hlen:s.data.toList.length=s.size:=by simp
 obtain ⟨S,hS⟩:∃ S,s.extract i s.size=S:=⟨_,rfl⟩
 have hSl:S.data.toList=s.data.toList.drop i:=by rw [← hS,ext_list,List.take_of_length_le (by rw [List.length_drop];omega)]
 have hpx:Lib.hasPrefix (s.data.toList.drop i) [34]=(s.data.toList[i]? == some 34):=by
  cases h:s.data.toList[i]? with
  | none=>rw [List.drop_of_length_le (by rw [List.getElem?_eq_none_iff] at h;exact h)];rfl
  | some b=>rw [drop_cons h];show [34].isPrefixOf (b :: _)=_;simp [List.isPrefixOf,Bool.beq_comm]
 have HP:=Lib.hid (show ∀ W,Calls Tryz.prog 153 #[.string S,.string ⟨#[34]⟩] W fun e w'=>e = .returned (.bool (s.data.toList[i]? == some 34))∧W=w' from fun W=>
  (Tryz.strings_HasPrefix S ⟨#[34]⟩ W).mono fun e w' ⟨h1,h2⟩=>⟨by rw [h1,← hpx,← hSl],h2.symm⟩)
 have HS:=Lib.hid hS
 by_cases h34:s.data.toList[i]? = some 34
 ·rw [h34] at HP
  obtain ⟨r,hr⟩:∃ r,QE s.data.toList (i + 1)=r:=⟨_,rfl⟩
  have HR:=Lib.hid hr
  have hil:i < s.size:=by rw [← hlen];exact (List.getElem?_eq_some_iff.1 h34).1
  have HF:=Lib.hid (show r=none→textF s i=none from fun h=>textF_open h34 (by rw [hr,h]))
  have HG:=Lib.hid (show ∀ k,r=some k→textF s i=if (unqR (s.extract i k)).2=0 then some ((unqR (s.extract i k)).1,k) else none from fun k h=>textF_at h34 (by rw [hr,h]))
  have HL:=Lib.hid hlen
  have HU:=Lib.hid (show ∀ (x:ByteArray) (W:World),x.size≤1000→U8 W→Calls Tryz.prog 111 #[.string x] W fun e w'=>e = .returned (.tuple #[.string (unqR x).1,.int .i64 (unqR x).2])∧Below W.heap.size W w' from fun x W hx hu=>unquoteV_R x▸unquote_any x W hu (by omega))
  clear HM0 hT hS hSl hpx h34 hr hlen
  go_enter Tryz.func255,Tryz.ntmps255
  go_wp2_with fail
  refine wp_label_in 0 (fun a wr=>∃ k:Nat,i + 1≤k∧k≤s.size + 1∧QE s.data.toList k=r∧Mem w0 wr (.box R 265 [.string s,.int .i64 k,.slice op on oc,.bool bo,.bool bf] :: T)∧∃ u1 u2 u3 u5 u6 u7 u8 u9 u10 u11 u12 u13 u14 u15 u16 u17 u18 u19 u20 u21 u22 u23 u24 u25 u26 u27 u28 u29 u30 u31 u32 u33 u34 u35 u36 u37 u38 u39 u40 u41 u42 u43 u44 u45 u46 u47 u48 u49 u50 u51 u52 u53 u54 u55 u56 u57 u58 u59 u60 u61 u62 u63 u64 u65 u66 u67 u68 u69 u70 u71 u72 u73 u74 u75 u76 u77 u78 u79 u80 u81 u82 u83 u84 u85 u86,a=⟨#[.pointer (some ⟨R,0,none⟩),u1,u2,u3,.int .i64 i,u5,u6,u7,u8,u9,u10,u11,u12,u13,u14,u15,u16,u17,u18,u19,u20,u21,u22,u23,u24,u25,u26,u27,u28,u29,u30,u31,u32,u33,u34,u35,u36,u37,u38,u39,u40,u41,u42,u43,u44,u45,u46,u47,u48,u49,u50,u51,u52,u53,u54,u55,u56,u57,u58,u59,u60,u61,u62,u63,u64,u65,u66,u67,u68,u69,u70,u71,u72,u73,u74,u75,u76,u77,u78,u79,u80,u81,u82,u83,u84,u85,u86],[]⟩) (fun _ wr=>s.size + 3 - (intOf ((wr.cell? ⟨R,1,none⟩).getD undef)).toNat) rfl ?_ ?_
  ·intro H
   have HH:=Lib.hid H
   clear H
   go_wp2_with (first|((with_reducible refine iat 16 ?_);(refine sslf rfl rfl rfl hi ?_;rw [HS.out]))|(go_at_call 153;(with_reducible refine (HP.out _).mono ?_);rintro e W2 ⟨rfl,rfl⟩)|refine mP ?_|(refine mS ?_;clear HM;intro W1 HM))
   go_step3
   rename_i hK
   exact hK _ _ (HH.out _ _ ⟨i + 1,Nat.le_refl _,by omega,HR.out,HM.out,_,_,_,_,_,_,_,_,_,_,_,_,_,_,_,_,_,_,_,_,_,_,_,_,_,_,_,_,_,_,_,_,_,_,_,_,_,_,_,_,_,_,_,_,_,_,_,_,_,_,_,_,_,_,_,_,_,_,_,_,_,_,_,_,_,_,_,_,_,_,_,_,_,_,_,_,_,_,_,_,_,_,_,_,_,rfl⟩)
  ·clear HM HR
   rintro a wr ⟨k,hk1,hk2,hQ,hM,u1,u2,u3,u5,u6,u7,u8,u9,u10,u11,u12,u13,u14,u15,u16,u17,u18,u19,u20,u21,u22,u23,u24,u25,u26,u27,u28,u29,u30,u31,u32,u33,u34,u35,u36,u37,u38,u39,u40,u41,u42,u43,u44,u45,u46,u47,u48,u49,u50,u51,u52,u53,u54,u55,u56,u57,u58,u59,u60,u61,u62,u63,u64,u65,u66,u67,u68,u69,u70,u71,u72,u73,u74,u75,u76,u77,u78,u79,u80,u81,u82,u83,u84,u85,u86,rfl⟩
   have HM:=Lib.hid hM
   have HQ:=Lib.hid hQ
   have HK:=Lib.hid (rd_at hM)
   clear hM hQ
   by_cases hlt:k < s.size
   ·obtain ⟨b,hb⟩:∃ b,s.data.toList[k]? = some b:=⟨_,List.getElem?_eq_getElem (by rw [HL.out];exact hlt)⟩
    have HBi:=Lib.hid hb
    have d1:decide ((s.size:Int)≤k)=false:=decide_eq_false (by omega)
    have d1' : decide (s.size≤k)=false:=decide_eq_false (by omega)
    by_cases h92:b=92
    ·subst h92
     have HQ2:=Lib.hid (show QE s.data.toList (k + 2)=r by rw [← HQ.out];exact (QE_two hb).symm)
     clear hb
     go_wp2_with fail
     refine wp_region_mem (by kernel_rfl) (by kernel_rfl) HM.out ?_;intro hNE;(repeat (any_goals (first|((with_reducible refine skip_q ?_ ?_ ?_);(exact rfl);(rotate_left;(exact (hNE.elim fun p=>⟨p.W,p,rfl⟩))))|refine mQ ?_|go_big_quiet_step (fail)|quiet_step (fail))));clear hNE;refine wpQuiet_nil ?_;intro W1 HM1;replace HM:=Lib.hid HM1;clear HM1
     go_wp2_with fail
     refine wp_region_mem (by kernel_rfl) (by kernel_rfl) HM.out ?_;intro hNE;(repeat (any_goals (first|((with_reducible refine skip_q ?_ ?_ ?_);(exact rfl);(rotate_left;(exact (hNE.elim fun p=>⟨p.W,p,rfl⟩))))|refine mQ ?_|((with_reducible refine qat 44 ?_);(refine qsix rfl rfl rfl HBi.out ?_))|go_big_quiet_step (fail)|quiet_step (fail))));clear hNE;refine wpQuiet_nil ?_;intro W1 HM1;replace HM:=Lib.hid HM1;clear HM1
     go_wp2_with (first|refine mP ?_|(refine mS ?_;clear HM;intro W1 HM))
     exact wp_goto ⟨rfl,⟨k + 2,by omega,by omega,HQ2.out,HM.out,_,_,_,_,_,_,_,_,_,_,_,_,_,_,_,_,_,_,_,_,_,_,_,_,_,_,_,_,_,_,_,_,_,_,_,_,_,_,_,_,_,_,_,_,_,_,_,_,_,_,_,_,_,_,_,_,_,_,_,_,_,_,_,_,_,_,_,_,_,_,_,_,_,_,_,_,_,_,_,_,_,_,_,_,_,rfl⟩,by rw [rd_at (k:=k + 2) HM.out,HK.out];omega⟩
    ·have q1:((b.toNat:Int) == 92)=false:=by simpa using fun e:(b.toNat:Int)=92=>h92 (UInt8.toNat_inj.1 (by show b.toNat=92;omega))
     by_cases h34b:b=34
     ·subst h34b
      have hrk:r=some (k + 1):=by rw [← HQ.out];exact QE_at hb
      have HG2:=Lib.hid (HG.out _ hrk)
      have hk3:k + 1≤s.size:=hlt
      have hik:i≤k + 1:=by omega
      have hxs:(s.extract i (k + 1)).size≤1000:=by rw [ByteArray.size_extract];omega
      have HU2:=Lib.hid (fun W hu=>HU.out (s.extract i (k + 1)) W hxs hu)
      obtain ⟨⟨ut,ue⟩,hu⟩:∃ x,unqR (s.extract i (k + 1))=x:=⟨_,rfl⟩
      rw [hu] at HU2 HG2
      clear hb hu hrk HG HF
      go_wp2_with fail
      refine wp_region_mem (by kernel_rfl) (by kernel_rfl) HM.out ?_;intro hNE;(repeat (any_goals (first|((with_reducible refine skip_q ?_ ?_ ?_);(exact rfl);(rotate_left;(exact (hNE.elim fun p=>⟨p.W,p,rfl⟩))))|refine mQ ?_|go_big_quiet_step (fail)|quiet_step (fail))));clear hNE;refine wpQuiet_nil ?_;intro W1 HM1;replace HM:=Lib.hid HM1;clear HM1
      go_wp2_with fail
      refine wp_region_mem (by kernel_rfl) (by kernel_rfl) HM.out ?_;intro hNE;(repeat (any_goals (first|((with_reducible refine skip_q ?_ ?_ ?_);(exact rfl);(rotate_left;(exact (hNE.elim fun p=>⟨p.W,p,rfl⟩))))|refine mQ ?_|((with_reducible refine qat 44 ?_);(refine qsix rfl rfl rfl HBi.out ?_))|go_big_quiet_step (fail)|quiet_step (fail))));clear hNE;refine wpQuiet_nil ?_;intro W1 HM1;replace HM:=Lib.hid HM1;clear HM1
      go_wp2_with (first|refine mP ?_|(refine mS ?_;clear HM;intro W1 HM))
      refine wp_region_steps2 [(true,0),(true,1),(true,2),(true,3),(true,4),(true,5),(true,6),(true,7),(true,8),(true,9),(false,10),(true,11),(true,12),(true,13),(true,14),(true,15)] (by kernel_rfl) (by kernel_rfl) rfl (by kernel_rfl) (fun _ _ _ _ _ h=>h) HM.out _ (.cons_cons _ (List.nil_sublist _)) ?_
      intro hNE W1 HM1;replace HM:=Lib.hid HM1;clear HM1
      have HS0:=Lib.hid (HM.out.sub (.cons_cons _ (List.nil_sublist _)))
      simp only [wpSteps,List.getElem?_cons_succ,List.getElem?_cons_zero]
      (repeat (first|refine mQ ?_|((with_reducible refine wpQuiet_nil ?_);(try dsimp only))|((with_reducible refine qat 80 ?_);(refine qssls rfl rfl rfl rfl (j:=k + 1) rfl hik hk3 ?_))|go_big_quiet_step (fail)|quiet_step (fail)))
      go_wp2_with (first|(go_at_call 111;(with_reducible refine cB HM (HU2.out _ (U8.below HT.out HM.out.below)) ?_);clear HM;intro W1 HM))
      refine ⟨⟨⟨_,HM.out.sub msub⟩,rfl⟩,?_⟩
      (try dsimp only)
      (repeat (first|((with_reducible refine wpQuiet_nil ?_);(try dsimp only))|go_big_quiet_step (fail)|quiet_step (fail)))
      clear HS0 hNE
      go_wp2_with fail
      simp only [Exit.jump]
      go_ret2
      rw [HG2.out]
      by_cases h0:ue=0
      ·subst h0
       exact ⟨rfl,HM.out⟩
      ·rw [if_neg h0]
       have he:(ue == 0)=false:=by simpa using h0
       exact ⟨ut,k + 1,by rw [← he];rfl,HM.out⟩
     ·have q2:((b.toNat:Int) == 34)=false:=by simpa using fun e:(b.toNat:Int)=34=>h34b (UInt8.toNat_inj.1 (by show b.toNat=34;omega))
      have HQ2:=Lib.hid (show QE s.data.toList (k + 1)=r by rw [← HQ.out];exact (QE_one hb h92 h34b).symm)
      clear hb
      go_wp2_with fail
      refine wp_region_mem (by kernel_rfl) (by kernel_rfl) HM.out ?_;intro hNE;(repeat (any_goals (first|((with_reducible refine skip_q ?_ ?_ ?_);(exact rfl);(rotate_left;(exact (hNE.elim fun p=>⟨p.W,p,rfl⟩))))|refine mQ ?_|go_big_quiet_step (fail)|quiet_step (fail))));clear hNE;refine wpQuiet_nil ?_;intro W1 HM1;replace HM:=Lib.hid HM1;clear HM1
      go_wp2_with fail
      refine wp_region_mem (by kernel_rfl) (by kernel_rfl) HM.out ?_;intro hNE;(repeat (any_goals (first|((with_reducible refine skip_q ?_ ?_ ?_);(exact rfl);(rotate_left;(exact (hNE.elim fun p=>⟨p.W,p,rfl⟩))))|refine mQ ?_|((with_reducible refine qat 44 ?_);(refine qsix rfl rfl rfl HBi.out ?_))|go_big_quiet_step (fail)|quiet_step (fail))));clear hNE;refine wpQuiet_nil ?_;intro W1 HM1;replace HM:=Lib.hid HM1;clear HM1
      go_wp2_with (first|refine mP ?_|(refine mS ?_;clear HM;intro W1 HM))
      exact wp_goto ⟨rfl,⟨k + 1,by omega,by omega,HQ2.out,HM.out,_,_,_,_,_,_,_,_,_,_,_,_,_,_,_,_,_,_,_,_,_,_,_,_,_,_,_,_,_,_,_,_,_,_,_,_,_,_,_,_,_,_,_,_,_,_,_,_,_,_,_,_,_,_,_,_,_,_,_,_,_,_,_,_,_,_,_,_,_,_,_,_,_,_,_,_,_,_,_,_,_,_,_,_,_,rfl⟩,by rw [rd_at (k:=k + 1) HM.out,HK.out];omega⟩
   ·have hn:textF s i=none:=HF.out (by rw [← HQ.out];exact QE_end (by rw [HL.out];omega))
    have HN:=Lib.hid hn
    have d1:decide ((s.size:Int)≤k)=true:=decide_eq_true (by omega)
    have d1' : decide (s.size≤k)=true:=decide_eq_true (by omega)
    clear hn
    go_wp2_with fail
    refine wp_region_mem (by kernel_rfl) (by kernel_rfl) HM.out ?_;intro hNE;(repeat (any_goals (first|((with_reducible refine skip_q ?_ ?_ ?_);(exact rfl);(rotate_left;(exact (hNE.elim fun p=>⟨p.W,p,rfl⟩))))|refine mQ ?_|go_big_quiet_step (fail)|quiet_step (fail))));clear hNE;refine wpQuiet_nil ?_;intro W1 HM1;replace HM:=Lib.hid HM1;clear HM1
    go_wp2_with fail
    simp only [Exit.jump]
    go_ret2
    rw [HN.out]
    exact ⟨_,_,rfl,HM.out⟩
 ·have HN:=Lib.hid (textF_no h34)
  have hq:(s.data.toList[i]? == some 34)=false:=by simpa using h34
  rw [hq] at HP
  clear HM0 hT hS hSl hpx h34 hlen hq
  go_enter Tryz.func255,Tryz.ntmps255
  go_wp2_with fail
  refine wp_label_in 0 (fun _ _=>False) (fun _ _=>0) rfl ?_ (fun _ _ h=>h.elim)
  intro H
  clear H
  go_wp2_with (first|((with_reducible refine iat 16 ?_);(refine sslf rfl rfl rfl hi ?_;rw [HS.out]))|(go_at_call 153;(with_reducible refine (HP.out _).mono ?_);rintro e W2 ⟨rfl,rfl⟩)|refine mP ?_|(refine mS ?_;clear HM;intro W1 HM))
  simp only [Exit.jump]
  go_ret2
  rw [HN.out]
  exact ⟨_,_,rfl,HM.out⟩
end Go.Proofs.YtnghlakllgkjlaaGreatDoor
