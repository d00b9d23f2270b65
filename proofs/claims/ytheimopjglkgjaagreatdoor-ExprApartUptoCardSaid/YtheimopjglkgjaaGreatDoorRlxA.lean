/- The reference's lexer, its small functions. The reference's sign. Lists of decimal digits, the least first: cut, halved; in plain Lean. The reference's digits: Cut, half, number. The words of a number, bit by bit; in plain Lean. The digits of a text, the least first; in plain Lean. -/
import Derived.Test.YtheimopjglkgjaaGreatDoorLexW
import Derived.Test.YtheimopjglkgjaaGreatDoorCharsA
import Derived.Test.YtheimopjglkgjaaGreatDoorSepA
import Derived.Test.YtheimopjglkgjaaGreatDoorLexP
import Derived.Test.YtheimopjglkgjaaGreatDoorTypes
import Derived.Laws.Entries
namespace Go.Proofs.YtheimopjglkgjaaGreatDoor
open Go.RowKit
set_option linter.unusedVariables false
set_option linter.unusedSimpArgs false
set_option maxRecDepth 100000
theorem rDg (b:UInt8) (w:World):Calls Tryz.prog 70 #[.int .u8 b.toNat] w fun e w'=>e = .returned (.bool (dg b))∧w=w':=decB_dg b▸digit_any b.toNat w
def rqV (r:Option Nat):Int:=match r with|none=>-1|some k=>(k:Int)
def RTPost (r:Option (ByteArray × Nat)) (e:Ending):Prop:=match r with
 | none=>∃ (t:ByteArray) (k:Int),e = .returned (.tuple #[.string t,.int .i64 k,.bool false])
 | some (t,k)=>e = .returned (.tuple #[.string t,.int .i64 k,.bool true])
theorem rLt (b:UInt8) (w:World):Calls Tryz.prog 68 #[.int .u8 b.toNat] w fun e w'=>e = .returned (.bool (lt1 b))∧w=w':=letter_any b.toNat w
set_option maxHeartbeats 4000000 in
theorem rlDigits (s:ByteArray) (i:Nat) (w:World) (hi:i≤s.size) (hs:s.size≤1000) :
  Calls Tryz.prog 136 #[.string s,.int .i64 i] w fun e w'=>e = .returned (.int .i64 (spanE dg s.data.toList i:Nat))∧Below w.heap.size w w':=by
 have HM:=Lib.hid (Mem.start w)
 have HL:=Lib.hid (show s.data.toList.length=s.size by simp)
 obtain ⟨r,hr⟩:∃ r,spanE dg s.data.toList i=r:=⟨_,rfl⟩
 rw [hr]
 have HR:=Lib.hid hr
 clear hr
 go_enter Tryz.func136,Tryz.ntmps136
 go_wp2_with fail
 go_loopw [1] (fun iv wr=>∃ k:Nat,iv = .int .i64 k∧k≤s.size∧Hid (spanE dg s.data.toList k=r)∧Hid (Mem w wr [])) (fun iv _=>s.size - (intOf iv).toNat)
 case atStart=>exact ⟨i,rfl,hi,HR,HM⟩
 case round=>
  clear HM HR
  obtain ⟨k,rfl,hk,HR,HM⟩:=hrel
  by_cases hlt:k < s.size
  ·obtain ⟨b,hb⟩:∃ b,s.data.toList[k]? = some b:=⟨_,List.getElem?_eq_getElem (by rw [HL.out];exact hlt)⟩
   have HBi:=Lib.hid hb
   have d1:decide ((k:Int) < s.size)=true:=decide_eq_true (by omega)
   have hlt3:=Lib.hid (show k + 1≤s.size from hlt)
   cases hp:dg b with
   | true=>
    have HF:=Lib.hid (fun W=>hp▸rDg b W)
    have HR2:=Lib.hid (show spanE dg s.data.toList (k + 1)=r by rw [← HR.out];exact (spanE_yes hb hp).symm)
    clear hb hp
    go_wp2_with (first|((with_reducible refine iat 12 ?_);(refine six rfl rfl rfl HBi.out ?_))|(go_at_call 70;(with_reducible refine (HF.out _).mono ?_);rintro e W2 ⟨rfl,rfl⟩))
    go_roundw
    case rel=>exact ⟨k + 1,by go_num,hlt3.out,HR2,HM⟩
    case measure=>have:=hlt3.out;simp [intOf];omega
   | false=>
    have HF:=Lib.hid (fun W=>hp▸rDg b W)
    have HR2:=Lib.hid (show k=r by rw [← HR.out];exact (spanE_no hb hp).symm)
    clear hb hp
    go_wp2_with (first|((with_reducible refine iat 12 ?_);(refine six rfl rfl rfl HBi.out ?_))|(go_at_call 70;(with_reducible refine (HF.out _).mono ?_);rintro e W2 ⟨rfl,rfl⟩))
    go_ret
    exact ⟨by rw [HR2.out];rfl,HM.out.below⟩
  ·have HR2:=Lib.hid (show k=r by rw [← HR.out];exact (spanE_end (by rw [HL.out];omega)).symm)
   have d1:decide ((k:Int) < s.size)=false:=decide_eq_false (by omega)
   go_wp2_with fail
   go_ret
   exact ⟨by rw [HR2.out];rfl,HM.out.below⟩
set_option maxHeartbeats 4000000 in
theorem rlWord (s:ByteArray) (i:Nat) (w:World) (hi:i≤s.size) (hs:s.size≤1000) :
  Calls Tryz.prog 110 #[.string s,.int .i64 i] w fun e w'=>e = .returned (.int .i64 (spanE wdB s.data.toList i:Nat))∧Below w.heap.size w w':=by
 have HM:=Lib.hid (Mem.start w)
 have HL:=Lib.hid (show s.data.toList.length=s.size by simp)
 obtain ⟨r,hr⟩:∃ r,spanE wdB s.data.toList i=r:=⟨_,rfl⟩
 rw [hr]
 have HR:=Lib.hid hr
 clear hr
 go_enter Tryz.func110,Tryz.ntmps110
 go_wp2_with fail
 go_loopw [1] (fun iv wr=>∃ k:Nat,iv = .int .i64 k∧k≤s.size∧Hid (spanE wdB s.data.toList k=r)∧Hid (Mem w wr [])) (fun iv _=>s.size - (intOf iv).toNat)
 case atStart=>exact ⟨i,rfl,hi,HR,HM⟩
 case round=>
  clear HM HR
  obtain ⟨k,rfl,hk,HR,HM⟩:=hrel
  by_cases hlt:k < s.size
  ·obtain ⟨b,hb⟩:∃ b,s.data.toList[k]? = some b:=⟨_,List.getElem?_eq_getElem (by rw [HL.out];exact hlt)⟩
   have HBi:=Lib.hid hb
   have d1:decide ((k:Int) < s.size)=true:=decide_eq_true (by omega)
   have hlt3:=Lib.hid (show k + 1≤s.size from hlt)
   cases hl:lt1 b with
   | true=>
    have HG:=Lib.hid (fun W=>hl▸rLt b W)
    have hp:wdB b=true:=by unfold wdB;rw [hl];rfl
    have HR2:=Lib.hid (show spanE wdB s.data.toList (k + 1)=r by rw [← HR.out];exact (spanE_yes hb hp).symm)
    clear hb hp hl
    go_wp2_with (first|((with_reducible refine iat 12 ?_);(refine six rfl rfl rfl HBi.out ?_))|((with_reducible refine iat 17 ?_);(refine six rfl rfl rfl HBi.out ?_))|(go_at_call 68;(with_reducible refine (HG.out _).mono ?_);rintro e W2 ⟨rfl,rfl⟩))
    go_roundw
    case rel=>exact ⟨k + 1,by go_num,hlt3.out,HR2,HM⟩
    case measure=>have:=hlt3.out;simp [intOf];omega
   | false=>
    have HG:=Lib.hid (fun W=>hl▸rLt b W)
    cases hd:dg b with
    | true=>
     have HF:=Lib.hid (fun W=>hd▸rDg b W)
     have hp:wdB b=true:=by unfold wdB;rw [hl,hd];rfl
     have HR2:=Lib.hid (show spanE wdB s.data.toList (k + 1)=r by rw [← HR.out];exact (spanE_yes hb hp).symm)
     clear hb hp hl hd
     go_wp2_with (first|((with_reducible refine iat 12 ?_);(refine six rfl rfl rfl HBi.out ?_))|((with_reducible refine iat 17 ?_);(refine six rfl rfl rfl HBi.out ?_))|(go_at_call 70;(with_reducible refine (HF.out _).mono ?_);rintro e W2 ⟨rfl,rfl⟩)|(go_at_call 68;(with_reducible refine (HG.out _).mono ?_);rintro e W2 ⟨rfl,rfl⟩))
     go_roundw
     case rel=>exact ⟨k + 1,by go_num,hlt3.out,HR2,HM⟩
     case measure=>have:=hlt3.out;simp [intOf];omega
    | false=>
     have HF:=Lib.hid (fun W=>hd▸rDg b W)
     have hp:wdB b=false:=by unfold wdB;rw [hl,hd];rfl
     have HR2:=Lib.hid (show k=r by rw [← HR.out];exact (spanE_no hb hp).symm)
     clear hb hp hl hd
     go_wp2_with (first|((with_reducible refine iat 12 ?_);(refine six rfl rfl rfl HBi.out ?_))|((with_reducible refine iat 17 ?_);(refine six rfl rfl rfl HBi.out ?_))|(go_at_call 70;(with_reducible refine (HF.out _).mono ?_);rintro e W2 ⟨rfl,rfl⟩)|(go_at_call 68;(with_reducible refine (HG.out _).mono ?_);rintro e W2 ⟨rfl,rfl⟩))
     go_ret
     exact ⟨by rw [HR2.out];rfl,HM.out.below⟩
  ·have HR2:=Lib.hid (show k=r by rw [← HR.out];exact (spanE_end (by rw [HL.out];omega)).symm)
   have d1:decide ((k:Int) < s.size)=false:=decide_eq_false (by omega)
   go_wp2_with fail
   go_ret
   exact ⟨by rw [HR2.out];rfl,HM.out.below⟩
set_option maxHeartbeats 4000000 in
theorem rlNumber (s:ByteArray) (i:Nat) (w:World) (hi:i≤s.size) (hs:s.size≤1000) :
  Calls Tryz.prog 106 #[.string s,.int .i64 i] w fun e w'=>e = .returned (.int .i64 (numE s.data.toList i:Nat))∧Below w.heap.size w w':=by
 have HM:=Lib.hid (Mem.start w)
 have hlen:s.data.toList.length=s.size:=by simp
 obtain ⟨k,hk⟩:∃ k,spanE dg s.data.toList i=k:=⟨_,rfl⟩
 have hle:=spanE_le (p:=dg) (l:=s.data.toList) (i:=i) (by omega)
 rw [hk,hlen] at hle
 have H1:=Lib.hid (fun W=>hk▸rlDigits s i W hi hs)
 by_cases hk1:k + 1 < s.size
 ·obtain ⟨b1,hb1⟩:∃ b,s.data.toList[k]? = some b:=⟨_,List.getElem?_eq_getElem (by omega)⟩
  obtain ⟨b2,hb2⟩:∃ b,s.data.toList[k + 1]? = some b:=⟨_,List.getElem?_eq_getElem (by omega)⟩
  have HB1:=Lib.hid hb1
  have HB2:=Lib.hid hb2
  have d1:decide ((k:Int) < (s.size:Int) - 1)=true:=decide_eq_true (by omega)
  by_cases hdot:b1=46
  ·subst hdot
   have H2:=Lib.hid (fun W=>rDg b2 W)
   cases hp:dg b2 with
   | true=>
    have hE:numE s.data.toList i=spanE dg s.data.toList (k + 1):=numE_dot hk hb1 hb2 hp
    obtain ⟨r,hr⟩:∃ r,spanE dg s.data.toList (k + 1)=r:=⟨_,rfl⟩
    have H3:=Lib.hid (fun W=>(show Calls Tryz.prog 136 #[.string s,.int .i64 ((k:Int) + 1)] W fun e w'=>e = .returned (.int .i64 r)∧Below W.heap.size W w' from hr▸rlDigits s (k + 1) W (by omega) hs))
    rw [hE,hr]
    rw [hp] at H2
    clear hE hr hp hb1 hb2 hk
    go_enter Tryz.func106,Tryz.ntmps106
    go_wp2_with (first|(go_at_call 136;first|((with_reducible refine cB HM (H1.out _) ?_);clear HM;intro W1 HM)|((with_reducible refine cB HM (H3.out _) ?_);clear HM;intro W1 HM))|((with_reducible refine iat 17 ?_);(refine six rfl rfl rfl HB1.out ?_))|((with_reducible refine iat 24 ?_);(refine six rfl rfl (i:=k + 1) rfl HB2.out ?_))|(go_at_call 70;(with_reducible refine (H2.out _).mono ?_);rintro e W2 ⟨rfl,rfl⟩))
    go_ret
    exact ⟨rfl,HM.out.below⟩
   | false=>
    have hE:numE s.data.toList i=k:=numE_one hk (fun h=>by rw [hb2] at h;have:=Option.some.inj h.2;rw [hp] at this;cases this)
    rw [hE]
    rw [hp] at H2
    clear hE hp hb1 hb2 hk
    go_enter Tryz.func106,Tryz.ntmps106
    go_wp2_with (first|(go_at_call 136;(with_reducible refine cB HM (H1.out _) ?_);clear HM;intro W1 HM)|((with_reducible refine iat 17 ?_);(refine six rfl rfl rfl HB1.out ?_))|((with_reducible refine iat 24 ?_);(refine six rfl rfl (i:=k + 1) rfl HB2.out ?_))|(go_at_call 70;(with_reducible refine (H2.out _).mono ?_);rintro e W2 ⟨rfl,rfl⟩))
    go_ret
    exact ⟨rfl,HM.out.below⟩
  ·have hE:numE s.data.toList i=k:=numE_one hk (fun h=>by rw [hb1] at h;exact hdot (Option.some.inj h.1))
   have hq:((b1.toNat:Int) == 46)=false:=by simpa using fun e:(b1.toNat:Int)=46=>hdot (UInt8.toNat_inj.1 (by show b1.toNat=46;omega))
   rw [hE]
   clear hE hdot hb1 hb2 hk
   go_enter Tryz.func106,Tryz.ntmps106
   go_wp2_with (first|(go_at_call 136;(with_reducible refine cB HM (H1.out _) ?_);clear HM;intro W1 HM)|((with_reducible refine iat 17 ?_);(refine six rfl rfl rfl HB1.out ?_)))
   go_ret
   exact ⟨rfl,HM.out.below⟩
 ·have hE:numE s.data.toList i=k:=numE_one hk (fun h=>by rw [List.getElem?_eq_none (show s.data.toList.length≤k + 1 by omega)] at h;exact absurd h.2 (by simp))
  have d1:decide ((k:Int) < (s.size:Int) - 1)=false:=decide_eq_false (by omega)
  rw [hE]
  clear hE hk
  go_enter Tryz.func106,Tryz.ntmps106
  go_wp2_with (first|(go_at_call 136;(with_reducible refine cB HM (H1.out _) ?_);clear HM;intro W1 HM))
  go_ret
  exact ⟨rfl,HM.out.below⟩
set_option maxHeartbeats 4000000 in
theorem rlQuoted (s:ByteArray) (i:Nat) (w:World) (hi:i < s.size) (hs:s.size≤1000) :
  Calls Tryz.prog 140 #[.string s,.int .i64 i] w fun e w'=>e = .returned (.int .i64 (rqV (QE s.data.toList (i + 1))))∧Below w.heap.size w w':=by
 have HM:=Lib.hid (Mem.start w)
 have HL:=Lib.hid (show s.data.toList.length=s.size by simp)
 obtain ⟨r,hr⟩:∃ r,QE s.data.toList (i + 1)=r:=⟨_,rfl⟩
 rw [hr]
 have HR:=Lib.hid hr
 clear hr
 go_enter Tryz.func140,Tryz.ntmps140
 go_wp2_with fail
 go_loopw [5] (fun iv wr=>∃ k:Nat,iv = .int .i64 k∧k≤s.size + 1∧Hid (QE s.data.toList k=r)∧Hid (Mem w wr [])) (fun iv _=>s.size + 2 - (intOf iv).toNat)
 case atStart=>exact ⟨i + 1,by go_num,by omega,HR,HM⟩
 case round=>
  clear HM HR
  obtain ⟨k,rfl,hk,HR,HM⟩:=hrel
  by_cases hlt:k < s.size
  ·obtain ⟨b,hb⟩:∃ b,s.data.toList[k]? = some b:=⟨_,List.getElem?_eq_getElem (by rw [HL.out];exact hlt)⟩
   have HBi:=Lib.hid hb
   have d1:decide ((k:Int) < s.size)=true:=decide_eq_true (by omega)
   by_cases h92:b=92
   ·subst h92
    have HR2:=Lib.hid (show QE s.data.toList (k + 2)=r by rw [← HR.out];exact (QE_two hb).symm)
    have hlt3:=Lib.hid (show k + 2≤s.size + 1 by omega)
    clear hb
    go_wp2_with (first|((with_reducible refine iat 16 ?_);(refine six rfl rfl rfl HBi.out ?_))|((with_reducible refine iat 22 ?_);(refine six rfl rfl rfl HBi.out ?_)))
    go_roundw
    case rel=>exact ⟨k + 2,by go_num,hlt3.out,HR2,HM⟩
    case measure=>have:=hlt3.out;simp [intOf];omega
   ·have q1:((b.toNat:Int) == 92)=false:=by simpa using fun e:(b.toNat:Int)=92=>h92 (UInt8.toNat_inj.1 (by show b.toNat=92;omega))
    by_cases h34:b=34
    ·subst h34
     have HR2:=Lib.hid (show r=some (k + 1) by rw [← HR.out];exact QE_at hb)
     clear hb
     go_wp2_with (first|((with_reducible refine iat 16 ?_);(refine six rfl rfl rfl HBi.out ?_))|((with_reducible refine iat 22 ?_);(refine six rfl rfl rfl HBi.out ?_)))
     go_ret
     exact ⟨by rw [HR2.out];rfl,HM.out.below⟩
    ·have q2:((b.toNat:Int) == 34)=false:=by simpa using fun e:(b.toNat:Int)=34=>h34 (UInt8.toNat_inj.1 (by show b.toNat=34;omega))
     have HR2:=Lib.hid (show QE s.data.toList (k + 1)=r by rw [← HR.out];exact (QE_one hb h92 h34).symm)
     have hlt3:=Lib.hid (show k + 1≤s.size + 1 by omega)
     clear hb
     go_wp2_with (first|((with_reducible refine iat 16 ?_);(refine six rfl rfl rfl HBi.out ?_))|((with_reducible refine iat 22 ?_);(refine six rfl rfl rfl HBi.out ?_)))
     go_roundw
     case rel=>exact ⟨k + 1,by go_num,hlt3.out,HR2,HM⟩
     case measure=>have:=hlt3.out;simp [intOf];omega
  ·have HR2:=Lib.hid (show r=none by rw [← HR.out];exact QE_end (by rw [HL.out];omega))
   have d1:decide ((k:Int) < s.size)=false:=decide_eq_false (by omega)
   go_wp2_with fail
   go_ret
   exact ⟨by rw [HR2.out];rfl,HM.out.below⟩
set_option maxHeartbeats 4000000 in
theorem rlText (s:ByteArray) (i:Nat) (w:World) (hi:i≤s.size) (hs:s.size≤1000) :
  Calls Tryz.prog 108 #[.string s,.int .i64 i] w fun e w'=>RTPost (textF s i) e∧Below w.heap.size w w':=by
 have HM:=Lib.hid (Mem.start w)
 have hlen:s.data.toList.length=s.size:=by simp
 by_cases hil:i < s.size
 ·obtain ⟨c,hc⟩:∃ c,s.data.toList[i]? = some c:=⟨_,List.getElem?_eq_getElem (by rw [hlen];exact hil)⟩
  have HC:=Lib.hid hc
  have d1:decide ((s.size:Int)≤i)=false:=decide_eq_false (by omega)
  have d1' : decide (s.size≤i)=false:=decide_eq_false (by omega)
  by_cases h34:c=34
  ·subst h34
   have HQ:=Lib.hid (fun W=>rlQuoted s i W hil hs)
   cases hq:QE s.data.toList (i + 1) with
   | none=>
    rw [hq] at HQ
    have HQ:=Lib.hid (show ∀ W,Calls Tryz.prog 140 #[.string s,.int .i64 i] W fun e w'=>e = .returned (.int .i64 (-1))∧Below W.heap.size W w' from HQ.out)
    have hn:=textF_open hc hq
    have HN:=Lib.hid hn
    clear hc hq hn
    go_enter Tryz.func108,Tryz.ntmps108
    go_wp2_with (first|((with_reducible refine iat 17 ?_);(refine six rfl rfl rfl HC.out ?_))|(go_at_call 140;(with_reducible refine cB HM (HQ.out _) ?_);clear HM;intro W1 HM))
    go_ret3
    rw [HN.out]
    exact ⟨⟨_,_,rfl⟩,HM.out.below⟩
   | some k=>
    rw [hq] at HQ
    have HQ:=Lib.hid (show ∀ W,Calls Tryz.prog 140 #[.string s,.int .i64 i] W fun e w'=>e = .returned (.int .i64 k)∧Below W.heap.size W w' from HQ.out)
    have hk:=quoE_le _ _ _ hq
    have HG:=Lib.hid (textF_at hc hq)
    obtain ⟨⟨ut,ue⟩,hu⟩:∃ x,unqR (s.extract i k)=x:=⟨_,rfl⟩
    have hxs:(s.extract i k).size≤1000:=by rw [ByteArray.size_extract];omega
    have HU:=Lib.hid (show ∀ W,Calls Tryz.prog 141 #[.string (s.extract i k)] W fun e w'=>e = .returned (.tuple #[.string ut,.int .i64 ue])∧Below W.heap.size W w' from fun W=>by
     have h:=runquote_any (s.extract i k) W (by omega)
     rw [unquoteV_R,hu] at h
     exact h)
    rw [hu] at HG
    have hik:i≤k:=by omega
    have hks:k≤s.size:=by omega
    have g1:decide ((k:Int) < 0)=false:=decide_eq_false (by omega)
    clear hc hq hu hxs
    go_enter Tryz.func108,Tryz.ntmps108
    go_wp2_with (first|((with_reducible refine iat 17 ?_);(refine six rfl rfl rfl HC.out ?_))|((with_reducible refine iat 29 ?_);(refine ssls rfl rfl rfl rfl rfl hik hks ?_))|(go_at_call 140;(with_reducible refine cB HM (HQ.out _) ?_);clear HM;intro W1 HM)|(go_at_call 141;(with_reducible refine cB HM (HU.out _) ?_);clear HM;intro W1 HM))
    go_ret3
    rw [HG.out]
    by_cases h0:ue=0
    ·subst h0
     exact ⟨rfl,HM.out.below⟩
    ·rw [if_neg h0]
     have he:(ue == 0)=false:=by simpa using h0
     exact ⟨⟨ut,k,by rw [← he];rfl⟩,HM.out.below⟩
  ·have hn:=textF_no (s:=s) (i:=i) (by rw [hc];exact fun e=>h34 (Option.some.inj e))
   have HN:=Lib.hid hn
   have q2:((c.toNat:Int) == 34)=false:=by simpa using fun e:(c.toNat:Int)=34=>h34 (UInt8.toNat_inj.1 (by show c.toNat=34;omega))
   clear hc hn
   go_enter Tryz.func108,Tryz.ntmps108
   go_wp2_with (first|((with_reducible refine iat 17 ?_);(refine six rfl rfl rfl HC.out ?_)))
   go_ret3
   rw [HN.out]
   exact ⟨⟨_,_,rfl⟩,HM.out.below⟩
 ·have hn:=textF_no (s:=s) (i:=i) (by rw [List.getElem?_eq_none (by omega)];simp)
  have HN:=Lib.hid hn
  have d1:decide ((s.size:Int)≤i)=true:=decide_eq_true (by omega)
  have d1' : decide (s.size≤i)=true:=decide_eq_true (by omega)
  clear hn
  go_enter Tryz.func108,Tryz.ntmps108
  go_wp2_with fail
  go_ret3
  rw [HN.out]
  exact ⟨⟨_,_,rfl⟩,HM.out.below⟩
def rsV (i n:Nat):Int:=if n=0 then -1 else ((i + n:Nat):Int)
theorem sgn1_cases {c:UInt8} (h:sgn1 c=true):c=40∨c=41∨c=91∨c=93∨c=123∨c=125∨c=44∨c=58∨c=46∨c=43∨c=45∨c=42∨c=47∨c=61∨c=60∨c=62:=by
 unfold sgn1 at h
 simpa using h
theorem sgn1_none {c:UInt8} (h:sgn1 c=false):((c.toNat:Int) == 40)=false∧((c.toNat:Int) == 41)=false∧((c.toNat:Int) == 91)=false∧((c.toNat:Int) == 93)=false∧((c.toNat:Int) == 123)=false∧((c.toNat:Int) == 125)=false∧((c.toNat:Int) == 44)=false∧((c.toNat:Int) == 58)=false∧((c.toNat:Int) == 46)=false∧((c.toNat:Int) == 43)=false∧((c.toNat:Int) == 45)=false∧((c.toNat:Int) == 42)=false∧((c.toNat:Int) == 47)=false∧((c.toNat:Int) == 61)=false∧((c.toNat:Int) == 60)=false∧((c.toNat:Int) == 62)=false:=by
 refine ⟨?_,?_,?_,?_,?_,?_,?_,?_,?_,?_,?_,?_,?_,?_,?_,?_⟩
 all_goals
  refine beq_eq_false_iff_ne.2 (fun e=>?_)
  revert h
  have key:∀ n:Fin 256,(n.val=40∨n.val=41∨n.val=91∨n.val=93∨n.val=123∨n.val=125∨n.val=44∨n.val=58∨n.val=46∨n.val=43∨n.val=45∨n.val=42∨n.val=47∨n.val=61∨n.val=60∨n.val=62)→sgn1 (UInt8.ofNat n.val)=true:=by decide
  have h2:=key ⟨c.toNat,c.toNat_lt⟩ (by show c.toNat=40∨c.toNat=41∨c.toNat=91∨c.toNat=93∨c.toNat=123∨c.toNat=125∨c.toNat=44∨c.toNat=58∨c.toNat=46∨c.toNat=43∨c.toNat=45∨c.toNat=42∨c.toNat=47∨c.toNat=61∨c.toNat=60∨c.toNat=62;omega)
  intro h
  have h3:sgn1 c=true:=by simpa using h2
  rw [h] at h3
  cases h3
theorem sgn2_cases {c b:UInt8} (h:sgn2 c b=true):(c=46∧b=46)∨(c=33∧b=61)∨(c=60∧b=61)∨(c=62∧b=61):=by
 unfold sgn2 at h
 simp only [Bool.or_eq_true,Bool.and_eq_true,beq_iff_eq] at h
 rcases h with ((h|h)|h)|h <;> simp [h]
set_option maxHeartbeats 8000000 in
theorem rlSign (s:ByteArray) (i:Nat) {c:UInt8} (w:World) (hc:s.data.toList[i]? = some c) (hs:s.size≤1000) :
  Calls Tryz.prog 111 #[.string s,.int .i64 i] w fun e w'=>e = .returned (.int .i64 (rsV i (signN s.data.toList i)))∧Below w.heap.size w w':=by
 have HM:=Lib.hid (Mem.start w)
 have hlen:s.data.toList.length=s.size:=by simp
 have hil:i < s.size:=by rw [← hlen];exact (List.getElem?_eq_some_iff.1 hc).1
 have HC:=Lib.hid hc
 by_cases h2:i + 1 < s.size
 ·obtain ⟨b,hb⟩:∃ b,s.data.toList[i + 1]? = some b:=⟨_,List.getElem?_eq_getElem (by omega)⟩
  obtain ⟨x,hx⟩:∃ x,s.extract i (i + 2)=x:=⟨_,rfl⟩
  have hxl:x.toList=[c,b]:=by
   rw [ByteArray.toList_eq,← hx,ext_list,drop_cons hc,drop_cons hb]
   simp
  have HX:=Lib.hid hx
  have hi2:i + 2≤s.size:=h2
  have d1:decide ((i:Int) < (s.size:Int) - 1)=true:=decide_eq_true (by omega)
  cases hs2:sgn2 c b with
  | true=>
   have hm:signN s.data.toList i=2:=by unfold signN;rw [hc,hb];simp only;rw [if_pos hs2]
   rw [hm,show rsV i 2=(i:Int) + 2 from rfl]
   rcases sgn2_cases hs2 with ⟨rfl,rfl⟩ | ⟨rfl,rfl⟩ | ⟨rfl,rfl⟩ | ⟨rfl,rfl⟩
   ·have y0:(x.toList == [46,46])=true:=by rw [hxl];decide
    have y1:(x.toList == [33,61])=false:=by rw [hxl];decide
    have y2:(x.toList == [60,61])=false:=by rw [hxl];decide
    have y3:(x.toList == [62,61])=false:=by rw [hxl];decide
    clear hxl hx hc hb hs2 hm
    go_enter Tryz.func111,Tryz.ntmps111
    go_wp2_with (first|((with_reducible refine iat 14 ?_);(refine ssls (i:=i) (j:=i + 2) rfl rfl rfl rfl rfl (by omega) hi2 ?_;rw [HX.out]))|((with_reducible refine iat 24 ?_);(refine six rfl rfl rfl HC.out ?_)))
    go_ret
    exact ⟨rfl,HM.out.below⟩
   ·have y0:(x.toList == [46,46])=false:=by rw [hxl];decide
    have y1:(x.toList == [33,61])=true:=by rw [hxl];decide
    have y2:(x.toList == [60,61])=false:=by rw [hxl];decide
    have y3:(x.toList == [62,61])=false:=by rw [hxl];decide
    clear hxl hx hc hb hs2 hm
    go_enter Tryz.func111,Tryz.ntmps111
    go_wp2_with (first|((with_reducible refine iat 14 ?_);(refine ssls (i:=i) (j:=i + 2) rfl rfl rfl rfl rfl (by omega) hi2 ?_;rw [HX.out]))|((with_reducible refine iat 24 ?_);(refine six rfl rfl rfl HC.out ?_)))
    go_ret
    exact ⟨rfl,HM.out.below⟩
   ·have y0:(x.toList == [46,46])=false:=by rw [hxl];decide
    have y1:(x.toList == [33,61])=false:=by rw [hxl];decide
    have y2:(x.toList == [60,61])=true:=by rw [hxl];decide
    have y3:(x.toList == [62,61])=false:=by rw [hxl];decide
    clear hxl hx hc hb hs2 hm
    go_enter Tryz.func111,Tryz.ntmps111
    go_wp2_with (first|((with_reducible refine iat 14 ?_);(refine ssls (i:=i) (j:=i + 2) rfl rfl rfl rfl rfl (by omega) hi2 ?_;rw [HX.out]))|((with_reducible refine iat 24 ?_);(refine six rfl rfl rfl HC.out ?_)))
    go_ret
    exact ⟨rfl,HM.out.below⟩
   ·have y0:(x.toList == [46,46])=false:=by rw [hxl];decide
    have y1:(x.toList == [33,61])=false:=by rw [hxl];decide
    have y2:(x.toList == [60,61])=false:=by rw [hxl];decide
    have y3:(x.toList == [62,61])=true:=by rw [hxl];decide
    clear hxl hx hc hb hs2 hm
    go_enter Tryz.func111,Tryz.ntmps111
    go_wp2_with (first|((with_reducible refine iat 14 ?_);(refine ssls (i:=i) (j:=i + 2) rfl rfl rfl rfl rfl (by omega) hi2 ?_;rw [HX.out]))|((with_reducible refine iat 24 ?_);(refine six rfl rfl rfl HC.out ?_)))
    go_ret
    exact ⟨rfl,HM.out.below⟩
  | false=>
   have hN:signN s.data.toList i=if sgn1 c then 1 else 0:=by unfold signN;rw [hc,hb];simp only;rw [if_neg (by rw [hs2];simp)]
   have hne:(x.toList == [46,46])=false∧(x.toList == [33,61])=false∧(x.toList == [60,61])=false∧(x.toList == [62,61])=false:=by
    unfold sgn2 at hs2
    simp only [Bool.or_eq_false_iff] at hs2
    obtain ⟨⟨⟨s0,s1⟩,s2⟩,s3⟩:=hs2
    refine ⟨?_,?_,?_,?_⟩ <;> (rw [hxl];simp_all)
   obtain ⟨y0,y1,y2,y3⟩:=hne
   clear hxl hx hc hb hs2
   cases h1:sgn1 c with
   | true=>
    have hm:signN s.data.toList i=1:=by rw [hN,h1];rfl
    rw [hm,show rsV i 1=(i:Int) + 1 from rfl]
    clear hm hN
    rcases sgn1_cases h1 with rfl|rfl|rfl|rfl|rfl|rfl|rfl|rfl|rfl|rfl|rfl|rfl|rfl|rfl|rfl|rfl
    all_goals
     clear h1
     go_enter Tryz.func111,Tryz.ntmps111
     go_wp2_with (first|((with_reducible refine iat 14 ?_);(refine ssls (i:=i) (j:=i + 2) rfl rfl rfl rfl rfl (by omega) hi2 ?_;rw [HX.out]))|((with_reducible refine iat 24 ?_);(refine six rfl rfl rfl HC.out ?_)))
     go_ret
     exact ⟨rfl,HM.out.below⟩
   | false=>
    have hm:signN s.data.toList i=0:=by rw [hN,h1];rfl
    rw [hm,show rsV i 0 = -1 from rfl]
    obtain ⟨z40,z41,z91,z93,z123,z125,z44,z58,z46,z43,z45,z42,z47,z61,z60,z62⟩:=sgn1_none h1
    clear hm hN h1
    go_enter Tryz.func111,Tryz.ntmps111
    go_wp2_with (first|((with_reducible refine iat 14 ?_);(refine ssls (i:=i) (j:=i + 2) rfl rfl rfl rfl rfl (by omega) hi2 ?_;rw [HX.out]))|((with_reducible refine iat 24 ?_);(refine six rfl rfl rfl HC.out ?_)))
    go_ret
    exact ⟨rfl,HM.out.below⟩
 ·have hN:signN s.data.toList i=if sgn1 c then 1 else 0:=by unfold signN;rw [hc,List.getElem?_eq_none (show s.data.toList.length≤i + 1 by omega)]
  have d1:decide ((i:Int) < (s.size:Int) - 1)=false:=decide_eq_false (by omega)
  clear hc
  cases h1:sgn1 c with
  | true=>
   have hm:signN s.data.toList i=1:=by rw [hN,h1];rfl
   rw [hm,show rsV i 1=(i:Int) + 1 from rfl]
   clear hm hN
   rcases sgn1_cases h1 with rfl|rfl|rfl|rfl|rfl|rfl|rfl|rfl|rfl|rfl|rfl|rfl|rfl|rfl|rfl|rfl
   all_goals
    clear h1
    go_enter Tryz.func111,Tryz.ntmps111
    go_wp2_with (first|((with_reducible refine iat 24 ?_);(refine six rfl rfl rfl HC.out ?_)))
    go_ret
    exact ⟨rfl,HM.out.below⟩
  | false=>
   have hm:signN s.data.toList i=0:=by rw [hN,h1];rfl
   rw [hm,show rsV i 0 = -1 from rfl]
   obtain ⟨z40,z41,z91,z93,z123,z125,z44,z58,z46,z43,z45,z42,z47,z61,z60,z62⟩:=sgn1_none h1
   clear hm hN h1
   go_enter Tryz.func111,Tryz.ntmps111
   go_wp2_with (first|((with_reducible refine iat 24 ?_);(refine six rfl rfl rfl HC.out ?_)))
   go_ret
   exact ⟨rfl,HM.out.below⟩
def cutL:List Nat→List Nat
 | []=>[]
 | x :: xs=>if cutL xs=[] then (if x=0 then [] else [x]) else x :: cutL xs
theorem cutL_zero:∀ (l:List Nat),cutL (l++[0])=cutL l
 | []=>rfl
 | x :: xs=>by
  rw [List.cons_append]
  unfold cutL
  rw [cutL_zero xs]
theorem cutL_top {x:Nat} (hx:x≠0):∀ (l:List Nat),cutL (l++[x])=l++[x]
 | []=>by
  show cutL [x]=[x]
  unfold cutL
  rw [if_pos (show cutL []=[] from rfl),if_neg hx]
 | y :: ys=>by
  rw [List.cons_append]
  unfold cutL
  rw [cutL_top hx ys,if_neg (by simp)]
theorem cutL_le:∀ (l:List Nat),(cutL l).length≤l.length
 | []=>Nat.le_refl _
 | x :: xs=>by
  have:=cutL_le xs
  unfold cutL
  split
  ·split <;> simp
  ·simp;omega
theorem cutL_take:∀ (l:List Nat),cutL l=l.take (cutL l).length
 | []=>rfl
 | x :: xs=>by
  have h:=cutL_take xs
  unfold cutL
  split
  ·split
   ·rfl
   ·rfl
  ·rw [List.length_cons,List.take_succ_cons,← h]
def dgt (n:Nat):List Nat:=if h:n=0 then [] else n % 10 :: dgt (n / 10)
termination_by n
decreasing_by omega
theorem dgt_zero:dgt 0=[]:=by unfold dgt;rfl
theorem dgt_pos {n:Nat} (h:n≠0):dgt n=n % 10 :: dgt (n / 10):=by rw [dgt];rw [dif_neg h]
theorem dgt_nil {n:Nat} (h:dgt n=[]):n=0:=by
 by_cases h0:n=0
 ·exact h0
 ·rw [dgt_pos h0] at h;cases h
theorem dgt_nine (v:Nat):∀ x ∈ dgt v,x≤9:=by
 induction v using Nat.strongRecOn with
 | ind v ih=>
  by_cases hv:v=0
  ·subst hv;rw [dgt_zero];intro x hx;cases hx
  ·rw [dgt_pos hv]
   intro x hx
   rcases List.mem_cons.1 hx with rfl|hx
   ·omega
   ·exact ih (v / 10) (by omega) x hx
def valD:List Nat→Nat
 | []=>0
 | x :: xs=>x + 10 * valD xs
theorem cut_dgt:∀ (l:List Nat),(∀ x ∈ l,x≤9)→cutL l=dgt (valD l)
 | [],_=>by unfold cutL valD;exact dgt_zero.symm
 | x :: xs,h=>by
  have ih:=cut_dgt xs (fun y hy=>h y (List.mem_cons_of_mem _ hy))
  have hx:=h x (List.mem_cons_self ..)
  unfold cutL valD
  rw [ih]
  by_cases h0:valD xs=0
  ·rw [h0,dgt_zero,if_pos rfl]
   by_cases hx0:x=0
   ·rw [if_pos hx0,hx0];exact dgt_zero.symm
   ·rw [if_neg hx0,dgt_pos (by omega),show (x + 10 * 0) / 10=0 by omega,dgt_zero,show (x + 10 * 0) % 10=x by omega]
  ·rw [if_neg (fun e=>h0 (dgt_nil e)),dgt_pos (n:=x + 10 * valD xs) (by omega),show (x + 10 * valD xs) / 10=valD xs by omega,show (x + 10 * valD xs) % 10=x by omega]
theorem valD_dgt (n:Nat):valD (dgt n)=n:=by
 induction n using Nat.strongRecOn with
 | ind n ih=>
  by_cases h:n=0
  ·subst h;rw [dgt_zero];rfl
  ·rw [dgt_pos h]
   unfold valD
   rw [ih (n / 10) (by omega)]
   omega
def hfL:List Nat→List Nat × Nat
 | []=>([],0)
 | x :: xs=>((10 * (hfL xs).2 + x) / 2 :: (hfL xs).1,(10 * (hfL xs).2 + x) % 2)
theorem hfL_len:∀ (l:List Nat),(hfL l).1.length=l.length
 | []=>rfl
 | x :: xs=>by unfold hfL;simp [hfL_len xs]
theorem hfL_val:∀ (l:List Nat),(∀ x ∈ l,x≤9)→valD (hfL l).1=valD l / 2∧(hfL l).2=valD l % 2∧∀ x ∈ (hfL l).1,x≤9
 | [],_=>by refine ⟨rfl,rfl,?_⟩;intro x hx;cases hx
 | x :: xs,h=>by
  obtain ⟨h1,h2,h3⟩:=hfL_val xs (fun y hy=>h y (List.mem_cons_of_mem _ hy))
  have hx:=h x (List.mem_cons_self ..)
  unfold hfL valD
  refine ⟨?_,?_,?_⟩
  ·show _ + 10 * valD (hfL xs).1=_
   rw [h1,h2];omega
  ·rw [h2];omega
  ·intro y hy
   rcases List.mem_cons.1 hy with rfl|hy
   ·rw [h2];omega
   ·exact h3 y hy
theorem half_dgt (n:Nat):cutL (hfL (dgt n)).1=dgt (n / 2)∧(hfL (dgt n)).2=n % 2:=by
 obtain ⟨h1,h2,h3⟩:=hfL_val (dgt n) (dgt_nine n)
 rw [valD_dgt] at h1 h2
 exact ⟨by rw [cut_dgt _ h3,h1],h2⟩
def nV (l:List Nat):List Value:=l.map fun x=>.int .i64 (x:Nat)
theorem nV_len (l:List Nat):(nV l).length=l.length:=by unfold nV;simp
theorem nV_at {l:List Nat} {i x:Nat} (h:l[i]? = some x):(nV l)[i]? = some (.int .i64 (x:Nat)):=by unfold nV;rw [List.getElem?_map,h];rfl
theorem nV_take (l:List Nat) (k:Nat):(nV l).take k=nV (l.take k):=by unfold nV;rw [List.map_take]
theorem cutL_step {l:List Nat} {k x:Nat} (h:l[k]? = some x):l.take (k + 1)=l.take k++[x]:=by rw [List.take_add_one,h];rfl
set_option maxHeartbeats 4000000 in
theorem rCut (p:Option Addr) (c n:Nat) (ds:List Nat) (w:World) (hn:ds.length=n) (hS:Sl w p (nV ds)) (hc:n≤c) (hb:n≤1000000) :
  Calls Tryz.prog 166 #[.slice p n c] w fun e w'=>e = .returned (.slice p (cutL ds).length c)∧Below w.heap.size w w':=by
 have HM:=Lib.hid (Mem.start w)
 have HS:=Lib.hid hS
 have HL:=Lib.hid hn
 obtain ⟨r,hr⟩:∃ r,(cutL ds).length=r:=⟨_,rfl⟩
 rw [hr]
 have HR:=Lib.hid (show (cutL (ds.take n)).length=r by rw [List.take_of_length_le (by omega),hr])
 clear hS hn hr
 go_enter Tryz.func166,Tryz.ntmps166
 go_wp2_with fail
 go_loopw [3] (fun iv wr=>∃ k:Nat,iv = .int .i64 k∧k≤n∧Hid ((cutL (ds.take k)).length=r)∧Hid (Mem w wr [])) (fun iv _=>(intOf iv).toNat)
 case atStart=>exact ⟨n,rfl,Nat.le_refl _,HR,HM⟩
 case round=>
  clear HM HR
  obtain ⟨k,rfl,hk,HR,HM⟩:=hrel
  rcases Nat.eq_zero_or_pos k with rfl|hpos
  ·have HR2:=Lib.hid (show 0=r by rw [← HR.out];rfl)
   go_wp2_with (first|((with_reducible refine iat 20 ?_);(refine slx rfl rfl (m:=0) rfl (Nat.zero_le _) ?_)))
   go_ret
   exact ⟨by rw [← HR2.out];rfl,HM.out.below⟩
  ·obtain ⟨j,rfl⟩:∃ j,k=j + 1:=⟨k - 1,by omega⟩
   obtain ⟨x,hx⟩:∃ x,ds[j]? = some x:=⟨_,List.getElem?_eq_getElem (by rw [HL.out];omega)⟩
   obtain ⟨b,rfl,hbC⟩:=HS.out.some (by intro e;have:=congrArg List.length e;rw [nV_len,HL.out] at this;simp at this;omega)
   have HX:=Lib.hid (hbC j _ (nV_at hx))
   have hjn:j < n:=by omega
   have hjc:j + 1≤c:=by omega
   have hcast:((j + 1:Nat):Int) - 1=(j:Int):=by omega
   by_cases h0:x=0
   ·subst h0
    have HR2:=Lib.hid (show (cutL (ds.take j)).length=r by rw [← HR.out,cutL_step hx,cutL_zero])
    have hj2:=Lib.hid (show j≤n by omega)
    clear hbC hx
    go_wp2_with (first|((with_reducible refine iat 12 ?_);(refine ixa rfl rfl (i:=j) (by omega) hjn ?_))|((with_reducible refine iat 13 ?_);(refine ldx1 (HM.out.old HX.out) (by first|rfl|(rw [Nat.mul_one];rfl)) ?_)))
    go_roundw
    case rel=>exact ⟨j,by go_num,hj2.out,HR2,HM⟩
    case measure=>simp [intOf]
   ·have HR2:=Lib.hid (show j + 1=r by rw [← HR.out,cutL_step hx,cutL_top h0,List.length_append,List.length_take,HL.out];simp;omega)
    have q0:((x:Int) == 0)=false:=by simpa using h0
    clear hbC hx
    go_wp2_with (first|((with_reducible refine iat 12 ?_);(refine ixa rfl rfl (i:=j) (by omega) hjn ?_))|((with_reducible refine iat 13 ?_);(refine ldx1 (HM.out.old HX.out) (by first|rfl|(rw [Nat.mul_one];rfl)) ?_))|((with_reducible refine iat 20 ?_);(refine slx rfl rfl (m:=j + 1) (by simp) hjc ?_)))
    go_ret
    exact ⟨by rw [← HR2.out];rfl,HM.out.below⟩
theorem hf_drop {l:List Nat} {j x:Nat} (h:l[j]? = some x):hfL (l.drop j)=((10 * (hfL (l.drop (j + 1))).2 + x) / 2 :: (hfL (l.drop (j + 1))).1,(10 * (hfL (l.drop (j + 1))).2 + x) % 2):=by
 have hi:j < l.length:=(List.getElem?_eq_some_iff.1 h).1
 rw [List.drop_eq_getElem_cons hi]
 rw [List.getElem?_eq_getElem hi] at h
 rw [Option.some.inj h]
 rfl
theorem hf_le:∀ l:List Nat,(hfL l).2≤1
 | []=>by show 0≤1;omega
 | x :: xs=>by show (10 * (hfL xs).2 + x) % 2≤1;omega
theorem hf_set (k y:Nat) (l:List Value):(List.replicate (k + 1) (Value.int .i64 0)++l).set k (.int .i64 (y:Nat))=List.replicate k (.int .i64 0)++(.int .i64 (y:Nat)) :: l:=by
 rw [List.replicate_succ',List.append_assoc,List.set_append_right _ _ (by simp)]
 simp
set_option maxHeartbeats 4000000 in
theorem rHalf (p:Option Addr) (c m n:Nat) (w:World) (hm:(dgt n).length=m) (hS:Sl w p (nV (dgt n))) (hb:m≤1000) :
  Calls Tryz.prog 202 #[.slice p m c] w fun e w'=>∃ (p2:Option Addr) (c2:Nat),e = .returned (.tuple #[.slice p2 (dgt (n / 2)).length c2,.int .i64 (n % 2:Nat)])∧Mem w w' [.row p2 c2 3 1 (dgt (n / 2)).length (nV (dgt (n / 2)))]:=by
 have HM:=Lib.hid (Mem.start w)
 obtain ⟨ds,hds⟩:∃ ds,dgt n=ds:=⟨_,rfl⟩
 have H9:=Lib.hid (hds▸dgt_nine n)
 have H1:=Lib.hid (show cutL (hfL ds).1=dgt (n / 2) from hds▸(half_dgt n).1)
 have H2:=Lib.hid (show (hfL ds).2=n % 2 from hds▸(half_dgt n).2)
 rw [hds] at hm hS
 have HS:=Lib.hid hS
 have HL:=Lib.hid hm
 obtain ⟨h2,hh2⟩:∃ h2,dgt (n / 2)=h2:=⟨_,rfl⟩
 rw [hh2] at H1 ⊢
 obtain ⟨r2,hr2⟩:∃ r2,n % 2=r2:=⟨_,rfl⟩
 rw [hr2] at H2 ⊢
 have hbn:8 * m≤140737488355328:=by omega
 clear hds hm hS hh2 hr2
 go_enter Tryz.func202,Tryz.ntmps202
 go_wp2_with (first|(refine mks rfl HM.out rfl rfl rfl rfl rfl hbn (by omega) ?_;intro gd W1 HM1;replace HM:=Lib.hid HM1;clear HM1))
 go_loopw [6,5] (fun iv lv wr=>∃ k:Nat,iv = .int .i64 ((k:Int) - 1)∧k≤m∧lv = .int .i64 ((hfL (ds.drop k)).2:Nat)∧Hid (Mem w wr [.row (some ⟨gd,0,none⟩) m 3 1 m (List.replicate k (.int .i64 0)++nV (hfL (ds.drop k)).1)])) (fun iv _ _=>(intOf iv + 1).toNat)
 case atStart=>exact ⟨m,rfl,Nat.le_refl _,by rw [List.drop_of_length_le (by rw [HL.out];exact Nat.le_refl _)];rfl,by rw [List.drop_of_length_le (by rw [HL.out];exact Nat.le_refl _)];show Hid (Mem _ _ [.row _ _ _ _ _ (_++[])]);rw [List.append_nil];exact HM⟩
 case round=>
  clear HM
  obtain ⟨k,rfl,hk,rfl,HM⟩:=hrel
  rcases Nat.eq_zero_or_pos k with rfl|hpos
  ·have hl1:(hfL ds).1.length=m:=by rw [hfL_len,HL.out]
   have HC:=Lib.hid (fun W (h:Sl W (some ⟨gd,0,none⟩) (nV (hfL ds).1))=>rCut (some ⟨gd,0,none⟩) m m (hfL ds).1 W hl1 h (Nat.le_refl _) (by omega))
   have hml:h2.length≤m:=by rw [← H1.out,← hl1];exact cutL_le _
   have HT:=Lib.hid (show (nV (hfL ds).1).take (h2.length * 1)=nV h2 by rw [nV_take,Nat.mul_one,← H1.out,← cutL_take])
   rw [H1.out] at HC
   rw [show List.replicate 0 (Value.int .i64 0)++nV (hfL (ds.drop 0)).1=nV (hfL ds).1 from rfl] at HM
   rw [show (hfL (ds.drop 0)).2=r2 from H2.out]
   clear hl1
   go_wp2_with (first|(go_at_call 166;(with_reducible refine (HC.out _ (row_sl (HM.out.get (k:=0) rfl))).mono ?_);rintro e W1 ⟨rfl,hb⟩;replace HM:=Lib.hid (HM.out.next hb);clear hb))
   go_ret2
   have h3:=HM.out.trunc (k:=0) rfl hml
   rw [HT.out] at h3
   exact ⟨_,_,rfl,h3⟩
  ·obtain ⟨j,rfl⟩:∃ j,k=j + 1:=⟨k - 1,by omega⟩
   obtain ⟨x,hx⟩:∃ x,ds[j]? = some x:=⟨_,List.getElem?_eq_getElem (by rw [HL.out];omega)⟩
   obtain ⟨b,rfl,hbC⟩:=HS.out.some (by intro e;have:=congrArg List.length e;rw [nV_len,HL.out] at this;simp at this;omega)
   have HX:=Lib.hid (hbC j _ (nV_at hx))
   have hjn:j < m:=by omega
   have h9:x≤9:=H9.out x (List.mem_of_getElem? hx)
   have HD:=Lib.hid (hf_drop hx)
   have hcast:((j + 1:Nat):Int) - 1=(j:Int):=by omega
   obtain ⟨lf,hlf⟩:∃ lf,(hfL (ds.drop (j + 1))).2=lf:=⟨_,rfl⟩
   have hle:lf≤1:=hlf▸hf_le _
   rw [hlf] at HD ⊢
   clear hlf hbC hx
   rw [hcast]
   have hsl:j < (List.replicate (j + 1) (Value.int .i64 0)++nV (hfL (ds.drop (j + 1))).1).length:=by simp;omega
   go_wp2_with (first|((with_reducible refine iat 22 ?_);(refine ixa rfl rfl (i:=j) rfl hjn ?_))|((with_reducible refine iat 29 ?_);(refine ixa rfl rfl (i:=j) rfl hjn ?_))|((with_reducible refine iat 23 ?_);(refine ldx1 (HM.out.old HX.out) (by first|rfl|(rw [Nat.mul_one];rfl)) ?_))|((with_reducible refine istore ?_);refine strw (v:=.int _ _) (i:=j) rfl HM.out 0 rfl (by first|rfl|(rw [Nat.mul_one];rfl)) rfl rfl hsl ?_;intro W1 HM1;replace HM:=Lib.hid HM1;clear HM1;simp only [List.set] at HM))
   go_roundw
   case rel=>
    refine ⟨j,rfl,by omega,?_,?_⟩
    ·rw [HD.out];push_cast;rfl
    ·rw [HD.out];rw [show ((10 * (lf:Int) + (x:Int)) / 2)=(((10 * lf + x) / 2:Nat):Int) by push_cast;rfl,hf_set] at HM;exact HM
   case measure=>simp [intOf]
def wd (n k j:Nat):Nat:=n / 2 ^ (64 * j) % 2 ^ (min (k - 64 * j) 64)
theorem wd_nil (n j:Nat):wd n 0 j=0:=by unfold wd;rw [show min (0 - 64 * j) 64=0 by omega];exact Nat.mod_one _
theorem wd_below {n k j:Nat} (h:64 * (j + 1)≤k):wd n (k + 1) j=wd n k j:=by unfold wd;rw [show min (k + 1 - 64 * j) 64=64 by omega,show min (k - 64 * j) 64=64 by omega]
theorem wd_above {n k j:Nat} (h:k + 1≤64 * j):wd n (k + 1) j=wd n k j:=by unfold wd;rw [show min (k + 1 - 64 * j) 64=0 by omega,show min (k - 64 * j) 64=0 by omega]
theorem wd_lt (n k j:Nat):wd n k j < 18446744073709551616:=by
 unfold wd
 refine Nat.lt_of_lt_of_le (Nat.mod_lt _ (Nat.pow_pos (by omega))) ?_
 rw [show (18446744073709551616:Nat)=2 ^ 64 by rfl]
 exact Nat.pow_le_pow_right (by omega) (Nat.min_le_right _ _)
theorem wd_at {n k j r:Nat} (hk:k=64 * j + r) (hr:r < 64):wd n (k + 1) j=wd n k j ||| (n / 2 ^ k % 2) * 2 ^ r:=by
 unfold wd
 rw [show min (k + 1 - 64 * j) 64=r + 1 by omega,show min (k - 64 * j) 64=r by omega]
 have h1:n / 2 ^ k=n / 2 ^ (64 * j) / 2 ^ r:=by rw [hk,Nat.pow_add,Nat.div_div_eq_div_mul]
 generalize n / 2 ^ (64 * j)=m at h1 ⊢
 rw [h1,Nat.mod_pow_succ]
 have h2:=Nat.two_pow_add_eq_or_of_lt (b:=m % 2 ^ r) (i:=r) (Nat.mod_lt _ (Nat.pow_pos (by omega))) (m / 2 ^ r % 2)
 rw [Nat.or_comm,Nat.mul_comm (m / 2 ^ r % 2),← h2,Nat.add_comm]
theorem wd_full {n j:Nat} (hj:j < 4):wd n 256 j=n / 2 ^ (64 * j) % 18446744073709551616:=by
 unfold wd
 rw [show min (256 - 64 * j) 64=64 by omega]
theorem bits_or {x y:Nat} (hx:x < 18446744073709551616) (hy:y < 18446744073709551616):Go.bits .or .u64 (x:Int) (y:Int)=((x ||| y:Nat):Int):=by
 have hxy:x ||| y < 2 ^ 64:=Nat.or_lt_two_pow hx hy
 have h1:(BitVec.ofInt 64 (x:Int) ||| BitVec.ofInt 64 (y:Int)).toNat=x ||| y:=by
  rw [BitVec.toNat_or,BitVec.ofInt_natCast,BitVec.ofInt_natCast,BitVec.toNat_ofNat,BitVec.toNat_ofNat,Nat.mod_eq_of_lt hx,Nat.mod_eq_of_lt hy]
 show IntKind.wrap .u64 ((BitVec.ofInt 64 (x:Int) ||| BitVec.ofInt 64 (y:Int)).toNat:Int)=_
 rw [h1]
 generalize x ||| y=z at hxy
 simp [IntKind.wrap,IntKind.signed,IntKind.bits]
 omega
def dv (b:UInt8):Nat:=b.toNat - 48
def dL (l:List UInt8):List Nat:=l.reverse.map dv
theorem dL_snoc (l:List UInt8) (b:UInt8):dL (l++[b])=dv b :: dL l:=by unfold dL;simp
theorem dL_cons (b:UInt8) (l:List UInt8):dL (b :: l)=dL l++[dv b]:=by unfold dL;simp
theorem dL_len (l:List UInt8):(dL l).length=l.length:=by unfold dL;simp
theorem dL_nine {l:List UInt8} (h:∀ b ∈ l,dg b=true):∀ x ∈ dL l,x≤9:=fun x hx=>by
 unfold dL at hx
 obtain ⟨b,hb,rfl⟩:=List.mem_map.1 hx
 have:=(Cal.digB_iff b).1 (h b (List.mem_reverse.1 hb))
 unfold dv;omega
theorem valD_dL (l:List UInt8):valD (dL l)=dval l:=by
 have key:∀ r:List UInt8,valD (dL r.reverse)=dval r.reverse:=fun r=>by
  induction r with
  | nil=>rfl
  | cons b r ih=>
   rw [List.reverse_cons,dL_snoc,dval_snoc]
   unfold valD
   rw [ih];unfold dv;omega
 have:=key l.reverse
 rwa [List.reverse_reverse] at this
theorem cut_dL {l:List UInt8} (h:∀ b ∈ l,dg b=true):cutL (dL l)=dgt (dval l):=by rw [cut_dgt _ (dL_nine h),valD_dL]
theorem dval_trim (l:List UInt8):dval (Lib.trimLeftB l 48)=dval l:=by
 unfold Lib.trimLeftB
 induction l with
 | nil=>rfl
 | cons a l ih=>
  rw [List.dropWhile_cons]
  split
  ·rename_i h
   have:a=48:=by simpa using h
   subst this
   rw [ih];rfl
  ·rfl
theorem dgt_dval_len {l:List UInt8} (h:∀ b ∈ l,dg b=true):(dgt (dval l)).length=(Lib.trimLeftB l 48).length:=by
 obtain ⟨h1,h2,_⟩:=trimL_dg h
 rw [← dval_trim,← cut_dL h1]
 generalize Lib.trimLeftB l 48=l' at h1 h2
 cases l' with
 | nil=>rfl
 | cons b t=>
  have hb:=(Cal.digB_iff b).1 (h1 b (List.mem_cons_self ..))
  have hn:dv b≠0:=fun e=>h2 (by
   unfold dv at e
   have:b.toNat=48:=by omega
   rw [show b=48 from UInt8.toNat_inj.1 this];rfl)
  rw [dL_cons,cutL_top hn]
  simp [dL_len]
theorem valD_lt:∀ (l:List Nat),(∀ x ∈ l,x≤9)→valD l < 10 ^ l.length
 | [],_=>by decide
 | x :: xs,h=>by
  have h1:=valD_lt xs (fun y hy=>h y (List.mem_cons_of_mem _ hy))
  have h2:=h x (List.mem_cons_self ..)
  unfold valD
  rw [List.length_cons,Nat.pow_succ]
  omega
theorem lt_dgt {n k:Nat} (h:(dgt n).length≤k):n < 10 ^ k:=by
 have h1:=valD_lt (dgt n) (dgt_nine n)
 rw [valD_dgt] at h1
 exact Nat.lt_of_lt_of_le h1 (Nat.pow_le_pow_right (by omega) h)
theorem trimR_snoc (l:List UInt8) (x:UInt8):Lib.trimRightB (l++[x]) 48=if x=48 then Lib.trimRightB l 48 else l++[x]:=by
 unfold Lib.trimRightB
 rw [List.reverse_append]
 show (List.dropWhile _ (x :: l.reverse)).reverse=_
 rw [List.dropWhile_cons]
 by_cases h:x=48
 ·subst h;simp
 ·rw [if_neg (by simpa using h),if_neg h];simp
theorem trimR_last {l i:List UInt8} {b:UInt8} (h:Lib.trimRightB l 48=i++[b]):b≠48:=by
 have key:∀ r:List UInt8,∀ i b,Lib.trimRightB r.reverse 48=i++[b]→b≠48:=fun r=>by
  induction r with
  | nil => intro i b e; have : Lib.trimRightB ([] : List UInt8).reverse 48 = [] := rfl
           rw [this] at e;simp at e
  | cons x r ih=>
   intro i b e
   rw [List.reverse_cons,trimR_snoc] at e
   split at e
   ·exact ih i b e
   ·rename_i hx
    have:=List.append_inj_right' e rfl
    simp at this
    rw [← this];exact hx
 have:=key l.reverse i b
 rw [List.reverse_reverse] at this
 exact this h
theorem last_dig {ds fs:List UInt8} (hf:∀ b ∈ fs,dg b=true) (h:Lib.trimRightB fs 48≠[]):dval (ds++Lib.trimRightB fs 48) % 10≠0:=by
 rcases List.eq_nil_or_concat (Lib.trimRightB fs 48) with h0 | ⟨i,b,hb⟩
 ·exact absurd h0 h
 ·rw [List.concat_eq_append] at hb
  have h1:=trimR_last hb
  have h2:=(Cal.digB_iff b).1 (hf b ((trimR_sub fs).mem (by rw [hb];simp)))
  rw [hb,← List.append_assoc,dval_snoc]
  have h3:b.toNat≠48:=fun e=>h1 (UInt8.toNat_inj.1 e)
  omega
theorem decT_ref {ds fs:List UInt8} (hd:∀ b ∈ ds,dg b=true) (hf:∀ b ∈ fs,dg b=true) (bl:List UInt8) (hbl:Lib.trimRightB fs 48=bl) (n m:Nat) (hn:dval (ds++bl)=n) (hm:(dgt n).length=m) :
  (¬ (1 < ds.length∧ds[0]? = some 48))→(18 < bl.length∨34 < m→decT ds fs=((0,0),3))∧(¬ (18 < bl.length∨34 < m)→decT ds fs=((n,bl.length),0)∧(bl.length=0∨n % 10≠0)):=fun h1=>by
 have hall:∀ b ∈ ds++bl,dg b=true:=fun b hb=>by
  rcases List.mem_append.1 hb with hb|hb
  ·exact hd b hb
  ·exact hf b ((trimR_sub fs).mem (by rw [hbl];exact hb))
 have hl:=dgt_dval_len hall
 have ht:=dval_trim (ds++bl)
 rw [hn] at hl ht
 rw [hm] at hl
 have hlast:bl.length=0∨n % 10≠0:=by
  by_cases h0:bl=[]
  ·left;rw [h0];rfl
  ·right;rw [← hn,← hbl];exact last_dig hf (by rw [hbl];exact h0)
 by_cases hz:Lib.trimLeftB (ds++bl) 48=[]
 ·rw [hz] at hl ht
  have h0:n=0:=by rw [← ht];rfl
  have hb0:bl.length=0:=by
   rcases hlast with h|h
   ·exact h
   ·rw [h0] at h;exact absurd rfl h
  have hm0:m=0:=by rw [hl];rfl
  refine ⟨fun h=>by omega,fun _=>⟨?_,hlast⟩⟩
  unfold decT
  rw [if_neg h1,hbl,if_pos hz,h0,hb0]
 ·refine ⟨fun h=>?_,fun h=>⟨?_,hlast⟩⟩
  ·unfold decT
   rw [if_neg h1,hbl,if_neg hz,if_pos (by rw [← hl];exact h)]
  ·unfold decT
   rw [if_neg h1,hbl,if_neg hz,if_neg (by rw [← hl];exact h),ht]
end Go.Proofs.YtheimopjglkgjaaGreatDoor
