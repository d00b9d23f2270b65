/- The walks over the reference's text of a day. -/
import Derived.Test.YtnghlakllgkjlaaGreatDoorDateA
import Derived.IntWalk
namespace Go.Proofs.YtnghlakllgkjlaaGreatDoor
open Go.RowKit Go.Sort
set_option linter.unusedVariables false
def tenB:ByteArray:=⟨#[48,49,50,51,52,53,54,55,56,57]⟩
def twoB (n:Nat):ByteArray:=tenB.extract (n / 10) (n / 10 + 1)++tenB.extract (n % 10) (n % 10 + 1)
set_option maxHeartbeats 1000000 in
theorem two_any (n:Nat) (w:World) (h:n≤99) :
  Calls Tryz.prog 99 #[.int .i64 n] w fun e w'=>e = .returned (.string (twoB n))∧Below w.heap.size w w':=by
 have b1:n / 10 + 1≤10:=by omega
 have b2:n % 10 + 1≤10:=by omega
 have s1:(tenB.extract (n / 10) (n / 10 + 1)).size≤10:=by rw [ByteArray.size_extract];show min _ 10 - _≤10;omega
 have s2:(tenB.extract (n % 10) (n % 10 + 1)).size≤10:=by rw [ByteArray.size_extract];show min _ 10 - _≤10;omega
 have cat:=fun w=>run_string_add_sum (P:=Tryz.prog) w (tenB.extract (n / 10) (n / 10 + 1)) (tenB.extract (n % 10) (n % 10 + 1)) (by omega)
 unfold tenB at cat
 clear s1 s2
 have q0:((n:Int).tdiv 10)=((n / 10:Nat):Int):=rfl
 have q1:((n:Int).tmod 10)=((n % 10:Nat):Int):=rfl
 go_enter Tryz.func99,Tryz.ntmps99
 go_wp2_with fail
 go_quiet (fail)
 go_wp2
 go_ret
 exact ⟨rfl,⟨rfl,rfl,rfl,Nat.le_refl _,fun _ _=>rfl⟩⟩
def toldB (y m d:Nat):ByteArray:=twoB (y / 100)++twoB (y % 100)++dashB++twoB m++dashB++twoB d
theorem ten_at (a:Nat) (h:a≤9):tenB.extract a (a + 1)=⟨[UInt8.ofNat (48 + a)].toArray⟩:=by
 have h:a=0∨a=1∨a=2∨a=3∨a=4∨a=5∨a=6∨a=7∨a=8∨a=9:=by omega
 rcases h with rfl|rfl|rfl|rfl|rfl|rfl|rfl|rfl|rfl|rfl <;> decide
theorem two_list (n:Nat) (h:n≤99):twoB n=⟨[UInt8.ofNat (48 + n / 10),UInt8.ofNat (48 + n % 10)].toArray⟩:=by
 unfold twoB
 rw [ten_at _ (by omega),ten_at _ (by omega),ByteArray.mk_append_mk]
 rfl
theorem dec_one (u:Nat) (h:u < 10):Lib.decDigits u=[UInt8.ofNat (48 + u)]:=by
 unfold Lib.decDigits
 rw [dif_pos h]
theorem dec_more (u:Nat) (h:10≤u):Lib.decDigits u=Lib.decDigits (u / 10)++[UInt8.ofNat (48 + u % 10)]:=by
 conv=>lhs;unfold Lib.decDigits
 rw [dif_neg (by omega)]
theorem itoa_nat (n:Nat):Lib.itoa (n:Int)=Lib.decDigits n:=by
 unfold Lib.itoa
 rw [if_neg (by omega)]
 rfl
theorem pad_two (n:Nat) (h:n≤99):padB (n:Int) 2=⟨[UInt8.ofNat (48 + n / 10),UInt8.ofNat (48 + n % 10)].toArray⟩:=by
 unfold padB
 rw [itoa_nat]
 by_cases h1:n < 10
 ·have e1:n / 10=0:=by omega
  have e2:n % 10=n:=by omega
  rw [dec_one n h1,e1,e2]
  rfl
 ·rw [dec_more n (by omega),dec_one (n / 10) (by omega)]
  rfl
theorem pad_four (n:Nat) (h:n≤9999):padB (n:Int) 4=⟨[UInt8.ofNat (48 + n / 100 / 10),UInt8.ofNat (48 + n / 100 % 10),UInt8.ofNat (48 + n % 100 / 10),UInt8.ofNat (48 + n % 100 % 10)].toArray⟩:=by
 unfold padB
 rw [itoa_nat]
 by_cases h1:n < 10
 ·have e1:n / 100 / 10=0:=by omega
  have e2:n / 100 % 10=0:=by omega
  have e3:n % 100 / 10=0:=by omega
  have e4:n % 100 % 10=n:=by omega
  rw [dec_one n h1,e1,e2,e3,e4]
  rfl
 ·by_cases h2:n < 100
  ·have e1:n / 100 / 10=0:=by omega
   have e2:n / 100 % 10=0:=by omega
   have e3:n % 100 / 10=n / 10:=by omega
   have e4:n % 100 % 10=n % 10:=by omega
   rw [dec_more n (by omega),dec_one (n / 10) (by omega),e1,e2,e3,e4]
   rfl
  ·by_cases h3:n < 1000
   ·have e1:n / 100 / 10=0:=by omega
    have e2:n / 100 % 10=n / 10 / 10:=by omega
    have e3:n % 100 / 10=n / 10 % 10:=by omega
    have e4:n % 100 % 10=n % 10:=by omega
    rw [dec_more n (by omega),dec_more (n / 10) (by omega),dec_one (n / 10 / 10) (by omega),e1,e2,e3,e4]
    rfl
   ·have e1:n / 100 / 10=n / 10 / 10 / 10:=by omega
    have e2:n / 100 % 10=n / 10 / 10 % 10:=by omega
    have e3:n % 100 / 10=n / 10 % 10:=by omega
    have e4:n % 100 % 10=n % 10:=by omega
    rw [dec_more n (by omega),dec_more (n / 10) (by omega),dec_more (n / 10 / 10) (by omega),dec_one (n / 10 / 10 / 10) (by omega),e1,e2,e3,e4]
    rfl
theorem told_eq (y m d:Nat) (hy:y≤9999) (hm:m≤99) (hd:d≤99):toldB y m d=dateB (y:Int) (m:Int) (d:Int):=by
 unfold toldB dateB
 rw [pad_four y hy,pad_two m hm,pad_two d hd,two_list _ (by omega),two_list _ (by omega),two_list m hm,two_list d hd,ByteArray.mk_append_mk]
 rfl
theorem two_size (n:Nat) (h:n≤99):(twoB n).size=2:=by rw [two_list n h];rfl
set_option maxHeartbeats 1000000 in
theorem told_any (n:Int) (w:World) (hb:Cal.isB n=true) :
  Calls Tryz.prog 44 #[.int .i64 n] w fun e w'=>e = .returned (.string (dayB n))∧Below w.heap.size w w':=by
 obtain ⟨y1,y2,m1,m2,d1,d2⟩:=spl_bd hb
 obtain ⟨y,hy⟩:=Int.eq_ofNat_of_zero_le (show 0≤Cal.splY n by omega)
 obtain ⟨m,hm⟩:=Int.eq_ofNat_of_zero_le (show 0≤Cal.splM n by omega)
 obtain ⟨d,hd⟩:=Int.eq_ofNat_of_zero_le (show 0≤Cal.splD n by omega)
 rw [hy] at y1 y2
 rw [hm] at m1 m2
 rw [hd] at d1 d2
 have HS:=Lib.hid (show dayB n=toldB y m d by unfold dayB;rw [hb,if_pos rfl,hy,hm,hd,told_eq y m d (by omega) (by omega) (by omega)])
 have HE:=Lib.hid (show Cal.splE n=0 by unfold Cal.splE;rw [hb];rfl)
 have HY:=Lib.hid hy
 have HM:=Lib.hid hm
 have HD:=Lib.hid hd
 clear hy hm hd hb
 have t1:=two_size (y / 100) (by omega)
 have t2:=two_size (y % 100) (by omega)
 have t3:=two_size m (by omega)
 have t4:=two_size d (by omega)
 have s1:(twoB (y / 100)++twoB (y % 100)).size=4:=by rw [ByteArray.size_append,t1,t2]
 have s2:(twoB (y / 100)++twoB (y % 100)++dashB).size=5:=by rw [ByteArray.size_append,s1];rfl
 have s3:(twoB (y / 100)++twoB (y % 100)++dashB++twoB m).size=7:=by rw [ByteArray.size_append,s2,t3]
 have s4:(twoB (y / 100)++twoB (y % 100)++dashB++twoB m++dashB).size=8:=by rw [ByteArray.size_append,s3];rfl
 have c1:=fun w=>run_string_add_sum (P:=Tryz.prog) w (twoB (y / 100)) (twoB (y % 100)) (by rw [t1,t2];decide)
 have c2:=fun w=>run_string_add_sum (P:=Tryz.prog) w (twoB (y / 100)++twoB (y % 100)) dashB (by rw [s1];decide)
 have c3:=fun w=>run_string_add_sum (P:=Tryz.prog) w (twoB (y / 100)++twoB (y % 100)++dashB) (twoB m) (by rw [s2,t3];decide)
 have c4:=fun w=>run_string_add_sum (P:=Tryz.prog) w (twoB (y / 100)++twoB (y % 100)++dashB++twoB m) dashB (by rw [s3];decide)
 have c5:=fun w=>run_string_add_sum (P:=Tryz.prog) w (twoB (y / 100)++twoB (y % 100)++dashB++twoB m++dashB) (twoB d) (by rw [s4,t4];decide)
 clear t1 t2 t3 t4 s1 s2 s3 s4
 unfold dashB at c2 c3 c4 c5
 go_enter Tryz.func44,Tryz.ntmps44
 go_wp2_with fail
 refine (rsplit_any _ _).mono ?_
 rintro e w' ⟨rfl,rfl⟩
 rw [HY.out,HM.out,HD.out,HE.out]
 go_wp2_with fail
 rw [show ((y:Int) / 100)=((y / 100:Nat):Int) from rfl]
 refine (two_any _ _ (by omega)).mono ?_
 rintro e w1 ⟨rfl,hb1⟩
 go_wp2_with fail
 rw [show ((y:Int) % 100)=((y % 100:Nat):Int) from rfl]
 refine (two_any _ _ (by omega)).mono ?_
 rintro e w2 ⟨rfl,hb2⟩
 go_wp2_with fail
 refine (two_any _ _ (by omega)).mono ?_
 rintro e w3 ⟨rfl,hb3⟩
 go_wp2_with fail
 refine (two_any _ _ (by omega)).mono ?_
 rintro e w4 ⟨rfl,hb4⟩
 go_wp2_with fail
 go_ret
 have g2:=hb1.trans (hb2.mono hb1.size)
 have g3:=g2.trans (hb3.mono g2.size)
 exact ⟨by rw [HS.out];rfl,g3.trans (hb4.mono g3.size)⟩
end Go.Proofs.YtnghlakllgkjlaaGreatDoor
