/- The plain arithmetic of the calendar: leap years, the months' lengths, days ahead of a year and of a month, and that a day's number has one year, month and day. The walks over package date and its reference: what each function answers, for all arguments. The walks over package date and its reference, continued: Length, Day, split, Split. The walks over package date and its reference, continued: a day's number, its year, month and day of the month. The walks over package date and its reference, continued: Split, Weekday, Add. The walks over package date and its reference, continued: Add, Months. The walk over the reference's months: counted off one by one. The walks over package date's texts: padded numbers, Print; and the reference's Told. The walks over four laws of layer 3: each returns true, whatever the arguments. The plain law of the calendar's steps: the day behind a day, a week later, months there and back. Texts of decimal digits, the text of a day, and what Parse reads out of a text: lists of bytes, no program in sight. The walks over package date's reading of texts, and the reference's. The walk over the reference's reading of a day. -/
import Derived.Test.YtheimopjglkgjaaGreatDoorProg
import Derived.WalkKit
import Derived.WalkSpells
import Derived.WalkLawsBesides
import Derived.Lib.Hide
import Derived.Test.YtheimopjglkgjaaGreatDoorShelf
import Derived.Lib.Repeat
import Derived.WalkSmall
import Derived.Lib.QuietBelow
import Derived.ShutString
import Derived.Lib.Atoi
import Derived.Lib.SlTrimSet
import Derived.Lib.AtoiErrMem
import Derived.Shelf.Strings.SlTrimAscii
import Derived.Lib.ConvBytes
import Derived.Deep.QuietTactic
import Derived.BigQuiet
namespace Cal
def leapB (y:Int):Bool:=y.tmod 4 == 0 && (y.tmod 100 != 0 || y.tmod 400 == 0)
theorem leapB_iff (y:Int) (h:0≤y):leapB y=true↔y % 4=0∧(y % 100≠0∨y % 400=0):=by
 unfold leapB
 rw [Int.tmod_eq_emod_of_nonneg h,Int.tmod_eq_emod_of_nonneg h,Int.tmod_eq_emod_of_nonneg h]
 simp
def ylen (y:Int):Int:=if leapB y=true then 366 else 365
def mlen (y m:Int):Int:=if m=2 then (if leapB y=true then 29 else 28) else if m=4∨m=6∨m=9∨m=11 then 30 else 31
def ahead (y:Int):Int:=365 * (y - 1) + (y - 1) / 4 - (y - 1) / 100 + (y - 1) / 400
theorem ahead_one:ahead 1=0:=by decide
theorem ahead_last:ahead 10000=3652059:=by decide
theorem ahead_succ (y:Int) (h:1≤y):ahead (y + 1)=ahead y + ylen y:=by
 unfold ahead ylen
 by_cases hl:leapB y=true
 ·rw [if_pos hl]
  have:=(leapB_iff y (by omega)).1 hl
  omega
 ·rw [if_neg hl]
  have:¬ (y % 4=0∧(y % 100≠0∨y % 400=0)):=fun h'=>hl ((leapB_iff y (by omega)).2 h')
  omega
theorem ylen_bd (y:Int):365≤ylen y∧ylen y≤366:=by unfold ylen;split <;> omega
theorem mlen_bd (y m:Int):28≤mlen y m∧mlen y m≤31:=by unfold mlen;split <;> split <;> omega
theorem ahead_mono (a b:Int) (_h0:1≤a) (h:a≤b):ahead a≤ahead b:=by unfold ahead;omega
theorem ahead_bd (y:Int) (h:1≤y) (h' : y≤10001):0≤ahead y∧ahead y≤3652425:=by unfold ahead;omega
def cum (y:Int):Nat→Int
 | 0=>0
 | k + 1=>cum y k + mlen y (k + 1)
theorem cum_succ (y:Int) (k:Nat):cum y (k + 1)=cum y k + mlen y ((k:Int) + 1):=rfl
theorem cum_bd (y:Int) (k:Nat):28 * (k:Int)≤cum y k∧cum y k≤31 * (k:Int):=by
 induction k with
 | zero=>simp [cum]
 | succ k ih=>
  have:=mlen_bd y ((k:Int) + 1)
  rw [cum_succ]
  omega
theorem cum_12 (y:Int):cum y 12=ylen y:=by
 by_cases h:leapB y=true <;> simp [cum,mlen,ylen,h]
theorem cum_le (y:Int) (a b:Nat) (h:a≤b):cum y a≤cum y b:=by
 induction b with
 | zero => have : a = 0 := by omega
           rw [this];exact Int.le_refl _
 | succ b ih=>
  by_cases e:a=b + 1
  ·rw [e];exact Int.le_refl _
  ·have:=mlen_bd y ((b:Int) + 1)
   have:=ih (by omega)
   rw [cum_succ]
   omega
def num (y m d:Int):Int:=ahead y + cum y (m - 1).toNat + d
def vldB (y m d:Int):Bool:=decide (1≤y∧y≤9999∧1≤m∧m≤12∧1≤d∧d≤mlen y m)
theorem vldB_iff (y m d:Int):vldB y m d=true↔1≤y∧y≤9999∧1≤m∧m≤12∧1≤d∧d≤mlen y m:=by
 unfold vldB;simp
theorem vldB_not (y m d:Int):vldB y m d=false↔¬ (1≤y∧y≤9999∧1≤m∧m≤12∧1≤d∧d≤mlen y m):=by
 unfold vldB;simp
def IsDay (n y m d:Int):Prop:=1≤y∧y≤9999∧1≤m∧m≤12∧1≤d∧d≤mlen y m∧num y m d=n
theorem IsDay.num {n y m d:Int} (h:IsDay n y m d):num y m d=n:=h.2.2.2.2.2.2
theorem IsDay.year {n y m d:Int} (h:IsDay n y m d):ahead y < n∧n≤ahead (y + 1):=by
 obtain ⟨a,b,c,e,f,g,i⟩:=h
 have h1:=cum_bd y (m - 1).toNat
 have h2:=cum_succ y (m - 1).toNat
 have h3:=cum_le y ((m - 1).toNat + 1) 12 (by omega)
 rw [cum_12] at h3
 have h4:=ahead_succ y a
 have hm:(((m - 1).toNat:Nat):Int) + 1=m:=by omega
 rw [hm] at h2
 unfold Cal.num at i
 omega
theorem IsDay.range {n y m d:Int} (h:IsDay n y m d):1≤n∧n≤3652059:=by
 have h1:=h.year
 have h2:=ahead_bd y h.1 (by have:=h.2.1;omega)
 have h3:=ahead_mono (y + 1) 10000 (by have:=h.1;omega) (by have:=h.2.1;omega)
 rw [ahead_last] at h3
 omega
def lenV (y m:Int):Int:=if 1≤y∧y≤9999∧1≤m∧m≤12 then mlen y m else 0
def lenE (y m:Int):Int:=if 1≤y∧y≤9999∧1≤m∧m≤12 then 0 else 1
def dayV (y m d:Int):Int:=if vldB y m d=true then num y m d else 0
def dayE (y m d:Int):Int:=if vldB y m d=true then 0 else 1
end Cal
namespace Go.Proofs.YtheimopjglkgjaaGreatDoor
open Go.RowKit
set_option linter.unusedVariables false
theorem ret_bool {a b:Bool} (h:a=b):Ending.returned (.bool a) = .returned (.bool b):=by rw [h]
theorem ret_int {k:IntKind} {a b:Int} (h:a=b):Ending.returned (.int k a) = .returned (.int k b):=by rw [h]
theorem ret_int2 {k l:IntKind} {a b c d:Int} (h:a=b) (h' : c=d):Ending.returned (.tuple #[.int k a,.int l c]) = .returned (.tuple #[.int k b,.int l d]):=by rw [h,h']
set_option maxHeartbeats 400000 in
theorem leap_any (y:Int) (w:World) (h0 : -9223372036854775808≤y) (h1:y≤9223372036854775807) :
  Calls Tryz.prog 186 #[.int .i64 y] w fun e w'=>e = .returned (.bool (Cal.leapB y))∧w=w':=by
 cases h4:(y.tmod 4 == 0) <;> cases h100:(y.tmod 100 != 0) <;> cases h400:(y.tmod 400 == 0)
 all_goals
  go_enter Tryz.func186,Tryz.ntmps186
  go_wp2
  go_ret
  exact ⟨ret_bool (by simp only [Cal.leapB,h4,h100,h400];decide),rfl⟩
set_option maxHeartbeats 400000 in
theorem rleap_any (y:Int) (w:World) (h0 : -9223372036854775808≤y) (h1:y≤9223372036854775807) :
  Calls Tryz.prog 189 #[.int .i64 y] w fun e w'=>e = .returned (.bool (Cal.leapB y))∧w=w':=by
 cases h4:(y.tmod 4 == 0) <;> cases h100:(y.tmod 100 != 0) <;> cases h400:(y.tmod 400 == 0)
 all_goals
  go_enter Tryz.func189,Tryz.ntmps189
  go_wp2
  go_ret
  exact ⟨ret_bool (by simp only [Cal.leapB,h4,h100,h400];decide),rfl⟩
set_option maxHeartbeats 400000 in
theorem rmonth_any (y m:Int) (w:World) (h0:1≤y) (h1:y≤9223372036854775807) (h2:1≤m) (h3:m≤12) :
  Calls Tryz.prog 168 #[.int .i64 y,.int .i64 m] w fun e w'=>e = .returned (.int .i64 (Cal.mlen y m))∧w=w':=by
 have hm:m=1∨m=2∨m=3∨m=4∨m=5∨m=6∨m=7∨m=8∨m=9∨m=10∨m=11∨m=12:=by omega
 clear h2 h3
 cases hl:Cal.leapB y
 all_goals
  rcases hm with rfl|rfl|rfl|rfl|rfl|rfl|rfl|rfl|rfl|rfl|rfl|rfl
 all_goals
  go_enter Tryz.func168,Tryz.ntmps168
  go_wp2_with (go_at_call 189;refine (rleap_any _ _ (by omega) (by omega)).mono ?_;rintro e w' ⟨rfl,rfl⟩)
  go_ret
  exact ⟨ret_int (by simp [Cal.mlen,hl]),rfl⟩
theorem len_idx0 (w:World):(Instr.index 217 (.agg #[.int .i64 31,.int .i64 28,.int .i64 31,.int .i64 30,.int .i64 31,.int .i64 30,.int .i64 31,.int .i64 31,.int .i64 30,.int .i64 31,.int .i64 30,.int .i64 31]) (.int .i64 0)).run Tryz.prog w = .ok (.int .i64 31) w:=by kernel_rfl
theorem len_idx1 (w:World):(Instr.index 217 (.agg #[.int .i64 31,.int .i64 28,.int .i64 31,.int .i64 30,.int .i64 31,.int .i64 30,.int .i64 31,.int .i64 31,.int .i64 30,.int .i64 31,.int .i64 30,.int .i64 31]) (.int .i64 1)).run Tryz.prog w = .ok (.int .i64 28) w:=by kernel_rfl
theorem len_idx2 (w:World):(Instr.index 217 (.agg #[.int .i64 31,.int .i64 28,.int .i64 31,.int .i64 30,.int .i64 31,.int .i64 30,.int .i64 31,.int .i64 31,.int .i64 30,.int .i64 31,.int .i64 30,.int .i64 31]) (.int .i64 2)).run Tryz.prog w = .ok (.int .i64 31) w:=by kernel_rfl
theorem len_idx3 (w:World):(Instr.index 217 (.agg #[.int .i64 31,.int .i64 28,.int .i64 31,.int .i64 30,.int .i64 31,.int .i64 30,.int .i64 31,.int .i64 31,.int .i64 30,.int .i64 31,.int .i64 30,.int .i64 31]) (.int .i64 3)).run Tryz.prog w = .ok (.int .i64 30) w:=by kernel_rfl
theorem len_idx4 (w:World):(Instr.index 217 (.agg #[.int .i64 31,.int .i64 28,.int .i64 31,.int .i64 30,.int .i64 31,.int .i64 30,.int .i64 31,.int .i64 31,.int .i64 30,.int .i64 31,.int .i64 30,.int .i64 31]) (.int .i64 4)).run Tryz.prog w = .ok (.int .i64 31) w:=by kernel_rfl
theorem len_idx5 (w:World):(Instr.index 217 (.agg #[.int .i64 31,.int .i64 28,.int .i64 31,.int .i64 30,.int .i64 31,.int .i64 30,.int .i64 31,.int .i64 31,.int .i64 30,.int .i64 31,.int .i64 30,.int .i64 31]) (.int .i64 5)).run Tryz.prog w = .ok (.int .i64 30) w:=by kernel_rfl
theorem len_idx6 (w:World):(Instr.index 217 (.agg #[.int .i64 31,.int .i64 28,.int .i64 31,.int .i64 30,.int .i64 31,.int .i64 30,.int .i64 31,.int .i64 31,.int .i64 30,.int .i64 31,.int .i64 30,.int .i64 31]) (.int .i64 6)).run Tryz.prog w = .ok (.int .i64 31) w:=by kernel_rfl
theorem len_idx7 (w:World):(Instr.index 217 (.agg #[.int .i64 31,.int .i64 28,.int .i64 31,.int .i64 30,.int .i64 31,.int .i64 30,.int .i64 31,.int .i64 31,.int .i64 30,.int .i64 31,.int .i64 30,.int .i64 31]) (.int .i64 7)).run Tryz.prog w = .ok (.int .i64 31) w:=by kernel_rfl
theorem len_idx8 (w:World):(Instr.index 217 (.agg #[.int .i64 31,.int .i64 28,.int .i64 31,.int .i64 30,.int .i64 31,.int .i64 30,.int .i64 31,.int .i64 31,.int .i64 30,.int .i64 31,.int .i64 30,.int .i64 31]) (.int .i64 8)).run Tryz.prog w = .ok (.int .i64 30) w:=by kernel_rfl
theorem len_idx9 (w:World):(Instr.index 217 (.agg #[.int .i64 31,.int .i64 28,.int .i64 31,.int .i64 30,.int .i64 31,.int .i64 30,.int .i64 31,.int .i64 31,.int .i64 30,.int .i64 31,.int .i64 30,.int .i64 31]) (.int .i64 9)).run Tryz.prog w = .ok (.int .i64 31) w:=by kernel_rfl
theorem len_idx10 (w:World):(Instr.index 217 (.agg #[.int .i64 31,.int .i64 28,.int .i64 31,.int .i64 30,.int .i64 31,.int .i64 30,.int .i64 31,.int .i64 31,.int .i64 30,.int .i64 31,.int .i64 30,.int .i64 31]) (.int .i64 10)).run Tryz.prog w = .ok (.int .i64 30) w:=by kernel_rfl
theorem len_idx11 (w:World):(Instr.index 217 (.agg #[.int .i64 31,.int .i64 28,.int .i64 31,.int .i64 30,.int .i64 31,.int .i64 30,.int .i64 31,.int .i64 31,.int .i64 30,.int .i64 31,.int .i64 30,.int .i64 31]) (.int .i64 11)).run Tryz.prog w = .ok (.int .i64 31) w:=by kernel_rfl
set_option maxRecDepth 100000 in
set_option maxHeartbeats 400000 in
theorem length_in2 (y:Int) (w:World) (h0:1≤y) (h1:y≤9223372036854775807) :
  Calls Tryz.prog 163 #[.int .i64 y,.int .i64 2] w fun e w'=>e = .returned (.int .i64 (Cal.mlen y 2))∧w=w':=by
 have i1:=len_idx1
 cases hl:Cal.leapB y
 all_goals
  go_enter Tryz.func163,Tryz.ntmps163
  go_wp2_with (go_at_call 186;refine (leap_any _ _ (by omega) (by omega)).mono ?_;rintro e w' ⟨rfl,rfl⟩)
  go_ret
  exact ⟨ret_int (by simp [Cal.mlen,hl]),rfl⟩
set_option maxRecDepth 100000 in
set_option maxHeartbeats 2000000 in
theorem length_in (y m:Int) (w:World) (h0:1≤y) (h1:y≤9223372036854775807) (h2:1≤m) (h3:m≤12) :
  Calls Tryz.prog 163 #[.int .i64 y,.int .i64 m] w fun e w'=>e = .returned (.int .i64 (Cal.mlen y m))∧w=w':=by
 by_cases e2:m=2
 ·subst e2
  exact length_in2 y w h0 h1
 have hm:m=1∨m=3∨m=4∨m=5∨m=6∨m=7∨m=8∨m=9∨m=10∨m=11∨m=12:=by omega
 clear h2 h3 e2
 have i0:=len_idx0
 have i2:=len_idx2
 have i3:=len_idx3
 have i4:=len_idx4
 have i5:=len_idx5
 have i6:=len_idx6
 have i7:=len_idx7
 have i8:=len_idx8
 have i9:=len_idx9
 have i10:=len_idx10
 have i11:=len_idx11
 rcases hm with rfl|rfl|rfl|rfl|rfl|rfl|rfl|rfl|rfl|rfl|rfl
 all_goals
  go_enter Tryz.func163,Tryz.ntmps163
  go_wp2
  go_ret
  exact ⟨ret_int (by simp [Cal.mlen]),rfl⟩
set_option maxHeartbeats 400000 in
theorem ryear_any (y:Int) (w:World) (h0:1≤y) (h1:y≤9223372036854775807) :
  Calls Tryz.prog 169 #[.int .i64 y] w fun e w'=>e = .returned (.int .i64 (Cal.ylen y))∧w=w':=by
 cases hl:Cal.leapB y
 all_goals
  go_enter Tryz.func169,Tryz.ntmps169
  go_wp2_with (go_at_call 189;refine (rleap_any _ _ (by omega) (by omega)).mono ?_;rintro e w' ⟨rfl,rfl⟩)
  go_ret
  exact ⟨ret_int (by simp [Cal.ylen,hl]),rfl⟩
set_option maxHeartbeats 400000 in
theorem ahead_any (y:Int) (w:World) (h0:1≤y) (h1:y≤10001) :
  Calls Tryz.prog 164 #[.int .i64 y] w fun e w'=>e = .returned (.int .i64 (Cal.ahead y))∧w=w':=by
 go_enter Tryz.func164,Tryz.ntmps164
 go_wp2
 go_ret
 exact ⟨ret_int rfl,rfl⟩
open Go.RowKit
set_option maxHeartbeats 400000 in
theorem length_any (y m:Int) (w:World) :
  Calls Tryz.prog 162 #[.int .i64 y,.int .i64 m] w fun e w'=>e = .returned (.tuple #[.int .i64 (Cal.lenV y m),.int .i64 (Cal.lenE y m)])∧w=w':=by
 by_cases h1:1≤y
 ·by_cases h2:y≤9999
  ·by_cases h3:1≤m
   ·by_cases h4:m≤12
    ·have e1:Cal.lenV y m=Cal.mlen y m:=if_pos ⟨h1,h2,h3,h4⟩
     have e2:Cal.lenE y m=0:=if_pos ⟨h1,h2,h3,h4⟩
     have H1:=Lib.hid e1
     have H2:=Lib.hid e2
     clear e1 e2
     go_enter Tryz.func162,Tryz.ntmps162
     go_wp2_with (go_at_call 163;refine (length_in _ _ _ (by omega) (by omega) (by omega) (by omega)).mono ?_;rintro e w' ⟨rfl,rfl⟩)
     go_ret2
     exact ⟨ret_int2 H1.out.symm H2.out.symm,rfl⟩
    ·have H1:=Lib.hid (show Cal.lenV y m=0 from if_neg (by omega))
     have H2:=Lib.hid (show Cal.lenE y m=1 from if_neg (by omega))
     go_enter Tryz.func162,Tryz.ntmps162
     go_wp2
     go_ret2
     exact ⟨ret_int2 H1.out.symm H2.out.symm,rfl⟩
   ·have H1:=Lib.hid (show Cal.lenV y m=0 from if_neg (by omega))
    have H2:=Lib.hid (show Cal.lenE y m=1 from if_neg (by omega))
    go_enter Tryz.func162,Tryz.ntmps162
    go_wp2
    go_ret2
    exact ⟨ret_int2 H1.out.symm H2.out.symm,rfl⟩
  ·have H1:=Lib.hid (show Cal.lenV y m=0 from if_neg (by omega))
   have H2:=Lib.hid (show Cal.lenE y m=1 from if_neg (by omega))
   go_enter Tryz.func162,Tryz.ntmps162
   go_wp2
   go_ret2
   exact ⟨ret_int2 H1.out.symm H2.out.symm,rfl⟩
 ·have H1:=Lib.hid (show Cal.lenV y m=0 from if_neg (by omega))
  have H2:=Lib.hid (show Cal.lenE y m=1 from if_neg (by omega))
  go_enter Tryz.func162,Tryz.ntmps162
  go_wp2
  go_ret2
  exact ⟨ret_int2 H1.out.symm H2.out.symm,rfl⟩
set_option maxHeartbeats 400000 in
theorem day_yes (y m d:Int) (w:World) (h1:1≤y) (h2:y≤9999) (h3:1≤m) (h4:m≤12) (h5:1≤d) (h6:d≤Cal.mlen y m) :
  Calls Tryz.prog 130 #[.int .i64 y,.int .i64 m,.int .i64 d] w fun e w'=>e = .returned (.tuple #[.int .i64 (Cal.num y m d),.int .i64 0])∧w=w':=by
 have H1:=Lib.hid (show Cal.lenV y m=Cal.mlen y m from if_pos ⟨h1,h2,h3,h4⟩)
 have H2:=Lib.hid (show Cal.lenE y m=0 from if_pos ⟨h1,h2,h3,h4⟩)
 have hb:=Cal.mlen_bd y m
 have ha:=Cal.ahead_bd y (by omega) (by omega)
 go_enter Tryz.func130,Tryz.ntmps130
 go_wp2_with (go_at_call 162;refine (length_any _ _ _).mono ?_;rintro e w' ⟨rfl,rfl⟩;rw [H1.out,H2.out])
 go_loop [2,10] (fun dv mv=>∃ j:Nat,(j:Int) + 1≤m∧mv = .int .i64 ((j:Int) + 1)∧dv = .int .i64 (d + Cal.cum y j)) (fun _ mv=>(m - intOf mv).toNat)
 case atStart=>exact ⟨0,by omega,rfl,by simp [Cal.cum]⟩
 case round=>
  obtain ⟨j,hj,rfl,rfl⟩:=hrel
  have hc:=Cal.cum_bd y j
  have hm:=Cal.mlen_bd y ((j:Int) + 1)
  by_cases hlt:(j:Int) + 1 < m
  ·go_wp2_with (go_at_call 163;refine (length_in _ _ _ (by omega) (by omega) (by omega) (by omega)).mono ?_;rintro e w' ⟨rfl,rfl⟩)
   go_round
   case rel=>exact ⟨j + 1,by omega,by go_num,by rw [Cal.cum_succ,Int.add_assoc]⟩
   case measure=>simp [intOf];omega
  ·have hjm:(m - 1).toNat=j:=by omega
   have HJ:=Lib.hid hjm
   clear hjm
   go_wp2_with (go_at_call 164;refine (ahead_any _ _ (by omega) (by omega)).mono ?_;rintro e w' ⟨rfl,rfl⟩)
   go_ret2
   exact ⟨ret_int2 (by unfold Cal.num;rw [HJ.out];omega) rfl,rfl⟩
theorem day_no (y m d:Int) (w:World) (h:Cal.vldB y m d=false) :
  Calls Tryz.prog 130 #[.int .i64 y,.int .i64 m,.int .i64 d] w fun e w'=>e = .returned (.tuple #[.int .i64 0,.int .i64 1])∧w=w':=by
 have h:=(Cal.vldB_not y m d).1 h
 by_cases hl:1≤y∧y≤9999∧1≤m∧m≤12
 ·have H1:=Lib.hid (show Cal.lenV y m=Cal.mlen y m from if_pos hl)
  have H2:=Lib.hid (show Cal.lenE y m=0 from if_pos hl)
  by_cases hd:1≤d
  ·have hd2:¬ d≤Cal.mlen y m:=fun h6=>h ⟨hl.1,hl.2.1,hl.2.2.1,hl.2.2.2,hd,h6⟩
   clear h hl
   go_enter Tryz.func130,Tryz.ntmps130
   go_wp2_with (go_at_call 162;refine (length_any _ _ _).mono ?_;rintro e w' ⟨rfl,rfl⟩;rw [H1.out,H2.out])
   go_ret2
   exact ⟨rfl,rfl⟩
  ·clear h hl
   go_enter Tryz.func130,Tryz.ntmps130
   go_wp2_with (go_at_call 162;refine (length_any _ _ _).mono ?_;rintro e w' ⟨rfl,rfl⟩;rw [H1.out,H2.out])
   go_ret2
   exact ⟨rfl,rfl⟩
 ·have H1:=Lib.hid (show Cal.lenV y m=0 from if_neg hl)
  have H2:=Lib.hid (show Cal.lenE y m=1 from if_neg hl)
  clear h hl
  go_enter Tryz.func130,Tryz.ntmps130
  go_wp2_with (go_at_call 162;refine (length_any _ _ _).mono ?_;rintro e w' ⟨rfl,rfl⟩;rw [H1.out,H2.out])
  go_ret2
  exact ⟨rfl,rfl⟩
theorem day_any (y m d:Int) (w:World) :
  Calls Tryz.prog 130 #[.int .i64 y,.int .i64 m,.int .i64 d] w fun e w'=>e = .returned (.tuple #[.int .i64 (Cal.dayV y m d),.int .i64 (Cal.dayE y m d)])∧w=w':=by
 unfold Cal.dayV Cal.dayE
 cases h:Cal.vldB y m d
 ·simpa using day_no y m d w h
 ·obtain ⟨h1,h2,h3,h4,h5,h6⟩:=(Cal.vldB_iff y m d).1 h
  simpa using day_yes y m d w h1 h2 h3 h4 h5 h6
set_option maxHeartbeats 400000 in
theorem rday_yes (y m d:Int) (w:World) (h1:1≤y) (h2:y≤9999) (h3:1≤m) (h4:m≤12) (h5:1≤d) (h6:d≤Cal.mlen y m) :
  Calls Tryz.prog 143 #[.int .i64 y,.int .i64 m,.int .i64 d] w fun e w'=>e = .returned (.tuple #[.int .i64 (Cal.num y m d),.int .i64 0])∧w=w':=by
 have hb:=Cal.mlen_bd y m
 have ha:=Cal.ahead_bd y (by omega) (by omega)
 go_enter Tryz.func143,Tryz.ntmps143
 go_wp2_with (go_at_call 168;refine (rmonth_any _ _ _ (by omega) (by omega) (by omega) (by omega)).mono ?_;rintro e w' ⟨rfl,rfl⟩)
 go_loop [8,9] (fun dv iv=>∃ i:Int,1≤i∧i≤y∧iv = .int .i64 i∧dv = .int .i64 (d + Cal.ahead i)) (fun _ iv=>(y - intOf iv).toNat)
 case atStart=>exact ⟨1,by omega,by omega,rfl,by rw [Cal.ahead_one];simp⟩
 case round=>
  obtain ⟨i,hi,hi2,rfl,rfl⟩:=hrel
  have hA:=Cal.ahead_bd i (by omega) (by omega)
  have hY:=Cal.ylen_bd i
  by_cases hlt:i < y
  ·go_wp2_with (go_at_call 169;refine (ryear_any _ _ (by omega) (by omega)).mono ?_;rintro e w' ⟨rfl,rfl⟩)
   go_round
   case rel=>exact ⟨i + 1,by omega,by omega,rfl,by rw [Cal.ahead_succ i hi,Int.add_assoc]⟩
   case measure=>simp [intOf];omega
  ·obtain rfl:y=i:=by omega
   go_wp2
   go_loop [8,10] (fun dv mv=>∃ j:Nat,(j:Int) + 1≤m∧mv = .int .i64 ((j:Int) + 1)∧dv = .int .i64 (d + Cal.ahead y + Cal.cum y j)) (fun _ mv=>(m - intOf mv).toNat)
   case atStart=>exact ⟨0,by omega,rfl,by simp [Cal.cum]⟩
   case round=>
    obtain ⟨j,hj,rfl,rfl⟩:=hrel
    have hc:=Cal.cum_bd y j
    have hm:=Cal.mlen_bd y ((j:Int) + 1)
    by_cases hlt2:(j:Int) + 1 < m
    ·go_wp2_with (go_at_call 168;refine (rmonth_any _ _ _ (by omega) (by omega) (by omega) (by omega)).mono ?_;rintro e w' ⟨rfl,rfl⟩)
     go_round
     case rel=>exact ⟨j + 1,by omega,by go_num,by rw [Cal.cum_succ];simp only [Int.add_assoc]⟩
     case measure=>simp [intOf];omega
    ·have HJ:=Lib.hid (show (m - 1).toNat=j by omega)
     go_wp2
     go_ret2
     exact ⟨ret_int2 (by unfold Cal.num;rw [HJ.out];omega) rfl,rfl⟩
open Go.RowKit
set_option linter.unusedVariables false
theorem rday_no (y m d:Int) (w:World) (h:Cal.vldB y m d=false) :
  Calls Tryz.prog 143 #[.int .i64 y,.int .i64 m,.int .i64 d] w fun e w'=>e = .returned (.tuple #[.int .i64 0,.int .i64 1])∧w=w':=by
 have h:=(Cal.vldB_not y m d).1 h
 by_cases h1:1≤y
 ·by_cases h2:y≤9999
  ·by_cases h3:1≤m
   ·by_cases h4:m≤12
    ·by_cases h5:1≤d
     ·have h6:¬ d≤Cal.mlen y m:=fun h6=>h ⟨h1,h2,h3,h4,h5,h6⟩
      clear h
      go_enter Tryz.func143,Tryz.ntmps143
      go_wp2_with (go_at_call 168;refine (rmonth_any _ _ _ (by omega) (by omega) (by omega) (by omega)).mono ?_;rintro e w' ⟨rfl,rfl⟩)
      go_ret2
      exact ⟨rfl,rfl⟩
     ·clear h
      go_enter Tryz.func143,Tryz.ntmps143
      go_wp2
      go_ret2
      exact ⟨rfl,rfl⟩
    ·clear h
     go_enter Tryz.func143,Tryz.ntmps143
     go_wp2
     go_ret2
     exact ⟨rfl,rfl⟩
   ·clear h
    go_enter Tryz.func143,Tryz.ntmps143
    go_wp2
    go_ret2
    exact ⟨rfl,rfl⟩
  ·clear h
   go_enter Tryz.func143,Tryz.ntmps143
   go_wp2
   go_ret2
   exact ⟨rfl,rfl⟩
 ·clear h
  go_enter Tryz.func143,Tryz.ntmps143
  go_wp2
  go_ret2
  exact ⟨rfl,rfl⟩
theorem rday_any (y m d:Int) (w:World) :
  Calls Tryz.prog 143 #[.int .i64 y,.int .i64 m,.int .i64 d] w fun e w'=>e = .returned (.tuple #[.int .i64 (Cal.dayV y m d),.int .i64 (Cal.dayE y m d)])∧w=w':=by
 unfold Cal.dayV Cal.dayE
 cases h:Cal.vldB y m d
 ·simpa using rday_no y m d w h
 ·obtain ⟨h1,h2,h3,h4,h5,h6⟩:=(Cal.vldB_iff y m d).1 h
  simpa using rday_yes y m d w h1 h2 h3 h4 h5 h6
open Go.RowKit
set_option linter.unusedVariables false
open Go.RowKit
set_option linter.unusedVariables false
open Go.RowKit
set_option linter.unusedVariables false
open Go.RowKit Go.Sort
set_option linter.unusedVariables false
open Go.RowKit Go.Sort
set_option linter.unusedVariables false
end Go.Proofs.YtheimopjglkgjaaGreatDoor
namespace Cal
end Cal
namespace Cal
open Go
def digB (b:UInt8):Bool:=decide (48≤b.toNat∧b.toNat≤57)
def digs (l:List UInt8):Bool:=l.all digB
def val (l:List UInt8):Nat:=(Lib.decFrom 0 l).getD 0
def digV (l:List UInt8):Int:=if digs l=true then (val l:Int) else 0
def digitsC:List UInt8:=[48,49,50,51,52,53,54,55,56,57]
theorem digB_iff (b:UInt8):digB b=true↔48≤b.toNat∧b.toNat≤57:=by unfold digB;simp
theorem digB_not (b:UInt8):digB b=false↔¬ (48≤b.toNat∧b.toNat≤57):=by unfold digB;simp
theorem contains_digB (b:UInt8):digitsC.contains b=digB b:=by
 rw [Bool.eq_iff_iff,digB_iff]
 unfold digitsC
 simp only [List.contains_iff_mem,List.mem_cons,List.mem_nil_iff,or_false]
 constructor
 ·rintro (rfl|rfl|rfl|rfl|rfl|rfl|rfl|rfl|rfl|rfl) <;> decide
 ·rintro ⟨h1,h2⟩
  have h:b.toNat=48∨b.toNat=49∨b.toNat=50∨b.toNat=51∨b.toNat=52∨b.toNat=53∨b.toNat=54∨b.toNat=55∨b.toNat=56∨b.toNat=57:=by omega
  rcases h with h|h|h|h|h|h|h|h|h|h
  all_goals simp [← UInt8.toNat_inj,h]
theorem mem_dropWhile {p:UInt8→Bool} {b:UInt8} (hb:p b=false):∀ {l:List UInt8},b ∈ l→b ∈ l.dropWhile p
 | [],h=>by cases h
 | x :: l,h=>by
  rw [List.dropWhile_cons]
  split
  ·rename_i hx
   rcases List.mem_cons.1 h with rfl|h
   ·rw [hb] at hx;cases hx
   ·exact mem_dropWhile hb h
  ·exact h
theorem dropWhile_all {p:UInt8→Bool}:∀ {l:List UInt8},(∀ b ∈ l,p b=true)→l.dropWhile p=[]
 | [],_=>rfl
 | x :: l,h=>by
  rw [List.dropWhile_cons,if_pos (h x (List.mem_cons_self ..))]
  exact dropWhile_all fun b hb=>h b (List.mem_cons_of_mem _ hb)
theorem trim_digs {l:List UInt8} (h:digs l=true):Lib.trimS l digitsC=[]:=by
 have hall:∀ b ∈ l.reverse,digitsC.contains b=true:=fun b hb=>by
  rw [contains_digB]
  exact List.all_eq_true.1 h b (List.mem_reverse.1 hb)
 unfold Lib.trimS Lib.trimRightS Lib.trimLeftS
 rw [dropWhile_all hall]
 rfl
theorem trim_not {l:List UInt8} (h:digs l=false):Lib.trimS l digitsC≠[]:=by
 have hex:∃ b ∈ l,digB b=false:=by
  unfold digs at h
  rw [List.all_eq_false] at h
  obtain ⟨b,hb,hn⟩:=h
  exact ⟨b,hb,by simpa using hn⟩
 obtain ⟨b,hb,hn⟩:=hex
 have hc:digitsC.contains b=false:=by rw [contains_digB];exact hn
 have:b ∈ Lib.trimS l digitsC:=by
  unfold Lib.trimS Lib.trimRightS Lib.trimLeftS
  exact mem_dropWhile hc (List.mem_reverse.2 (mem_dropWhile hc (List.mem_reverse.2 hb)))
 intro e
 rw [e] at this
 cases this
theorem decFrom_digs:∀ (l:List UInt8) (acc:Nat),digs l=true→∃ n,Lib.decFrom acc l=some n∧n < (acc + 1) * 10 ^ l.length
 | [],acc,_=>⟨acc,rfl,by simp⟩
 | b :: l,acc,h=>by
  unfold digs at h
  rw [List.all_cons,Bool.and_eq_true] at h
  have hb:=(digB_iff b).1 h.1
  obtain ⟨n,hn,hlt⟩:=decFrom_digs l (acc * 10 + (b.toNat - 48)) h.2
  refine ⟨n,?_,?_⟩
  ·unfold Lib.decFrom Lib.digitVal
   rw [if_pos hb]
   exact hn
  ·refine Nat.lt_of_lt_of_le hlt ?_
   rw [List.length_cons,Nat.pow_succ,Nat.mul_comm (10 ^ l.length) 10,← Nat.mul_assoc]
   exact Nat.mul_le_mul_right _ (by omega)
theorem val_lt {l:List UInt8} (h:digs l=true):val l < 10 ^ l.length:=by
 obtain ⟨n,hn,hlt⟩:=decFrom_digs l 0 h
 unfold val
 rw [hn]
 simpa using hlt
theorem decFrom_val {l:List UInt8} (h:digs l=true):Lib.decFrom 0 l=some (val l):=by
 obtain ⟨n,hn,_⟩:=decFrom_digs l 0 h
 unfold val
 rw [hn]
 rfl
theorem atoi_digs {l:List UInt8} (h:digs l=true) (hl:l≠[]):Lib.atoi l=some (val l:Int):=by
 cases l with
 | nil=>exact absurd rfl hl
 | cons b r=>
  have hb:digB b=true:=by
   unfold digs at h
   rw [List.all_cons,Bool.and_eq_true] at h
   exact h.1
  have hb:=(digB_iff b).1 hb
  have h1:(b == 45)=false:=by
   rw [beq_eq_false_iff_ne]
   intro e
   subst e
   exact absurd hb (by decide)
  have h2:(b == 43)=false:=by
   rw [beq_eq_false_iff_ne]
   intro e
   subst e
   exact absurd hb (by decide)
  simp only [Lib.atoi,h1,h2,Bool.false_eq_true,if_false,Lib.decNat,List.isEmpty_cons]
  rw [decFrom_val h]
  rfl
theorem digs_take {l:List UInt8} {k:Nat} {b:UInt8} (hb:l[k]? = some b):digs (l.take (k + 1))=(digs (l.take k) && digB b):=by
 unfold digs
 rw [List.take_add_one,hb]
 simp
theorem val_take {l:List UInt8} {k:Nat} {b:UInt8} (hb:l[k]? = some b) (h:digs (l.take (k + 1))=true):(val (l.take (k + 1)):Int)=10 * (val (l.take k):Int) + ((b.toNat:Int) - 48):=by
 rw [digs_take hb,Bool.and_eq_true] at h
 have hd:=(digB_iff b).1 h.2
 have h1:=Lib.decFrom_take l k 0 (val (l.take k)) b (b.toNat - 48) (decFrom_val h.1) hb (by unfold Lib.digitVal;rw [if_pos hd])
 have:val (l.take (k + 1))=val (l.take k) * 10 + (b.toNat - 48):=by
  unfold val at h1 ⊢
  rw [h1]
  rfl
 omega
theorem digs_not_take {l:List UInt8} {k:Nat} (h:digs (l.take k)=false):digs l=false:=by
 unfold digs at h ⊢
 rw [List.all_eq_false] at h ⊢
 obtain ⟨b,hb,hn⟩:=h
 exact ⟨b,List.mem_of_mem_take hb,hn⟩
def shapeB (l:List UInt8):Bool:=l.length == 10 && l[4]? == some 45 && l[7]? == some 45 && digs (l.take 4) && digs ((l.drop 5).take 2) && digs (l.drop 8)
def parY (l:List UInt8):Int:=val (l.take 4)
def parM (l:List UInt8):Int:=val ((l.drop 5).take 2)
def parD (l:List UInt8):Int:=val (l.drop 8)
def parseV (l:List UInt8):Int:=if shapeB l=true then dayV (parY l) (parM l) (parD l) else 0
def parseE (l:List UInt8):Int:=if shapeB l=true then (if vldB (parY l) (parM l) (parD l)=true then 0 else 17) else 5
end Cal
namespace Go.Proofs.YtheimopjglkgjaaGreatDoor
open Go.RowKit Go.Sort
set_option linter.unusedVariables false
theorem ret_intb {k:IntKind} {a b:Int} {c d:Bool} (h:a=b) (h' : c=d):Ending.returned (.tuple #[.int k a,.bool c]) = .returned (.tuple #[.int k b,.bool d]):=by rw [h,h']
theorem dtrim_any (s:ByteArray) (w:World) (hs:s.size≤9223372036854775807) :
  Calls Tryz.prog 160 #[.string s,.string ⟨#[48,49,50,51,52,53,54,55,56,57]⟩] w fun e w'=>e = .returned (.string ⟨(Lib.trimS s.data.toList Cal.digitsC).toArray⟩)∧Below w.heap.size w w':=
 Any.strings_Trim_laid Tryz.lays160 (by kernel_rfl) s ⟨#[48,49,50,51,52,53,54,55,56,57]⟩ w hs (by decide) (ascii_of_all (by decide))
theorem take_all {s:ByteArray} {k:Nat} (h:s.size≤k):s.data.toList.take k=s.data.toList:=List.take_of_length_le (by simpa using h)
set_option maxHeartbeats 1000000 in
theorem rdigits_any (s:ByteArray) (w:World) (hs:s.size≤10) :
  Calls Tryz.prog 142 #[.string s] w fun e w'=>e = .returned (.tuple #[.int .i64 (Cal.digV s.data.toList),.bool (Cal.digs s.data.toList)])∧w=w':=by
 go_enter Tryz.func142,Tryz.ntmps142
 go_wp2
 go_loop [4,5] (fun nv iv=>∃ k:Nat,k≤s.size∧Hid (Cal.digs (s.data.toList.take k)=true)∧iv = .int .i64 k∧nv = .int .i64 (Cal.val (s.data.toList.take k))) (fun _ iv=>s.size - (intOf iv).toNat)
 case atStart=>exact ⟨0,by omega,rfl,rfl,rfl⟩
 case round=>
  obtain ⟨k,hk,HD,rfl,rfl⟩:=hrel
  have hv:Cal.val (s.data.toList.take k) < 10 ^ 10:=by
   have h1:=Cal.val_lt HD.out
   have h2:(s.data.toList.take k).length≤k:=List.length_take_le _ _
   exact Nat.lt_of_lt_of_le h1 (Nat.pow_le_pow_right (by omega) (by omega))
  have hv:Cal.val (s.data.toList.take k) < 10000000000:=hv
  by_cases hlt:k < s.size
  ·have hb:s.data.toList[k]? = some s[k]:=by
    rw [List.getElem?_eq_getElem (by simpa using hlt)];rfl
   have HT:=Lib.hid (Cal.digs_take hb)
   have HV:=Lib.hid (fun h=>Cal.val_take hb h)
   clear hb
   by_cases h1:(48:Int)≤s[k].toNat
   ·by_cases h2:(s[k].toNat:Int)≤57
    ·have HN:=Lib.hid (show Cal.digs (s.data.toList.take (k + 1))=true by rw [HT.out,HD.out,(Cal.digB_iff _).2 (by omega)];rfl)
     have HW:=Lib.hid (HV.out HN.out)
     go_wp2
     go_round
     case rel=>exact ⟨k + 1,by omega,HN,by go_num,by rw [HW.out]⟩
     case measure=>simp [intOf];omega
    ·have HN:=Lib.hid (show Cal.digs s.data.toList=false from Cal.digs_not_take (k:=k + 1) (by rw [HT.out,HD.out,(Cal.digB_not _).2 (by omega)];rfl))
     have HW:=Lib.hid (show Cal.digV s.data.toList=0 by unfold Cal.digV;rw [HN.out];rfl)
     go_wp2
     go_ret2
     exact ⟨ret_intb HW.out.symm HN.out.symm,rfl⟩
   ·have HN:=Lib.hid (show Cal.digs s.data.toList=false from Cal.digs_not_take (k:=k + 1) (by rw [HT.out,HD.out,(Cal.digB_not _).2 (by omega)];rfl))
    have HW:=Lib.hid (show Cal.digV s.data.toList=0 by unfold Cal.digV;rw [HN.out];rfl)
    go_wp2
    go_ret2
    exact ⟨ret_intb HW.out.symm HN.out.symm,rfl⟩
  ·have HE:=Lib.hid (take_all (s:=s) (k:=k) (by omega))
   have HN:=Lib.hid (show Cal.digs s.data.toList=true by rw [← HE.out];exact HD.out)
   have HW:=Lib.hid (show Cal.digV s.data.toList=(Cal.val (s.data.toList.take k):Int) by unfold Cal.digV;rw [HN.out,HE.out];rfl)
   go_wp2
   go_ret2
   exact ⟨ret_intb HW.out.symm HN.out.symm,rfl⟩
theorem atoi_any (s:ByteArray) (w:World) (hs:s.size≤18) (h:Cal.digs s.data.toList=true) (h0:s.data.toList≠[]) :
  Calls Tryz.prog 161 #[.string s] w fun e w'=>e = .returned (.tuple #[.int .i64 (Cal.val s.data.toList),.nilIface])∧Below w.heap.size w w':=
 (Tryz.strconv_Atoi s _ hs (Cal.atoi_digs h h0) w).mono fun _ _ ⟨he,t,hw⟩=>⟨he,hw▸Lib.bytesWorld_below _ _ _⟩
set_option maxHeartbeats 1000000 in
theorem dnumber_any (s:ByteArray) (w:World) (hs:s.size≤10) (h0:0 < s.size) :
  Calls Tryz.prog 129 #[.string s] w fun e w'=>e = .returned (.tuple #[.int .i64 (Cal.digV s.data.toList),.bool (Cal.digs s.data.toList)])∧Below w.heap.size w w':=by
 have hne:s.data.toList≠[]:=by
  intro e
  have h1:s.data.toList.length=0:=by rw [e];rfl
  rw [Array.length_toList] at h1
  have e2:s.size=s.data.size:=rfl
  omega
 cases hd:Cal.digs s.data.toList
 ·have HN:=Lib.hid hd
  have HW:=Lib.hid (show Cal.digV s.data.toList=0 by unfold Cal.digV;rw [hd];rfl)
  have HT:=Cal.trim_not hd
  have hne2:(Lib.trimS s.data.toList Cal.digitsC).isEmpty=false:=by simpa using HT
  clear hd hne HT
  go_enter Tryz.func129,Tryz.ntmps129
  go_wp2_with fail
  refine (dtrim_any _ _ (by omega)).mono ?_
  rintro e w1 ⟨rfl,hb1⟩
  go_wp2
  go_ret2
  exact ⟨ret_intb HW.out.symm rfl,hb1⟩
 ·have HN:=Lib.hid hd
  have HW:=Lib.hid (show Cal.digV s.data.toList=(Cal.val s.data.toList:Int) by unfold Cal.digV;rw [hd];rfl)
  have HT:=Lib.hid (Cal.trim_digs hd)
  have HNe:=Lib.hid hne
  clear hd hne
  go_enter Tryz.func129,Tryz.ntmps129
  go_wp2_with fail
  refine (dtrim_any _ _ (by omega)).mono ?_
  rintro e w1 ⟨rfl,hb1⟩
  rw [HT.out]
  go_wp2_with fail
  refine (atoi_any _ _ (by omega) HN.out HNe.out).mono ?_
  rintro e w2 ⟨rfl,hb2⟩
  go_wp2_with fail
  go_quiet (fail)
  go_wp2
  go_ret2
  exact ⟨ret_intb HW.out.symm rfl,(hb1.trans (hb2.mono hb1.size)).trans ⟨rfl,rfl,rfl,Nat.le_refl _,fun _ _=>rfl⟩⟩
theorem at_byte {s:ByteArray} {k:Nat} (h:k < s.size):s.data.toList[k]? = some s[k]:=by
 rw [List.getElem?_eq_getElem (by simpa using h)];rfl
theorem shape_size {s:ByteArray} (h:s.size≠10):Cal.shapeB s.data.toList=false:=by
 have e:(s.data.toList.length == 10)=false:=by
  rw [beq_eq_false_iff_ne,Array.length_toList]
  exact h
 unfold Cal.shapeB
 rw [e]
 rfl
theorem shape_four {s:ByteArray} (h:4 < s.size) (h4:((s[4].toNat:Int) != 45)=true):Cal.shapeB s.data.toList=false:=by
 have e:(s.data.toList[4]? == some 45)=false:=by
  rw [at_byte h,beq_eq_false_iff_ne]
  intro e
  rw [Option.some.inj e] at h4
  exact absurd h4 (by decide)
 unfold Cal.shapeB
 rw [e]
 simp
theorem shape_seven {s:ByteArray} (h:7 < s.size) (h4:((s[7].toNat:Int) != 45)=true):Cal.shapeB s.data.toList=false:=by
 have e:(s.data.toList[7]? == some 45)=false:=by
  rw [at_byte h,beq_eq_false_iff_ne]
  intro e
  rw [Option.some.inj e] at h4
  exact absurd h4 (by decide)
 unfold Cal.shapeB
 rw [e]
 simp
theorem shape_rest {s:ByteArray} (h:s.size=10) (h4:((s[4].toNat:Int) != 45)=false) (h7:((s[7].toNat:Int) != 45)=false) :
  Cal.shapeB s.data.toList=(Cal.digs (s.data.toList.take 4) && Cal.digs ((s.data.toList.drop 5).take 2) && Cal.digs (s.data.toList.drop 8)):=by
 have e0:(s.data.toList.length == 10)=true:=by
  rw [beq_iff_eq,Array.length_toList]
  exact h
 have b4:s[4]=45:=by
  rw [bne_eq_false_iff_eq] at h4
  apply UInt8.toNat_inj.1
  show _=45
  omega
 have b7:s[7]=45:=by
  rw [bne_eq_false_iff_eq] at h7
  apply UInt8.toNat_inj.1
  show _=45
  omega
 unfold Cal.shapeB
 rw [e0,at_byte (show 4 < s.size by omega),at_byte (show 7 < s.size by omega),b4,b7]
 simp
set_option maxHeartbeats 1000000 in
theorem parse_bad (s:ByteArray) (w:World) (h:s.size≠10∨∃ (h10:s.size=10),((s[4].toNat:Int) != 45)=true∨(((s[4].toNat:Int) != 45)=false∧((s[7].toNat:Int) != 45)=true)) :
  Calls Tryz.prog 99 #[.string s] w fun e w'=>e = .returned (.tuple #[.int .i64 (Cal.parseV s.data.toList),.int .i64 (Cal.parseE s.data.toList)])∧w=w':=by
 have hs:Cal.shapeB s.data.toList=false:=by
  rcases h with h | ⟨h,h4 | ⟨h4,h7⟩⟩
  ·exact shape_size h
  ·exact shape_four (by omega) h4
  ·exact shape_seven (by omega) h7
 have HV:=Lib.hid (show Cal.parseV s.data.toList=0 by unfold Cal.parseV;rw [hs];rfl)
 have HE:=Lib.hid (show Cal.parseE s.data.toList=5 by unfold Cal.parseE;rw [hs];rfl)
 clear hs
 rcases h with h | ⟨h,h4 | ⟨h4,h7⟩⟩
 ·have hs1:((s.size:Int) != 10)=true:=by rw [bne_iff_ne];omega
  clear h
  go_enter Tryz.func99,Tryz.ntmps99
  go_wp2
  go_ret2
  exact ⟨ret_int2 HV.out.symm HE.out.symm,rfl⟩
 ·have hs1:((s.size:Int) != 10)=false:=by rw [bne_eq_false_iff_eq];omega
  have l4:4 < s.size:=by omega
  have H:=Lib.hid h
  go_enter Tryz.func99,Tryz.ntmps99
  go_wp2
  go_ret2
  exact ⟨ret_int2 HV.out.symm HE.out.symm,rfl⟩
 ·have hs1:((s.size:Int) != 10)=false:=by rw [bne_eq_false_iff_eq];omega
  have l4:4 < s.size:=by omega
  have l7:7 < s.size:=by omega
  go_enter Tryz.func99,Tryz.ntmps99
  go_wp2
  go_ret2
  exact ⟨ret_int2 HV.out.symm HE.out.symm,rfl⟩
set_option maxHeartbeats 2000000 in
theorem parse_good (s:ByteArray) (w:World) (l4:4 < s.size) (l7:7 < s.size) (h10:s.size=10) (h4:((s[4].toNat:Int) != 45)=false) (h7:((s[7].toNat:Int) != 45)=false) :
  Calls Tryz.prog 99 #[.string s] w fun e w'=>e = .returned (.tuple #[.int .i64 (Cal.parseV s.data.toList),.int .i64 (Cal.parseE s.data.toList)])∧Below w.heap.size w w':=by
 have hs1:((s.size:Int) != 10)=false:=by rw [bne_eq_false_iff_eq];omega
 have l10:s.size≤10:=by omega
 have l9:10≤s.size:=by omega
 have HS:=Lib.hid (shape_rest h10 h4 h7)
 have E4:=Lib.hid (show (s.extract 0 4).data.toList=s.data.toList.take 4 by rw [Lib.extract_data];simp)
 have E57:=Lib.hid (show (s.extract 5 7).data.toList=(s.data.toList.drop 5).take 2 by rw [Lib.extract_data])
 have E8:=Lib.hid (show (s.extract 8 s.size).data.toList=s.data.toList.drop 8 by rw [Lib.extract_data];apply List.take_of_length_le;simp [h10])
 have S4:(s.extract 0 4).size=4:=by rw [ByteArray.size_extract];omega
 have S57:(s.extract 5 7).size=2:=by rw [ByteArray.size_extract];omega
 have S8:(s.extract 8 s.size).size=2:=by rw [ByteArray.size_extract];omega
 have HS4:=Lib.hid S4
 have HS57:=Lib.hid S57
 have HS8:=Lib.hid S8
 clear S4 S57 S8 h10
 have hc:(Cal.digs (s.data.toList.take 4)=false)∨(Cal.digs (s.data.toList.take 4)=true∧Cal.digs ((s.data.toList.drop 5).take 2)=false)∨(Cal.digs (s.data.toList.take 4)=true∧Cal.digs ((s.data.toList.drop 5).take 2)=true∧Cal.digs (s.data.toList.drop 8)=false)∨(Cal.digs (s.data.toList.take 4)=true∧Cal.digs ((s.data.toList.drop 5).take 2)=true∧Cal.digs (s.data.toList.drop 8)=true∧Cal.vldB (Cal.parY s.data.toList) (Cal.parM s.data.toList) (Cal.parD s.data.toList)=true)∨(Cal.digs (s.data.toList.take 4)=true∧Cal.digs ((s.data.toList.drop 5).take 2)=true∧Cal.digs (s.data.toList.drop 8)=true∧Cal.vldB (Cal.parY s.data.toList) (Cal.parM s.data.toList) (Cal.parD s.data.toList)=false):=by
  cases Cal.digs (s.data.toList.take 4) <;> cases Cal.digs ((s.data.toList.drop 5).take 2) <;> cases Cal.digs (s.data.toList.drop 8) <;> cases Cal.vldB (Cal.parY s.data.toList) (Cal.parM s.data.toList) (Cal.parD s.data.toList) <;> simp
 have hv:∀ d1 d2 d3:Bool,Cal.digs (s.data.toList.take 4)=d1→Cal.digs ((s.data.toList.drop 5).take 2)=d2→Cal.digs (s.data.toList.drop 8)=d3→(d1 && d2 && d3)=false→Cal.parseV s.data.toList=0∧Cal.parseE s.data.toList=5:=by
  intro d1 d2 d3 e1 e2 e3 h
  have hsh:Cal.shapeB s.data.toList=false:=by rw [HS.out,e1,e2,e3];exact h
  unfold Cal.parseV Cal.parseE
  rw [hsh]
  exact ⟨rfl,rfl⟩
 have hd:∀ l:List UInt8,Cal.digs l=true→Cal.digV l=(Cal.val l:Int):=by
  intro l h
  unfold Cal.digV
  rw [h]
  rfl
 have hok:Cal.digs (s.data.toList.take 4)=true→Cal.digs ((s.data.toList.drop 5).take 2)=true→Cal.digs (s.data.toList.drop 8)=true→
   (Cal.digV (s.data.toList.take 4)=Cal.parY s.data.toList∧Cal.digV ((s.data.toList.drop 5).take 2)=Cal.parM s.data.toList∧Cal.digV (s.data.toList.drop 8)=Cal.parD s.data.toList)∧
   Cal.parseV s.data.toList=Cal.dayV (Cal.parY s.data.toList) (Cal.parM s.data.toList) (Cal.parD s.data.toList)∧Cal.parseE s.data.toList=(if Cal.vldB (Cal.parY s.data.toList) (Cal.parM s.data.toList) (Cal.parD s.data.toList)=true then 0 else 17):=by
  intro h1 h2 h3
  have hsh:Cal.shapeB s.data.toList=true:=by rw [HS.out,h1,h2,h3];rfl
  refine ⟨⟨hd _ h1,hd _ h2,hd _ h3⟩,?_,?_⟩
  ·unfold Cal.parseV
   rw [hsh,if_pos rfl]
  ·unfold Cal.parseE
   rw [hsh,if_pos rfl]
 rcases hc with h1 | ⟨h1,h2⟩ | ⟨h1,h2,h3⟩ | ⟨h1,h2,h3,hx⟩ | ⟨h1,h2,h3,hx⟩
 iterate 3
  ·have HV:=Lib.hid (hv _ _ _ (by first|exact h1|rfl) (by first|exact h2|rfl) (by first|exact h3|rfl) (by simp))
   clear hv hd hok
   go_enter Tryz.func99,Tryz.ntmps99
   go_wp2_with fail
   refine (dnumber_any _ _ (by have:=HS4.out;omega) (by have:=HS4.out;omega)).mono ?_
   rintro e w1 ⟨rfl,hb1⟩
   rw [E4.out]
   go_wp2_with fail
   refine (dnumber_any _ _ (by have:=HS57.out;omega) (by have:=HS57.out;omega)).mono ?_
   rintro e w2 ⟨rfl,hb2⟩
   rw [E57.out]
   go_wp2_with fail
   refine (dnumber_any _ _ (by have:=HS8.out;omega) (by have:=HS8.out;omega)).mono ?_
   rintro e w3 ⟨rfl,hb3⟩
   rw [E8.out]
   go_wp2
   go_ret2
   exact ⟨ret_int2 HV.out.1.symm HV.out.2.symm,(hb1.trans (hb2.mono hb1.size)).trans (hb3.mono (Nat.le_trans hb1.size hb2.size))⟩
 all_goals
  obtain ⟨⟨g1,g2,g3⟩,g4,g5⟩:=hok h1 h2 h3
  have HG1:=Lib.hid g1
  have HG2:=Lib.hid g2
  have HG3:=Lib.hid g3
  rw [hx] at g5
  have HG4:=Lib.hid g4
  have HG5:=Lib.hid g5
  have HX:=Lib.hid hx
  have HY:=Lib.hid (show Cal.dayE (Cal.parY s.data.toList) (Cal.parM s.data.toList) (Cal.parD s.data.toList)=_ by unfold Cal.dayE;rw [hx])
  clear hv hd hok g1 g2 g3 g4 g5 hx
  go_enter Tryz.func99,Tryz.ntmps99
  go_wp2_with fail
  refine (dnumber_any _ _ (by have:=HS4.out;omega) (by have:=HS4.out;omega)).mono ?_
  rintro e w1 ⟨rfl,hb1⟩
  rw [E4.out,HG1.out]
  go_wp2_with fail
  refine (dnumber_any _ _ (by have:=HS57.out;omega) (by have:=HS57.out;omega)).mono ?_
  rintro e w2 ⟨rfl,hb2⟩
  rw [E57.out,HG2.out]
  go_wp2_with fail
  refine (dnumber_any _ _ (by have:=HS8.out;omega) (by have:=HS8.out;omega)).mono ?_
  rintro e w3 ⟨rfl,hb3⟩
  rw [E8.out,HG3.out]
  go_wp2_with fail
  refine (day_any _ _ _ _).mono ?_
  rintro e w' ⟨rfl,rfl⟩
  rw [HY.out]
  go_wp2
  go_ret2
  first
   | exact ⟨ret_int2 HG4.out.symm HG5.out.symm,(hb1.trans (hb2.mono hb1.size)).trans (hb3.mono (Nat.le_trans hb1.size hb2.size))⟩
   | exact ⟨ret_int2 (by rw [HG4.out];unfold Cal.dayV;rw [HX.out];rfl) HG5.out.symm,(hb1.trans (hb2.mono hb1.size)).trans (hb3.mono (Nat.le_trans hb1.size hb2.size))⟩
theorem parse_any (s:ByteArray) (w:World) :
  Calls Tryz.prog 99 #[.string s] w fun e w'=>e = .returned (.tuple #[.int .i64 (Cal.parseV s.data.toList),.int .i64 (Cal.parseE s.data.toList)])∧Below w.heap.size w w':=by
 by_cases h10:s.size=10
 ·cases h4:((s[4].toNat:Int) != 45)
  ·cases h7:((s[7].toNat:Int) != 45)
   ·exact parse_good s w (by omega) (by omega) h10 h4 h7
   ·exact (parse_bad s w (Or.inr ⟨h10,Or.inr ⟨h4,h7⟩⟩)).mono fun _ _ ⟨he,hw⟩=>⟨he,hw▸Below.refl _ _⟩
  ·exact (parse_bad s w (Or.inr ⟨h10,Or.inl h4⟩)).mono fun _ _ ⟨he,hw⟩=>⟨he,hw▸Below.refl _ _⟩
 ·exact (parse_bad s w (Or.inl h10)).mono fun _ _ ⟨he,hw⟩=>⟨he,hw▸Below.refl _ _⟩
open Go.RowKit Go.Sort
set_option linter.unusedVariables false
set_option maxHeartbeats 1000000 in
theorem rparse_bad (s:ByteArray) (w:World) (h:s.size≠10∨∃ (h10:s.size=10),((s[4].toNat:Int) != 45)=true∨(((s[4].toNat:Int) != 45)=false∧((s[7].toNat:Int) != 45)=true)) :
  Calls Tryz.prog 109 #[.string s] w fun e w'=>e = .returned (.tuple #[.int .i64 (Cal.parseV s.data.toList),.int .i64 (Cal.parseE s.data.toList)])∧w=w':=by
 have hs:Cal.shapeB s.data.toList=false:=by
  rcases h with h | ⟨h,h4 | ⟨h4,h7⟩⟩
  ·exact shape_size h
  ·exact shape_four (by omega) h4
  ·exact shape_seven (by omega) h7
 have HV:=Lib.hid (show Cal.parseV s.data.toList=0 by unfold Cal.parseV;rw [hs];rfl)
 have HE:=Lib.hid (show Cal.parseE s.data.toList=5 by unfold Cal.parseE;rw [hs];rfl)
 clear hs
 rcases h with h | ⟨h,h4 | ⟨h4,h7⟩⟩
 ·have hs1:((s.size:Int) != 10)=true:=by rw [bne_iff_ne];omega
  clear h
  go_enter Tryz.func109,Tryz.ntmps109
  go_wp2
  go_ret2
  exact ⟨ret_int2 HV.out.symm HE.out.symm,rfl⟩
 ·have hs1:((s.size:Int) != 10)=false:=by rw [bne_eq_false_iff_eq];omega
  have l4:4 < s.size:=by omega
  have H:=Lib.hid h
  go_enter Tryz.func109,Tryz.ntmps109
  go_wp2
  go_ret2
  exact ⟨ret_int2 HV.out.symm HE.out.symm,rfl⟩
 ·have hs1:((s.size:Int) != 10)=false:=by rw [bne_eq_false_iff_eq];omega
  have l4:4 < s.size:=by omega
  have l7:7 < s.size:=by omega
  go_enter Tryz.func109,Tryz.ntmps109
  go_wp2
  go_ret2
  exact ⟨ret_int2 HV.out.symm HE.out.symm,rfl⟩
set_option maxHeartbeats 2000000 in
theorem rparse_good (s:ByteArray) (w:World) (l4:4 < s.size) (l7:7 < s.size) (h10:s.size=10) (h4:((s[4].toNat:Int) != 45)=false) (h7:((s[7].toNat:Int) != 45)=false) :
  Calls Tryz.prog 109 #[.string s] w fun e w'=>e = .returned (.tuple #[.int .i64 (Cal.parseV s.data.toList),.int .i64 (Cal.parseE s.data.toList)])∧w=w':=by
 have hs1:((s.size:Int) != 10)=false:=by rw [bne_eq_false_iff_eq];omega
 have l10:s.size≤10:=by omega
 have l9:10≤s.size:=by omega
 have HS:=Lib.hid (shape_rest h10 h4 h7)
 have E4:=Lib.hid (show (s.extract 0 4).data.toList=s.data.toList.take 4 by rw [Lib.extract_data];simp)
 have E57:=Lib.hid (show (s.extract 5 7).data.toList=(s.data.toList.drop 5).take 2 by rw [Lib.extract_data])
 have E8:=Lib.hid (show (s.extract 8 s.size).data.toList=s.data.toList.drop 8 by rw [Lib.extract_data];apply List.take_of_length_le;simp [h10])
 have S4:(s.extract 0 4).size=4:=by rw [ByteArray.size_extract];omega
 have S57:(s.extract 5 7).size=2:=by rw [ByteArray.size_extract];omega
 have S8:(s.extract 8 s.size).size=2:=by rw [ByteArray.size_extract];omega
 have HS4:=Lib.hid S4
 have HS57:=Lib.hid S57
 have HS8:=Lib.hid S8
 clear S4 S57 S8 h10
 have hc:(Cal.digs (s.data.toList.take 4)=false)∨(Cal.digs (s.data.toList.take 4)=true∧Cal.digs ((s.data.toList.drop 5).take 2)=false)∨(Cal.digs (s.data.toList.take 4)=true∧Cal.digs ((s.data.toList.drop 5).take 2)=true∧Cal.digs (s.data.toList.drop 8)=false)∨(Cal.digs (s.data.toList.take 4)=true∧Cal.digs ((s.data.toList.drop 5).take 2)=true∧Cal.digs (s.data.toList.drop 8)=true∧Cal.vldB (Cal.parY s.data.toList) (Cal.parM s.data.toList) (Cal.parD s.data.toList)=true)∨(Cal.digs (s.data.toList.take 4)=true∧Cal.digs ((s.data.toList.drop 5).take 2)=true∧Cal.digs (s.data.toList.drop 8)=true∧Cal.vldB (Cal.parY s.data.toList) (Cal.parM s.data.toList) (Cal.parD s.data.toList)=false):=by
  cases Cal.digs (s.data.toList.take 4) <;> cases Cal.digs ((s.data.toList.drop 5).take 2) <;> cases Cal.digs (s.data.toList.drop 8) <;> cases Cal.vldB (Cal.parY s.data.toList) (Cal.parM s.data.toList) (Cal.parD s.data.toList) <;> simp
 have hv:∀ d1 d2 d3:Bool,Cal.digs (s.data.toList.take 4)=d1→Cal.digs ((s.data.toList.drop 5).take 2)=d2→Cal.digs (s.data.toList.drop 8)=d3→(d1 && d2 && d3)=false→Cal.parseV s.data.toList=0∧Cal.parseE s.data.toList=5:=by
  intro d1 d2 d3 e1 e2 e3 h
  have hsh:Cal.shapeB s.data.toList=false:=by rw [HS.out,e1,e2,e3];exact h
  unfold Cal.parseV Cal.parseE
  rw [hsh]
  exact ⟨rfl,rfl⟩
 have hd:∀ l:List UInt8,Cal.digs l=true→Cal.digV l=(Cal.val l:Int):=by
  intro l h
  unfold Cal.digV
  rw [h]
  rfl
 have hok:Cal.digs (s.data.toList.take 4)=true→Cal.digs ((s.data.toList.drop 5).take 2)=true→Cal.digs (s.data.toList.drop 8)=true→
   (Cal.digV (s.data.toList.take 4)=Cal.parY s.data.toList∧Cal.digV ((s.data.toList.drop 5).take 2)=Cal.parM s.data.toList∧Cal.digV (s.data.toList.drop 8)=Cal.parD s.data.toList)∧
   Cal.parseV s.data.toList=Cal.dayV (Cal.parY s.data.toList) (Cal.parM s.data.toList) (Cal.parD s.data.toList)∧Cal.parseE s.data.toList=(if Cal.vldB (Cal.parY s.data.toList) (Cal.parM s.data.toList) (Cal.parD s.data.toList)=true then 0 else 17):=by
  intro h1 h2 h3
  have hsh:Cal.shapeB s.data.toList=true:=by rw [HS.out,h1,h2,h3];rfl
  refine ⟨⟨hd _ h1,hd _ h2,hd _ h3⟩,?_,?_⟩
  ·unfold Cal.parseV
   rw [hsh,if_pos rfl]
  ·unfold Cal.parseE
   rw [hsh,if_pos rfl]
 rcases hc with h1 | ⟨h1,h2⟩ | ⟨h1,h2,h3⟩ | ⟨h1,h2,h3,hx⟩ | ⟨h1,h2,h3,hx⟩
 iterate 3
  ·have HV:=Lib.hid (hv _ _ _ (by first|exact h1|rfl) (by first|exact h2|rfl) (by first|exact h3|rfl) (by simp))
   clear hv hd hok
   go_enter Tryz.func109,Tryz.ntmps109
   go_wp2_with fail
   refine (rdigits_any _ _ (by have:=HS4.out;omega)).mono ?_
   rintro e w' ⟨rfl,rfl⟩
   rw [E4.out]
   go_wp2_with fail
   refine (rdigits_any _ _ (by have:=HS57.out;omega)).mono ?_
   rintro e w' ⟨rfl,rfl⟩
   rw [E57.out]
   go_wp2_with fail
   refine (rdigits_any _ _ (by have:=HS8.out;omega)).mono ?_
   rintro e w' ⟨rfl,rfl⟩
   rw [E8.out]
   go_wp2
   go_ret2
   exact ⟨ret_int2 HV.out.1.symm HV.out.2.symm,rfl⟩
 all_goals
  obtain ⟨⟨g1,g2,g3⟩,g4,g5⟩:=hok h1 h2 h3
  have HG1:=Lib.hid g1
  have HG2:=Lib.hid g2
  have HG3:=Lib.hid g3
  rw [hx] at g5
  have HG4:=Lib.hid g4
  have HG5:=Lib.hid g5
  have HX:=Lib.hid hx
  have HY:=Lib.hid (show Cal.dayE (Cal.parY s.data.toList) (Cal.parM s.data.toList) (Cal.parD s.data.toList)=_ by unfold Cal.dayE;rw [hx])
  clear hv hd hok g1 g2 g3 g4 g5 hx
  go_enter Tryz.func109,Tryz.ntmps109
  go_wp2_with fail
  refine (rdigits_any _ _ (by have:=HS4.out;omega)).mono ?_
  rintro e w' ⟨rfl,rfl⟩
  rw [E4.out,HG1.out]
  go_wp2_with fail
  refine (rdigits_any _ _ (by have:=HS57.out;omega)).mono ?_
  rintro e w' ⟨rfl,rfl⟩
  rw [E57.out,HG2.out]
  go_wp2_with fail
  refine (rdigits_any _ _ (by have:=HS8.out;omega)).mono ?_
  rintro e w' ⟨rfl,rfl⟩
  rw [E8.out,HG3.out]
  go_wp2_with fail
  refine (rday_any _ _ _ _).mono ?_
  rintro e w' ⟨rfl,rfl⟩
  rw [HY.out]
  go_wp2
  go_ret2
  first
   | exact ⟨ret_int2 HG4.out.symm HG5.out.symm,rfl⟩
   | exact ⟨ret_int2 (by rw [HG4.out];unfold Cal.dayV;rw [HX.out];rfl) HG5.out.symm,rfl⟩
theorem rparse_any (s:ByteArray) (w:World) :
  Calls Tryz.prog 109 #[.string s] w fun e w'=>e = .returned (.tuple #[.int .i64 (Cal.parseV s.data.toList),.int .i64 (Cal.parseE s.data.toList)])∧w=w':=by
 by_cases h10:s.size=10
 ·cases h4:((s[4].toNat:Int) != 45)
  ·cases h7:((s[7].toNat:Int) != 45)
   ·exact rparse_good s w (by omega) (by omega) h10 h4 h7
   ·exact (rparse_bad s w (Or.inr ⟨h10,Or.inr ⟨h4,h7⟩⟩)).mono fun _ _ h=>h
  ·exact (rparse_bad s w (Or.inr ⟨h10,Or.inl h4⟩)).mono fun _ _ h=>h
 ·exact (rparse_bad s w (Or.inl h10)).mono fun _ _ h=>h
end Go.Proofs.YtheimopjglkgjaaGreatDoor
