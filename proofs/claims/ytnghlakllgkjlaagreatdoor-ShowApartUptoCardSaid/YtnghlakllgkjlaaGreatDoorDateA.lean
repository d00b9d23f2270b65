/- The plain arithmetic of the calendar: leap years, the months' lengths, days ahead of a year and of a month, and that a day's number has one year, month and day. The walks over package date and its reference: what each function answers, for all arguments. The walks over package date and its reference, continued: Length, Day, split, Split. The walks over package date and its reference, continued: a day's number, its year, month and day of the month. The walks over package date and its reference, continued: Split, Weekday, Add. The walks over package date and its reference, continued: Add, Months. The walk over the reference's months: counted off one by one. The walks over package date's texts: padded numbers, Print; and the reference's Told. The walks over four laws of layer 3: each returns true, whatever the arguments. The plain law of the calendar's steps: the day behind a day, a week later, months there and back. Texts of decimal digits, the text of a day, and what Parse reads out of a text: lists of bytes, no program in sight. The walks over package date's reading of texts, and the reference's. The walk over the reference's reading of a day. -/
import Derived.Test.YtnghlakllgkjlaaGreatDoorProg
import Derived.WalkKit
import Derived.WalkSpells
import Derived.WalkLawsBesides
import Derived.Lib.Hide
import Derived.Test.YtnghlakllgkjlaaGreatDoorShelf
import Derived.Lib.Repeat
import Derived.WalkSmall
import Derived.Lib.QuietBelow
import Derived.ShutString
import Derived.Lib.Atoi
import Derived.Lib.SlTrimSet
import Derived.Lib.AtoiErrMem
import Derived.Shelf.Strings.SlTrimAscii
import Derived.Lib.ConvBytes
import Derived.Deep.QuietTactic
import Derived.BigQuiet
namespace Cal
def leapB (y:Int):Bool:=y.tmod 4 == 0 && (y.tmod 100 != 0 || y.tmod 400 == 0)
theorem leapB_iff (y:Int) (h:0≤y):leapB y=true↔y % 4=0∧(y % 100≠0∨y % 400=0):=by
 unfold leapB
 rw [Int.tmod_eq_emod_of_nonneg h,Int.tmod_eq_emod_of_nonneg h,Int.tmod_eq_emod_of_nonneg h]
 simp
def ylen (y:Int):Int:=if leapB y=true then 366 else 365
def mlen (y m:Int):Int:=if m=2 then (if leapB y=true then 29 else 28) else if m=4∨m=6∨m=9∨m=11 then 30 else 31
def ahead (y:Int):Int:=365 * (y - 1) + (y - 1) / 4 - (y - 1) / 100 + (y - 1) / 400
theorem ahead_one:ahead 1=0:=by decide
theorem ahead_last:ahead 10000=3652059:=by decide
theorem ahead_succ (y:Int) (h:1≤y):ahead (y + 1)=ahead y + ylen y:=by
 unfold ahead ylen
 by_cases hl:leapB y=true
 ·rw [if_pos hl]
  have:=(leapB_iff y (by omega)).1 hl
  omega
 ·rw [if_neg hl]
  have:¬ (y % 4=0∧(y % 100≠0∨y % 400=0)):=fun h'=>hl ((leapB_iff y (by omega)).2 h')
  omega
theorem ylen_bd (y:Int):365≤ylen y∧ylen y≤366:=by unfold ylen;split <;> omega
theorem mlen_bd (y m:Int):28≤mlen y m∧mlen y m≤31:=by unfold mlen;split <;> split <;> omega
theorem ahead_mono (a b:Int) (_h0:1≤a) (h:a≤b):ahead a≤ahead b:=by unfold ahead;omega
theorem ahead_bd (y:Int) (h:1≤y) (h' : y≤10001):0≤ahead y∧ahead y≤3652425:=by unfold ahead;omega
def cum (y:Int):Nat→Int
 | 0=>0
 | k + 1=>cum y k + mlen y (k + 1)
theorem cum_succ (y:Int) (k:Nat):cum y (k + 1)=cum y k + mlen y ((k:Int) + 1):=rfl
theorem cum_bd (y:Int) (k:Nat):28 * (k:Int)≤cum y k∧cum y k≤31 * (k:Int):=by
 induction k with
 | zero=>simp [cum]
 | succ k ih=>
  have:=mlen_bd y ((k:Int) + 1)
  rw [cum_succ]
  omega
theorem cum_12 (y:Int):cum y 12=ylen y:=by
 by_cases h:leapB y=true <;> simp [cum,mlen,ylen,h]
theorem cum_le (y:Int) (a b:Nat) (h:a≤b):cum y a≤cum y b:=by
 induction b with
 | zero => have : a = 0 := by omega
           rw [this];exact Int.le_refl _
 | succ b ih=>
  by_cases e:a=b + 1
  ·rw [e];exact Int.le_refl _
  ·have:=mlen_bd y ((b:Int) + 1)
   have:=ih (by omega)
   rw [cum_succ]
   omega
def num (y m d:Int):Int:=ahead y + cum y (m - 1).toNat + d
def vldB (y m d:Int):Bool:=decide (1≤y∧y≤9999∧1≤m∧m≤12∧1≤d∧d≤mlen y m)
theorem vldB_iff (y m d:Int):vldB y m d=true↔1≤y∧y≤9999∧1≤m∧m≤12∧1≤d∧d≤mlen y m:=by
 unfold vldB;simp
theorem vldB_not (y m d:Int):vldB y m d=false↔¬ (1≤y∧y≤9999∧1≤m∧m≤12∧1≤d∧d≤mlen y m):=by
 unfold vldB;simp
def IsDay (n y m d:Int):Prop:=1≤y∧y≤9999∧1≤m∧m≤12∧1≤d∧d≤mlen y m∧num y m d=n
theorem IsDay.num {n y m d:Int} (h:IsDay n y m d):num y m d=n:=h.2.2.2.2.2.2
theorem IsDay.year {n y m d:Int} (h:IsDay n y m d):ahead y < n∧n≤ahead (y + 1):=by
 obtain ⟨a,b,c,e,f,g,i⟩:=h
 have h1:=cum_bd y (m - 1).toNat
 have h2:=cum_succ y (m - 1).toNat
 have h3:=cum_le y ((m - 1).toNat + 1) 12 (by omega)
 rw [cum_12] at h3
 have h4:=ahead_succ y a
 have hm:(((m - 1).toNat:Nat):Int) + 1=m:=by omega
 rw [hm] at h2
 unfold Cal.num at i
 omega
theorem IsDay.range {n y m d:Int} (h:IsDay n y m d):1≤n∧n≤3652059:=by
 have h1:=h.year
 have h2:=ahead_bd y h.1 (by have:=h.2.1;omega)
 have h3:=ahead_mono (y + 1) 10000 (by have:=h.1;omega) (by have:=h.2.1;omega)
 rw [ahead_last] at h3
 omega
theorem year_one {n y z:Int} (hy:1≤y) (hz:1≤z) (a:ahead y < n∧n≤ahead (y + 1)) (b:ahead z < n∧n≤ahead (z + 1)):y=z:=by
 by_cases h:y < z
 ·have:=ahead_mono (y + 1) z (by omega) (by omega)
  omega
 ·by_cases h' : z < y
  ·have:=ahead_mono (z + 1) y (by omega) (by omega)
   omega
  ·omega
theorem IsDay.unique {n y m d y' m' d' : Int} (h:IsDay n y m d) (k:IsDay n y' m' d'):y=y'∧m=m'∧d=d':=by
 have hy:=year_one h.1 k.1 h.year k.year
 subst hy
 obtain ⟨_,_,c,e,f,g,i⟩:=h
 obtain ⟨_,_,c',e',f',g',i'⟩:=k
 unfold Cal.num at i i'
 have hm:m=m':=by
  by_cases h:m < m'
  ·have h1:=cum_le y ((m - 1).toNat + 1) (m' - 1).toNat (by omega)
   have h2:=cum_succ y (m - 1).toNat
   have hm:(((m - 1).toNat:Nat):Int) + 1=m:=by omega
   rw [hm] at h2
   omega
  ·by_cases h' : m' < m
   ·have h1:=cum_le y ((m' - 1).toNat + 1) (m - 1).toNat (by omega)
    have h2:=cum_succ y (m' - 1).toNat
    have hm:(((m' - 1).toNat:Nat):Int) + 1=m':=by omega
    rw [hm] at h2
    omega
   ·omega
 subst hm
 exact ⟨rfl,rfl,by omega⟩
theorem guess {n y:Int} (_hy:1≤y) (_h1:1≤n) (h:n≤ahead (y + 1)):(n - 1) * 400 / 146097 + 1≤y + 1:=by
 unfold ahead at h
 omega
theorem guess_lo {n:Int} (h1:1≤n):1≤(n - 1) * 400 / 146097 + 1:=by omega
theorem year_ex (n:Int) (h:1≤n) (h' : n≤3652059):∃ y,1≤y∧y≤9999∧ahead y < n∧n≤ahead (y + 1):=by
 have key:∀ k:Nat,(k:Int)≤9999→n≤ahead (k + 1)→∃ y:Int,1≤y∧y≤k∧ahead y < n∧n≤ahead (y + 1):=by
  intro k
  induction k with
  | zero => intro _ h2; have : ahead ((0 : Nat) + 1) = 0 := by decide
            omega
  | succ k ih=>
   intro h1 h2
   by_cases hk:n≤ahead (k + 1)
   ·obtain ⟨y,a,b,c,d⟩:=ih (by omega) hk
    exact ⟨y,a,by omega,c,d⟩
   ·refine ⟨(k + 1:Nat),by omega,by omega,?_,h2⟩
    have:(((k + 1:Nat)):Int)=(k:Int) + 1:=by omega
    rw [this];omega
 obtain ⟨y,a,b,c,d⟩:=key 9999 (by omega) (by have:=ahead_last;show n≤ahead 10000;omega)
 exact ⟨y,a,by omega,c,d⟩
theorem isDay_ex (n:Int) (h:1≤n) (h' : n≤3652059):∃ y m d,IsDay n y m d:=by
 obtain ⟨y,a,b,c,e⟩:=year_ex n h h'
 rw [ahead_succ y a] at e
 have key:∀ k:Nat,(k:Int)≤12→n - ahead y≤cum y k→∃ m d:Int,IsDay n y m d:=by
  intro k
  induction k with
  | zero=>intro _ h2;simp [cum] at h2;omega
  | succ k ih=>
   intro h1 h2
   by_cases hk:n - ahead y≤cum y k
   ·exact ih (by omega) hk
   ·rw [cum_succ] at h2
    refine ⟨(k:Int) + 1,n - ahead y - cum y k,a,b,by omega,by omega,by omega,by omega,?_⟩
    unfold num
    have:((k:Int) + 1 - 1).toNat=k:=by omega
    rw [this];omega
 obtain ⟨m,d,hh⟩:=key 12 (by omega) (by rw [cum_12];omega)
 exact ⟨y,m,d,hh⟩
/-! What the functions answer, spelled as functions. -/
def lenV (y m:Int):Int:=if 1≤y∧y≤9999∧1≤m∧m≤12 then mlen y m else 0
def lenE (y m:Int):Int:=if 1≤y∧y≤9999∧1≤m∧m≤12 then 0 else 1
def dayV (y m d:Int):Int:=if vldB y m d=true then num y m d else 0
def dayE (y m d:Int):Int:=if vldB y m d=true then 0 else 1
def isB (n:Int):Bool:=decide (1≤n∧n≤3652059)
theorem isB_iff (n:Int):isB n=true↔1≤n∧n≤3652059:=by unfold isB;simp
theorem isB_not (n:Int):isB n=false↔¬ (1≤n∧n≤3652059):=by unfold isB;simp
open Classical in
noncomputable def spl (n:Int):Int × Int × Int:=if h:∃ p:Int × Int × Int,IsDay n p.1 p.2.1 p.2.2 then Classical.choose h else (0,0,0)
noncomputable def splY (n:Int):Int:=(spl n).1
noncomputable def splM (n:Int):Int:=(spl n).2.1
noncomputable def splD (n:Int):Int:=(spl n).2.2
def splE (n:Int):Int:=if isB n=true then 0 else 1
theorem spl_of {n y m d:Int} (h:IsDay n y m d):y=splY n∧m=splM n∧d=splD n:=by
 have hex:∃ p:Int × Int × Int,IsDay n p.1 p.2.1 p.2.2:=⟨(y,m,d),h⟩
 have:=Classical.choose_spec hex
 have e:spl n=Classical.choose hex:=by unfold spl;rw [dif_pos hex]
 unfold splY splM splD
 rw [e]
 exact h.unique this
theorem spl_isDay {n:Int} (h:isB n=true):IsDay n (splY n) (splM n) (splD n):=by
 obtain ⟨a,b⟩:=(isB_iff n).1 h
 obtain ⟨y,m,d,hd⟩:=isDay_ex n a b
 obtain ⟨e1,e2,e3⟩:=spl_of hd
 rw [← e1,← e2,← e3]
 exact hd
theorem spl_not {n:Int} (h:isB n=false):splY n=0∧splM n=0∧splD n=0:=by
 have hno:¬ ∃ p:Int × Int × Int,IsDay n p.1 p.2.1 p.2.2:=by
  rintro ⟨p,hp⟩
  exact (isB_not n).1 h hp.range
 have e:spl n=(0,0,0):=by unfold spl;rw [dif_neg hno]
 unfold splY splM splD
 rw [e]
 exact ⟨rfl,rfl,rfl⟩
end Cal
namespace Go.Proofs.YtnghlakllgkjlaaGreatDoor
open Go.RowKit
set_option linter.unusedVariables false
theorem ret_bool {a b:Bool} (h:a=b):Ending.returned (.bool a) = .returned (.bool b):=by rw [h]
theorem ret_int {k:IntKind} {a b:Int} (h:a=b):Ending.returned (.int k a) = .returned (.int k b):=by rw [h]
theorem ret_int2 {k l:IntKind} {a b c d:Int} (h:a=b) (h' : c=d):Ending.returned (.tuple #[.int k a,.int l c]) = .returned (.tuple #[.int k b,.int l d]):=by rw [h,h']
theorem ret_int3 {k l m:IntKind} {a b c d e f:Int} (h:a=b) (h' : c=d) (h'' : e=f):Ending.returned (.tuple #[.int k a,.int l c,.int m e]) = .returned (.tuple #[.int k b,.int l d,.int m f]):=by rw [h,h',h'']
theorem ret_int4 {k l m n:IntKind} {a b c d e f g i:Int} (h:a=b) (h' : c=d) (h'' : e=f) (h3:g=i):Ending.returned (.tuple #[.int k a,.int l c,.int m e,.int n g]) = .returned (.tuple #[.int k b,.int l d,.int m f,.int n i]):=by rw [h,h',h'',h3]
set_option maxHeartbeats 400000 in
theorem leap_any (y:Int) (w:World) (h0 : -9223372036854775808≤y) (h1:y≤9223372036854775807) :
  Calls Tryz.prog 210 #[.int .i64 y] w fun e w'=>e = .returned (.bool (Cal.leapB y))∧w=w':=by
 cases h4:(y.tmod 4 == 0) <;> cases h100:(y.tmod 100 != 0) <;> cases h400:(y.tmod 400 == 0)
 all_goals
  go_enter Tryz.func210,Tryz.ntmps210
  go_wp2
  go_ret
  exact ⟨ret_bool (by simp only [Cal.leapB,h4,h100,h400];decide),rfl⟩
set_option maxHeartbeats 400000 in
theorem rleap_any (y:Int) (w:World) (h0 : -9223372036854775808≤y) (h1:y≤9223372036854775807) :
  Calls Tryz.prog 199 #[.int .i64 y] w fun e w'=>e = .returned (.bool (Cal.leapB y))∧w=w':=by
 cases h4:(y.tmod 4 == 0) <;> cases h100:(y.tmod 100 != 0) <;> cases h400:(y.tmod 400 == 0)
 all_goals
  go_enter Tryz.func199,Tryz.ntmps199
  go_wp2
  go_ret
  exact ⟨ret_bool (by simp only [Cal.leapB,h4,h100,h400];decide),rfl⟩
set_option maxHeartbeats 400000 in
theorem rmonth_any (y m:Int) (w:World) (h0:1≤y) (h1:y≤9223372036854775807) (h2:1≤m) (h3:m≤12) :
  Calls Tryz.prog 147 #[.int .i64 y,.int .i64 m] w fun e w'=>e = .returned (.int .i64 (Cal.mlen y m))∧w=w':=by
 have hm:m=1∨m=2∨m=3∨m=4∨m=5∨m=6∨m=7∨m=8∨m=9∨m=10∨m=11∨m=12:=by omega
 clear h2 h3
 cases hl:Cal.leapB y
 all_goals
  rcases hm with rfl|rfl|rfl|rfl|rfl|rfl|rfl|rfl|rfl|rfl|rfl|rfl
 all_goals
  go_enter Tryz.func147,Tryz.ntmps147
  go_wp2_with (go_at_call 199;refine (rleap_any _ _ (by omega) (by omega)).mono ?_;rintro e w' ⟨rfl,rfl⟩)
  go_ret
  exact ⟨ret_int (by simp [Cal.mlen,hl]),rfl⟩
theorem len_idx0 (w:World):(Instr.index 254 (.agg #[.int .i64 31,.int .i64 28,.int .i64 31,.int .i64 30,.int .i64 31,.int .i64 30,.int .i64 31,.int .i64 31,.int .i64 30,.int .i64 31,.int .i64 30,.int .i64 31]) (.int .i64 0)).run Tryz.prog w = .ok (.int .i64 31) w:=by kernel_rfl
theorem len_idx1 (w:World):(Instr.index 254 (.agg #[.int .i64 31,.int .i64 28,.int .i64 31,.int .i64 30,.int .i64 31,.int .i64 30,.int .i64 31,.int .i64 31,.int .i64 30,.int .i64 31,.int .i64 30,.int .i64 31]) (.int .i64 1)).run Tryz.prog w = .ok (.int .i64 28) w:=by kernel_rfl
theorem len_idx2 (w:World):(Instr.index 254 (.agg #[.int .i64 31,.int .i64 28,.int .i64 31,.int .i64 30,.int .i64 31,.int .i64 30,.int .i64 31,.int .i64 31,.int .i64 30,.int .i64 31,.int .i64 30,.int .i64 31]) (.int .i64 2)).run Tryz.prog w = .ok (.int .i64 31) w:=by kernel_rfl
theorem len_idx3 (w:World):(Instr.index 254 (.agg #[.int .i64 31,.int .i64 28,.int .i64 31,.int .i64 30,.int .i64 31,.int .i64 30,.int .i64 31,.int .i64 31,.int .i64 30,.int .i64 31,.int .i64 30,.int .i64 31]) (.int .i64 3)).run Tryz.prog w = .ok (.int .i64 30) w:=by kernel_rfl
theorem len_idx4 (w:World):(Instr.index 254 (.agg #[.int .i64 31,.int .i64 28,.int .i64 31,.int .i64 30,.int .i64 31,.int .i64 30,.int .i64 31,.int .i64 31,.int .i64 30,.int .i64 31,.int .i64 30,.int .i64 31]) (.int .i64 4)).run Tryz.prog w = .ok (.int .i64 31) w:=by kernel_rfl
theorem len_idx5 (w:World):(Instr.index 254 (.agg #[.int .i64 31,.int .i64 28,.int .i64 31,.int .i64 30,.int .i64 31,.int .i64 30,.int .i64 31,.int .i64 31,.int .i64 30,.int .i64 31,.int .i64 30,.int .i64 31]) (.int .i64 5)).run Tryz.prog w = .ok (.int .i64 30) w:=by kernel_rfl
theorem len_idx6 (w:World):(Instr.index 254 (.agg #[.int .i64 31,.int .i64 28,.int .i64 31,.int .i64 30,.int .i64 31,.int .i64 30,.int .i64 31,.int .i64 31,.int .i64 30,.int .i64 31,.int .i64 30,.int .i64 31]) (.int .i64 6)).run Tryz.prog w = .ok (.int .i64 31) w:=by kernel_rfl
theorem len_idx7 (w:World):(Instr.index 254 (.agg #[.int .i64 31,.int .i64 28,.int .i64 31,.int .i64 30,.int .i64 31,.int .i64 30,.int .i64 31,.int .i64 31,.int .i64 30,.int .i64 31,.int .i64 30,.int .i64 31]) (.int .i64 7)).run Tryz.prog w = .ok (.int .i64 31) w:=by kernel_rfl
theorem len_idx8 (w:World):(Instr.index 254 (.agg #[.int .i64 31,.int .i64 28,.int .i64 31,.int .i64 30,.int .i64 31,.int .i64 30,.int .i64 31,.int .i64 31,.int .i64 30,.int .i64 31,.int .i64 30,.int .i64 31]) (.int .i64 8)).run Tryz.prog w = .ok (.int .i64 30) w:=by kernel_rfl
theorem len_idx9 (w:World):(Instr.index 254 (.agg #[.int .i64 31,.int .i64 28,.int .i64 31,.int .i64 30,.int .i64 31,.int .i64 30,.int .i64 31,.int .i64 31,.int .i64 30,.int .i64 31,.int .i64 30,.int .i64 31]) (.int .i64 9)).run Tryz.prog w = .ok (.int .i64 31) w:=by kernel_rfl
theorem len_idx10 (w:World):(Instr.index 254 (.agg #[.int .i64 31,.int .i64 28,.int .i64 31,.int .i64 30,.int .i64 31,.int .i64 30,.int .i64 31,.int .i64 31,.int .i64 30,.int .i64 31,.int .i64 30,.int .i64 31]) (.int .i64 10)).run Tryz.prog w = .ok (.int .i64 30) w:=by kernel_rfl
theorem len_idx11 (w:World):(Instr.index 254 (.agg #[.int .i64 31,.int .i64 28,.int .i64 31,.int .i64 30,.int .i64 31,.int .i64 30,.int .i64 31,.int .i64 31,.int .i64 30,.int .i64 31,.int .i64 30,.int .i64 31]) (.int .i64 11)).run Tryz.prog w = .ok (.int .i64 31) w:=by kernel_rfl
set_option maxRecDepth 100000 in
set_option maxHeartbeats 400000 in
theorem length_in2 (y:Int) (w:World) (h0:1≤y) (h1:y≤9223372036854775807) :
  Calls Tryz.prog 163 #[.int .i64 y,.int .i64 2] w fun e w'=>e = .returned (.int .i64 (Cal.mlen y 2))∧w=w':=by
 have i1:=len_idx1
 cases hl:Cal.leapB y
 all_goals
  go_enter Tryz.func163,Tryz.ntmps163
  go_wp2_with (go_at_call 210;refine (leap_any _ _ (by omega) (by omega)).mono ?_;rintro e w' ⟨rfl,rfl⟩)
  go_ret
  exact ⟨ret_int (by simp [Cal.mlen,hl]),rfl⟩
set_option maxRecDepth 100000 in
set_option maxHeartbeats 2000000 in
theorem length_in (y m:Int) (w:World) (h0:1≤y) (h1:y≤9223372036854775807) (h2:1≤m) (h3:m≤12) :
  Calls Tryz.prog 163 #[.int .i64 y,.int .i64 m] w fun e w'=>e = .returned (.int .i64 (Cal.mlen y m))∧w=w':=by
 by_cases e2:m=2
 ·subst e2
  exact length_in2 y w h0 h1
 have hm:m=1∨m=3∨m=4∨m=5∨m=6∨m=7∨m=8∨m=9∨m=10∨m=11∨m=12:=by omega
 clear h2 h3 e2
 have i0:=len_idx0
 have i2:=len_idx2
 have i3:=len_idx3
 have i4:=len_idx4
 have i5:=len_idx5
 have i6:=len_idx6
 have i7:=len_idx7
 have i8:=len_idx8
 have i9:=len_idx9
 have i10:=len_idx10
 have i11:=len_idx11
 rcases hm with rfl|rfl|rfl|rfl|rfl|rfl|rfl|rfl|rfl|rfl|rfl
 all_goals
  go_enter Tryz.func163,Tryz.ntmps163
  go_wp2
  go_ret
  exact ⟨ret_int (by simp [Cal.mlen]),rfl⟩
set_option maxHeartbeats 400000 in
theorem ryear_any (y:Int) (w:World) (h0:1≤y) (h1:y≤9223372036854775807) :
  Calls Tryz.prog 146 #[.int .i64 y] w fun e w'=>e = .returned (.int .i64 (Cal.ylen y))∧w=w':=by
 cases hl:Cal.leapB y
 all_goals
  go_enter Tryz.func146,Tryz.ntmps146
  go_wp2_with (go_at_call 199;refine (rleap_any _ _ (by omega) (by omega)).mono ?_;rintro e w' ⟨rfl,rfl⟩)
  go_ret
  exact ⟨ret_int (by simp [Cal.ylen,hl]),rfl⟩
set_option maxHeartbeats 400000 in
theorem ahead_any (y:Int) (w:World) (h0:1≤y) (h1:y≤10001) :
  Calls Tryz.prog 162 #[.int .i64 y] w fun e w'=>e = .returned (.int .i64 (Cal.ahead y))∧w=w':=by
 go_enter Tryz.func162,Tryz.ntmps162
 go_wp2
 go_ret
 exact ⟨ret_int rfl,rfl⟩
set_option maxHeartbeats 400000 in
theorem is_any (n:Int) (w:World) :
  Calls Tryz.prog 108 #[.int .i64 n] w fun e w'=>e = .returned (.bool (Cal.isB n))∧w=w':=by
 by_cases h1:1≤n
 ·by_cases h2:n≤3652059
  ·have hb:=Lib.hid (show Cal.isB n=true from (Cal.isB_iff n).2 ⟨h1,h2⟩)
   go_enter Tryz.func108,Tryz.ntmps108
   go_wp2
   go_ret
   exact ⟨ret_bool hb.out.symm,rfl⟩
  ·have hb:=Lib.hid (show Cal.isB n=false from (Cal.isB_not n).2 (by omega))
   go_enter Tryz.func108,Tryz.ntmps108
   go_wp2
   go_ret
   exact ⟨ret_bool hb.out.symm,rfl⟩
 ·have hb:=Lib.hid (show Cal.isB n=false from (Cal.isB_not n).2 (by omega))
  go_enter Tryz.func108,Tryz.ntmps108
  go_wp2
  go_ret
  exact ⟨ret_bool hb.out.symm,rfl⟩
set_option maxHeartbeats 400000 in
theorem ris_any (n:Int) (w:World) :
  Calls Tryz.prog 94 #[.int .i64 n] w fun e w'=>e = .returned (.bool (Cal.isB n))∧w=w':=by
 by_cases h1:1≤n
 ·by_cases h2:n≤3652059
  ·have hb:=Lib.hid (show Cal.isB n=true from (Cal.isB_iff n).2 ⟨h1,h2⟩)
   go_enter Tryz.func94,Tryz.ntmps94
   go_wp2
   go_ret
   exact ⟨ret_bool hb.out.symm,rfl⟩
  ·have hb:=Lib.hid (show Cal.isB n=false from (Cal.isB_not n).2 (by omega))
   go_enter Tryz.func94,Tryz.ntmps94
   go_wp2
   go_ret
   exact ⟨ret_bool hb.out.symm,rfl⟩
 ·have hb:=Lib.hid (show Cal.isB n=false from (Cal.isB_not n).2 (by omega))
  go_enter Tryz.func94,Tryz.ntmps94
  go_wp2
  go_ret
  exact ⟨ret_bool hb.out.symm,rfl⟩
open Go.RowKit
set_option maxHeartbeats 400000 in
theorem length_any (y m:Int) (w:World) :
  Calls Tryz.prog 167 #[.int .i64 y,.int .i64 m] w fun e w'=>e = .returned (.tuple #[.int .i64 (Cal.lenV y m),.int .i64 (Cal.lenE y m)])∧w=w':=by
 by_cases h1:1≤y
 ·by_cases h2:y≤9999
  ·by_cases h3:1≤m
   ·by_cases h4:m≤12
    ·have e1:Cal.lenV y m=Cal.mlen y m:=if_pos ⟨h1,h2,h3,h4⟩
     have e2:Cal.lenE y m=0:=if_pos ⟨h1,h2,h3,h4⟩
     have H1:=Lib.hid e1
     have H2:=Lib.hid e2
     clear e1 e2
     go_enter Tryz.func167,Tryz.ntmps167
     go_wp2_with (go_at_call 163;refine (length_in _ _ _ (by omega) (by omega) (by omega) (by omega)).mono ?_;rintro e w' ⟨rfl,rfl⟩)
     go_ret2
     exact ⟨ret_int2 H1.out.symm H2.out.symm,rfl⟩
    ·have H1:=Lib.hid (show Cal.lenV y m=0 from if_neg (by omega))
     have H2:=Lib.hid (show Cal.lenE y m=1 from if_neg (by omega))
     go_enter Tryz.func167,Tryz.ntmps167
     go_wp2
     go_ret2
     exact ⟨ret_int2 H1.out.symm H2.out.symm,rfl⟩
   ·have H1:=Lib.hid (show Cal.lenV y m=0 from if_neg (by omega))
    have H2:=Lib.hid (show Cal.lenE y m=1 from if_neg (by omega))
    go_enter Tryz.func167,Tryz.ntmps167
    go_wp2
    go_ret2
    exact ⟨ret_int2 H1.out.symm H2.out.symm,rfl⟩
  ·have H1:=Lib.hid (show Cal.lenV y m=0 from if_neg (by omega))
   have H2:=Lib.hid (show Cal.lenE y m=1 from if_neg (by omega))
   go_enter Tryz.func167,Tryz.ntmps167
   go_wp2
   go_ret2
   exact ⟨ret_int2 H1.out.symm H2.out.symm,rfl⟩
 ·have H1:=Lib.hid (show Cal.lenV y m=0 from if_neg (by omega))
  have H2:=Lib.hid (show Cal.lenE y m=1 from if_neg (by omega))
  go_enter Tryz.func167,Tryz.ntmps167
  go_wp2
  go_ret2
  exact ⟨ret_int2 H1.out.symm H2.out.symm,rfl⟩
set_option maxHeartbeats 400000 in
theorem day_yes (y m d:Int) (w:World) (h1:1≤y) (h2:y≤9999) (h3:1≤m) (h4:m≤12) (h5:1≤d) (h6:d≤Cal.mlen y m) :
  Calls Tryz.prog 113 #[.int .i64 y,.int .i64 m,.int .i64 d] w fun e w'=>e = .returned (.tuple #[.int .i64 (Cal.num y m d),.int .i64 0])∧w=w':=by
 have H1:=Lib.hid (show Cal.lenV y m=Cal.mlen y m from if_pos ⟨h1,h2,h3,h4⟩)
 have H2:=Lib.hid (show Cal.lenE y m=0 from if_pos ⟨h1,h2,h3,h4⟩)
 have hb:=Cal.mlen_bd y m
 have ha:=Cal.ahead_bd y (by omega) (by omega)
 go_enter Tryz.func113,Tryz.ntmps113
 go_wp2_with (go_at_call 167;refine (length_any _ _ _).mono ?_;rintro e w' ⟨rfl,rfl⟩;rw [H1.out,H2.out])
 go_loop [2,10] (fun dv mv=>∃ j:Nat,(j:Int) + 1≤m∧mv = .int .i64 ((j:Int) + 1)∧dv = .int .i64 (d + Cal.cum y j)) (fun _ mv=>(m - intOf mv).toNat)
 case atStart=>exact ⟨0,by omega,rfl,by simp [Cal.cum]⟩
 case round=>
  obtain ⟨j,hj,rfl,rfl⟩:=hrel
  have hc:=Cal.cum_bd y j
  have hm:=Cal.mlen_bd y ((j:Int) + 1)
  by_cases hlt:(j:Int) + 1 < m
  ·go_wp2_with (go_at_call 163;refine (length_in _ _ _ (by omega) (by omega) (by omega) (by omega)).mono ?_;rintro e w' ⟨rfl,rfl⟩)
   go_round
   case rel=>exact ⟨j + 1,by omega,by go_num,by rw [Cal.cum_succ,Int.add_assoc]⟩
   case measure=>simp [intOf];omega
  ·have hjm:(m - 1).toNat=j:=by omega
   have HJ:=Lib.hid hjm
   clear hjm
   go_wp2_with (go_at_call 162;refine (ahead_any _ _ (by omega) (by omega)).mono ?_;rintro e w' ⟨rfl,rfl⟩)
   go_ret2
   exact ⟨ret_int2 (by unfold Cal.num;rw [HJ.out];omega) rfl,rfl⟩
theorem day_no (y m d:Int) (w:World) (h:Cal.vldB y m d=false) :
  Calls Tryz.prog 113 #[.int .i64 y,.int .i64 m,.int .i64 d] w fun e w'=>e = .returned (.tuple #[.int .i64 0,.int .i64 1])∧w=w':=by
 have h:=(Cal.vldB_not y m d).1 h
 by_cases hl:1≤y∧y≤9999∧1≤m∧m≤12
 ·have H1:=Lib.hid (show Cal.lenV y m=Cal.mlen y m from if_pos hl)
  have H2:=Lib.hid (show Cal.lenE y m=0 from if_pos hl)
  by_cases hd:1≤d
  ·have hd2:¬ d≤Cal.mlen y m:=fun h6=>h ⟨hl.1,hl.2.1,hl.2.2.1,hl.2.2.2,hd,h6⟩
   clear h hl
   go_enter Tryz.func113,Tryz.ntmps113
   go_wp2_with (go_at_call 167;refine (length_any _ _ _).mono ?_;rintro e w' ⟨rfl,rfl⟩;rw [H1.out,H2.out])
   go_ret2
   exact ⟨rfl,rfl⟩
  ·clear h hl
   go_enter Tryz.func113,Tryz.ntmps113
   go_wp2_with (go_at_call 167;refine (length_any _ _ _).mono ?_;rintro e w' ⟨rfl,rfl⟩;rw [H1.out,H2.out])
   go_ret2
   exact ⟨rfl,rfl⟩
 ·have H1:=Lib.hid (show Cal.lenV y m=0 from if_neg hl)
  have H2:=Lib.hid (show Cal.lenE y m=1 from if_neg hl)
  clear h hl
  go_enter Tryz.func113,Tryz.ntmps113
  go_wp2_with (go_at_call 167;refine (length_any _ _ _).mono ?_;rintro e w' ⟨rfl,rfl⟩;rw [H1.out,H2.out])
  go_ret2
  exact ⟨rfl,rfl⟩
theorem day_any (y m d:Int) (w:World) :
  Calls Tryz.prog 113 #[.int .i64 y,.int .i64 m,.int .i64 d] w fun e w'=>e = .returned (.tuple #[.int .i64 (Cal.dayV y m d),.int .i64 (Cal.dayE y m d)])∧w=w':=by
 unfold Cal.dayV Cal.dayE
 cases h:Cal.vldB y m d
 ·simpa using day_no y m d w h
 ·obtain ⟨h1,h2,h3,h4,h5,h6⟩:=(Cal.vldB_iff y m d).1 h
  simpa using day_yes y m d w h1 h2 h3 h4 h5 h6
open Go.RowKit
set_option linter.unusedVariables false
set_option maxHeartbeats 1000000 in
theorem split_in (n:Int) (w:World) (h1:1≤n) (h2:n≤3652059) :
  Calls Tryz.prog 109 #[.int .i64 n] w fun e w'=>e = .returned (.tuple #[.int .i64 (Cal.splY n),.int .i64 (Cal.splM n),.int .i64 (Cal.splD n)])∧w=w':=by
 obtain ⟨Y,hY1,hY2,hY3,hY4⟩:=Cal.year_ex n h1 h2
 have hg:=Cal.guess hY1 h1 hY4
 have hg1:=Cal.guess_lo h1
 have HYS:=Lib.hid (Cal.ahead_succ Y hY1)
 have HC:=Lib.hid (Cal.cum_12 Y)
 have hA:=Cal.ahead_bd Y (by omega) (by omega)
 go_enter Tryz.func109,Tryz.ntmps109
 go_wp2
 go_loop [5] (fun yv=>∃ y:Int,1≤y∧y≤Y + 1∧yv = .int .i64 y) (fun yv=>(Y + 1 - intOf yv).toNat)
 case atStart=>exact ⟨_,hg1,hg,rfl⟩
 case round=>
  obtain ⟨y,hy1,hy2,rfl⟩:=hrel
  by_cases hc:Cal.ahead (y + 1) < n
  ·have hyY:y < Y:=by
    by_cases h:y < Y
    ·exact h
    ·exfalso
     have:=Cal.ahead_mono (Y + 1) (y + 1) (by omega) (by omega)
     omega
   go_wp2_with (go_at_call 162;refine (ahead_any _ _ (by omega) (by omega)).mono ?_;rintro e w' ⟨rfl,rfl⟩)
   go_round
   case rel=>exact ⟨y + 1,by omega,by omega,rfl⟩
   case measure=>simp [intOf];omega
  ·have hyY:Y≤y:=by
    by_cases h:Y≤y
    ·exact h
    ·exfalso
     have:=Cal.ahead_mono (y + 1) Y (by omega) (by omega)
     omega
   go_wp2_with (go_at_call 162;refine (ahead_any _ _ (by omega) (by omega)).mono ?_;rintro e w' ⟨rfl,rfl⟩)
   go_loop [5] (fun yv=>∃ y:Int,Y≤y∧y≤Y + 1∧yv = .int .i64 y) (fun yv=>(intOf yv).toNat)
   case atStart=>exact ⟨y,hyY,hy2,rfl⟩
   case round=>
    clear hc hyY hy1 hy2
    obtain ⟨z,hz1,hz2,rfl⟩:=hrel
    by_cases hc:n≤Cal.ahead z
    ·have hzY:z=Y + 1:=by
      by_cases h:z=Y
      ·subst h;omega
      ·omega
     have hzY' : Y + 1≤z:=by omega
     clear hzY
     go_wp2_with (go_at_call 162;refine (ahead_any _ _ (by omega) (by omega)).mono ?_;rintro e w' ⟨rfl,rfl⟩)
     go_round
     case rel=>exact ⟨z - 1,by omega,by omega,rfl⟩
     case measure=>simp [intOf];omega
    ·have hzY:z=Y:=by
      by_cases h:z=Y
      ·exact h
      ·exfalso
       have e:z=Y + 1:=by omega
       subst e
       omega
     subst hzY
     go_wp2_with (go_at_call 162;refine (ahead_any _ _ (by omega) (by omega)).mono ?_;rintro e w' ⟨rfl,rfl⟩)
     go_loop [0,6] (fun dv mv=>∃ j:Nat,j≤11∧mv = .int .i64 ((j:Int) + 1)∧1≤n - Cal.ahead z - Cal.cum z j∧dv = .int .i64 (n - Cal.ahead z - Cal.cum z j)) (fun _ mv=>(12 - intOf mv).toNat)
     case atStart=>exact ⟨0,by omega,rfl,by simp [Cal.cum];omega,by simp [Cal.cum]⟩
     case round=>
      obtain ⟨j,hj,rfl,hd,rfl⟩:=hrel
      have hcb:=Cal.cum_bd z j
      have hm:=Cal.mlen_bd z ((j:Int) + 1)
      by_cases hlt:Cal.mlen z ((j:Int) + 1) < n - Cal.ahead z - Cal.cum z j
      ·have hj' : j < 11:=by
        by_cases h:j < 11
        ·exact h
        ·exfalso
         have e:j=11:=by omega
         subst e
         have e2:Cal.cum z 12=Cal.cum z 11 + Cal.mlen z (((11:Nat):Int) + 1):=rfl
         have e3:=HC.out
         have e4:=HYS.out
         omega
       go_wp2_with (go_at_call 163;refine (length_in _ _ _ (by omega) (by omega) (by omega) (by omega)).mono ?_;rintro e w' ⟨rfl,rfl⟩)
       go_round
       case rel=>exact ⟨j + 1,by omega,by go_num,by rw [Cal.cum_succ];omega,by rw [Cal.cum_succ,← Int.sub_sub]⟩
       case measure=>simp [intOf];omega
      ·have hday:Cal.IsDay n z ((j:Int) + 1) (n - Cal.ahead z - Cal.cum z j):=by
        refine ⟨hY1,hY2,by omega,by omega,hd,by omega,?_⟩
        unfold Cal.num
        have e:((j:Int) + 1 - 1).toNat=j:=by omega
        rw [e];omega
       have HS:=Lib.hid (Cal.spl_of hday)
       clear hday
       go_wp2_with (go_at_call 163;refine (length_in _ _ _ (by omega) (by omega) (by omega) (by omega)).mono ?_;rintro e w' ⟨rfl,rfl⟩)
       go_ret3
       exact ⟨ret_int3 HS.out.1 HS.out.2.1 HS.out.2.2,rfl⟩
open Go.RowKit
set_option linter.unusedVariables false
theorem results_tmp4 {fn:Func} {t u v x:Tmp} (h:fn.results=#[.tmp t,.tmp u,.tmp v,.tmp x]) (tmps:Array Value) (P:Program) (w:World) :
  (results fn tmps).run P w = .ok (.tuple #[tmps.getD t undef,tmps.getD u undef,tmps.getD v undef,tmps.getD x undef]) w:=by
 simp [results,h]
set_option maxHeartbeats 1000000 in
theorem rsplit_any (n:Int) (w:World) :
  Calls Tryz.prog 98 #[.int .i64 n] w fun e w'=>e = .returned (.tuple #[.int .i64 (Cal.splY n),.int .i64 (Cal.splM n),.int .i64 (Cal.splD n),.int .i64 (Cal.splE n)])∧w=w':=by
 cases hb:Cal.isB n
 ·have HS:=Lib.hid (Cal.spl_not hb)
  have HE:=Lib.hid (show Cal.splE n=1 by unfold Cal.splE;rw [hb];rfl)
  have HB:=Lib.hid hb
  clear hb
  go_enter Tryz.func98,Tryz.ntmps98
  go_wp2_with (go_at_call 94;refine (ris_any _ _).mono ?_;rintro e w' ⟨rfl,rfl⟩;rw [HB.out])
  (try simp only [Exit.inBlock,Exit.then])
  refine bodyPost_ret (results_tmp4 rfl _ _ _) rfl ?_
  exact ⟨ret_int4 HS.out.1.symm HS.out.2.1.symm HS.out.2.2.symm HE.out.symm,rfl⟩
 ·have HE:=Lib.hid (show Cal.splE n=0 by unfold Cal.splE;rw [hb];rfl)
  obtain ⟨h1,h2⟩:=(Cal.isB_iff n).1 hb
  have HB:=Lib.hid hb
  clear hb
  obtain ⟨Y,hY1,hY2,hY3,hY4⟩:=Cal.year_ex n h1 h2
  have HYS:=Lib.hid (Cal.ahead_succ Y hY1)
  have HC:=Lib.hid (Cal.cum_12 Y)
  have hA:=Cal.ahead_bd Y (by omega) (by omega)
  go_enter Tryz.func98,Tryz.ntmps98
  go_wp2_with (go_at_call 94;refine (ris_any _ _).mono ?_;rintro e w' ⟨rfl,rfl⟩;rw [HB.out])
  go_loop [0,6] (fun dv yv=>∃ y:Int,1≤y∧y≤Y∧yv = .int .i64 y∧dv = .int .i64 (n - Cal.ahead y)) (fun _ yv=>(Y - intOf yv).toNat)
  case atStart=>exact ⟨1,by omega,by omega,rfl,by rw [Cal.ahead_one];simp⟩
  case round=>
   obtain ⟨y,hy1,hy2,rfl,rfl⟩:=hrel
   have hay:=Cal.ahead_bd y (by omega) (by omega)
   have hyl:=Cal.ylen_bd y
   have HY1:=Lib.hid (Cal.ahead_succ y hy1)
   by_cases hc:Cal.ylen y < n - Cal.ahead y
   ·have hyY:y < Y:=by
     by_cases h:y < Y
     ·exact h
     ·exfalso
      have e:y=Y:=by omega
      subst e
      have:=HYS.out
      omega
    go_wp2_with (go_at_call 146;refine (ryear_any _ _ (by omega) (by omega)).mono ?_;rintro e w' ⟨rfl,rfl⟩)
    go_round
    case rel=>exact ⟨y + 1,by omega,by omega,rfl,by rw [HY1.out,← Int.sub_sub]⟩
    case measure=>simp [intOf];omega
   ·have hyY:y=Y:=by
     by_cases h:y=Y
     ·exact h
     ·exfalso
      have h1:=Cal.ahead_mono (y + 1) Y (by omega) (by omega)
      have h2:=HY1.out
      omega
    subst hyY
    go_wp2_with (go_at_call 146;refine (ryear_any _ _ (by omega) (by omega)).mono ?_;rintro e w' ⟨rfl,rfl⟩)
    go_loop [0,7] (fun dv mv=>∃ j:Nat,j≤11∧mv = .int .i64 ((j:Int) + 1)∧1≤n - Cal.ahead y - Cal.cum y j∧dv = .int .i64 (n - Cal.ahead y - Cal.cum y j)) (fun _ mv=>(12 - intOf mv).toNat)
    case atStart=>exact ⟨0,by omega,rfl,by simp [Cal.cum];omega,by simp [Cal.cum]⟩
    case round=>
     obtain ⟨j,hj,rfl,hd,rfl⟩:=hrel
     have hcb:=Cal.cum_bd y j
     have hm:=Cal.mlen_bd y ((j:Int) + 1)
     by_cases hlt:Cal.mlen y ((j:Int) + 1) < n - Cal.ahead y - Cal.cum y j
     ·have hj' : j < 11:=by
       by_cases h:j < 11
       ·exact h
       ·exfalso
        have e:j=11:=by omega
        subst e
        have e2:Cal.cum y 12=Cal.cum y 11 + Cal.mlen y (((11:Nat):Int) + 1):=rfl
        have e3:=HC.out
        have e4:=HYS.out
        omega
      go_wp2_with (go_at_call 147;refine (rmonth_any _ _ _ (by omega) (by omega) (by omega) (by omega)).mono ?_;rintro e w' ⟨rfl,rfl⟩)
      go_round
      case rel=>exact ⟨j + 1,by omega,by go_num,by rw [Cal.cum_succ];omega,by rw [Cal.cum_succ,← Int.sub_sub]⟩
      case measure=>simp [intOf];omega
     ·have hday:Cal.IsDay n y ((j:Int) + 1) (n - Cal.ahead y - Cal.cum y j):=by
       refine ⟨hY1,hY2,by omega,by omega,hd,by omega,?_⟩
       unfold Cal.num
       have e:((j:Int) + 1 - 1).toNat=j:=by omega
       rw [e];omega
      have HS:=Lib.hid (Cal.spl_of hday)
      clear hday
      go_wp2_with (go_at_call 147;refine (rmonth_any _ _ _ (by omega) (by omega) (by omega) (by omega)).mono ?_;rintro e w' ⟨rfl,rfl⟩)
      (try simp only [Exit.inBlock,Exit.then])
      refine bodyPost_ret (results_tmp4 rfl _ _ _) rfl ?_
      exact ⟨ret_int4 HS.out.1 HS.out.2.1 HS.out.2.2 HE.out.symm,rfl⟩
open Go.RowKit
set_option linter.unusedVariables false
theorem spl_bd {n:Int} (h:Cal.isB n=true):1≤Cal.splY n∧Cal.splY n≤9999∧1≤Cal.splM n∧Cal.splM n≤12∧1≤Cal.splD n∧Cal.splD n≤31:=by
 have h:=Cal.spl_isDay h
 obtain ⟨a,b,c,d,e,f,_⟩:=h
 have:=Cal.mlen_bd (Cal.splY n) (Cal.splM n)
 exact ⟨a,b,c,d,e,by omega⟩
open Go.RowKit
set_option linter.unusedVariables false
open Go.RowKit Go.Sort
set_option linter.unusedVariables false
theorem ret_str2 {l:IntKind} {a b:ByteArray} {c d:Int} (h:a=b) (h' : c=d):Ending.returned (.tuple #[.string a,.int l c]) = .returned (.tuple #[.string b,.int l d]):=by rw [h,h']
theorem below_grow (w:World) (k:Nat) (os:Array Obj):Below w.heap.size w (grow (w.drewN k) os):=below_regrown w (w.drawn + k) os
theorem itoa_any (n : Int) (w : World) (h0 : -9223372036854775808 ≤ n) (h1 : n ≤ 9223372036854775807) (htab : Lib.TabIs Tryz.prog w "internal/strconv.uint64pow10" .u64 Lib.pow10Tab) :
  Calls Tryz.prog 164 #[.int .i64 n] w fun e w'=>e = .returned (.string ⟨(Lib.itoa n).toArray⟩)∧Below w.heap.size w w':=
 (Tryz.strconv_Itoa n h0 h1 w htab).mono fun _ _ ⟨he,k,os,hw⟩=>⟨he,hw▸below_grow w k os⟩
theorem tab_below {P:Program} {w w' : World} {name:String} {k:IntKind} {zs:List Int} (hb:Below w.heap.size w w') (h:Lib.TabIs P w name k zs):Lib.TabIs P w' name k zs:=by
 unfold Lib.TabIs at h ⊢
 cases hg:P.globalNamed name with
 | none=>simp [World.var?,hg] at h
 | some g=>
  by_cases hlt:g < w.heap.size
  ·exact var?_below hb hg hlt h
  ·have e:w.heap[g]? = none:=by simp;omega
   simp [World.var?,hg,e] at h
def padB (n k:Int):ByteArray:=⟨(Lib.repeatL [48] (k.toNat - (Lib.itoa n).length)++Lib.itoa n).toArray⟩
def dashB:ByteArray:=⟨#[45]⟩
def dateB (y m d:Int):ByteArray:=padB y 4++dashB++padB m 2++dashB++padB d 2
noncomputable def dayB (n:Int):ByteArray:=if Cal.isB n=true then dateB (Cal.splY n) (Cal.splM n) (Cal.splD n) else ⟨#[]⟩
theorem itoa_len {n:Int} (h0:0≤n) (k:Nat) (h:n < (10 ^ k:Nat)) (hk:1≤k):(Lib.itoa n).length≤k:=by
 have e:Lib.itoa n=Lib.decDigits n.toNat:=by unfold Lib.itoa;rw [if_neg (by omega)]
 rw [e]
 have key:∀ (k:Nat) (u:Nat),1≤k→u < 10 ^ k→(Lib.decDigits u).length≤k:=by
  intro k
  induction k with
  | zero=>intro u h1 _;omega
  | succ k ih=>
   intro u _ h2
   unfold Lib.decDigits
   split
   ·simp
   ·rename_i h10
    by_cases hk:k=0
    ·subst hk;omega
    ·have:=ih (u / 10) (by omega) (by rw [Nat.pow_succ] at h2;omega)
     simp;omega
 exact key k n.toNat hk (by omega)
theorem padB_size {n k:Int} (h:(Lib.itoa n).length≤k.toNat):(padB n k).size=k.toNat:=by
 show (List.toArray _).size=_
 simp only [List.size_toArray,List.length_append,Lib.repeatL_length]
 simp
 omega
set_option maxHeartbeats 400000 in
theorem padded_any (n k : Int) (w : World) (h0 : 0 ≤ n) (h1 : n ≤ 9999) (hk0 : 0 ≤ k) (hk : (Lib.itoa n).length ≤ k.toNat) (hk4 : k ≤ 4) (htab : Lib.TabIs Tryz.prog w "internal/strconv.uint64pow10" .u64 Lib.pow10Tab) :
  Calls Tryz.prog 110 #[.int .i64 n,.int .i64 k] w fun e w'=>e = .returned (.string (padB n k))∧Below w.heap.size w w':=by
 have HT:=Lib.hid htab
 clear htab
 have hcat:=fun w=>run_string_add_lists (P:=Tryz.prog) w (Lib.repeatL [48] (k.toNat - (Lib.itoa n).length)) (Lib.itoa n) (by rw [Lib.repeatL_length];simp;omega) (by omega)
 go_enter Tryz.func110,Tryz.ntmps110
 go_wp2_with fail
 refine (itoa_any _ _ (by omega) (by omega) HT.out).mono ?_
 rintro e w1 ⟨rfl,hb1⟩
 go_wp2_with fail
 rw [show k - ((Lib.itoa n).length:Int)=((k.toNat - (Lib.itoa n).length:Nat):Int) by omega]
 refine (Tryz.strings_Repeat _ _ _ (by omega) (by show 1 * _≤_;omega)).mono ?_
 rintro e w2 ⟨rfl,hb2⟩
 go_wp2_with fail
 go_ret
 exact ⟨rfl,hb1.trans (hb2.mono hb1.size)⟩
set_option maxHeartbeats 1000000 in
theorem print_any (n : Int) (w : World) (htab : Lib.TabIs Tryz.prog w "internal/strconv.uint64pow10" .u64 Lib.pow10Tab) :
  Calls Tryz.prog 49 #[.int .i64 n] w fun e w'=>e = .returned (.tuple #[.string (dayB n),.int .i64 (Cal.splE n)])∧Below w.heap.size w w':=by
 have HT:=Lib.hid htab
 clear htab
 cases hb:Cal.isB n
 ·have HS:=Lib.hid (show dayB n=⟨#[]⟩ by unfold dayB;rw [hb];rfl)
  have HE:=Lib.hid (show Cal.splE n=1 by unfold Cal.splE;rw [hb];rfl)
  have HB:=Lib.hid hb
  clear hb
  go_enter Tryz.func49,Tryz.ntmps49
  go_wp2_with (go_at_call 108;refine (is_any _ _).mono ?_;rintro e w' ⟨rfl,rfl⟩;rw [HB.out])
  go_ret2
  exact ⟨ret_str2 HS.out.symm HE.out.symm,Below.refl _ _⟩
 ·have HS:=Lib.hid (show dayB n=dateB (Cal.splY n) (Cal.splM n) (Cal.splD n) by unfold dayB;rw [hb];rfl)
  have HE:=Lib.hid (show Cal.splE n=0 by unfold Cal.splE;rw [hb];rfl)
  obtain ⟨h1,h2⟩:=(Cal.isB_iff n).1 hb
  obtain ⟨y1,y2,m1,m2,d1,d2⟩:=spl_bd hb
  have HB:=Lib.hid hb
  clear hb
  have ly:=itoa_len (n:=Cal.splY n) (by omega) 4 (by simp;omega) (by omega)
  have lm:=itoa_len (n:=Cal.splM n) (by omega) 2 (by simp;omega) (by omega)
  have ld:=itoa_len (n:=Cal.splD n) (by omega) 2 (by simp;omega) (by omega)
  have sy:=padB_size (n:=Cal.splY n) (k:=4) ly
  have sm:=padB_size (n:=Cal.splM n) (k:=2) lm
  have sd:=padB_size (n:=Cal.splD n) (k:=2) ld
  have s1:(padB (Cal.splY n) 4++dashB).size=5:=by rw [ByteArray.size_append,sy];rfl
  have s2:(padB (Cal.splY n) 4++dashB++padB (Cal.splM n) 2).size=7:=by rw [ByteArray.size_append,s1,sm];rfl
  have s3:(padB (Cal.splY n) 4++dashB++padB (Cal.splM n) 2++dashB).size=8:=by rw [ByteArray.size_append,s2];rfl
  have c1:=fun w=>run_string_add_sum (P:=Tryz.prog) w (padB (Cal.splY n) 4) dashB (by rw [sy];decide)
  have c2:=fun w=>run_string_add_sum (P:=Tryz.prog) w (padB (Cal.splY n) 4++dashB) (padB (Cal.splM n) 2) (by rw [s1,sm];decide)
  have c3:=fun w=>run_string_add_sum (P:=Tryz.prog) w (padB (Cal.splY n) 4++dashB++padB (Cal.splM n) 2) dashB (by rw [s2];decide)
  have c4:=fun w=>run_string_add_sum (P:=Tryz.prog) w (padB (Cal.splY n) 4++dashB++padB (Cal.splM n) 2++dashB) (padB (Cal.splD n) 2) (by rw [s3,sd];decide)
  clear sy sm sd s1 s2 s3
  unfold dashB at c1 c2 c3 c4
  go_enter Tryz.func49,Tryz.ntmps49
  go_wp2_with (first|(go_at_call 108;refine (is_any _ _).mono ?_;rintro e w' ⟨rfl,rfl⟩;rw [HB.out])|(go_at_call 109;refine (split_in _ _ (by omega) (by omega)).mono ?_;rintro e w' ⟨rfl,rfl⟩))
  refine (padded_any _ _ _ (by omega) (by omega) (by omega) ly (by omega) HT.out).mono ?_
  rintro e w1 ⟨rfl,hb1⟩
  have HT1:=Lib.hid (tab_below hb1 HT.out)
  go_wp2_with fail
  refine (padded_any _ _ _ (by omega) (by omega) (by omega) lm (by omega) HT1.out).mono ?_
  rintro e w2 ⟨rfl,hb2⟩
  have HT2:=Lib.hid (tab_below hb2 HT1.out)
  go_wp2_with fail
  refine (padded_any _ _ _ (by omega) (by omega) (by omega) ld (by omega) HT2.out).mono ?_
  rintro e w3 ⟨rfl,hb3⟩
  go_wp2_with fail
  go_ret2
  exact ⟨ret_str2 HS.out.symm HE.out.symm,(hb1.trans (hb2.mono hb1.size)).trans (hb3.mono (Nat.le_trans hb1.size hb2.size))⟩
open Go.RowKit Go.Sort
set_option linter.unusedVariables false
end Go.Proofs.YtnghlakllgkjlaaGreatDoor
namespace Cal
end Cal
namespace Cal
open Go
def digB (b:UInt8):Bool:=decide (48≤b.toNat∧b.toNat≤57)
def digs (l:List UInt8):Bool:=l.all digB
def val (l:List UInt8):Nat:=(Lib.decFrom 0 l).getD 0
def digV (l:List UInt8):Int:=if digs l=true then (val l:Int) else 0
def digitsC:List UInt8:=[48,49,50,51,52,53,54,55,56,57]
theorem digB_iff (b:UInt8):digB b=true↔48≤b.toNat∧b.toNat≤57:=by unfold digB;simp
theorem contains_digB (b:UInt8):digitsC.contains b=digB b:=by
 rw [Bool.eq_iff_iff,digB_iff]
 unfold digitsC
 simp only [List.contains_iff_mem,List.mem_cons,List.mem_nil_iff,or_false]
 constructor
 ·rintro (rfl|rfl|rfl|rfl|rfl|rfl|rfl|rfl|rfl|rfl) <;> decide
 ·rintro ⟨h1,h2⟩
  have h:b.toNat=48∨b.toNat=49∨b.toNat=50∨b.toNat=51∨b.toNat=52∨b.toNat=53∨b.toNat=54∨b.toNat=55∨b.toNat=56∨b.toNat=57:=by omega
  rcases h with h|h|h|h|h|h|h|h|h|h
  all_goals simp [← UInt8.toNat_inj,h]
theorem mem_dropWhile {p:UInt8→Bool} {b:UInt8} (hb:p b=false):∀ {l:List UInt8},b ∈ l→b ∈ l.dropWhile p
 | [],h=>by cases h
 | x :: l,h=>by
  rw [List.dropWhile_cons]
  split
  ·rename_i hx
   rcases List.mem_cons.1 h with rfl|h
   ·rw [hb] at hx;cases hx
   ·exact mem_dropWhile hb h
  ·exact h
theorem dropWhile_all {p:UInt8→Bool}:∀ {l:List UInt8},(∀ b ∈ l,p b=true)→l.dropWhile p=[]
 | [],_=>rfl
 | x :: l,h=>by
  rw [List.dropWhile_cons,if_pos (h x (List.mem_cons_self ..))]
  exact dropWhile_all fun b hb=>h b (List.mem_cons_of_mem _ hb)
theorem trim_digs {l:List UInt8} (h:digs l=true):Lib.trimS l digitsC=[]:=by
 have hall:∀ b ∈ l.reverse,digitsC.contains b=true:=fun b hb=>by
  rw [contains_digB]
  exact List.all_eq_true.1 h b (List.mem_reverse.1 hb)
 unfold Lib.trimS Lib.trimRightS Lib.trimLeftS
 rw [dropWhile_all hall]
 rfl
theorem trim_not {l:List UInt8} (h:digs l=false):Lib.trimS l digitsC≠[]:=by
 have hex:∃ b ∈ l,digB b=false:=by
  unfold digs at h
  rw [List.all_eq_false] at h
  obtain ⟨b,hb,hn⟩:=h
  exact ⟨b,hb,by simpa using hn⟩
 obtain ⟨b,hb,hn⟩:=hex
 have hc:digitsC.contains b=false:=by rw [contains_digB];exact hn
 have:b ∈ Lib.trimS l digitsC:=by
  unfold Lib.trimS Lib.trimRightS Lib.trimLeftS
  exact mem_dropWhile hc (List.mem_reverse.2 (mem_dropWhile hc (List.mem_reverse.2 hb)))
 intro e
 rw [e] at this
 cases this
theorem decFrom_digs:∀ (l:List UInt8) (acc:Nat),digs l=true→∃ n,Lib.decFrom acc l=some n∧n < (acc + 1) * 10 ^ l.length
 | [],acc,_=>⟨acc,rfl,by simp⟩
 | b :: l,acc,h=>by
  unfold digs at h
  rw [List.all_cons,Bool.and_eq_true] at h
  have hb:=(digB_iff b).1 h.1
  obtain ⟨n,hn,hlt⟩:=decFrom_digs l (acc * 10 + (b.toNat - 48)) h.2
  refine ⟨n,?_,?_⟩
  ·unfold Lib.decFrom Lib.digitVal
   rw [if_pos hb]
   exact hn
  ·refine Nat.lt_of_lt_of_le hlt ?_
   rw [List.length_cons,Nat.pow_succ,Nat.mul_comm (10 ^ l.length) 10,← Nat.mul_assoc]
   exact Nat.mul_le_mul_right _ (by omega)
theorem decFrom_val {l:List UInt8} (h:digs l=true):Lib.decFrom 0 l=some (val l):=by
 obtain ⟨n,hn,_⟩:=decFrom_digs l 0 h
 unfold val
 rw [hn]
 rfl
theorem atoi_digs {l:List UInt8} (h:digs l=true) (hl:l≠[]):Lib.atoi l=some (val l:Int):=by
 cases l with
 | nil=>exact absurd rfl hl
 | cons b r=>
  have hb:digB b=true:=by
   unfold digs at h
   rw [List.all_cons,Bool.and_eq_true] at h
   exact h.1
  have hb:=(digB_iff b).1 hb
  have h1:(b == 45)=false:=by
   rw [beq_eq_false_iff_ne]
   intro e
   subst e
   exact absurd hb (by decide)
  have h2:(b == 43)=false:=by
   rw [beq_eq_false_iff_ne]
   intro e
   subst e
   exact absurd hb (by decide)
  simp only [Lib.atoi,h1,h2,Bool.false_eq_true,if_false,Lib.decNat,List.isEmpty_cons]
  rw [decFrom_val h]
  rfl
def shapeB (l:List UInt8):Bool:=l.length == 10 && l[4]? == some 45 && l[7]? == some 45 && digs (l.take 4) && digs ((l.drop 5).take 2) && digs (l.drop 8)
def parY (l:List UInt8):Int:=val (l.take 4)
def parM (l:List UInt8):Int:=val ((l.drop 5).take 2)
def parD (l:List UInt8):Int:=val (l.drop 8)
def parseV (l:List UInt8):Int:=if shapeB l=true then dayV (parY l) (parM l) (parD l) else 0
def parseE (l:List UInt8):Int:=if shapeB l=true then (if vldB (parY l) (parM l) (parD l)=true then 0 else 17) else 5
end Cal
namespace Go.Proofs.YtnghlakllgkjlaaGreatDoor
open Go.RowKit Go.Sort
set_option linter.unusedVariables false
theorem ret_intb {k:IntKind} {a b:Int} {c d:Bool} (h:a=b) (h' : c=d):Ending.returned (.tuple #[.int k a,.bool c]) = .returned (.tuple #[.int k b,.bool d]):=by rw [h,h']
theorem dtrim_any (s:ByteArray) (w:World) (hs:s.size≤9223372036854775807) :
  Calls Tryz.prog 165 #[.string s,.string ⟨#[48,49,50,51,52,53,54,55,56,57]⟩] w fun e w'=>e = .returned (.string ⟨(Lib.trimS s.data.toList Cal.digitsC).toArray⟩)∧Below w.heap.size w w':=
 Any.strings_Trim_laid Tryz.lays160 (by kernel_rfl) s ⟨#[48,49,50,51,52,53,54,55,56,57]⟩ w hs (by decide) (ascii_of_all (by decide))
theorem atoi_any (s:ByteArray) (w:World) (hs:s.size≤18) (h:Cal.digs s.data.toList=true) (h0:s.data.toList≠[]) :
  Calls Tryz.prog 166 #[.string s] w fun e w'=>e = .returned (.tuple #[.int .i64 (Cal.val s.data.toList),.nilIface])∧Below w.heap.size w w':=
 (Tryz.strconv_Atoi s _ hs (Cal.atoi_digs h h0) w).mono fun _ _ ⟨he,t,hw⟩=>⟨he,hw▸Lib.bytesWorld_below _ _ _⟩
set_option maxHeartbeats 1000000 in
theorem dnumber_any (s:ByteArray) (w:World) (hs:s.size≤10) (h0:0 < s.size) :
  Calls Tryz.prog 112 #[.string s] w fun e w'=>e = .returned (.tuple #[.int .i64 (Cal.digV s.data.toList),.bool (Cal.digs s.data.toList)])∧Below w.heap.size w w':=by
 have hne:s.data.toList≠[]:=by
  intro e
  have h1:s.data.toList.length=0:=by rw [e];rfl
  rw [Array.length_toList] at h1
  have e2:s.size=s.data.size:=rfl
  omega
 cases hd:Cal.digs s.data.toList
 ·have HN:=Lib.hid hd
  have HW:=Lib.hid (show Cal.digV s.data.toList=0 by unfold Cal.digV;rw [hd];rfl)
  have HT:=Cal.trim_not hd
  have hne2:(Lib.trimS s.data.toList Cal.digitsC).isEmpty=false:=by simpa using HT
  clear hd hne HT
  go_enter Tryz.func112,Tryz.ntmps112
  go_wp2_with fail
  refine (dtrim_any _ _ (by omega)).mono ?_
  rintro e w1 ⟨rfl,hb1⟩
  go_wp2
  go_ret2
  exact ⟨ret_intb HW.out.symm rfl,hb1⟩
 ·have HN:=Lib.hid hd
  have HW:=Lib.hid (show Cal.digV s.data.toList=(Cal.val s.data.toList:Int) by unfold Cal.digV;rw [hd];rfl)
  have HT:=Lib.hid (Cal.trim_digs hd)
  have HNe:=Lib.hid hne
  clear hd hne
  go_enter Tryz.func112,Tryz.ntmps112
  go_wp2_with fail
  refine (dtrim_any _ _ (by omega)).mono ?_
  rintro e w1 ⟨rfl,hb1⟩
  rw [HT.out]
  go_wp2_with fail
  refine (atoi_any _ _ (by omega) HN.out HNe.out).mono ?_
  rintro e w2 ⟨rfl,hb2⟩
  go_wp2_with fail
  go_quiet (fail)
  go_wp2
  go_ret2
  exact ⟨ret_intb HW.out.symm rfl,(hb1.trans (hb2.mono hb1.size)).trans ⟨rfl,rfl,rfl,Nat.le_refl _,fun _ _=>rfl⟩⟩
theorem at_byte {s:ByteArray} {k:Nat} (h:k < s.size):s.data.toList[k]? = some s[k]:=by
 rw [List.getElem?_eq_getElem (by simpa using h)];rfl
theorem shape_size {s:ByteArray} (h:s.size≠10):Cal.shapeB s.data.toList=false:=by
 have e:(s.data.toList.length == 10)=false:=by
  rw [beq_eq_false_iff_ne,Array.length_toList]
  exact h
 unfold Cal.shapeB
 rw [e]
 rfl
theorem shape_four {s:ByteArray} (h:4 < s.size) (h4:((s[4].toNat:Int) != 45)=true):Cal.shapeB s.data.toList=false:=by
 have e:(s.data.toList[4]? == some 45)=false:=by
  rw [at_byte h,beq_eq_false_iff_ne]
  intro e
  rw [Option.some.inj e] at h4
  exact absurd h4 (by decide)
 unfold Cal.shapeB
 rw [e]
 simp
theorem shape_seven {s:ByteArray} (h:7 < s.size) (h4:((s[7].toNat:Int) != 45)=true):Cal.shapeB s.data.toList=false:=by
 have e:(s.data.toList[7]? == some 45)=false:=by
  rw [at_byte h,beq_eq_false_iff_ne]
  intro e
  rw [Option.some.inj e] at h4
  exact absurd h4 (by decide)
 unfold Cal.shapeB
 rw [e]
 simp
theorem shape_rest {s:ByteArray} (h:s.size=10) (h4:((s[4].toNat:Int) != 45)=false) (h7:((s[7].toNat:Int) != 45)=false) :
  Cal.shapeB s.data.toList=(Cal.digs (s.data.toList.take 4) && Cal.digs ((s.data.toList.drop 5).take 2) && Cal.digs (s.data.toList.drop 8)):=by
 have e0:(s.data.toList.length == 10)=true:=by
  rw [beq_iff_eq,Array.length_toList]
  exact h
 have b4:s[4]=45:=by
  rw [bne_eq_false_iff_eq] at h4
  apply UInt8.toNat_inj.1
  show _=45
  omega
 have b7:s[7]=45:=by
  rw [bne_eq_false_iff_eq] at h7
  apply UInt8.toNat_inj.1
  show _=45
  omega
 unfold Cal.shapeB
 rw [e0,at_byte (show 4 < s.size by omega),at_byte (show 7 < s.size by omega),b4,b7]
 simp
set_option maxHeartbeats 1000000 in
theorem parse_bad (s:ByteArray) (w:World) (h:s.size≠10∨∃ (h10:s.size=10),((s[4].toNat:Int) != 45)=true∨(((s[4].toNat:Int) != 45)=false∧((s[7].toNat:Int) != 45)=true)) :
  Calls Tryz.prog 54 #[.string s] w fun e w'=>e = .returned (.tuple #[.int .i64 (Cal.parseV s.data.toList),.int .i64 (Cal.parseE s.data.toList)])∧w=w':=by
 have hs:Cal.shapeB s.data.toList=false:=by
  rcases h with h | ⟨h,h4 | ⟨h4,h7⟩⟩
  ·exact shape_size h
  ·exact shape_four (by omega) h4
  ·exact shape_seven (by omega) h7
 have HV:=Lib.hid (show Cal.parseV s.data.toList=0 by unfold Cal.parseV;rw [hs];rfl)
 have HE:=Lib.hid (show Cal.parseE s.data.toList=5 by unfold Cal.parseE;rw [hs];rfl)
 clear hs
 rcases h with h | ⟨h,h4 | ⟨h4,h7⟩⟩
 ·have hs1:((s.size:Int) != 10)=true:=by rw [bne_iff_ne];omega
  clear h
  go_enter Tryz.func54,Tryz.ntmps54
  go_wp2
  go_ret2
  exact ⟨ret_int2 HV.out.symm HE.out.symm,rfl⟩
 ·have hs1:((s.size:Int) != 10)=false:=by rw [bne_eq_false_iff_eq];omega
  have l4:4 < s.size:=by omega
  have H:=Lib.hid h
  go_enter Tryz.func54,Tryz.ntmps54
  go_wp2
  go_ret2
  exact ⟨ret_int2 HV.out.symm HE.out.symm,rfl⟩
 ·have hs1:((s.size:Int) != 10)=false:=by rw [bne_eq_false_iff_eq];omega
  have l4:4 < s.size:=by omega
  have l7:7 < s.size:=by omega
  go_enter Tryz.func54,Tryz.ntmps54
  go_wp2
  go_ret2
  exact ⟨ret_int2 HV.out.symm HE.out.symm,rfl⟩
set_option maxHeartbeats 2000000 in
theorem parse_good (s:ByteArray) (w:World) (l4:4 < s.size) (l7:7 < s.size) (h10:s.size=10) (h4:((s[4].toNat:Int) != 45)=false) (h7:((s[7].toNat:Int) != 45)=false) :
  Calls Tryz.prog 54 #[.string s] w fun e w'=>e = .returned (.tuple #[.int .i64 (Cal.parseV s.data.toList),.int .i64 (Cal.parseE s.data.toList)])∧Below w.heap.size w w':=by
 have hs1:((s.size:Int) != 10)=false:=by rw [bne_eq_false_iff_eq];omega
 have l10:s.size≤10:=by omega
 have l9:10≤s.size:=by omega
 have HS:=Lib.hid (shape_rest h10 h4 h7)
 have E4:=Lib.hid (show (s.extract 0 4).data.toList=s.data.toList.take 4 by rw [Lib.extract_data];simp)
 have E57:=Lib.hid (show (s.extract 5 7).data.toList=(s.data.toList.drop 5).take 2 by rw [Lib.extract_data])
 have E8:=Lib.hid (show (s.extract 8 s.size).data.toList=s.data.toList.drop 8 by rw [Lib.extract_data];apply List.take_of_length_le;simp [h10])
 have S4:(s.extract 0 4).size=4:=by rw [ByteArray.size_extract];omega
 have S57:(s.extract 5 7).size=2:=by rw [ByteArray.size_extract];omega
 have S8:(s.extract 8 s.size).size=2:=by rw [ByteArray.size_extract];omega
 have HS4:=Lib.hid S4
 have HS57:=Lib.hid S57
 have HS8:=Lib.hid S8
 clear S4 S57 S8 h10
 have hc:(Cal.digs (s.data.toList.take 4)=false)∨(Cal.digs (s.data.toList.take 4)=true∧Cal.digs ((s.data.toList.drop 5).take 2)=false)∨(Cal.digs (s.data.toList.take 4)=true∧Cal.digs ((s.data.toList.drop 5).take 2)=true∧Cal.digs (s.data.toList.drop 8)=false)∨(Cal.digs (s.data.toList.take 4)=true∧Cal.digs ((s.data.toList.drop 5).take 2)=true∧Cal.digs (s.data.toList.drop 8)=true∧Cal.vldB (Cal.parY s.data.toList) (Cal.parM s.data.toList) (Cal.parD s.data.toList)=true)∨(Cal.digs (s.data.toList.take 4)=true∧Cal.digs ((s.data.toList.drop 5).take 2)=true∧Cal.digs (s.data.toList.drop 8)=true∧Cal.vldB (Cal.parY s.data.toList) (Cal.parM s.data.toList) (Cal.parD s.data.toList)=false):=by
  cases Cal.digs (s.data.toList.take 4) <;> cases Cal.digs ((s.data.toList.drop 5).take 2) <;> cases Cal.digs (s.data.toList.drop 8) <;> cases Cal.vldB (Cal.parY s.data.toList) (Cal.parM s.data.toList) (Cal.parD s.data.toList) <;> simp
 have hv:∀ d1 d2 d3:Bool,Cal.digs (s.data.toList.take 4)=d1→Cal.digs ((s.data.toList.drop 5).take 2)=d2→Cal.digs (s.data.toList.drop 8)=d3→(d1 && d2 && d3)=false→Cal.parseV s.data.toList=0∧Cal.parseE s.data.toList=5:=by
  intro d1 d2 d3 e1 e2 e3 h
  have hsh:Cal.shapeB s.data.toList=false:=by rw [HS.out,e1,e2,e3];exact h
  unfold Cal.parseV Cal.parseE
  rw [hsh]
  exact ⟨rfl,rfl⟩
 have hd:∀ l:List UInt8,Cal.digs l=true→Cal.digV l=(Cal.val l:Int):=by
  intro l h
  unfold Cal.digV
  rw [h]
  rfl
 have hok:Cal.digs (s.data.toList.take 4)=true→Cal.digs ((s.data.toList.drop 5).take 2)=true→Cal.digs (s.data.toList.drop 8)=true→
   (Cal.digV (s.data.toList.take 4)=Cal.parY s.data.toList∧Cal.digV ((s.data.toList.drop 5).take 2)=Cal.parM s.data.toList∧Cal.digV (s.data.toList.drop 8)=Cal.parD s.data.toList)∧
   Cal.parseV s.data.toList=Cal.dayV (Cal.parY s.data.toList) (Cal.parM s.data.toList) (Cal.parD s.data.toList)∧Cal.parseE s.data.toList=(if Cal.vldB (Cal.parY s.data.toList) (Cal.parM s.data.toList) (Cal.parD s.data.toList)=true then 0 else 17):=by
  intro h1 h2 h3
  have hsh:Cal.shapeB s.data.toList=true:=by rw [HS.out,h1,h2,h3];rfl
  refine ⟨⟨hd _ h1,hd _ h2,hd _ h3⟩,?_,?_⟩
  ·unfold Cal.parseV
   rw [hsh,if_pos rfl]
  ·unfold Cal.parseE
   rw [hsh,if_pos rfl]
 rcases hc with h1 | ⟨h1,h2⟩ | ⟨h1,h2,h3⟩ | ⟨h1,h2,h3,hx⟩ | ⟨h1,h2,h3,hx⟩
 iterate 3
  ·have HV:=Lib.hid (hv _ _ _ (by first|exact h1|rfl) (by first|exact h2|rfl) (by first|exact h3|rfl) (by simp))
   clear hv hd hok
   go_enter Tryz.func54,Tryz.ntmps54
   go_wp2_with fail
   refine (dnumber_any _ _ (by have:=HS4.out;omega) (by have:=HS4.out;omega)).mono ?_
   rintro e w1 ⟨rfl,hb1⟩
   rw [E4.out]
   go_wp2_with fail
   refine (dnumber_any _ _ (by have:=HS57.out;omega) (by have:=HS57.out;omega)).mono ?_
   rintro e w2 ⟨rfl,hb2⟩
   rw [E57.out]
   go_wp2_with fail
   refine (dnumber_any _ _ (by have:=HS8.out;omega) (by have:=HS8.out;omega)).mono ?_
   rintro e w3 ⟨rfl,hb3⟩
   rw [E8.out]
   go_wp2
   go_ret2
   exact ⟨ret_int2 HV.out.1.symm HV.out.2.symm,(hb1.trans (hb2.mono hb1.size)).trans (hb3.mono (Nat.le_trans hb1.size hb2.size))⟩
 all_goals
  obtain ⟨⟨g1,g2,g3⟩,g4,g5⟩:=hok h1 h2 h3
  have HG1:=Lib.hid g1
  have HG2:=Lib.hid g2
  have HG3:=Lib.hid g3
  rw [hx] at g5
  have HG4:=Lib.hid g4
  have HG5:=Lib.hid g5
  have HX:=Lib.hid hx
  have HY:=Lib.hid (show Cal.dayE (Cal.parY s.data.toList) (Cal.parM s.data.toList) (Cal.parD s.data.toList)=_ by unfold Cal.dayE;rw [hx])
  clear hv hd hok g1 g2 g3 g4 g5 hx
  go_enter Tryz.func54,Tryz.ntmps54
  go_wp2_with fail
  refine (dnumber_any _ _ (by have:=HS4.out;omega) (by have:=HS4.out;omega)).mono ?_
  rintro e w1 ⟨rfl,hb1⟩
  rw [E4.out,HG1.out]
  go_wp2_with fail
  refine (dnumber_any _ _ (by have:=HS57.out;omega) (by have:=HS57.out;omega)).mono ?_
  rintro e w2 ⟨rfl,hb2⟩
  rw [E57.out,HG2.out]
  go_wp2_with fail
  refine (dnumber_any _ _ (by have:=HS8.out;omega) (by have:=HS8.out;omega)).mono ?_
  rintro e w3 ⟨rfl,hb3⟩
  rw [E8.out,HG3.out]
  go_wp2_with fail
  refine (day_any _ _ _ _).mono ?_
  rintro e w' ⟨rfl,rfl⟩
  rw [HY.out]
  go_wp2
  go_ret2
  first
   | exact ⟨ret_int2 HG4.out.symm HG5.out.symm,(hb1.trans (hb2.mono hb1.size)).trans (hb3.mono (Nat.le_trans hb1.size hb2.size))⟩
   | exact ⟨ret_int2 (by rw [HG4.out];unfold Cal.dayV;rw [HX.out];rfl) HG5.out.symm,(hb1.trans (hb2.mono hb1.size)).trans (hb3.mono (Nat.le_trans hb1.size hb2.size))⟩
theorem parse_any (s:ByteArray) (w:World) :
  Calls Tryz.prog 54 #[.string s] w fun e w'=>e = .returned (.tuple #[.int .i64 (Cal.parseV s.data.toList),.int .i64 (Cal.parseE s.data.toList)])∧Below w.heap.size w w':=by
 by_cases h10:s.size=10
 ·cases h4:((s[4].toNat:Int) != 45)
  ·cases h7:((s[7].toNat:Int) != 45)
   ·exact parse_good s w (by omega) (by omega) h10 h4 h7
   ·exact (parse_bad s w (Or.inr ⟨h10,Or.inr ⟨h4,h7⟩⟩)).mono fun _ _ ⟨he,hw⟩=>⟨he,hw▸Below.refl _ _⟩
  ·exact (parse_bad s w (Or.inr ⟨h10,Or.inl h4⟩)).mono fun _ _ ⟨he,hw⟩=>⟨he,hw▸Below.refl _ _⟩
 ·exact (parse_bad s w (Or.inl h10)).mono fun _ _ ⟨he,hw⟩=>⟨he,hw▸Below.refl _ _⟩
open Go.RowKit Go.Sort
set_option linter.unusedVariables false
end Go.Proofs.YtnghlakllgkjlaaGreatDoor
