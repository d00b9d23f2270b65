/- The walk over bits.Div64 at the divisor ten. The walks over package wide's tenth, Narrow, Cmp. Numbers of two and four words. The walks over package wide's Mul. The walks over package wide's Narrow, Ten, Cmp, Trim, and package dec's Form. The walks over package wide's Trim and package dec's Form. The reference's numbers (lists of digits, the least first): twice, words, Of; the reference's Form. -/
import Derived.Test.YtnghlakllgkjlaaGreatDoorShelf
import Derived.Test.YtnghlakllgkjlaaGreatDoorSepA
import Derived.BigQuiet
import Derived.Deep.QuietTactic
import Derived.IntWalk
import Derived.Laws.BitsAllLaws
import Derived.LoopN
import Derived.RegionTactic
import Derived.BigRegion
import Derived.ChangeAlike
import Derived.Shelf.Spec.BitsCarry
import Derived.Deep.DeepCutAuto
import Derived.Lib.QuietBelow
import Derived.Deep.RegionHeld3
import Derived.Laws.AppendOwn
import Derived.Laws.MathBits
namespace Go.Proofs.YtnghlakllgkjlaaGreatDoor
open Go.RowKit
set_option linter.unusedVariables false
set_option maxRecDepth 100000
theorem div64_low (lo:Nat) (w:World) (hlo:lo < 18446744073709551616) :
  Calls Tryz.prog 201 #[.int .u64 0,.int .u64 lo,.int .u64 10] w fun e w'=>e = .returned (.tuple #[.int .u64 ((lo / 10:Nat):Int),.int .u64 ((lo % 10:Nat):Int)])∧Below w.heap.size w w':=by
 go_enter Tryz.func201,Tryz.ntmps201
 go_wp2
 go_quiet (fail)
 go_wp2
 go_ret2
 exact ⟨rfl,below_dn (Below.refl _ _) _⟩
theorem pair_u64 {a b c d:Int} (h1:a=c) (h2:b=d):Ending.returned (.tuple #[.int .u64 a,.int .u64 b]) = .returned (.tuple #[.int .u64 c,.int .u64 d]):=by rw [h1,h2]
theorem div_or (hi lo:Nat) (hhi:hi < 10) (hlo:lo < 18446744073709551616):bits .or .u64 ((hi:Int) * 1152921504606846976) ((lo:Int) / 16)=((hi * 1152921504606846976 + lo / 16:Nat):Int):=by
 have h1:((hi:Int) * 1152921504606846976)=((hi * 1152921504606846976:Nat):Int):=by omega
 have h2:((lo:Int) / 16)=((lo / 16:Nat):Int):=by omega
 rw [h1,h2,u64_or_nat _ _ (by omega) (by omega)]
 have h3:=Nat.two_pow_add_eq_or_of_lt (i:=60) (b:=lo / 16) (by omega) hi
 rw [show (2:Nat) ^ 60=1152921504606846976 by decide,Nat.mul_comm] at h3
 rw [h3]
theorem div_low (lo:Nat):IntKind.u64.wrap ((lo:Int) * 1152921504606846976)=((lo % 16 * 1152921504606846976:Nat):Int):=by rw [IntKind.wrap_u64];omega
theorem div_mid (l:Nat):((l * 1152921504606846976:Nat):Int) / 4294967296=((l * 268435456:Nat):Int):=by omega
theorem div_and (l:Nat) (h:l < 16):bits .and .u64 ((l * 1152921504606846976:Nat):Int) 4294967295=0:=by
 have h1:(4294967295:Int)=((4294967295:Nat):Int):=rfl
 rw [h1,u64_and_nat _ _ (by omega) (by omega)]
 have h2:l * 1152921504606846976 &&& 4294967295=0:=by
  have:=Nat.and_two_pow_sub_one_eq_mod (l * 1152921504606846976) 32
  rw [show (2:Nat) ^ 32 - 1=4294967295 by decide] at this
  rw [this]
  omega
 rw [h2]
 rfl
theorem div_and0:bits .and .u64 11529215046068469760 4294967295=0:=div_and 10 (by omega)
set_option maxHeartbeats 1000000 in
theorem div64_high (hi lo:Nat) (w:World) (h0:0 < hi) (hhi:hi < 10) (hlo:lo < 18446744073709551616) :
  Calls Tryz.prog 201 #[.int .u64 hi,.int .u64 lo,.int .u64 10] w fun e w'=>e = .returned (.tuple #[.int .u64 (((hi * 18446744073709551616 + lo) / 10:Nat):Int),.int .u64 (((hi * 18446744073709551616 + lo) % 10:Nat):Int)])∧Below w.heap.size w w':=by
 have hb:((hi:Int) == 0)=false:=beq_eq_false_iff_ne.2 (by omega)
 have F0:=div_and0
 have F1:=div_or hi lo hhi hlo
 have F2:=div_low lo
 have F3:=div_mid (lo % 16)
 have F4:=div_and (lo % 16) (by omega)
 obtain ⟨A,hA⟩:∃ A,hi * 1152921504606846976 + lo / 16=A:=⟨_,rfl⟩
 obtain ⟨l,hl⟩:∃ l,lo % 16=l:=⟨_,rfl⟩
 obtain ⟨B,hB⟩:∃ B,l * 1152921504606846976=B:=⟨_,rfl⟩
 obtain ⟨C,hC⟩:∃ C,l * 268435456=C:=⟨_,rfl⟩
 obtain ⟨Q1,hQ1⟩:∃ Q1,A / 2684354560=Q1:=⟨_,rfl⟩
 obtain ⟨R1,hR1⟩:∃ R1,A % 2684354560=R1:=⟨_,rfl⟩
 rw [hl] at F2 F3 F4
 rw [hB] at F2 F3 F4
 rw [hC] at F3
 rw [hA] at F1
 have bA:A < 11529215046068469760:=by omega
 have bQ:Q1 < 4294967296:=by omega
 have bR:R1 < 2684354560:=by omega
 have F5:((A:Int)).tdiv 2684354560=(Q1:Int):=by rw [Int.tdiv_eq_ediv_of_nonneg (by omega)];omega
 have F5b:((A:Int)) / 2684354560=(Q1:Int):=by omega
 obtain ⟨W1,hW1⟩:∃ W1,A * 4294967296 % 18446744073709551616=W1:=⟨_,rfl⟩
 obtain ⟨W2,hW2⟩:∃ W2,Q1 * 11529215046068469760 % 18446744073709551616=W2:=⟨_,rfl⟩
 obtain ⟨U,hU⟩:∃ U,R1 * 4294967296 + C=U:=⟨_,rfl⟩
 obtain ⟨Q0,hQ0⟩:∃ Q0,U / 2684354560=Q0:=⟨_,rfl⟩
 obtain ⟨R0,hR0⟩:∃ R0,U % 2684354560=R0:=⟨_,rfl⟩
 obtain ⟨W3,hW3⟩:∃ W3,U * 4294967296 % 18446744073709551616=W3:=⟨_,rfl⟩
 obtain ⟨W4,hW4⟩:∃ W4,Q0 * 11529215046068469760 % 18446744073709551616=W4:=⟨_,rfl⟩
 obtain ⟨X,hX⟩:∃ X,R0 * 4294967296=X:=⟨_,rfl⟩
 have bC:C < 4294967296:=by omega
 have bU:U < 11529215046068469760:=by omega
 have bQ0:Q0 < 4294967296:=by omega
 have bR0:R0 < 2684354560:=by omega
 have bW1:W1 + C < 18446744073709551616:=by omega
 obtain ⟨P1,hP1⟩:∃ P1,Q1 * 2684354560=P1:=⟨_,rfl⟩
 obtain ⟨P0,hP0⟩:∃ P0,Q0 * 2684354560=P0:=⟨_,rfl⟩
 obtain ⟨S1,hS1⟩:∃ S1,4294967296 * R1=S1:=⟨_,rfl⟩
 obtain ⟨S0,hS0⟩:∃ S0,4294967296 * R0=S0:=⟨_,rfl⟩
 obtain ⟨V1,hV1⟩:∃ V1,W1 + C=V1:=⟨_,rfl⟩
 have G1:IntKind.u64.wrap (Q1:Int)=(Q1:Int):=by rw [IntKind.wrap_u64];omega
 have G2:IntKind.u64.wrap (Q0:Int)=(Q0:Int):=by rw [IntKind.wrap_u64];omega
 have G3:IntKind.u64.wrap ((Q1:Int) * 2684354560)=(P1:Int):=by rw [IntKind.wrap_u64];omega
 have G4:IntKind.u64.wrap ((Q0:Int) * 2684354560)=(P0:Int):=by rw [IntKind.wrap_u64];omega
 have G5:IntKind.u64.wrap ((A:Int) - (P1:Int))=(R1:Int):=by rw [IntKind.wrap_u64];omega
 have G6:IntKind.u64.wrap ((U:Int) - (P0:Int))=(R0:Int):=by rw [IntKind.wrap_u64];omega
 have G7:IntKind.u64.wrap (4294967296 * (R1:Int))=(S1:Int):=by rw [IntKind.wrap_u64];omega
 have G8:IntKind.u64.wrap (4294967296 * (R0:Int))=(S0:Int):=by rw [IntKind.wrap_u64];omega
 obtain ⟨T1,hT1⟩:∃ T1,S1 + C=T1:=⟨_,rfl⟩
 have G9:IntKind.u64.wrap ((S1:Int) + (C:Int))=(T1:Int):=by rw [IntKind.wrap_u64];omega
 have G10:decide ((4294967296:Int)≤(Q1:Int))=false:=decide_eq_false (by omega)
 have G11:decide ((4294967296:Int)≤(Q0:Int))=false:=decide_eq_false (by omega)
 have G12:decide ((T1:Int) < 0)=false:=decide_eq_false (by omega)
 have G13:decide ((S0:Int) < 0)=false:=decide_eq_false (by omega)
 have G14:IntKind.u64.wrap (S0:Int)=(S0:Int):=by rw [IntKind.wrap_u64];omega
 have G15:IntKind.u64.wrap (W3:Int)=(W3:Int):=by rw [IntKind.wrap_u64];omega
 have F11t:((U:Int)).tdiv 2684354560=(Q0:Int):=by rw [Int.tdiv_eq_ediv_of_nonneg (by omega)];omega
 have G16:IntKind.u64.wrap ((V1:Int) - (W2:Int))=(U:Int):=by rw [IntKind.wrap_u64];omega
 have G17:IntKind.u64.wrap ((W1:Int) + (C:Int))=(V1:Int):=by rw [IntKind.wrap_u64];omega
 obtain ⟨Z1,hZ1⟩:∃ Z1,Q1 * 4294967296=Z1:=⟨_,rfl⟩
 obtain ⟨Z0,hZ0⟩:∃ Z0,Z1 + Q0=Z0:=⟨_,rfl⟩
 have G18:IntKind.u64.wrap ((Q1:Int) * 4294967296)=(Z1:Int):=by rw [IntKind.wrap_u64];omega
 have G19:IntKind.u64.wrap ((Z1:Int) + (Q0:Int))=(Z0:Int):=by rw [IntKind.wrap_u64];omega
 obtain ⟨Y,hY⟩:∃ Y,X / 1152921504606846976=Y:=⟨_,rfl⟩
 have G20:(X:Int) / 1152921504606846976=(Y:Int):=by omega
 have F8:IntKind.u64.wrap ((A:Int) * 4294967296)=(W1:Int):=by rw [IntKind.wrap_u64];omega
 have F9:IntKind.u64.wrap ((Q1:Int) * 11529215046068469760)=(W2:Int):=by rw [IntKind.wrap_u64];omega
 have F11:((U:Int)) / 2684354560=(Q0:Int):=by omega
 have F13:IntKind.u64.wrap ((U:Int) * 4294967296)=(W3:Int):=by rw [IntKind.wrap_u64];omega
 have F14:IntKind.u64.wrap ((Q0:Int) * 11529215046068469760)=(W4:Int):=by rw [IntKind.wrap_u64];omega
 have F15:IntKind.u64.wrap ((W3:Int) - (W4:Int))=(X:Int):=by rw [IntKind.wrap_u64];omega
 have HRes:=Lib.hid (show Z0=(hi * 18446744073709551616 + lo) / 10∧Y=(hi * 18446744073709551616 + lo) % 10 by omega)
 have HA:=Lib.hid hA
 have Hl:=Lib.hid hl
 have HB:=Lib.hid hB
 have HC:=Lib.hid hC
 have HQ1:=Lib.hid hQ1
 have HR1:=Lib.hid hR1
 clear bA bQ bR bC bU bQ0 bR0 hP1 hP0 hS1 hS0 hV1 hT1 hZ1 hZ0 hY bW1 hA hl hB hC hQ1 hR1 hW1 hW2 hU hQ0 hR0 hW3 hW4 hX
 go_enter Tryz.func201,Tryz.ntmps201
 go_wp2_with fail
 refine (Tryz.bits_LeadingZeros64 10 w (by decide) (by decide)).mono ?_
 rintro e w' ⟨rfl,rfl⟩
 rw [show ((64:Int) - (Lib.bitLen (10:Int).toNat:Int))=60 by decide]
 go_wp2
 go_loop [15,16] (fun q r=>q = .int .u64 Q1∧r = .int .u64 R1) (fun _ _=>0)
 case atStart=>exact ⟨rfl,rfl⟩
 case round=>
  obtain ⟨rfl,rfl⟩:=hrel
  go_wp2
  go_loop [18,16] (fun q r=>q = .int .u64 Q0∧r = .int .u64 R0) (fun _ _=>0)
  case atStart=>exact ⟨rfl,rfl⟩
  case round=>
   obtain ⟨rfl,rfl⟩:=hrel
   go_wp2
   go_ret2
   have r1:=HRes.out.1
   have r2:=HRes.out.2
   exact ⟨pair_u64 (by omega) (by omega),Below.refl _ _⟩
theorem div64_ten (hi lo:Nat) (w:World) (hhi:hi < 10) (hlo:lo < 18446744073709551616) :
  Calls Tryz.prog 201 #[.int .u64 hi,.int .u64 lo,.int .u64 10] w fun e w'=>e = .returned (.tuple #[.int .u64 (((hi * 18446744073709551616 + lo) / 10:Nat):Int),.int .u64 (((hi * 18446744073709551616 + lo) % 10:Nat):Int)])∧Below w.heap.size w w':=by
 by_cases h0:0 < hi
 ·exact div64_high hi lo w h0 hhi hlo
 ·obtain rfl:hi=0:=by omega
  rw [Nat.zero_mul,Nat.zero_add]
  exact div64_low lo w hlo
def DivR (hi lo q r:Nat):Prop:=q * 10 + r=hi * 18446744073709551616 + lo∧r < 10∧q < 18446744073709551616
theorem div64_r (hi lo:Nat) (w:World) (hhi:hi < 10) (hlo:lo < 18446744073709551616) :
  Calls Tryz.prog 201 #[.int .u64 hi,.int .u64 lo,.int .u64 10] w fun e w'=>∃ q r:Nat,e = .returned (.tuple #[.int .u64 q,.int .u64 r])∧DivR hi lo q r∧Below w.heap.size w w':=
 (div64_ten hi lo w hhi hlo).mono fun e w' ⟨he,hw⟩=>⟨_,_,he,⟨by omega,by omega,by omega⟩,hw⟩
theorem DivR.r10 {hi lo q r:Nat} (h:DivR hi lo q r):r < 10:=h.2.1
theorem DivR.q64 {hi lo q r:Nat} (h:DivR hi lo q r):q < 18446744073709551616:=h.2.2
def longN (w0 w1 w2 w3:Nat):Nat:=w0 + w1 * 18446744073709551616 + w2 * 340282366920938463463374607431768211456 + w3 * 6277101735386680763835789423207666416102355444464034512896
def Words (n w0 w1 w2 w3:Nat):Prop:=n=longN w0 w1 w2 w3∧w0 < 18446744073709551616∧w1 < 18446744073709551616∧w2 < 18446744073709551616∧w3 < 18446744073709551616
theorem tenth_words {n w0 w1 w2 w3 q3 r3 q2 r2 q1 r1 q0 r0:Nat} (h:Words n w0 w1 w2 w3) (h3:DivR 0 w3 q3 r3) (h2:DivR r3 w2 q2 r2) (h1:DivR r2 w1 q1 r1) (h0:DivR r1 w0 q0 r0):Words (n / 10) q0 q1 q2 q3∧r0=n % 10:=by
 unfold Words longN at *
 unfold DivR at *
 omega
set_option maxHeartbeats 1000000 in
theorem tenth_any (n w0 w1 w2 w3:Nat) (w:World) (h:Words n w0 w1 w2 w3) :
  Calls Tryz.prog 151 #[.agg #[.int .u64 w0,.int .u64 w1,.int .u64 w2,.int .u64 w3]] w fun e w'=>∃ q0 q1 q2 q3:Nat,e = .returned (.tuple #[.agg #[.int .u64 q0,.int .u64 q1,.int .u64 q2,.int .u64 q3],.int .u64 ((n % 10:Nat):Int)])∧Words (n / 10) q0 q1 q2 q3∧Below w.heap.size w w':=by
 have HW:=Lib.hid h
 clear h
 go_enter Tryz.func151,Tryz.ntmps151
 go_wp2
 refine wp_loop_rounds 5 ?_
 rw [rounds_succ]
 go_wp2_with fail
 refine (div64_r 0 w3 _ (by omega) HW.out.2.2.2.2).mono ?_
 rintro e v3 ⟨q3,r3,rfl,hd,hb⟩
 have D3:=Lib.hid hd
 have A3:At v3 w.heap.size 131 #[.int .u64 w0,.int .u64 w1,.int .u64 w2,.int .u64 w3]:=((At.new w _ _).alloc _).below hb (by simp;omega)
 have K3:=Lib.hid (show Below w.heap.size w v3 from (((Below.refl _ w).alloc (Nat.le_refl _) _).alloc (by simp) _).trans (hb.mono (by simp;omega)))
 have z3:w.heap.size + 1 < v3.heap.size:=by have:=hb.size;simp at this;omega
 have c30:v3.cell? ⟨w.heap.size,0,none⟩=some (.int .u64 w0):=A3.cell 0 rfl
 have c31:v3.cell? ⟨w.heap.size,1,none⟩=some (.int .u64 w1):=A3.cell 1 rfl
 have c32:v3.cell? ⟨w.heap.size,2,none⟩=some (.int .u64 w2):=A3.cell 2 rfl
 have c33:v3.cell? ⟨w.heap.size,3,none⟩=some (.int .u64 w3):=A3.cell 3 rfl
 have f3:v3.frozen? ⟨w.heap.size,3,none⟩=false:=A3.free 3
 have R3:At v3 (w.heap.size + 1) 131 #[.int .u64 0,.int .u64 0,.int .u64 0,.int .u64 0]:=(At.new1 w _ _ _).below hb (by simp)
 have HR3:=Lib.hid R3
 clear R3
 have HA3:=Lib.hid A3
 clear hd hb A3
 go_wp2
 rw [rounds_succ]
 go_wp2_with fail
 refine (div64_r r3 w2 _ D3.out.r10 HW.out.2.2.2.1).mono ?_
 rintro e v2 ⟨q2,r2,rfl,hd,hb⟩
 have D2:=Lib.hid hd
 have A2:At v2 w.heap.size 131 #[.int .u64 w0,.int .u64 w1,.int .u64 w2,.int .u64 q3]:=(HA3.out.set_ 3 _).below hb (by simp;omega)
 have K2:=Lib.hid (show Below w.heap.size w v2 from (Below.setCell (p:=⟨w.heap.size,3,none⟩) K3.out (Nat.le_refl _) _).trans (hb.mono (by simp;omega)))
 have z2:w.heap.size + 1 < v2.heap.size:=by have:=hb.size;simp at this;omega
 have c20:v2.cell? ⟨w.heap.size,0,none⟩=some (.int .u64 w0):=A2.cell 0 rfl
 have c21:v2.cell? ⟨w.heap.size,1,none⟩=some (.int .u64 w1):=A2.cell 1 rfl
 have c22:v2.cell? ⟨w.heap.size,2,none⟩=some (.int .u64 w2):=A2.cell 2 rfl
 have c23:v2.cell? ⟨w.heap.size,3,none⟩=some (.int .u64 q3):=A2.cell 3 rfl
 have f2:v2.frozen? ⟨w.heap.size,2,none⟩=false:=A2.free 2
 have R2:At v2 (w.heap.size + 1) 131 #[.int .u64 0,.int .u64 0,.int .u64 0,.int .u64 0]:=(HR3.out.far (p:=⟨w.heap.size,3,none⟩) (by simp) _).below hb (by simp;omega)
 have HR2:=Lib.hid R2
 clear R2
 have HA2:=Lib.hid A2
 clear hd hb A2
 go_wp2
 rw [rounds_succ]
 go_wp2_with fail
 refine (div64_r r2 w1 _ D2.out.r10 HW.out.2.2.1).mono ?_
 rintro e v1 ⟨q1,r1,rfl,hd,hb⟩
 have D1:=Lib.hid hd
 have A1:At v1 w.heap.size 131 #[.int .u64 w0,.int .u64 w1,.int .u64 q2,.int .u64 q3]:=(HA2.out.set_ 2 _).below hb (by simp;omega)
 have K1:=Lib.hid (show Below w.heap.size w v1 from (Below.setCell (p:=⟨w.heap.size,2,none⟩) K2.out (Nat.le_refl _) _).trans (hb.mono (by simp;omega)))
 have z1:w.heap.size + 1 < v1.heap.size:=by have:=hb.size;simp at this;omega
 have c10:v1.cell? ⟨w.heap.size,0,none⟩=some (.int .u64 w0):=A1.cell 0 rfl
 have c11:v1.cell? ⟨w.heap.size,1,none⟩=some (.int .u64 w1):=A1.cell 1 rfl
 have c12:v1.cell? ⟨w.heap.size,2,none⟩=some (.int .u64 q2):=A1.cell 2 rfl
 have c13:v1.cell? ⟨w.heap.size,3,none⟩=some (.int .u64 q3):=A1.cell 3 rfl
 have f1:v1.frozen? ⟨w.heap.size,1,none⟩=false:=A1.free 1
 have R1:At v1 (w.heap.size + 1) 131 #[.int .u64 0,.int .u64 0,.int .u64 0,.int .u64 0]:=(HR2.out.far (p:=⟨w.heap.size,2,none⟩) (by simp) _).below hb (by simp;omega)
 have HR1:=Lib.hid R1
 clear R1
 have HA1:=Lib.hid A1
 clear hd hb A1
 go_wp2
 rw [rounds_succ]
 go_wp2_with fail
 refine (div64_r r1 w0 _ D1.out.r10 HW.out.2.1).mono ?_
 rintro e v0 ⟨q0,r0,rfl,hd,hb⟩
 have D0:=Lib.hid hd
 have A0:At v0 w.heap.size 131 #[.int .u64 w0,.int .u64 q1,.int .u64 q2,.int .u64 q3]:=(HA1.out.set_ 1 _).below hb (by simp;omega)
 have K0:=Lib.hid (show Below w.heap.size w v0 from (Below.setCell (p:=⟨w.heap.size,1,none⟩) K1.out (Nat.le_refl _) _).trans (hb.mono (by simp;omega)))
 have z0:w.heap.size + 1 < v0.heap.size:=by have:=hb.size;simp at this;omega
 have c00:v0.cell? ⟨w.heap.size,0,none⟩=some (.int .u64 w0):=A0.cell 0 rfl
 have c01:v0.cell? ⟨w.heap.size,1,none⟩=some (.int .u64 q1):=A0.cell 1 rfl
 have c02:v0.cell? ⟨w.heap.size,2,none⟩=some (.int .u64 q2):=A0.cell 2 rfl
 have c03:v0.cell? ⟨w.heap.size,3,none⟩=some (.int .u64 q3):=A0.cell 3 rfl
 have f0:v0.frozen? ⟨w.heap.size,0,none⟩=false:=A0.free 0
 have R0:At v0 (w.heap.size + 1) 131 #[.int .u64 0,.int .u64 0,.int .u64 0,.int .u64 0]:=(HR1.out.far (p:=⟨w.heap.size,1,none⟩) (by simp) _).below hb (by simp;omega)
 have d0:v0.cell? ⟨w.heap.size + 1,0,none⟩=some (.int .u64 0):=R0.cell 0 rfl
 have e0:v0.frozen? ⟨w.heap.size + 1,0,none⟩=false:=R0.free 0
 have d1:v0.cell? ⟨w.heap.size + 1,1,none⟩=some (.int .u64 0):=R0.cell 1 rfl
 have e1:v0.frozen? ⟨w.heap.size + 1,1,none⟩=false:=R0.free 1
 have d2:v0.cell? ⟨w.heap.size + 1,2,none⟩=some (.int .u64 0):=R0.cell 2 rfl
 have e2:v0.frozen? ⟨w.heap.size + 1,2,none⟩=false:=R0.free 2
 have d3:v0.cell? ⟨w.heap.size + 1,3,none⟩=some (.int .u64 0):=R0.cell 3 rfl
 have e3:v0.frozen? ⟨w.heap.size + 1,3,none⟩=false:=R0.free 3
 have HR0:=Lib.hid R0
 clear R0
 have HA0:=Lib.hid A0
 clear hd hb A0
 go_wp2
 rw [rounds_succ]
 go_wp2
 have hT:=tenth_words HW.out D3.out D2.out D1.out D0.out
 obtain ⟨hT1,hT2⟩:=hT
 refine bodyPost_ret (v:=.tuple #[.agg #[.int .u64 q0,.int .u64 q1,.int .u64 q2,.int .u64 q3],.int .u64 r0]) (by simp [results,Tryz.results151,go_sem,d0,d1,d2,d3]) rfl ⟨q0,q1,q2,q3,by rw [← hT2],hT1,?_⟩
 exact ((((Below.setCell (p:=⟨w.heap.size,0,none⟩) K0.out (Nat.le_refl _) _).setCell (p:=⟨w.heap.size + 1,0,none⟩) (by simp) _).setCell (p:=⟨w.heap.size + 1,1,none⟩) (by simp) _).setCell (p:=⟨w.heap.size + 1,2,none⟩) (by simp) _).setCell (p:=⟨w.heap.size + 1,3,none⟩) (by simp) _
def adl (x y:Nat):Nat:=(x + y) % 18446744073709551616
def adh (x y:Nat):Nat:=(x + y) / 18446744073709551616
def mulH (x y:Nat):Nat:=x * y / 18446744073709551616
def mulL (x y:Nat):Nat:=x * y % 18446744073709551616
theorem add64_run (x y:Nat) (w:World):(callFunc 195 #[.int .u64 x,.int .u64 y,.int .u64 0]).run Tryz.prog w = .ok (.value (.tuple #[.int .u64 (adl x y:Nat),.int .u64 (adh x y:Nat)])) w:=
 Any7.bits_Add64 Tryz.lays25 x y 0 (by omega) w
theorem add64_run0 (x:Nat) (w:World):(callFunc 195 #[.int .u64 x,.int .u64 0,.int .u64 0]).run Tryz.prog w = .ok (.value (.tuple #[.int .u64 (adl x 0:Nat),.int .u64 (adh x 0:Nat)])) w:=add64_run x 0 w
theorem wrap_adl (x y:Nat):IntKind.u64.wrap ((x:Int) + (y:Int))=((adl x y:Nat):Int):=by rw [IntKind.wrap_u64];unfold adl;omega
theorem mul64_h (x y:Nat) (w:World) (hx:x < 18446744073709551616) (hy:y < 18446744073709551616) :
  Calls Tryz.prog 194 #[.int .u64 x,.int .u64 y] w fun e w'=>e = .returned (.tuple #[.int .u64 (mulH x y:Nat),.int .u64 (mulL x y:Nat)])∧w=w':=
 (Tryz.bits_Mul64 x y hx hy w).mono fun _ _ ⟨he,hw⟩=>⟨he,hw.symm⟩
def stepL (x y o c:Nat):Nat:=adl (adl (mulL x y) o) c
def stepH (x y o c:Nat):Nat:=adl (adl (mulH x y) (adh (mulL x y) o)) (adh (adl (mulL x y) o) c)
theorem step_eq {x y o c:Nat} (hx:x < 18446744073709551616) (hy:y < 18446744073709551616) (ho:o < 18446744073709551616) (hc:c < 18446744073709551616) :
  stepH x y o c * 18446744073709551616 + stepL x y o c=x * y + o + c∧stepH x y o c < 18446744073709551616∧stepL x y o c < 18446744073709551616:=by
 have hp:x * y≤18446744073709551615 * 18446744073709551615:=Nat.mul_le_mul (by omega) (by omega)
 unfold stepH stepL mulH mulL adl adh
 generalize x * y=p at *
 omega
def mw0 (a0 a1 b0 b1:Nat):Nat:=stepL a0 b0 0 0
def mw1 (a0 a1 b0 b1:Nat):Nat:=stepL a1 b0 (stepL a0 b1 0 (stepH a0 b0 0 0)) 0
def mw2 (a0 a1 b0 b1:Nat):Nat:=stepL a1 b1 (stepH a0 b1 0 (stepH a0 b0 0 0)) (stepH a1 b0 (stepL a0 b1 0 (stepH a0 b0 0 0)) 0)
def mw3 (a0 a1 b0 b1:Nat):Nat:=stepH a1 b1 (stepH a0 b1 0 (stepH a0 b0 0 0)) (stepH a1 b0 (stepL a0 b1 0 (stepH a0 b0 0 0)) 0)
theorem mul_lin (B p0 p1 p2 p3 x0 x1 x2 x3 y0 y1 y2 y3:Nat)
  (f0:y0 * B + x0=p0 + 0 + 0) (g0:y1 * B + x1=p1 + 0 + y0) (i0:y2 * B + x2=p2 + x1 + 0) (j0:y3 * B + x3=p3 + y1 + y2) :
  p3 * (B * B) + p2 * B + p1 * B + p0=x0 + x2 * B + x3 * (B * B) + y3 * (B * B * B):=by
 grind
theorem mul_words {a0 a1 b0 b1:Nat} (h1:a0 < 18446744073709551616) (h2:a1 < 18446744073709551616) (h3:b0 < 18446744073709551616) (h4:b1 < 18446744073709551616) :
  Words ((a1 * 18446744073709551616 + a0) * (b1 * 18446744073709551616 + b0)) (mw0 a0 a1 b0 b1) (mw1 a0 a1 b0 b1) (mw2 a0 a1 b0 b1) (mw3 a0 a1 b0 b1):=by
 have e00:=step_eq (o:=0) (c:=0) h1 h3 (by omega) (by omega)
 have e01:=step_eq (o:=0) (c:=stepH a0 b0 0 0) h1 h4 (by omega) e00.2.1
 have e10:=step_eq (o:=stepL a0 b1 0 (stepH a0 b0 0 0)) (c:=0) h2 h3 e01.2.2 (by omega)
 have e11:=step_eq (o:=stepH a0 b1 0 (stepH a0 b0 0 0)) (c:=stepH a1 b0 (stepL a0 b1 0 (stepH a0 b0 0 0)) 0) h2 h4 e01.2.1 e10.2.1
 unfold Words longN mw0 mw1 mw2 mw3
 have hmul:(a1 * 18446744073709551616 + a0) * (b1 * 18446744073709551616 + b0)=a1 * b1 * 340282366920938463463374607431768211456 + a1 * b0 * 18446744073709551616 + a0 * b1 * 18446744073709551616 + a0 * b0:=by grind
 rw [hmul]
 generalize stepL a0 b0 0 0=x0 at *
 generalize stepH a0 b0 0 0=y0 at *
 generalize stepL a0 b1 0 y0=x1 at *
 generalize stepH a0 b1 0 y0=y1 at *
 generalize stepL a1 b0 x1 0=x2 at *
 generalize stepH a1 b0 x1 0=y2 at *
 generalize stepL a1 b1 y1 y2=x3 at *
 generalize stepH a1 b1 y1 y2=y3 at *
 obtain ⟨f0,f1,f2⟩:=e00
 obtain ⟨g0,g1,g2⟩:=e01
 obtain ⟨i0,i1,i2⟩:=e10
 obtain ⟨j0,j1,j2⟩:=e11
 refine ⟨?_,f2,i2,j2,j1⟩
 generalize a1 * b1=p3 at *
 generalize a1 * b0=p2 at *
 generalize a0 * b1=p1 at *
 generalize a0 * b0=p0 at *
 exact mul_lin 18446744073709551616 p0 p1 p2 p3 x0 x1 x2 x3 y0 y1 y2 y3 f0 g0 i0 j0
set_option maxHeartbeats 4000000 in
theorem mul_any (a0 a1 b0 b1:Nat) (w:World) (h1:a0 < 18446744073709551616) (h2:a1 < 18446744073709551616) (h3:b0 < 18446744073709551616) (h4:b1 < 18446744073709551616) :
  Calls Tryz.prog 179 #[.agg #[.int .u64 a1,.int .u64 a0],.agg #[.int .u64 b1,.int .u64 b0]] w fun e w'=>e = .returned (.agg #[.int .u64 (mw0 a0 a1 b0 b1:Nat),.int .u64 (mw1 a0 a1 b0 b1:Nat),.int .u64 (mw2 a0 a1 b0 b1:Nat),.int .u64 (mw3 a0 a1 b0 b1:Nat)])∧Below w.heap.size w w':=by
 have H1:=Lib.hid h1
 have H2:=Lib.hid h2
 have H3:=Lib.hid h3
 have H4:=Lib.hid h4
 have hadd:=add64_run
 have hadd0:=add64_run0
 have hwr:=wrap_adl
 clear h1 h2 h3 h4
 go_enter Tryz.func179,Tryz.ntmps179
 go_upto_region 2 with fail
 go_cut [6,7] (fun x y wx=>∃ X Y:Nat,x = .pointer (some ⟨X,0,none⟩)∧y = .pointer (some ⟨Y,0,none⟩)∧Hid (At wx X 260 #[.int .u64 a0,.int .u64 a1])∧Hid (At wx Y 260 #[.int .u64 b0,.int .u64 b1])∧Hid (At wx (w.heap.size + 1 + 1 + 1) 131 #[.int .u64 0,.int .u64 0,.int .u64 0,.int .u64 0])∧Hid (At wx (w.heap.size + 1 + 1) 131 #[.int .u64 0,.int .u64 0,.int .u64 0,.int .u64 0])∧Hid (w.heap.size + 1 + 1 + 1 < X)∧Hid (w.heap.size + 1 + 1 + 1 < Y)∧Hid (Below w.heap.size w wx))
 case first=>
  go_region
  all_goals
   go_wp2_with fail
   go_meet
   refine ⟨_,_,rfl,rfl,?_,?_,?_,?_,?_,?_,?_⟩
  ·exact (by refine At.drew ?_;refine At.alloc ?_ _;exact At.newAt (by simp) _ _)
  ·exact (by refine At.drew ?_;exact At.newAt (by simp) _ _)
  ·exact (by refine At.drew ?_;refine At.alloc ?_ _;refine At.alloc ?_ _;exact At.newAt (by simp) _ _)
  ·exact (by refine At.drew ?_;refine At.alloc ?_ _;refine At.alloc ?_ _;refine At.alloc ?_ _;exact At.newAt (by simp) _ _)
  ·show _ < _;omega
  ·show _ < _;omega
  ·exact (((((((Below.refl _ w).alloc (Nat.le_refl _) _).alloc (by simp) _).alloc (by simp;omega) _).alloc (by simp;omega) _).alloc (by simp;omega) _).alloc (by simp;omega) _).drew
  ·exact (by refine At.drew ?_;exact At.newAt (by simp) _ _)
  ·exact (by refine At.drew ?_;refine At.alloc ?_ _;exact At.newAt (by simp) _ _)
  ·exact (by refine At.drew ?_;refine At.alloc ?_ _;refine At.alloc ?_ _;exact At.newAt (by simp) _ _)
  ·exact (by refine At.drew ?_;refine At.alloc ?_ _;refine At.alloc ?_ _;refine At.alloc ?_ _;exact At.newAt (by simp) _ _)
  ·show _ < _;omega
  ·show _ < _;omega
  ·exact (((((((Below.refl _ w).alloc (Nat.le_refl _) _).alloc (by simp) _).alloc (by simp;omega) _).alloc (by simp;omega) _).alloc (by simp;omega) _).alloc (by simp;omega) _).drew
 case rest=>
  obtain ⟨X,Y,rfl,rfl,HX,HY,HO,HR,LX,LY,HB⟩:=hcut
  have cX0:wc.cell? ⟨X,0,none⟩=some (.int .u64 (a0:Nat)):=HX.out.cell 0 rfl
  have cX1:wc.cell? ⟨X,1,none⟩=some (.int .u64 (a1:Nat)):=HX.out.cell 1 rfl
  have cY0:wc.cell? ⟨Y,0,none⟩=some (.int .u64 (b0:Nat)):=HY.out.cell 0 rfl
  have cY1:wc.cell? ⟨Y,1,none⟩=some (.int .u64 (b1:Nat)):=HY.out.cell 1 rfl
  have cO0:wc.cell? ⟨w.heap.size + 1 + 1 + 1,0,none⟩=some (.int .u64 0):=HO.out.cell 0 rfl
  have cO1:wc.cell? ⟨w.heap.size + 1 + 1 + 1,1,none⟩=some (.int .u64 0):=HO.out.cell 1 rfl
  have cO2:wc.cell? ⟨w.heap.size + 1 + 1 + 1,2,none⟩=some (.int .u64 0):=HO.out.cell 2 rfl
  have cO3:wc.cell? ⟨w.heap.size + 1 + 1 + 1,3,none⟩=some (.int .u64 0):=HO.out.cell 3 rfl
  have fO0:wc.frozen? ⟨w.heap.size + 1 + 1 + 1,0,none⟩=false:=HO.out.free 0
  have fO1:wc.frozen? ⟨w.heap.size + 1 + 1 + 1,1,none⟩=false:=HO.out.free 1
  have fO2:wc.frozen? ⟨w.heap.size + 1 + 1 + 1,2,none⟩=false:=HO.out.free 2
  have fO3:wc.frozen? ⟨w.heap.size + 1 + 1 + 1,3,none⟩=false:=HO.out.free 3
  go_wp2
  refine wp_loop_rounds 3 ?_
  rw [rounds_succ]
  go_wp2
  refine wp_loop_rounds 3 ?_
  rw [rounds_succ]
  go_wp2
  go_quiet ((go_at_call 194;first|exact q_left (mul64_h a0 b0 _ H1.out H3.out)|exact q_add (mul64_h a0 b0 _ H1.out H3.out)))
  go_wp2
  refine name_rounds ?_
  intro W1 hW
  have HX:=Lib.hid (show At W1 X 260 #[.int .u64 a0,.int .u64 a1] by rw [hW];exact ((HX.out.drewN _).far (p:=⟨w.heap.size + 1 + 1 + 1,0,none⟩) (by show X≠w.heap.size + 1 + 1 + 1;have:=LX.out;have:=LY.out;first|(simp;done)|omega) _))
  have HY:=Lib.hid (show At W1 Y 260 #[.int .u64 b0,.int .u64 b1] by rw [hW];exact ((HY.out.drewN _).far (p:=⟨w.heap.size + 1 + 1 + 1,0,none⟩) (by show Y≠w.heap.size + 1 + 1 + 1;have:=LX.out;have:=LY.out;first|(simp;done)|omega) _))
  have HO:=Lib.hid (show At W1 (w.heap.size + 1 + 1 + 1) 131 #[.int .u64 (stepL a0 b0 0 0:Nat),.int .u64 0,.int .u64 0,.int .u64 0] by rw [hW];exact ((HO.out.drewN _).set_ 0 _))
  have HR:=Lib.hid (show At W1 (w.heap.size + 1 + 1) 131 #[.int .u64 0,.int .u64 0,.int .u64 0,.int .u64 0] by rw [hW];exact ((HR.out.drewN _).far (p:=⟨w.heap.size + 1 + 1 + 1,0,none⟩) (by show w.heap.size + 1 + 1≠w.heap.size + 1 + 1 + 1;have:=LX.out;have:=LY.out;first|(simp;done)|omega) _))
  have HB:=Lib.hid (show Below w.heap.size w W1 by rw [hW];exact (Below.setCell (p:=⟨w.heap.size + 1 + 1 + 1,0,none⟩) (below_dn HB.out _) (by simp;omega) _))
  clear hW cX0 cX1 cY0 cY1 cO0 cO1 cO2 cO3 fO0 fO1 fO2 fO3
  have cX0:W1.cell? ⟨X,0,none⟩=some (.int .u64 (a0:Nat)):=HX.out.cell 0 rfl
  have cX1:W1.cell? ⟨X,1,none⟩=some (.int .u64 (a1:Nat)):=HX.out.cell 1 rfl
  have cY0:W1.cell? ⟨Y,0,none⟩=some (.int .u64 (b0:Nat)):=HY.out.cell 0 rfl
  have cY1:W1.cell? ⟨Y,1,none⟩=some (.int .u64 (b1:Nat)):=HY.out.cell 1 rfl
  have cO0:W1.cell? ⟨w.heap.size + 1 + 1 + 1,0,none⟩=some (.int .u64 (stepL a0 b0 0 0:Nat)):=HO.out.cell 0 rfl
  have cO1:W1.cell? ⟨w.heap.size + 1 + 1 + 1,1,none⟩=some (.int .u64 0):=HO.out.cell 1 rfl
  have cO2:W1.cell? ⟨w.heap.size + 1 + 1 + 1,2,none⟩=some (.int .u64 0):=HO.out.cell 2 rfl
  have cO3:W1.cell? ⟨w.heap.size + 1 + 1 + 1,3,none⟩=some (.int .u64 0):=HO.out.cell 3 rfl
  have fO0:W1.frozen? ⟨w.heap.size + 1 + 1 + 1,0,none⟩=false:=HO.out.free 0
  have fO1:W1.frozen? ⟨w.heap.size + 1 + 1 + 1,1,none⟩=false:=HO.out.free 1
  have fO2:W1.frozen? ⟨w.heap.size + 1 + 1 + 1,2,none⟩=false:=HO.out.free 2
  have fO3:W1.frozen? ⟨w.heap.size + 1 + 1 + 1,3,none⟩=false:=HO.out.free 3
  rw [rounds_succ]
  go_wp2
  go_quiet ((go_at_call 194;first|exact q_left (mul64_h a0 b1 _ H1.out H4.out)|exact q_add (mul64_h a0 b1 _ H1.out H4.out)))
  go_wp2
  refine name_rounds ?_
  intro W2 hW
  have HX:=Lib.hid (show At W2 X 260 #[.int .u64 a0,.int .u64 a1] by rw [hW];exact ((HX.out.drewN _).far (p:=⟨w.heap.size + 1 + 1 + 1,1,none⟩) (by show X≠w.heap.size + 1 + 1 + 1;have:=LX.out;have:=LY.out;first|(simp;done)|omega) _))
  have HY:=Lib.hid (show At W2 Y 260 #[.int .u64 b0,.int .u64 b1] by rw [hW];exact ((HY.out.drewN _).far (p:=⟨w.heap.size + 1 + 1 + 1,1,none⟩) (by show Y≠w.heap.size + 1 + 1 + 1;have:=LX.out;have:=LY.out;first|(simp;done)|omega) _))
  have HO:=Lib.hid (show At W2 (w.heap.size + 1 + 1 + 1) 131 #[.int .u64 (stepL a0 b0 0 0:Nat),.int .u64 (stepL a0 b1 0 (stepH a0 b0 0 0):Nat),.int .u64 0,.int .u64 0] by rw [hW];exact ((HO.out.drewN _).set_ 1 _))
  have HR:=Lib.hid (show At W2 (w.heap.size + 1 + 1) 131 #[.int .u64 0,.int .u64 0,.int .u64 0,.int .u64 0] by rw [hW];exact ((HR.out.drewN _).far (p:=⟨w.heap.size + 1 + 1 + 1,1,none⟩) (by show w.heap.size + 1 + 1≠w.heap.size + 1 + 1 + 1;have:=LX.out;have:=LY.out;first|(simp;done)|omega) _))
  have HB:=Lib.hid (show Below w.heap.size w W2 by rw [hW];exact (Below.setCell (p:=⟨w.heap.size + 1 + 1 + 1,1,none⟩) (below_dn HB.out _) (by simp;omega) _))
  clear hW cX0 cX1 cY0 cY1 cO0 cO1 cO2 cO3 fO0 fO1 fO2 fO3
  have cX0:W2.cell? ⟨X,0,none⟩=some (.int .u64 (a0:Nat)):=HX.out.cell 0 rfl
  have cX1:W2.cell? ⟨X,1,none⟩=some (.int .u64 (a1:Nat)):=HX.out.cell 1 rfl
  have cY0:W2.cell? ⟨Y,0,none⟩=some (.int .u64 (b0:Nat)):=HY.out.cell 0 rfl
  have cY1:W2.cell? ⟨Y,1,none⟩=some (.int .u64 (b1:Nat)):=HY.out.cell 1 rfl
  have cO0:W2.cell? ⟨w.heap.size + 1 + 1 + 1,0,none⟩=some (.int .u64 (stepL a0 b0 0 0:Nat)):=HO.out.cell 0 rfl
  have cO1:W2.cell? ⟨w.heap.size + 1 + 1 + 1,1,none⟩=some (.int .u64 (stepL a0 b1 0 (stepH a0 b0 0 0):Nat)):=HO.out.cell 1 rfl
  have cO2:W2.cell? ⟨w.heap.size + 1 + 1 + 1,2,none⟩=some (.int .u64 0):=HO.out.cell 2 rfl
  have cO3:W2.cell? ⟨w.heap.size + 1 + 1 + 1,3,none⟩=some (.int .u64 0):=HO.out.cell 3 rfl
  have fO0:W2.frozen? ⟨w.heap.size + 1 + 1 + 1,0,none⟩=false:=HO.out.free 0
  have fO1:W2.frozen? ⟨w.heap.size + 1 + 1 + 1,1,none⟩=false:=HO.out.free 1
  have fO2:W2.frozen? ⟨w.heap.size + 1 + 1 + 1,2,none⟩=false:=HO.out.free 2
  have fO3:W2.frozen? ⟨w.heap.size + 1 + 1 + 1,3,none⟩=false:=HO.out.free 3
  rw [rounds_succ]
  go_wp2
  refine name_rounds ?_
  intro W3 hW
  have HX:=Lib.hid (show At W3 X 260 #[.int .u64 a0,.int .u64 a1] by rw [hW];exact ((HX.out).far (p:=⟨w.heap.size + 1 + 1 + 1,2,none⟩) (by show X≠w.heap.size + 1 + 1 + 1;have:=LX.out;have:=LY.out;first|(simp;done)|omega) _))
  have HY:=Lib.hid (show At W3 Y 260 #[.int .u64 b0,.int .u64 b1] by rw [hW];exact ((HY.out).far (p:=⟨w.heap.size + 1 + 1 + 1,2,none⟩) (by show Y≠w.heap.size + 1 + 1 + 1;have:=LX.out;have:=LY.out;first|(simp;done)|omega) _))
  have HO:=Lib.hid (show At W3 (w.heap.size + 1 + 1 + 1) 131 #[.int .u64 (stepL a0 b0 0 0:Nat),.int .u64 (stepL a0 b1 0 (stepH a0 b0 0 0):Nat),.int .u64 (stepH a0 b1 0 (stepH a0 b0 0 0):Nat),.int .u64 0] by rw [hW];exact ((HO.out).set_ 2 _))
  have HR:=Lib.hid (show At W3 (w.heap.size + 1 + 1) 131 #[.int .u64 0,.int .u64 0,.int .u64 0,.int .u64 0] by rw [hW];exact ((HR.out).far (p:=⟨w.heap.size + 1 + 1 + 1,2,none⟩) (by show w.heap.size + 1 + 1≠w.heap.size + 1 + 1 + 1;have:=LX.out;have:=LY.out;first|(simp;done)|omega) _))
  have HB:=Lib.hid (show Below w.heap.size w W3 by rw [hW];exact (Below.setCell (p:=⟨w.heap.size + 1 + 1 + 1,2,none⟩) HB.out (by simp;omega) _))
  clear hW cX0 cX1 cY0 cY1 cO0 cO1 cO2 cO3 fO0 fO1 fO2 fO3
  have cX0:W3.cell? ⟨X,0,none⟩=some (.int .u64 (a0:Nat)):=HX.out.cell 0 rfl
  have cX1:W3.cell? ⟨X,1,none⟩=some (.int .u64 (a1:Nat)):=HX.out.cell 1 rfl
  have cY0:W3.cell? ⟨Y,0,none⟩=some (.int .u64 (b0:Nat)):=HY.out.cell 0 rfl
  have cY1:W3.cell? ⟨Y,1,none⟩=some (.int .u64 (b1:Nat)):=HY.out.cell 1 rfl
  have cO0:W3.cell? ⟨w.heap.size + 1 + 1 + 1,0,none⟩=some (.int .u64 (stepL a0 b0 0 0:Nat)):=HO.out.cell 0 rfl
  have cO1:W3.cell? ⟨w.heap.size + 1 + 1 + 1,1,none⟩=some (.int .u64 (stepL a0 b1 0 (stepH a0 b0 0 0):Nat)):=HO.out.cell 1 rfl
  have cO2:W3.cell? ⟨w.heap.size + 1 + 1 + 1,2,none⟩=some (.int .u64 (stepH a0 b1 0 (stepH a0 b0 0 0):Nat)):=HO.out.cell 2 rfl
  have cO3:W3.cell? ⟨w.heap.size + 1 + 1 + 1,3,none⟩=some (.int .u64 0):=HO.out.cell 3 rfl
  have fO0:W3.frozen? ⟨w.heap.size + 1 + 1 + 1,0,none⟩=false:=HO.out.free 0
  have fO1:W3.frozen? ⟨w.heap.size + 1 + 1 + 1,1,none⟩=false:=HO.out.free 1
  have fO2:W3.frozen? ⟨w.heap.size + 1 + 1 + 1,2,none⟩=false:=HO.out.free 2
  have fO3:W3.frozen? ⟨w.heap.size + 1 + 1 + 1,3,none⟩=false:=HO.out.free 3
  rw [rounds_succ]
  go_wp2
  refine wp_loop_rounds 3 ?_
  rw [rounds_succ]
  go_wp2
  go_quiet ((go_at_call 194;first|exact q_left (mul64_h a1 b0 _ H2.out H3.out)|exact q_add (mul64_h a1 b0 _ H2.out H3.out)))
  go_wp2
  refine name_rounds ?_
  intro W4 hW
  have HX:=Lib.hid (show At W4 X 260 #[.int .u64 a0,.int .u64 a1] by rw [hW];exact ((HX.out.drewN _).far (p:=⟨w.heap.size + 1 + 1 + 1,1,none⟩) (by show X≠w.heap.size + 1 + 1 + 1;have:=LX.out;have:=LY.out;first|(simp;done)|omega) _))
  have HY:=Lib.hid (show At W4 Y 260 #[.int .u64 b0,.int .u64 b1] by rw [hW];exact ((HY.out.drewN _).far (p:=⟨w.heap.size + 1 + 1 + 1,1,none⟩) (by show Y≠w.heap.size + 1 + 1 + 1;have:=LX.out;have:=LY.out;first|(simp;done)|omega) _))
  have HO:=Lib.hid (show At W4 (w.heap.size + 1 + 1 + 1) 131 #[.int .u64 (stepL a0 b0 0 0:Nat),.int .u64 (stepL a1 b0 (stepL a0 b1 0 (stepH a0 b0 0 0)) 0:Nat),.int .u64 (stepH a0 b1 0 (stepH a0 b0 0 0):Nat),.int .u64 0] by rw [hW];exact ((HO.out.drewN _).set_ 1 _))
  have HR:=Lib.hid (show At W4 (w.heap.size + 1 + 1) 131 #[.int .u64 0,.int .u64 0,.int .u64 0,.int .u64 0] by rw [hW];exact ((HR.out.drewN _).far (p:=⟨w.heap.size + 1 + 1 + 1,1,none⟩) (by show w.heap.size + 1 + 1≠w.heap.size + 1 + 1 + 1;have:=LX.out;have:=LY.out;first|(simp;done)|omega) _))
  have HB:=Lib.hid (show Below w.heap.size w W4 by rw [hW];exact (Below.setCell (p:=⟨w.heap.size + 1 + 1 + 1,1,none⟩) (below_dn HB.out _) (by simp;omega) _))
  clear hW cX0 cX1 cY0 cY1 cO0 cO1 cO2 cO3 fO0 fO1 fO2 fO3
  have cX0:W4.cell? ⟨X,0,none⟩=some (.int .u64 (a0:Nat)):=HX.out.cell 0 rfl
  have cX1:W4.cell? ⟨X,1,none⟩=some (.int .u64 (a1:Nat)):=HX.out.cell 1 rfl
  have cY0:W4.cell? ⟨Y,0,none⟩=some (.int .u64 (b0:Nat)):=HY.out.cell 0 rfl
  have cY1:W4.cell? ⟨Y,1,none⟩=some (.int .u64 (b1:Nat)):=HY.out.cell 1 rfl
  have cO0:W4.cell? ⟨w.heap.size + 1 + 1 + 1,0,none⟩=some (.int .u64 (stepL a0 b0 0 0:Nat)):=HO.out.cell 0 rfl
  have cO1:W4.cell? ⟨w.heap.size + 1 + 1 + 1,1,none⟩=some (.int .u64 (stepL a1 b0 (stepL a0 b1 0 (stepH a0 b0 0 0)) 0:Nat)):=HO.out.cell 1 rfl
  have cO2:W4.cell? ⟨w.heap.size + 1 + 1 + 1,2,none⟩=some (.int .u64 (stepH a0 b1 0 (stepH a0 b0 0 0):Nat)):=HO.out.cell 2 rfl
  have cO3:W4.cell? ⟨w.heap.size + 1 + 1 + 1,3,none⟩=some (.int .u64 0):=HO.out.cell 3 rfl
  have fO0:W4.frozen? ⟨w.heap.size + 1 + 1 + 1,0,none⟩=false:=HO.out.free 0
  have fO1:W4.frozen? ⟨w.heap.size + 1 + 1 + 1,1,none⟩=false:=HO.out.free 1
  have fO2:W4.frozen? ⟨w.heap.size + 1 + 1 + 1,2,none⟩=false:=HO.out.free 2
  have fO3:W4.frozen? ⟨w.heap.size + 1 + 1 + 1,3,none⟩=false:=HO.out.free 3
  rw [rounds_succ]
  go_wp2
  go_quiet ((go_at_call 194;first|exact q_left (mul64_h a1 b1 _ H2.out H4.out)|exact q_add (mul64_h a1 b1 _ H2.out H4.out)))
  go_wp2
  refine name_rounds ?_
  intro W5 hW
  have HX:=Lib.hid (show At W5 X 260 #[.int .u64 a0,.int .u64 a1] by rw [hW];exact ((HX.out.drewN _).far (p:=⟨w.heap.size + 1 + 1 + 1,2,none⟩) (by show X≠w.heap.size + 1 + 1 + 1;have:=LX.out;have:=LY.out;first|(simp;done)|omega) _))
  have HY:=Lib.hid (show At W5 Y 260 #[.int .u64 b0,.int .u64 b1] by rw [hW];exact ((HY.out.drewN _).far (p:=⟨w.heap.size + 1 + 1 + 1,2,none⟩) (by show Y≠w.heap.size + 1 + 1 + 1;have:=LX.out;have:=LY.out;first|(simp;done)|omega) _))
  have HO:=Lib.hid (show At W5 (w.heap.size + 1 + 1 + 1) 131 #[.int .u64 (stepL a0 b0 0 0:Nat),.int .u64 (stepL a1 b0 (stepL a0 b1 0 (stepH a0 b0 0 0)) 0:Nat),.int .u64 (stepL a1 b1 (stepH a0 b1 0 (stepH a0 b0 0 0)) (stepH a1 b0 (stepL a0 b1 0 (stepH a0 b0 0 0)) 0):Nat),.int .u64 0] by rw [hW];exact ((HO.out.drewN _).set_ 2 _))
  have HR:=Lib.hid (show At W5 (w.heap.size + 1 + 1) 131 #[.int .u64 0,.int .u64 0,.int .u64 0,.int .u64 0] by rw [hW];exact ((HR.out.drewN _).far (p:=⟨w.heap.size + 1 + 1 + 1,2,none⟩) (by show w.heap.size + 1 + 1≠w.heap.size + 1 + 1 + 1;have:=LX.out;have:=LY.out;first|(simp;done)|omega) _))
  have HB:=Lib.hid (show Below w.heap.size w W5 by rw [hW];exact (Below.setCell (p:=⟨w.heap.size + 1 + 1 + 1,2,none⟩) (below_dn HB.out _) (by simp;omega) _))
  clear hW cX0 cX1 cY0 cY1 cO0 cO1 cO2 cO3 fO0 fO1 fO2 fO3
  have cX0:W5.cell? ⟨X,0,none⟩=some (.int .u64 (a0:Nat)):=HX.out.cell 0 rfl
  have cX1:W5.cell? ⟨X,1,none⟩=some (.int .u64 (a1:Nat)):=HX.out.cell 1 rfl
  have cY0:W5.cell? ⟨Y,0,none⟩=some (.int .u64 (b0:Nat)):=HY.out.cell 0 rfl
  have cY1:W5.cell? ⟨Y,1,none⟩=some (.int .u64 (b1:Nat)):=HY.out.cell 1 rfl
  have cO0:W5.cell? ⟨w.heap.size + 1 + 1 + 1,0,none⟩=some (.int .u64 (stepL a0 b0 0 0:Nat)):=HO.out.cell 0 rfl
  have cO1:W5.cell? ⟨w.heap.size + 1 + 1 + 1,1,none⟩=some (.int .u64 (stepL a1 b0 (stepL a0 b1 0 (stepH a0 b0 0 0)) 0:Nat)):=HO.out.cell 1 rfl
  have cO2:W5.cell? ⟨w.heap.size + 1 + 1 + 1,2,none⟩=some (.int .u64 (stepL a1 b1 (stepH a0 b1 0 (stepH a0 b0 0 0)) (stepH a1 b0 (stepL a0 b1 0 (stepH a0 b0 0 0)) 0):Nat)):=HO.out.cell 2 rfl
  have cO3:W5.cell? ⟨w.heap.size + 1 + 1 + 1,3,none⟩=some (.int .u64 0):=HO.out.cell 3 rfl
  have fO0:W5.frozen? ⟨w.heap.size + 1 + 1 + 1,0,none⟩=false:=HO.out.free 0
  have fO1:W5.frozen? ⟨w.heap.size + 1 + 1 + 1,1,none⟩=false:=HO.out.free 1
  have fO2:W5.frozen? ⟨w.heap.size + 1 + 1 + 1,2,none⟩=false:=HO.out.free 2
  have fO3:W5.frozen? ⟨w.heap.size + 1 + 1 + 1,3,none⟩=false:=HO.out.free 3
  rw [rounds_succ]
  go_wp2
  refine name_rounds ?_
  intro W6 hW
  have HX:=Lib.hid (show At W6 X 260 #[.int .u64 a0,.int .u64 a1] by rw [hW];exact ((HX.out).far (p:=⟨w.heap.size + 1 + 1 + 1,3,none⟩) (by show X≠w.heap.size + 1 + 1 + 1;have:=LX.out;have:=LY.out;first|(simp;done)|omega) _))
  have HY:=Lib.hid (show At W6 Y 260 #[.int .u64 b0,.int .u64 b1] by rw [hW];exact ((HY.out).far (p:=⟨w.heap.size + 1 + 1 + 1,3,none⟩) (by show Y≠w.heap.size + 1 + 1 + 1;have:=LX.out;have:=LY.out;first|(simp;done)|omega) _))
  have HO:=Lib.hid (show At W6 (w.heap.size + 1 + 1 + 1) 131 #[.int .u64 (stepL a0 b0 0 0:Nat),.int .u64 (stepL a1 b0 (stepL a0 b1 0 (stepH a0 b0 0 0)) 0:Nat),.int .u64 (stepL a1 b1 (stepH a0 b1 0 (stepH a0 b0 0 0)) (stepH a1 b0 (stepL a0 b1 0 (stepH a0 b0 0 0)) 0):Nat),.int .u64 (stepH a1 b1 (stepH a0 b1 0 (stepH a0 b0 0 0)) (stepH a1 b0 (stepL a0 b1 0 (stepH a0 b0 0 0)) 0):Nat)] by rw [hW];exact ((HO.out).set_ 3 _))
  have HR:=Lib.hid (show At W6 (w.heap.size + 1 + 1) 131 #[.int .u64 0,.int .u64 0,.int .u64 0,.int .u64 0] by rw [hW];exact ((HR.out).far (p:=⟨w.heap.size + 1 + 1 + 1,3,none⟩) (by show w.heap.size + 1 + 1≠w.heap.size + 1 + 1 + 1;have:=LX.out;have:=LY.out;first|(simp;done)|omega) _))
  have HB:=Lib.hid (show Below w.heap.size w W6 by rw [hW];exact (Below.setCell (p:=⟨w.heap.size + 1 + 1 + 1,3,none⟩) HB.out (by simp;omega) _))
  clear hW cX0 cX1 cY0 cY1 cO0 cO1 cO2 cO3 fO0 fO1 fO2 fO3
  have cX0:W6.cell? ⟨X,0,none⟩=some (.int .u64 (a0:Nat)):=HX.out.cell 0 rfl
  have cX1:W6.cell? ⟨X,1,none⟩=some (.int .u64 (a1:Nat)):=HX.out.cell 1 rfl
  have cY0:W6.cell? ⟨Y,0,none⟩=some (.int .u64 (b0:Nat)):=HY.out.cell 0 rfl
  have cY1:W6.cell? ⟨Y,1,none⟩=some (.int .u64 (b1:Nat)):=HY.out.cell 1 rfl
  have cO0:W6.cell? ⟨w.heap.size + 1 + 1 + 1,0,none⟩=some (.int .u64 (stepL a0 b0 0 0:Nat)):=HO.out.cell 0 rfl
  have cO1:W6.cell? ⟨w.heap.size + 1 + 1 + 1,1,none⟩=some (.int .u64 (stepL a1 b0 (stepL a0 b1 0 (stepH a0 b0 0 0)) 0:Nat)):=HO.out.cell 1 rfl
  have cO2:W6.cell? ⟨w.heap.size + 1 + 1 + 1,2,none⟩=some (.int .u64 (stepL a1 b1 (stepH a0 b1 0 (stepH a0 b0 0 0)) (stepH a1 b0 (stepL a0 b1 0 (stepH a0 b0 0 0)) 0):Nat)):=HO.out.cell 2 rfl
  have cO3:W6.cell? ⟨w.heap.size + 1 + 1 + 1,3,none⟩=some (.int .u64 (stepH a1 b1 (stepH a0 b1 0 (stepH a0 b0 0 0)) (stepH a1 b0 (stepL a0 b1 0 (stepH a0 b0 0 0)) 0):Nat)):=HO.out.cell 3 rfl
  have fO0:W6.frozen? ⟨w.heap.size + 1 + 1 + 1,0,none⟩=false:=HO.out.free 0
  have fO1:W6.frozen? ⟨w.heap.size + 1 + 1 + 1,1,none⟩=false:=HO.out.free 1
  have fO2:W6.frozen? ⟨w.heap.size + 1 + 1 + 1,2,none⟩=false:=HO.out.free 2
  have fO3:W6.frozen? ⟨w.heap.size + 1 + 1 + 1,3,none⟩=false:=HO.out.free 3
  have cR0:W6.cell? ⟨w.heap.size + 1 + 1,0,none⟩=some (.int .u64 0):=HR.out.cell 0 rfl
  have fR0:W6.frozen? ⟨w.heap.size + 1 + 1,0,none⟩=false:=HR.out.free 0
  have cR1:W6.cell? ⟨w.heap.size + 1 + 1,1,none⟩=some (.int .u64 0):=HR.out.cell 1 rfl
  have fR1:W6.frozen? ⟨w.heap.size + 1 + 1,1,none⟩=false:=HR.out.free 1
  have cR2:W6.cell? ⟨w.heap.size + 1 + 1,2,none⟩=some (.int .u64 0):=HR.out.cell 2 rfl
  have fR2:W6.frozen? ⟨w.heap.size + 1 + 1,2,none⟩=false:=HR.out.free 2
  have cR3:W6.cell? ⟨w.heap.size + 1 + 1,3,none⟩=some (.int .u64 0):=HR.out.cell 3 rfl
  have fR3:W6.frozen? ⟨w.heap.size + 1 + 1,3,none⟩=false:=HR.out.free 3
  rw [rounds_succ]
  go_wp2
  refine bodyPost_ret (v:=.agg #[.int .u64 (mw0 a0 a1 b0 b1:Nat),.int .u64 (mw1 a0 a1 b0 b1:Nat),.int .u64 (mw2 a0 a1 b0 b1:Nat),.int .u64 (mw3 a0 a1 b0 b1:Nat)]) (by simp [results,Tryz.results179,go_sem,cR0,cR1,cR2,cR3];exact ⟨rfl,rfl,rfl,rfl⟩) rfl ⟨rfl,?_⟩
  exact Below.setCell (p:=⟨w.heap.size + 1 + 1,3,none⟩) (Below.setCell (p:=⟨w.heap.size + 1 + 1,2,none⟩) (Below.setCell (p:=⟨w.heap.size + 1 + 1,1,none⟩) (Below.setCell (p:=⟨w.heap.size + 1 + 1,0,none⟩) HB.out (by simp;omega) _) (by simp;omega) _) (by simp;omega) _) (by simp;omega) _
def W2 (n hi lo:Nat):Prop:=n=hi * 18446744073709551616 + lo∧lo < 18446744073709551616∧hi < 18446744073709551616
theorem W2.lo {n hi lo:Nat} (h:W2 n hi lo):lo < 18446744073709551616:=h.2.1
theorem W2.hi {n hi lo:Nat} (h:W2 n hi lo):hi < 18446744073709551616:=h.2.2
theorem W2.mul10 {n hi lo:Nat} (h:W2 n hi lo) (hn:n * 10 < 340282366920938463463374607431768211456):W2 (n * 10) (mw1 lo hi 10 0) (mw0 lo hi 10 0)∧mw2 lo hi 10 0=0∧mw3 lo hi 10 0=0:=by
 have hw:=mul_words (b0:=10) (b1:=0) h.lo h.hi (by omega) (by omega)
 rw [← h.1,Nat.zero_mul,Nat.zero_add] at hw
 generalize mw0 lo hi 10 0=x0 at *
 generalize mw1 lo hi 10 0=x1 at *
 generalize mw2 lo hi 10 0=x2 at *
 generalize mw3 lo hi 10 0=x3 at *
 obtain ⟨h0,h1,h2,h3,h4⟩:=hw
 unfold longN at h0
 have e3:x3=0:=by
  by_cases e:x3=0
  ·exact e
  ·have:6277101735386680763835789423207666416102355444464034512896≤x3 * 6277101735386680763835789423207666416102355444464034512896:=Nat.le_mul_of_pos_left _ (by omega)
   omega
 have e2:x2=0:=by
  by_cases e:x2=0
  ·exact e
  ·have:340282366920938463463374607431768211456≤x2 * 340282366920938463463374607431768211456:=Nat.le_mul_of_pos_left _ (by omega)
   omega
 subst e2 e3
 exact ⟨⟨by omega,h1,h2⟩,rfl,rfl⟩
theorem narrow_fit (w0 w1:Nat) (w:World) :
  Calls Tryz.prog 178 #[.agg #[.int .u64 w0,.int .u64 w1,.int .u64 0,.int .u64 0]] w fun e w'=>e = .returned (.tuple #[.agg #[.int .u64 w1,.int .u64 w0],.int .i64 0])∧Below w.heap.size w w':=by
 go_enter Tryz.func178,Tryz.ntmps178
 go_wp2
 refine bodyPost_ret (v:=.tuple #[.agg #[.int .u64 w1,.int .u64 w0],.int .i64 0]) (by simp [results,Tryz.results178,go_sem]) rfl ⟨rfl,?_⟩
 exact (((Below.refl _ w).alloc (Nat.le_refl _) _).alloc (by simp) _)
theorem ten_pow_lt {k:Nat} (h:k < 38):10 ^ k * 10 < 340282366920938463463374607431768211456:=by
 have h1:10 ^ k≤10 ^ 37:=Nat.pow_le_pow_right (by omega) (by omega)
 have h2:(10:Nat) ^ 37 * 10 < 340282366920938463463374607431768211456:=by decide
 omega
set_option maxHeartbeats 1000000 in
theorem ten_any (n:Nat) (w:World) (hn:n≤38) :
  Calls Tryz.prog 262 #[.int .i64 n] w fun e w'=>∃ hi lo:Nat,e = .returned (.tuple #[.agg #[.int .u64 hi,.int .u64 lo],.int .i64 0])∧W2 (10 ^ n) hi lo∧Below w.heap.size w w':=by
 go_enter Tryz.func262,Tryz.ntmps262
 go_wp2
 have HA:=Lib.hid (At.newAt (W:=w.alloc (.cells #[.int .u64 0,.int .u64 0] 24)) (k:=w.heap.size + 1) (by simp) 24 #[.int .u64 0,.int .u64 1])
 have HR:=Lib.hid ((At.new w 24 #[.int .u64 0,.int .u64 0]).alloc (.cells #[.int .u64 0,.int .u64 1] 24))
 have HB:=Lib.hid (((Below.refl _ w).alloc (Nat.le_refl _) (.cells #[.int .u64 0,.int .u64 0] 24)).alloc (by simp) (.cells #[.int .u64 0,.int .u64 1] 24))
 go_loopw [14] (fun iv wr=>∃ k hi lo:Nat,k≤n∧iv = .int .i64 k∧Hid (W2 (10 ^ k) hi lo)∧Hid (At wr (w.heap.size + 1) 24 #[.int .u64 hi,.int .u64 lo])∧Hid (At wr w.heap.size 24 #[.int .u64 0,.int .u64 0])∧Hid (Below w.heap.size w wr)) (fun iv _=>n - (intOf iv).toNat)
 case atStart=>exact ⟨0,0,1,by omega,rfl,(show W2 _ _ _ from ⟨by decide,by omega,by omega⟩),HA,HR,HB⟩
 case round=>
  clear HA HR HB
  obtain ⟨k,hi,lo,hk,rfl,HW,HA,HR,HB⟩:=hrel
  have c0:wr.cell? ⟨w.heap.size + 1,0,none⟩=some (.int .u64 hi):=HA.out.cell 0 rfl
  have c1:wr.cell? ⟨w.heap.size + 1,1,none⟩=some (.int .u64 lo):=HA.out.cell 1 rfl
  by_cases hlt:k < n
  ·have hm:=HW.out.mul10 (ten_pow_lt (by omega))
   have Hm:=Lib.hid hm
   clear hm
   go_wp2_with fail
   refine (mul_any lo hi 10 0 wr HW.out.lo HW.out.hi (by omega) (by omega)).mono ?_
   rintro e w1 ⟨rfl,hb1⟩
   rw [Hm.out.2.1,Hm.out.2.2]
   obtain ⟨hi2,hhi2⟩:∃ x,mw1 lo hi 10 0=x:=⟨_,rfl⟩
   obtain ⟨lo2,hlo2⟩:∃ x,mw0 lo hi 10 0=x:=⟨_,rfl⟩
   have HW2:=Lib.hid (show W2 (10 ^ (k + 1)) hi2 lo2 by rw [Nat.pow_succ,← hhi2,← hlo2];exact Hm.out.1)
   rw [hhi2,hlo2]
   have hz:=HB.out.size
   have hz2:=HA.out.lt
   have A1:=Lib.hid (HA.out.below hb1 HA.out.lt)
   have R1:=Lib.hid (HR.out.below hb1 HR.out.lt)
   have B1:=Lib.hid (HB.out.trans (hb1.mono hz))
   clear hb1 hhi2 hlo2 c0 c1 Hm
   go_wp2_with fail
   refine (narrow_fit lo2 hi2 w1).mono ?_
   rintro e w2 ⟨rfl,hb2⟩
   have A2:=Lib.hid (A1.out.below hb2 A1.out.lt)
   have R2:=Lib.hid (R1.out.below hb2 R1.out.lt)
   have B2:=Lib.hid (B1.out.trans (hb2.mono B1.out.size))
   clear hb2
   have c0:w2.cell? ⟨w.heap.size + 1,0,none⟩=some (.int .u64 hi):=A2.out.cell 0 rfl
   have c1:w2.cell? ⟨w.heap.size + 1,1,none⟩=some (.int .u64 lo):=A2.out.cell 1 rfl
   have f0:w2.frozen? ⟨w.heap.size + 1,0,none⟩=false:=A2.out.free 0
   have f1:w2.frozen? ⟨w.heap.size + 1,1,none⟩=false:=A2.out.free 1
   go_wp2
   go_roundw
   case rel=>
    refine ⟨k + 1,hi2,lo2,by omega,by go_num,HW2,?_,?_,?_⟩
    ·exact (A2.out.set_ 0 _).set_ 1 _
    ·exact (R2.out.far (p:=⟨w.heap.size + 1,0,none⟩) (by simp) _).far (p:=⟨w.heap.size + 1,1,none⟩) (by simp) _
    ·exact (Below.setCell (p:=⟨w.heap.size + 1,0,none⟩) B2.out (by simp) _).setCell (p:=⟨w.heap.size + 1,1,none⟩) (by simp) _
   case measure=>simp [intOf];omega
  ·obtain rfl:k=n:=by omega
   have d0:wr.cell? ⟨w.heap.size,0,none⟩=some (.int .u64 0):=HR.out.cell 0 rfl
   have d1:wr.cell? ⟨w.heap.size,1,none⟩=some (.int .u64 0):=HR.out.cell 1 rfl
   have f0:wr.frozen? ⟨w.heap.size,0,none⟩=false:=HR.out.free 0
   have f1:wr.frozen? ⟨w.heap.size,1,none⟩=false:=HR.out.free 1
   go_wp2
   refine bodyPost_ret (v:=.tuple #[.agg #[.int .u64 hi,.int .u64 lo],.int .i64 0]) (by simp [results,Tryz.results262,go_sem,d0,d1]) rfl ⟨hi,lo,rfl,HW.out,?_⟩
   exact (Below.setCell (p:=⟨w.heap.size,0,none⟩) HB.out (by simp) _).setCell (p:=⟨w.heap.size,1,none⟩) (by simp) _
theorem power_any (n:Nat) (w:World) (hn:n≤38) :
  Calls Tryz.prog 230 #[.int .i64 n] w fun e w'=>∃ hi lo:Nat,e = .returned (.agg #[.int .u64 hi,.int .u64 lo])∧W2 (10 ^ n) hi lo∧Below w.heap.size w w':=by
 go_enter Tryz.func230,Tryz.ntmps230
 go_wp2_with fail
 refine (ten_any n _ hn).mono ?_
 rintro e w1 ⟨hi,lo,rfl,hW,hb⟩
 have HR:=Lib.hid ((At.new w 24 #[.int .u64 0,.int .u64 0]).below hb (by simp))
 have HW:=Lib.hid hW
 have HB:=Lib.hid (show Below w.heap.size w w1 from ((Below.refl _ w).alloc (Nat.le_refl _) _).trans (hb.mono (by simp)))
 have hz:w.heap.size < w1.heap.size:=HR.out.lt
 clear hW hb
 have d0:w1.cell? ⟨w.heap.size,0,none⟩=some (.int .u64 0):=HR.out.cell 0 rfl
 have d1:w1.cell? ⟨w.heap.size,1,none⟩=some (.int .u64 0):=HR.out.cell 1 rfl
 have f0:w1.frozen? ⟨w.heap.size,0,none⟩=false:=HR.out.free 0
 have f1:w1.frozen? ⟨w.heap.size,1,none⟩=false:=HR.out.free 1
 go_wp2
 refine bodyPost_ret (v:=.agg #[.int .u64 hi,.int .u64 lo]) (by simp [results,Tryz.results230,go_sem,d0,d1,hz]) rfl ⟨hi,lo,rfl,HW.out,?_⟩
 exact Below.alloc ((Below.setCell (p:=⟨w.heap.size,0,none⟩) HB.out (by simp) _).setCell (p:=⟨w.heap.size,1,none⟩) (by simp) _) (by simp;omega) _
theorem bound_any (w:World) :
  Calls Tryz.prog 189 #[] w fun e w'=>∃ hi lo:Nat,e = .returned (.agg #[.int .u64 hi,.int .u64 lo])∧W2 (10 ^ 34) hi lo∧Below w.heap.size w w':=by
 go_enter Tryz.func189,Tryz.ntmps189
 go_wp2_with fail
 refine (power_any 34 _ (by omega)).mono ?_
 rintro e w1 ⟨hi,lo,rfl,hW,hb⟩
 have HR:=Lib.hid ((At.new w 24 #[.int .u64 0,.int .u64 0]).below hb (by simp))
 have HW:=Lib.hid hW
 have HB:=Lib.hid (show Below w.heap.size w w1 from ((Below.refl _ w).alloc (Nat.le_refl _) _).trans (hb.mono (by simp)))
 have hz:w.heap.size < w1.heap.size:=HR.out.lt
 clear hW hb
 have d0:w1.cell? ⟨w.heap.size,0,none⟩=some (.int .u64 0):=HR.out.cell 0 rfl
 have d1:w1.cell? ⟨w.heap.size,1,none⟩=some (.int .u64 0):=HR.out.cell 1 rfl
 have f0:w1.frozen? ⟨w.heap.size,0,none⟩=false:=HR.out.free 0
 have f1:w1.frozen? ⟨w.heap.size,1,none⟩=false:=HR.out.free 1
 go_wp2
 refine bodyPost_ret (v:=.agg #[.int .u64 hi,.int .u64 lo]) (by simp [results,Tryz.results189,go_sem,d0,d1]) rfl ⟨hi,lo,rfl,HW.out,?_⟩
 exact (Below.setCell (p:=⟨w.heap.size,0,none⟩) HB.out (by simp) _).setCell (p:=⟨w.heap.size,1,none⟩) (by simp) _
def cmpI (a b:Nat):Int:=if a=b then 0 else if a < b then -1 else 1
theorem ret_i {a b:Int} (h:a=b):Ending.returned (.int .i64 a) = .returned (.int .i64 b):=by rw [h]
theorem cmp_any (a b ah al bh bl:Nat) (w:World) (ha:W2 a ah al) (hb:W2 b bh bl) :
  Calls Tryz.prog 188 #[.agg #[.int .u64 ah,.int .u64 al],.agg #[.int .u64 bh,.int .u64 bl]] w fun e w'=>e = .returned (.int .i64 (cmpI a b))∧Below w.heap.size w w':=by
 obtain ⟨ha1,ha2,ha3⟩:=ha
 obtain ⟨hb1,hb2,hb3⟩:=hb
 by_cases h1:ah=bh
 ·subst h1
  by_cases h2:al=bl
  ·subst h2
   have HC:=Lib.hid (show cmpI a b=0 by unfold cmpI;rw [if_pos (by omega)])
   clear ha1 hb1 ha2 ha3 hb2 hb3
   go_enter Tryz.func188,Tryz.ntmps188
   go_wp2
   go_ret
   exact ⟨(ret_i HC.out).symm,((Below.refl _ w).alloc (Nat.le_refl _) _).alloc (by simp) _⟩
  ·have n1:((al:Int) == (bl:Int))=false:=beq_eq_false_iff_ne.2 (by omega)
   by_cases h3:al < bl
   ·have HC:=Lib.hid (show cmpI a b = -1 by unfold cmpI;rw [if_neg (by omega),if_pos (by omega)])
    clear ha1 hb1 ha2 ha3 hb2 hb3 h2
    go_enter Tryz.func188,Tryz.ntmps188
    go_wp2
    go_ret
    exact ⟨(ret_i HC.out).symm,((Below.refl _ w).alloc (Nat.le_refl _) _).alloc (by simp) _⟩
   ·have HC:=Lib.hid (show cmpI a b=1 by unfold cmpI;rw [if_neg (by omega),if_neg (by omega)])
    clear ha1 hb1 ha2 ha3 hb2 hb3 h2
    go_enter Tryz.func188,Tryz.ntmps188
    go_wp2
    go_ret
    exact ⟨(ret_i HC.out).symm,((Below.refl _ w).alloc (Nat.le_refl _) _).alloc (by simp) _⟩
 ·have n1:((ah:Int) == (bh:Int))=false:=beq_eq_false_iff_ne.2 (by omega)
  by_cases h3:ah < bh
  ·have HC:=Lib.hid (show cmpI a b = -1 by unfold cmpI;rw [if_neg (by omega),if_pos (by omega)])
   clear ha1 hb1 ha2 ha3 hb2 hb3 h1
   go_enter Tryz.func188,Tryz.ntmps188
   go_wp2
   go_ret
   exact ⟨(ret_i HC.out).symm,((Below.refl _ w).alloc (Nat.le_refl _) _).alloc (by simp) _⟩
  ·have HC:=Lib.hid (show cmpI a b=1 by unfold cmpI;rw [if_neg (by omega),if_neg (by omega)])
   clear ha1 hb1 ha2 ha3 hb2 hb3 h1
   go_enter Tryz.func188,Tryz.ntmps188
   go_wp2
   go_ret
   exact ⟨(ret_i HC.out).symm,((Below.refl _ w).alloc (Nat.le_refl _) _).alloc (by simp) _⟩
open Go.Shelf Go.RowKit Go.Sort
theorem pow_le38 {m k n:Nat} (h0:m≠0) (h:n=m * 10 ^ k) (hn:n < 340282366920938463463374607431768211456):k≤38:=by
 by_cases hk:k≤38
 ·exact hk
 ·have h1:10 ^ 39≤10 ^ k:=Nat.pow_le_pow_right (by omega) (by omega)
  have h2:10 ^ k≤m * 10 ^ k:=Nat.le_mul_of_pos_left _ (by omega)
  have h3:(340282366920938463463374607431768211456:Nat) < 10 ^ 39:=by decide
  omega
theorem words_small {m w0 w1 w2 w3:Nat} (h:Words m w0 w1 w2 w3) (hm:m < 340282366920938463463374607431768211456):W2 m w1 w0:=by
 obtain ⟨h0,h1,h2,h3,h4⟩:=h
 unfold longN at h0
 have e3:w3=0:=by
  by_cases e:w3=0
  ·exact e
  ·have:6277101735386680763835789423207666416102355444464034512896≤w3 * 6277101735386680763835789423207666416102355444464034512896:=Nat.le_mul_of_pos_left _ (by omega)
   omega
 have e2:w2=0:=by
  by_cases e:w2=0
  ·exact e
  ·have:340282366920938463463374607431768211456≤w2 * 340282366920938463463374607431768211456:=Nat.le_mul_of_pos_left _ (by omega)
   omega
 subst e2 e3
 exact ⟨by omega,h1,h2⟩
theorem W2.lt {n hi lo:Nat} (h:W2 n hi lo):n < 340282366920938463463374607431768211456:=by obtain ⟨a,b,c⟩:=h;omega
theorem W2.words {n hi lo:Nat} (h:W2 n hi lo):Words n lo hi 0 0:=by
 obtain ⟨a,b,c⟩:=h
 exact ⟨by unfold longN;omega,b,c,by omega,by omega⟩
set_option maxHeartbeats 1000000 in
theorem trim_any (n hi lo:Nat) (w:World) (h:W2 n hi lo) (hn:n≠0) :
  Calls Tryz.prog 191 #[.agg #[.int .u64 hi,.int .u64 lo]] w fun e w'=>∃ m k mh ml:Nat,e = .returned (.tuple #[.agg #[.int .u64 mh,.int .u64 ml],.int .i64 k])∧W2 m mh ml∧n=m * 10 ^ k∧m % 10≠0∧Below w.heap.size w w':=by
 have HW:=Lib.hid h
 have Hn:=Lib.hid hn
 have hcase:(((hi:Int) == 0)=false)∨(((hi:Int) == 0)=true∧((lo:Int) == 0)=false):=by
  by_cases e:hi=0
  ·right
   refine ⟨beq_iff_eq.2 (by omega),beq_eq_false_iff_ne.2 ?_⟩
   intro e2
   have:=h.1
   omega
  ·left
   exact beq_eq_false_iff_ne.2 (by omega)
 have HHW:=Lib.hid h.words
 clear h hn
 rcases hcase with hc | ⟨hc,hd⟩
 all_goals
  go_enter Tryz.func191,Tryz.ntmps191
  go_wp2
  have HN:=Lib.hid (At.newAt (W:=(w.alloc (.cells #[.int .u64 hi,.int .u64 lo] 24)).alloc (.cells #[.int .u64 0,.int .u64 0] 24)) (k:=w.heap.size + 1 + 1) (by simp) 131 #[.int .u64 lo,.int .u64 hi,.int .u64 ((0:Nat):Int),.int .u64 ((0:Nat):Int)])
  have HR:=Lib.hid ((At.newAt (W:=w.alloc (.cells #[.int .u64 hi,.int .u64 lo] 24)) (k:=w.heap.size + 1) (by simp) 24 #[.int .u64 0,.int .u64 0]).alloc (.cells #[.int .u64 lo,.int .u64 hi,.int .u64 ((0:Nat):Int),.int .u64 ((0:Nat):Int)] 131))
  have HB:=Lib.hid ((((Below.refl _ w).alloc (Nat.le_refl _) (.cells #[.int .u64 hi,.int .u64 lo] 24)).alloc (by simp) (.cells #[.int .u64 0,.int .u64 0] 24)).alloc (by simp;omega) (.cells #[.int .u64 lo,.int .u64 hi,.int .u64 ((0:Nat):Int),.int .u64 ((0:Nat):Int)] 131))
  go_loopw [5,6,7] (fun kv _ _ wr=>∃ k m w0 w1 w2 w3:Nat,k≤38∧kv = .int .i64 k∧Hid (m≠0)∧Hid (n=m * 10 ^ k)∧Hid (Words m w0 w1 w2 w3)∧Hid (At wr (w.heap.size + 1 + 1) 131 #[.int .u64 w0,.int .u64 w1,.int .u64 w2,.int .u64 w3])∧Hid (At wr (w.heap.size + 1) 24 #[.int .u64 0,.int .u64 0])∧Hid (Below w.heap.size w wr)) (fun kv _ _ _=>40 - (intOf kv).toNat)
  case atStart=>exact ⟨0,n,lo,hi,0,0,by omega,rfl,Hn,(show n=n * 10 ^ 0 by omega),HHW,HN,HR,HB⟩
  case round=>
   clear HN HR HB
   obtain ⟨k,m,w0,w1,w2,w3,hk,rfl,HM,HNm,HWd,HN,HR,HB⟩:=hrel
   have c0:wr.cell? ⟨w.heap.size + 1 + 1,0,none⟩=some (.int .u64 w0):=HN.out.cell 0 rfl
   have c1:wr.cell? ⟨w.heap.size + 1 + 1,1,none⟩=some (.int .u64 w1):=HN.out.cell 1 rfl
   have c2:wr.cell? ⟨w.heap.size + 1 + 1,2,none⟩=some (.int .u64 w2):=HN.out.cell 2 rfl
   have c3:wr.cell? ⟨w.heap.size + 1 + 1,3,none⟩=some (.int .u64 w3):=HN.out.cell 3 rfl
   go_wp2_with fail
   refine (tenth_any m w0 w1 w2 w3 wr HWd.out).mono ?_
   rintro e x1 ⟨q0,q1,q2,q3,rfl,hq,hb⟩
   have HQ:=Lib.hid hq
   have N1:=Lib.hid (HN.out.below hb HN.out.lt)
   have R1:=Lib.hid (HR.out.below hb HR.out.lt)
   have B1:=Lib.hid (HB.out.trans (hb.mono HB.out.size))
   have z1:w.heap.size + 1 + 1 < x1.heap.size:=N1.out.lt
   have z2:w.heap.size + 1 < x1.heap.size:=R1.out.lt
   clear hq hb c0 c1 c2 c3
   have c0:x1.cell? ⟨w.heap.size + 1 + 1,0,none⟩=some (.int .u64 w0):=N1.out.cell 0 rfl
   have c1:x1.cell? ⟨w.heap.size + 1 + 1,1,none⟩=some (.int .u64 w1):=N1.out.cell 1 rfl
   have c2:x1.cell? ⟨w.heap.size + 1 + 1,2,none⟩=some (.int .u64 w2):=N1.out.cell 2 rfl
   have c3:x1.cell? ⟨w.heap.size + 1 + 1,3,none⟩=some (.int .u64 w3):=N1.out.cell 3 rfl
   have f0:x1.frozen? ⟨w.heap.size + 1 + 1,0,none⟩=false:=N1.out.free 0
   have f1:x1.frozen? ⟨w.heap.size + 1 + 1,1,none⟩=false:=N1.out.free 1
   have f2:x1.frozen? ⟨w.heap.size + 1 + 1,2,none⟩=false:=N1.out.free 2
   have f3:x1.frozen? ⟨w.heap.size + 1 + 1,3,none⟩=false:=N1.out.free 3
   have d0:x1.cell? ⟨w.heap.size + 1,0,none⟩=some (.int .u64 0):=R1.out.cell 0 rfl
   have d1:x1.cell? ⟨w.heap.size + 1,1,none⟩=some (.int .u64 0):=R1.out.cell 1 rfl
   have g0:x1.frozen? ⟨w.heap.size + 1,0,none⟩=false:=R1.out.free 0
   have g1:x1.frozen? ⟨w.heap.size + 1,1,none⟩=false:=R1.out.free 1
   obtain ⟨r,hr⟩:∃ r,m % 10=r:=⟨_,rfl⟩
   have Hr:=Lib.hid hr
   rw [hr]
   clear hr
   by_cases h0:r=0
   ·have b0:((r:Int) != 0)=false:=by rw [h0];rfl
    have hm1:m / 10≠0:=by have:=Hr.out;have:=HM.out;omega
    have hmn:n=m / 10 * 10 ^ (k + 1):=by
     have h1:=HNm.out
     have h2:=Hr.out
     have h3:m=m / 10 * 10:=by omega
     rw [Nat.pow_succ,h1]
     conv=>lhs;rw [h3]
     rw [Nat.mul_assoc,Nat.mul_comm 10]
    have hk2:=pow_le38 hm1 hmn HW.out.lt
    have HM1:=Lib.hid hm1
    have HNm1:=Lib.hid hmn
    clear h0 hm1 hmn
    go_wp2
    go_roundw
    case rel=>
     refine ⟨k + 1,m / 10,q0,q1,q2,q3,by omega,by go_num,HM1,HNm1,HQ,?_,?_,?_⟩
     ·exact ((((N1.out.set_ 0 _).set_ 1 _).set_ 2 _).set_ 3 _).alloc _
     ·exact ((((R1.out.far (p:=⟨w.heap.size + 1 + 1,0,none⟩) (by simp) _).far (p:=⟨w.heap.size + 1 + 1,1,none⟩) (by simp) _).far (p:=⟨w.heap.size + 1 + 1,2,none⟩) (by simp) _).far (p:=⟨w.heap.size + 1 + 1,3,none⟩) (by simp) _).alloc _
     ·exact Below.alloc ((((Below.setCell (p:=⟨w.heap.size + 1 + 1,0,none⟩) B1.out (by simp;omega) _).setCell (p:=⟨w.heap.size + 1 + 1,1,none⟩) (by simp;omega) _).setCell (p:=⟨w.heap.size + 1 + 1,2,none⟩) (by simp;omega) _).setCell (p:=⟨w.heap.size + 1 + 1,3,none⟩) (by simp;omega) _) (by simp;omega) _
    case measure=>simp [intOf];omega
   ·have b0:((r:Int) != 0)=true:=by rw [bne_iff_ne];omega
    have Hr0:=Lib.hid h0
    clear h0
    go_wp2
    have hsm:m < 340282366920938463463374607431768211456:=by
     have h1:=HNm.out
     have h2:=HW.out.lt
     have h3:m≤m * 10 ^ k:=Nat.le_mul_of_pos_right _ (Nat.pow_pos (by omega))
     omega
    refine bodyPost_ret (v:=.tuple #[.agg #[.int .u64 w1,.int .u64 w0],.int .i64 k]) (by simp [results,Tryz.results191,go_sem,d0,d1,z2]) rfl ⟨m,k,w1,w0,rfl,words_small HWd.out hsm,HNm.out,by rw [Hr.out];exact Hr0.out,?_⟩
    exact Below.alloc ((Below.setCell (p:=⟨w.heap.size + 1,0,none⟩) B1.out (by simp) _).setCell (p:=⟨w.heap.size + 1,1,none⟩) (by simp) _) (by simp;omega) _
def dcmB (neg:Bool) (n:Nat) (s:Int):Bool:=decide (n < 10 ^ 34∧0≤s∧s≤18∧(if n=0 then neg=false∧s=0 else s=0∨n % 10≠0))
theorem dcmB_big {neg:Bool} {n:Nat} {s:Int} (h:¬ n < 10 ^ 34):dcmB neg n s=false:=decide_eq_false (fun x=>h x.1)
theorem dcmB_scale {neg:Bool} {n:Nat} {s:Int} (h:s < 0∨18 < s):dcmB neg n s=false:=decide_eq_false (fun x=>by omega)
theorem dcmB_zero {neg:Bool} {s:Int} (h0:0≤s) (h1:s≤18):dcmB neg 0 s=(!neg && decide (s=0)):=by
 unfold dcmB
 rw [Bool.eq_iff_iff]
 have hp:0 < 10 ^ 34:=by decide
 simp [h0,h1,hp]
theorem dcmB_num {neg:Bool} {n:Nat} {s:Int} (hn:n < 10 ^ 34) (h:n≠0) (h0:0≤s) (h1:s≤18):dcmB neg n s=(decide (s=0) || decide (n % 10≠0)):=by
 unfold dcmB
 rw [Bool.eq_iff_iff]
 simp [hn,h,h0,h1]
theorem zero_yes (neg:Bool) (s:Int) (w:World) :
  Calls Tryz.prog 190 #[.agg #[.bool neg,.int .u64 0,.int .u64 0,.int .i64 s]] w fun e w'=>e = .returned (.bool true)∧Below w.heap.size w w':=by
 go_enter Tryz.func190,Tryz.ntmps190
 go_wp2
 go_ret
 exact ⟨rfl,(Below.refl _ w).alloc (Nat.le_refl _) _⟩
theorem zero_no (neg:Bool) (n hi lo:Nat) (s:Int) (w:World) (h:W2 n hi lo) (hn:n≠0) :
  Calls Tryz.prog 190 #[.agg #[.bool neg,.int .u64 hi,.int .u64 lo,.int .i64 s]] w fun e w'=>e = .returned (.bool false)∧Below w.heap.size w w':=by
 have hcase:(((hi:Int) == 0)=false)∨(((hi:Int) == 0)=true∧((lo:Int) == 0)=false):=by
  by_cases e:hi=0
  ·right
   refine ⟨beq_iff_eq.2 (by omega),beq_eq_false_iff_ne.2 ?_⟩
   intro e2
   have:=h.1
   omega
  ·left
   exact beq_eq_false_iff_ne.2 (by omega)
 clear h hn
 rcases hcase with hc | ⟨hc,hd⟩
 all_goals
  go_enter Tryz.func190,Tryz.ntmps190
  go_wp2
  go_ret
  exact ⟨rfl,(Below.refl _ w).alloc (Nat.le_refl _) _⟩
theorem cmpI_lt {a b:Nat} (h:a < b):cmpI a b = -1:=by unfold cmpI;rw [if_neg (by omega),if_pos h]
theorem cmpI_ge {a b:Nat} (h:b≤a):cmpI a b=0∨cmpI a b=1:=by
 unfold cmpI
 split
 ·exact .inl rfl
 ·rw [if_neg (by omega)];exact .inr rfl
theorem keepA {W w1:World} {g:Nat} {t:TypeId} {cs:Array Value} (h:Hid (At W g t cs)) (hb:Below W.heap.size W w1):Hid (At w1 g t cs):=h.out.below hb h.out.lt
theorem keepB {W w0 w1:World} (hB:Hid (Below w0.heap.size w0 W)) (hb:Below W.heap.size W w1):Hid (Below w0.heap.size w0 w1):=hB.out.trans (hb.mono hB.out.size)
theorem W2.one {n a b c d:Nat} (h:W2 n a b) (h' : W2 n c d):c=a∧d=b:=by
 obtain ⟨h1,h2,h3⟩:=h
 obtain ⟨h4,h5,h6⟩:=h'
 omega
theorem bound_fix {bh bl:Nat} (h:W2 (10 ^ 34) bh bl) (w:World) (d:Nat) (os:Array Obj) :
  Calls Tryz.prog 189 #[] (grow (redrawn w d) os) fun e w''=>e = .returned (.agg #[.int .u64 bh,.int .u64 bl])∧∃ p:Regrown,w'' = grow (redrawn w p.d) p.os:=
 Calls.regrown_of ((bound_any _).mono fun e w' ⟨hi,lo,he,hW,hb⟩=>by
  obtain ⟨h1,h2⟩:=h.one hW
  exact ⟨by rw [he,h1,h2],hb⟩)
theorem cmp_fix {a b ah al bh bl:Nat} {x:Int} (ha:W2 a ah al) (hb:W2 b bh bl) (hx:cmpI a b=x) (w:World) (d:Nat) (os:Array Obj) :
  Calls Tryz.prog 188 #[.agg #[.int .u64 ah,.int .u64 al],.agg #[.int .u64 bh,.int .u64 bl]] (grow (redrawn w d) os) fun e w''=>e = .returned (.int .i64 x)∧∃ p:Regrown,w'' = grow (redrawn w p.d) p.os:=
 Calls.regrown_of ((cmp_any a b ah al bh bl _ ha hb).mono fun e w' ⟨he,hb⟩=>⟨hx▸he,hb⟩)
theorem zero_yes' (neg:Bool) (hi lo:Nat) (s:Int) (w:World) (h:0=hi∧0=lo) :
  Calls Tryz.prog 190 #[.agg #[.bool neg,.int .u64 hi,.int .u64 lo,.int .i64 s]] w fun e w'=>e = .returned (.bool true)∧Below w.heap.size w w':=by
 obtain ⟨rfl,rfl⟩:=h
 exact zero_yes neg s w
theorem trim_k {n m k:Nat} (h:n=m * 10 ^ k) (h0:m % 10≠0):((k:Int) == 0)=decide (n % 10≠0):=by
 cases k with
 | zero=>rw [h];simp [h0]
 | succ k=>
  have:n % 10=0:=by rw [h,Nat.pow_succ,← Nat.mul_assoc];omega
  rw [this]
  have:((k + 1:Nat):Int)≠0:=by omega
  rw [beq_false_of_ne this];rfl
set_option maxHeartbeats 1000000 in
theorem form_any (neg:Bool) (n hi lo:Nat) (s:Int) (w:World) (h:W2 n hi lo) :
  Calls Tryz.prog 133 #[.agg #[.bool neg,.int .u64 hi,.int .u64 lo,.int .i64 s]] w fun e w'=>e = .returned (.bool (dcmB neg n s))∧RowKit.Below w.heap.size w w':=by
 have HA:=Lib.hid (At.new w 26 #[.bool neg,.int .u64 hi,.int .u64 lo,.int .i64 s])
 have HB:=Lib.hid ((RowKit.Below.refl _ w).alloc (Nat.le_refl _) (.cells #[.bool neg,.int .u64 hi,.int .u64 lo,.int .i64 s] 26))
 obtain ⟨bh,bl,hbW⟩:∃ bh bl,W2 (10 ^ 34) bh bl:=⟨10 ^ 34 / 2 ^ 64,10 ^ 34 % 2 ^ 64,by decide,by decide,by decide⟩
 have HD:=Lib.hid (bound_fix hbW)
 by_cases hn:n < 10 ^ 34
 ·have HC:=Lib.hid (cmp_fix h hbW (cmpI_lt hn))
  by_cases s0:s < 0
  ·have HV:=Lib.hid (dcmB_scale (neg:=neg) (n:=n) (Or.inl s0))
   clear hn hbW h
   have ds:decide (s < 0)=true:=decide_eq_true s0
   clear s0
   go_enter Tryz.func133,Tryz.ntmps133
   go_wp2_with fail
   refine name_world ?_
   intro W0 hW0
   rw [← hW0] at HA HB
   clear hW0
   have k0:=cell_regrown (HA.out.cell 0 (v:=.bool neg) rfl)
   have k1:=cell_regrown (HA.out.cell 1 (v:=.int .u64 hi) rfl)
   have k2:=cell_regrown (HA.out.cell 2 (v:=.int .u64 lo) rfl)
   have k3:=cell_regrown (HA.out.cell 3 (v:=.int .i64 s) rfl)
   refine wp_region_quiet_below (by kernel_rfl) (by kernel_rfl) ?_
   repeat (any_goals (first|go_big_quiet_step (first|(exact HC.out _ _ _)|(exact HD.out _ _ _))|quiet_step (first|(exact HC.out _ _ _)|(exact HD.out _ _ _))))
   refine wpQuiet_nil ?_
   intro _ hw'
   obtain ⟨⟨dq,osq⟩,hw''⟩:=hw'
   subst hw''
   have kb:=Lib.hid (RowKit.Below.trans HB.out ((below_regrown W0 dq osq).mono HB.out.size))
   have ka:=Lib.hid (HA.out.below (below_regrown W0 dq osq) HA.out.lt)
   clear k0 k1 k2 k3
   generalize grow (redrawn W0 dq) osq=W1 at ka kb ⊢
   have k0:=ka.out.cell 0 (v:=.bool neg) rfl
   have k1:=ka.out.cell 1 (v:=.int .u64 hi) rfl
   have k2:=ka.out.cell 2 (v:=.int .u64 lo) rfl
   have k3:=ka.out.cell 3 (v:=.int .i64 s) rfl
   go_wp2_with fail
   go_ret;exact ⟨by rw [HV.out];rfl,kb.out⟩
  ·by_cases s1:18 < s
   ·have HV:=Lib.hid (dcmB_scale (neg:=neg) (n:=n) (Or.inr s1))
    clear hn hbW h
    have ds:decide (s < 0)=false:=decide_eq_false s0
    have dt:decide (18 < s)=true:=decide_eq_true s1
    clear s0 s1
    go_enter Tryz.func133,Tryz.ntmps133
    go_wp2_with fail
    refine name_world ?_
    intro W0 hW0
    rw [← hW0] at HA HB
    clear hW0
    have k0:=cell_regrown (HA.out.cell 0 (v:=.bool neg) rfl)
    have k1:=cell_regrown (HA.out.cell 1 (v:=.int .u64 hi) rfl)
    have k2:=cell_regrown (HA.out.cell 2 (v:=.int .u64 lo) rfl)
    have k3:=cell_regrown (HA.out.cell 3 (v:=.int .i64 s) rfl)
    refine wp_region_quiet_below (by kernel_rfl) (by kernel_rfl) ?_
    repeat (any_goals (first|go_big_quiet_step (first|(exact HC.out _ _ _)|(exact HD.out _ _ _))|quiet_step (first|(exact HC.out _ _ _)|(exact HD.out _ _ _))))
    refine wpQuiet_nil ?_
    intro _ hw'
    obtain ⟨⟨dq,osq⟩,hw''⟩:=hw'
    subst hw''
    have kb:=Lib.hid (RowKit.Below.trans HB.out ((below_regrown W0 dq osq).mono HB.out.size))
    have ka:=Lib.hid (HA.out.below (below_regrown W0 dq osq) HA.out.lt)
    clear k0 k1 k2 k3
    generalize grow (redrawn W0 dq) osq=W1 at ka kb ⊢
    have k0:=ka.out.cell 0 (v:=.bool neg) rfl
    have k1:=ka.out.cell 1 (v:=.int .u64 hi) rfl
    have k2:=ka.out.cell 2 (v:=.int .u64 lo) rfl
    have k3:=ka.out.cell 3 (v:=.int .i64 s) rfl
    go_wp2_with fail
    go_ret;exact ⟨by rw [HV.out];rfl,kb.out⟩
   ·have ds:decide (s < 0)=false:=decide_eq_false s0
    have dt:decide (18 < s)=false:=decide_eq_false s1
    have s0' : 0≤s:=by omega
    have s1' : s≤18:=by omega
    by_cases n0:n=0
    ·have h12:0=hi∧0=lo:=by obtain ⟨h1,h2,h3⟩:=h;omega
     have HV:=Lib.hid (dcmB_zero (neg:=neg) s0' s1')
     have HN:=Lib.hid n0
     have HZ:=Lib.hid h12
     clear s0 s1 s0' s1' hn hbW h h12 n0
     obtain ⟨z,hz⟩:∃ z,decide (s=0)=z:=⟨_,rfl⟩
     have dz:(s == 0)=z:=hz
     have HV':=Lib.hid hz
     clear hz
     go_enter Tryz.func133,Tryz.ntmps133
     go_wp2_with fail
     refine name_world ?_
     intro W0 hW0
     rw [← hW0] at HA HB
     clear hW0
     have k0:=cell_regrown (HA.out.cell 0 (v:=.bool neg) rfl)
     have k1:=cell_regrown (HA.out.cell 1 (v:=.int .u64 hi) rfl)
     have k2:=cell_regrown (HA.out.cell 2 (v:=.int .u64 lo) rfl)
     have k3:=cell_regrown (HA.out.cell 3 (v:=.int .i64 s) rfl)
     refine wp_region_quiet_below (by kernel_rfl) (by kernel_rfl) ?_
     repeat (any_goals (first|go_big_quiet_step (first|(exact HC.out _ _ _)|(exact HD.out _ _ _))|quiet_step (first|(exact HC.out _ _ _)|(exact HD.out _ _ _))))
     refine wpQuiet_nil ?_
     intro _ hw'
     obtain ⟨⟨dq,osq⟩,hw''⟩:=hw'
     subst hw''
     have kb:=Lib.hid (RowKit.Below.trans HB.out ((below_regrown W0 dq osq).mono HB.out.size))
     have ka:=Lib.hid (HA.out.below (below_regrown W0 dq osq) HA.out.lt)
     clear k0 k1 k2 k3
     generalize grow (redrawn W0 dq) osq=W1 at ka kb ⊢
     have k0:=ka.out.cell 0 (v:=.bool neg) rfl
     have k1:=ka.out.cell 1 (v:=.int .u64 hi) rfl
     have k2:=ka.out.cell 2 (v:=.int .u64 lo) rfl
     have k3:=ka.out.cell 3 (v:=.int .i64 s) rfl
     go_wp2_with fail
     refine (zero_yes' neg hi lo s _ HZ.out).mono ?_
     rintro e W2' ⟨rfl,hb⟩
     clear k0 k1 k2 k3
     have kc:=keepB kb hb
     have kd:=keepA ka hb
     clear kb ka hb
     have k0:=kd.out.cell 0 (v:=.bool neg) rfl
     have k1:=kd.out.cell 1 rfl
     have k2:=kd.out.cell 2 rfl
     have k3:=kd.out.cell 3 rfl
     cases neg
     ·go_wp2_with fail
      go_ret;exact ⟨by rw [HN.out,HV.out,HV'.out];cases z <;> rfl,kc.out⟩
     ·go_wp2_with fail
      go_ret;exact ⟨by rw [HN.out,HV.out,HV'.out];cases z <;> rfl,kc.out⟩
    ·have HV:=Lib.hid (dcmB_num (neg:=neg) hn n0 s0' s1')
     have HW:=Lib.hid h
     have H0:=Lib.hid n0
     clear s0 s1 s0' s1' hn hbW h n0
     obtain ⟨z,hz⟩:∃ z,decide (s=0)=z:=⟨_,rfl⟩
     have dz:(s == 0)=z:=hz
     have HV':=Lib.hid hz
     clear hz
     go_enter Tryz.func133,Tryz.ntmps133
     go_wp2_with fail
     refine name_world ?_
     intro W0 hW0
     rw [← hW0] at HA HB
     clear hW0
     have k0:=cell_regrown (HA.out.cell 0 (v:=.bool neg) rfl)
     have k1:=cell_regrown (HA.out.cell 1 (v:=.int .u64 hi) rfl)
     have k2:=cell_regrown (HA.out.cell 2 (v:=.int .u64 lo) rfl)
     have k3:=cell_regrown (HA.out.cell 3 (v:=.int .i64 s) rfl)
     refine wp_region_quiet_below (by kernel_rfl) (by kernel_rfl) ?_
     repeat (any_goals (first|go_big_quiet_step (first|(exact HC.out _ _ _)|(exact HD.out _ _ _))|quiet_step (first|(exact HC.out _ _ _)|(exact HD.out _ _ _))))
     refine wpQuiet_nil ?_
     intro _ hw'
     obtain ⟨⟨dq,osq⟩,hw''⟩:=hw'
     subst hw''
     have kb:=Lib.hid (RowKit.Below.trans HB.out ((below_regrown W0 dq osq).mono HB.out.size))
     have ka:=Lib.hid (HA.out.below (below_regrown W0 dq osq) HA.out.lt)
     clear k0 k1 k2 k3
     generalize grow (redrawn W0 dq) osq=W1 at ka kb ⊢
     have k0:=ka.out.cell 0 (v:=.bool neg) rfl
     have k1:=ka.out.cell 1 (v:=.int .u64 hi) rfl
     have k2:=ka.out.cell 2 (v:=.int .u64 lo) rfl
     have k3:=ka.out.cell 3 (v:=.int .i64 s) rfl
     go_wp2_with fail
     refine (zero_no neg n hi lo s _ HW.out H0.out).mono ?_
     rintro e W2' ⟨rfl,hb⟩
     clear k0 k1 k2 k3
     have kc:=keepB kb hb
     have kd:=keepA ka hb
     clear kb ka hb
     have k0:=kd.out.cell 0 (v:=.bool neg) rfl
     have k1:=kd.out.cell 1 rfl
     have k2:=kd.out.cell 2 rfl
     have k3:=kd.out.cell 3 rfl
     go_wp2_with fail
     refine (trim_any n _ _ _ HW.out H0.out).mono ?_
     rintro e W3 ⟨m,k,mh,ml,rfl,hm,hmk,hm0,hb'⟩
     have dk:((k:Int) == 0)=decide (n % 10≠0):=trim_k hmk hm0
     obtain ⟨y,hy⟩:∃ y,decide (n % 10≠0)=y:=⟨_,rfl⟩
     rw [hy] at dk
     have HY:=Lib.hid hy
     have kx:=((keepA kd hb').out.alloc (.cells #[.int .u64 mh,.int .u64 ml] 24)).cell 3 (v:=.int .i64 s) rfl
     have ke:=Lib.hid ((keepB kc hb').out.alloc (by have:=(keepB kc hb').out.size;exact this) (.cells #[.int .u64 mh,.int .u64 ml] 24))
     clear hm hmk hm0 hy hb' k0 k1 k2 k3
     cases z
     ·go_wp2_with fail
      go_ret;exact ⟨by rw [HV.out,HV'.out,HY.out];rfl,ke.out⟩
     ·go_wp2_with fail
      go_ret;exact ⟨by rw [HV.out,HV'.out,HY.out];rfl,ke.out⟩
 ·have HV:=Lib.hid (dcmB_big (neg:=neg) (s:=s) hn)
  rcases cmpI_ge (a:=n) (b:=10 ^ 34) (by omega) with hx|hx
  ·have HC:=Lib.hid (cmp_fix h hbW hx)
   clear hn hbW hx h
   go_enter Tryz.func133,Tryz.ntmps133
   go_wp2_with fail
   refine name_world ?_
   intro W0 hW0
   rw [← hW0] at HA HB
   clear hW0
   have k0:=cell_regrown (HA.out.cell 0 (v:=.bool neg) rfl)
   have k1:=cell_regrown (HA.out.cell 1 (v:=.int .u64 hi) rfl)
   have k2:=cell_regrown (HA.out.cell 2 (v:=.int .u64 lo) rfl)
   have k3:=cell_regrown (HA.out.cell 3 (v:=.int .i64 s) rfl)
   refine wp_region_quiet_below (by kernel_rfl) (by kernel_rfl) ?_
   repeat (any_goals (first|go_big_quiet_step (first|(exact HC.out _ _ _)|(exact HD.out _ _ _))|quiet_step (first|(exact HC.out _ _ _)|(exact HD.out _ _ _))))
   refine wpQuiet_nil ?_
   intro _ hw'
   obtain ⟨⟨dq,osq⟩,hw''⟩:=hw'
   subst hw''
   have kb:=Lib.hid (RowKit.Below.trans HB.out ((below_regrown W0 dq osq).mono HB.out.size))
   have ka:=Lib.hid (HA.out.below (below_regrown W0 dq osq) HA.out.lt)
   clear k0 k1 k2 k3
   generalize grow (redrawn W0 dq) osq=W1 at ka kb ⊢
   have k0:=ka.out.cell 0 (v:=.bool neg) rfl
   have k1:=ka.out.cell 1 (v:=.int .u64 hi) rfl
   have k2:=ka.out.cell 2 (v:=.int .u64 lo) rfl
   have k3:=ka.out.cell 3 (v:=.int .i64 s) rfl
   go_wp2_with fail
   go_ret;exact ⟨by rw [HV.out];rfl,kb.out⟩
  ·have HC:=Lib.hid (cmp_fix h hbW hx)
   clear hn hbW hx h
   go_enter Tryz.func133,Tryz.ntmps133
   go_wp2_with fail
   refine name_world ?_
   intro W0 hW0
   rw [← hW0] at HA HB
   clear hW0
   have k0:=cell_regrown (HA.out.cell 0 (v:=.bool neg) rfl)
   have k1:=cell_regrown (HA.out.cell 1 (v:=.int .u64 hi) rfl)
   have k2:=cell_regrown (HA.out.cell 2 (v:=.int .u64 lo) rfl)
   have k3:=cell_regrown (HA.out.cell 3 (v:=.int .i64 s) rfl)
   refine wp_region_quiet_below (by kernel_rfl) (by kernel_rfl) ?_
   repeat (any_goals (first|go_big_quiet_step (first|(exact HC.out _ _ _)|(exact HD.out _ _ _))|quiet_step (first|(exact HC.out _ _ _)|(exact HD.out _ _ _))))
   refine wpQuiet_nil ?_
   intro _ hw'
   obtain ⟨⟨dq,osq⟩,hw''⟩:=hw'
   subst hw''
   have kb:=Lib.hid (RowKit.Below.trans HB.out ((below_regrown W0 dq osq).mono HB.out.size))
   have ka:=Lib.hid (HA.out.below (below_regrown W0 dq osq) HA.out.lt)
   clear k0 k1 k2 k3
   generalize grow (redrawn W0 dq) osq=W1 at ka kb ⊢
   have k0:=ka.out.cell 0 (v:=.bool neg) rfl
   have k1:=ka.out.cell 1 (v:=.int .u64 hi) rfl
   have k2:=ka.out.cell 2 (v:=.int .u64 lo) rfl
   have k3:=ka.out.cell 3 (v:=.int .i64 s) rfl
   go_wp2_with fail
   go_ret;exact ⟨by rw [HV.out];rfl,kb.out⟩
def dig (n:Nat):List Nat:=if h:n=0 then [] else n % 10 :: dig (n / 10)
termination_by n
decreasing_by omega
theorem dig_zero:dig 0=[]:=by unfold dig;rfl
theorem dig_pos {n:Nat} (h:n≠0):dig n=n % 10 :: dig (n / 10):=by rw [dig];rw [dif_neg h]
def tw:List Nat→Nat→List Nat
 | [],b=>if b=0 then [] else [b]
 | x :: xs,b=>(2 * x + b) % 10 :: tw xs ((2 * x + b) / 10)
theorem tw_dig (v:Nat):∀ b,b≤1→tw (dig v) b=dig (2 * v + b):=by
 induction v using Nat.strongRecOn with
 | ind v ih=>
  intro b hb
  by_cases hv:v=0
  ·subst hv
   rw [dig_zero]
   unfold tw
   by_cases h0:b=0
   ·subst h0;rw [if_pos rfl];exact dig_zero.symm
   ·rw [if_neg h0,dig_pos (by omega),show (2 * 0 + b) / 10=0 by omega,dig_zero,show (2 * 0 + b) % 10=b by omega]
  ·rw [dig_pos hv,dig_pos (n:=2 * v + b) (by omega)]
   unfold tw
   rw [ih (v / 10) (by omega) _ (by omega)]
   congr 1
   ·omega
   ·congr 1;omega
theorem dig_nine (v:Nat):∀ x ∈ dig v,x≤9:=by
 induction v using Nat.strongRecOn with
 | ind v ih=>
  by_cases hv:v=0
  ·subst hv;rw [dig_zero];intro x hx;cases hx
  ·rw [dig_pos hv]
   intro x hx
   rcases List.mem_cons.1 hx with rfl|hx
   ·omega
   ·exact ih (v / 10) (by omega) x hx
theorem dig_len (k:Nat):∀ v,v < 10 ^ k→(dig v).length≤k:=by
 induction k with
 | zero=>intro v hv;rw [show v=0 by omega,dig_zero];simp
 | succ k ih=>
  intro v hv
  by_cases h0:v=0
  ·rw [h0,dig_zero];simp
  ·rw [dig_pos h0,List.length_cons]
   have:=ih (v / 10) (by rw [Nat.pow_succ] at hv;omega)
   omega
theorem dig_len_ge (k:Nat):∀ v,10 ^ k≤v→k < (dig v).length:=by
 induction k with
 | zero=>intro v hv;rw [dig_pos (by omega)];simp
 | succ k ih=>
  intro v hv
  have h1:10 ^ k≤v / 10:=by rw [Nat.pow_succ] at hv;omega
  have h2:=ih _ h1
  have:0 < 10 ^ k:=Nat.pow_pos (by omega)
  rw [dig_pos (by omega),List.length_cons]
  omega
def iV (x:Nat):Value:=.int .i64 x
def DigRow (w:World) (B:Nat) (v:Value) (l:List Nat):Prop:=w.ownsRow B 3 1 v l.length (l.map iV)
theorem DigRow.shape {w:World} {B:Nat} {v:Value} {l:List Nat} (h:DigRow w B v l):∃ p cap,v = .slice p l.length cap∧∀ (j x:Nat),l[j]? = some x→∃ g,p=some ⟨g,0,none⟩∧g < w.heap.size∧w.cell? ⟨g,j,none⟩=some (.int .i64 x):=by
 unfold DigRow at h
 have h':=h
 obtain ⟨hl,⟨rfl,h0⟩ | ⟨g,cap,cur,rfl,hb,hh,_⟩⟩:=h
 ·have:l=[]:=by cases l with
   | nil=>rfl
   | cons a b=>simp at h0
  subst this
  exact ⟨none,0,rfl,fun j x hx=>by simp at hx⟩
 ·refine ⟨some ⟨g,0,none⟩,cap,rfl,fun j x hx=>⟨g,rfl,?_,own_cell h' (by rw [List.getElem?_map,hx];rfl)⟩⟩
  by_cases hlt:g < w.heap.size
  ·exact hlt
  ·rw [Array.getElem?_eq_none (by omega)] at hh
   cases hh
theorem i_info:(Tryz.prog.info? 3).map (fun i=>(i.zero,i.size,i.bytes))=some (some (.int .i64 0),1,8):=by kernel_rfl
set_option maxHeartbeats 2000000 in
theorem twice_any (ds:List Nat) (b B:Nat) (v:Value) (w:World) (hB:B≤w.heap.size) (hr:DigRow w B v ds) (h9:∀ x ∈ ds,x≤9) (hb:b≤1) (hn:ds.length≤1000) :
  Calls Tryz.prog 198 #[v,.int .i64 b] w fun e w'=>∃ v',e = .returned v'∧DigRow w' w.heap.size v' (tw ds b)∧Below w.heap.size w w':=by
 obtain ⟨i0,hi,hz0,hz1,hz2⟩:=info_parts i_info
 obtain ⟨p,cap,rfl,hp⟩:=hr.shape
 have H9:=Lib.hid h9
 have HP:=Lib.hid hp
 have HOwn0:=Lib.hid (show DigRow w w.heap.size (.slice none 0 0) [] from own_none _ _ _)
 clear hr h9 hp hB
 go_enter Tryz.func198,Tryz.ntmps198
 go_wp2
 go_loopw [1,5,6,7] (fun bv ov iv _ wr=>∃ (c i:Nat) (out:List Nat),bv = .int .i64 c∧iv = .int .i64 i∧c≤1∧i≤ds.length∧out.length=i∧Hid (tw ds b=out++tw (ds.drop i) c)∧Hid (DigRow wr w.heap.size ov out)∧Hid (Below w.heap.size w wr)) (fun _ _ iv _ _=>ds.length - (intOf iv).toNat)
 case atStart=>exact ⟨b,0,[],rfl,rfl,hb,by omega,rfl,Lib.hid rfl,HOwn0,Below.refl _ _⟩
 case round=>
  obtain ⟨c,i,out,rfl,rfl,hc,hil,hlen,HT,HO,HBl⟩:=hrel
  by_cases hlt:i < ds.length
  ·obtain ⟨g,hpg,hg,hcell⟩:=HP.out i ds[i] (List.getElem?_eq_getElem hlt)
   have hx9:=H9.out ds[i] (List.getElem_mem hlt)
   generalize hx:ds[i]=x at *
   subst hpg
   have hcell':=(HBl.out.cell (p:=⟨g,i,none⟩) hg).trans hcell
   have hszs:=HBl.out.size
   have E1:=Lib.hid (show Value.int .i64 ((2 * (x:Int) + c) % 10)=iV ((2 * x + c) % 10) by unfold iV;push_cast;rfl)
   have HT1:=Lib.hid (show tw ds b=(out++[(2 * x + c) % 10])++tw (ds.drop (i + 1)) ((2 * x + c) / 10) by
    rw [HT.out,List.drop_eq_getElem_cons hlt,hx,tw,List.append_assoc];rfl)
   have K3:=Lib.hid (show out.length + 1≤maxLen by unfold maxLen;omega)
   have K4:=Lib.hid (show (out.length + 1) * 8≤140737488355328 by omega)
   have K5:=Lib.hid (show w.heap.size≤(wr.alloc (.cells #[.int .i64 ((2 * (x:Int) + c) % 10)] 3)).heap.size by simp;omega)
   have HOa:=HO
   unfold DigRow at HOa
   have hq:(2 * (x:Int) + c) / 10=((2 * x + c) / 10:Nat):=by push_cast;rfl
   go_wp2_with (at_builtin;refine wpList_append_own _ rfl _ _ 106 rfl w.heap.size 3 i0 (.int .i64 0) 1 8 Tryz.underlying106 hi hz0 hz1 hz2 rfl (by decide) _ _ _ rfl (HOa.out.alloc _) ⟨wr.heap.size,0,none⟩ 1 1 [.int .i64 ((2 * (x:Int) + c) % 10)] rfl rfl ?c1 ?c2 K3.out K4.out K5.out ?_)
   case c1=>exact lit_cells _ _ _
   case c2=>exact lit_one rfl
   intro v' w1 hown1 hgrow1 hnil1
   have hb1:=below_own (HBl.out.alloc hszs _) K5.out (HOa.out.alloc _) hgrow1
   have HOwn:=Lib.hid (show DigRow w1 w.heap.size v' (out++[(2 * x + c) % 10]) by
    rw [E1.out] at hown1
    unfold DigRow
    rw [List.length_append,List.length_singleton,List.map_append,List.map_singleton,hlen]
    exact hown1)
   have HB1:=Lib.hid hb1
   clear hown1 hgrow1 hnil1 hb1
   go_wp2
   go_roundw
   case rel=>exact ⟨(2 * x + c) / 10,i + 1,out++[(2 * x + c) % 10],by go_num,by go_num,by omega,by omega,by simp;omega,HT1,HOwn,HB1⟩
   case measure=>simp [intOf];omega
  ·have hi2:i=ds.length:=by omega
   have HT1:=Lib.hid (show tw ds b=out++tw [] c by rw [HT.out,List.drop_of_length_le (by omega)])
   by_cases hc0:c=0
   ·subst hc0
    have HT2:=Lib.hid (show tw ds b=out by rw [HT1.out];simp [tw])
    clear hi2
    go_wp2
    go_ret
    exact ⟨_,rfl,by rw [HT2.out];exact HO.out,HBl.out⟩
   ·have hc1:c=1:=by omega
    subst hc1
    have HT2:=Lib.hid (show tw ds b=out++[1] by rw [HT1.out];rfl)
    have hszs:=HBl.out.size
    have K3:=Lib.hid (show out.length + 1≤maxLen by unfold maxLen;omega)
    have K4:=Lib.hid (show (out.length + 1) * 8≤140737488355328 by omega)
    have K5:=Lib.hid (show w.heap.size≤(wr.alloc (.cells #[.int .i64 ((1:Nat):Int)] 3)).heap.size by simp;omega)
    have HOa:=HO
    unfold DigRow at HOa
    clear hi2
    go_wp2_with (at_builtin;refine wpList_append_own _ rfl _ _ 106 rfl w.heap.size 3 i0 (.int .i64 0) 1 8 Tryz.underlying106 hi hz0 hz1 hz2 rfl (by decide) _ _ _ rfl (HOa.out.alloc _) ⟨wr.heap.size,0,none⟩ 1 1 [.int .i64 ((1:Nat):Int)] rfl rfl ?c1 ?c2 K3.out K4.out K5.out ?_)
    case c1=>exact lit_cells _ _ _
    case c2=>exact lit_one rfl
    intro v' w1 hown1 hgrow1 hnil1
    have hb1:=below_own (HBl.out.alloc hszs _) K5.out (HOa.out.alloc _) hgrow1
    have HOwn:=Lib.hid (show DigRow w1 w.heap.size v' (out++[1]) by
     unfold DigRow
     rw [List.length_append,List.length_singleton,List.map_append,List.map_singleton,hlen]
     exact hown1)
    have HB1:=Lib.hid hb1
    clear hown1 hgrow1 hnil1 hb1
    go_wp2
    go_ret
    exact ⟨_,rfl,by rw [HT2.out];exact HOwn.out,HB1.out⟩
theorem bits_step (acc x k:Nat):2 * (acc * 2 ^ (64 - (k + 1)) + x / 2 ^ (k + 1)) + x / 2 ^ k % 2=2 * (acc * 2 ^ (64 - (k + 1))) + x / 2 ^ k:=by
 have h:x / 2 ^ (k + 1)=x / 2 ^ k / 2:=by rw [Nat.pow_succ,Nat.div_div_eq_div_mul]
 rw [h]
 omega
theorem DigRow.mono {w:World} {B B' : Nat} {v:Value} {l:List Nat} (h:DigRow w B v l) (hB:B'≤B):DigRow w B' v l:=by
 obtain ⟨hl,h0 | ⟨g,cap,cur,hv,hb,hh⟩⟩:=h
 ·exact ⟨hl,Or.inl h0⟩
 ·exact ⟨hl,Or.inr ⟨g,cap,cur,hv,Nat.le_trans hB hb,hh⟩⟩
theorem and_one (z:Int) (h0:0≤z) (h1:z < 18446744073709551616):bits .and .u64 z 1=z % 2:=by go_bits2
theorem bit_of (x k:Nat) (hx:x < 2 ^ 64):wrap64 (bits .and .u64 ((x:Int) / 2 ^ k) 1)=((x / 2 ^ k % 2:Nat):Int):=by
 have e:(x:Int) / 2 ^ k=((x / 2 ^ k:Nat):Int):=by push_cast;rfl
 have h1:x / 2 ^ k≤x:=Nat.div_le_self _ _
 rw [e]
 generalize x / 2 ^ k=y at h1 ⊢
 rw [and_one _ (by omega) (by omega)]
 unfold wrap64
 omega
def wA (hi n j:Nat):Nat:=if j=2 then 0 else if j=1 then hi else n
def wX (hi lo j:Nat):Nat:=if j=2 then hi else lo
theorem wA_step {n hi lo j:Nat} (h:W2 n hi lo) (h0:1≤j) (h2:j≤2):wA hi n (j - 1)=wA hi n j * 2 ^ 64 + wX hi lo j∧wX hi lo j < 2 ^ 64∧wA hi n (j - 1) < 2 ^ 128∧wA hi n j < 2 ^ 64:=by
 obtain ⟨h3,h4,h5⟩:=h
 have:j=1∨j=2:=by omega
 rcases this with rfl|rfl <;> simp [wA,wX] <;> omega
theorem part_lt {A x m n:Nat} (hm:m≤64) (hA:n=A * 2 ^ 64 + x) (hn:n < 2 ^ 128):A * 2 ^ (64 - m) + x / 2 ^ m < 10 ^ 39:=by
 have h1:A * 2 ^ (64 - m)≤A * 2 ^ 64:=Nat.mul_le_mul_left _ (Nat.pow_le_pow_right (by omega) (by omega))
 have h2:x / 2 ^ m≤x:=Nat.div_le_self _ _
 have:(2:Nat) ^ 128 < 10 ^ 39:=by decide
 omega
set_option maxHeartbeats 4000000 in
theorem words_any (lo hi:Nat) (n:Nat) (w:World) (h:W2 n hi lo) :
  Calls Tryz.prog 145 #[.slice (some ⟨w.heap.size,0,none⟩) 2 2] (w.alloc (.cells #[.int .u64 lo,.int .u64 hi] 22)) fun e w'=>∃ v',e = .returned v'∧DigRow w' w.heap.size v' (dig n)∧Below w.heap.size w w':=by
 have HW:=Lib.hid h
 have HA:=Lib.hid (At.new w 22 #[.int .u64 lo,.int .u64 hi])
 have HB:=Lib.hid ((Below.refl _ w).alloc (Nat.le_refl _) (.cells #[.int .u64 lo,.int .u64 hi] 22))
 clear h
 go_enter Tryz.func145,Tryz.ntmps145
 refine name_world ?_
 intro W0 hW0
 rw [← hW0] at HA HB
 clear hW0
 go_wp2
 go_loopw [3,4,5] (fun ov iv _ wr=>∃ (j:Nat),iv = .int .i64 ((j:Int) - 1)∧j≤2∧Hid (DigRow wr w.heap.size ov (dig (wA hi n j)))∧Hid (At wr w.heap.size 22 #[.int .u64 lo,.int .u64 hi])∧Hid (Below w.heap.size w wr)) (fun _ iv _ _=>(intOf iv + 1).toNat)
 case atStart=>exact ⟨2,rfl,by omega,by rw [show wA hi n 2=0 from rfl,dig_zero];exact ⟨rfl,Or.inl ⟨rfl,rfl⟩⟩,HA,HB⟩
 case round=>
  obtain ⟨j,rfl,hj2,HO,HAr,HBr⟩:=hrel
  by_cases hj:1≤j
  ·have HX:Hid (∀ W:World,At W w.heap.size 22 #[.int .u64 lo,.int .u64 hi]→W.cell? ⟨w.heap.size,j - 1,none⟩=some (.int .u64 (wX hi lo j))):=by
    intro W hW
    have:j=1∨j=2:=by omega
    rcases this with rfl|rfl
    ·exact hW.cell 0 rfl
    ·exact hW.cell 1 rfl
   have HS:=Lib.hid (wA_step HW.out hj hj2)
   generalize wX hi lo j=x at *
   generalize hA:wA hi n j=A at *
   have hx:=HS.out.2.1
   have dj:decide ((1:Int)≤(j:Int))=true:=decide_eq_true (by omega)
   go_wp2_with fail
   go_loopw [3,5] (fun ov kv wr=>∃ (m:Nat),kv = .int .i64 ((m:Int) - 1)∧m≤64∧Hid (DigRow wr w.heap.size ov (dig (A * 2 ^ (64 - m) + x / 2 ^ m)))∧Hid (At wr w.heap.size 22 #[.int .u64 lo,.int .u64 hi])∧Hid (Below w.heap.size w wr)) (fun _ kv _=>(intOf kv + 1).toNat)
   case atStart=>exact ⟨64,rfl,by omega,by rw [show A * 2 ^ (64 - 64) + x / 2 ^ 64=A by rw [Nat.div_eq_of_lt hx];simp];exact HO,HAr,HBr⟩
   case round=>
    obtain ⟨m,rfl,hm,HO2,HAr2,HBr2⟩:=hrel
    by_cases hm1:1≤m
    ·obtain ⟨k,rfl⟩:∃ k,m=k + 1:=⟨m - 1,by omega⟩
     have hcx:=HX.out _ HAr2.out
     have e1:((k + 1:Nat):Int) - 1=(k:Int):=by omega
     rw [e1]
     have e2:=bit_of x k hx
     have E3:=Lib.hid (show 2 * (A * 2 ^ (64 - (k + 1)) + x / 2 ^ (k + 1)) + x / 2 ^ k % 2=A * 2 ^ (64 - k) + x / 2 ^ k by
      rw [bits_step,← Nat.mul_assoc,Nat.mul_comm 2,Nat.mul_assoc,← Nat.pow_succ']
      rw [show (64 - (k + 1)).succ=64 - k by omega])
     have E4:=Lib.hid (part_lt (A:=A) (x:=x) (n:=wA hi n (j - 1)) hm HS.out.1 HS.out.2.2.1)
     go_wp2_with fail
     rw [e2]
     refine (twice_any _ (x / 2 ^ k % 2) w.heap.size u3 wr HBr2.out.size HO2.out (dig_nine _) (by omega) (Nat.le_trans (dig_len 39 _ E4.out) (by omega))).mono ?_
     rintro e w3 ⟨v',rfl,hd,hb3⟩
     rw [tw_dig _ _ (by omega),E3.out] at hd
     have HO3:=Lib.hid (hd.mono HBr2.out.size)
     have HA3:=keepA HAr2 hb3
     have HB3:=keepB HBr2 hb3
     clear hd hb3
     go_wp2
     go_roundw
     case rel=>exact ⟨k,by go_num,by omega,HO3,HA3,HB3⟩
     case measure=>simp [intOf]
    ·have hm0:m=0:=by omega
     subst hm0
     have HO3:Hid (DigRow wr w.heap.size u3 (dig (wA hi n (j - 1)))):=Lib.hid (by
      rw [HS.out.1]
      have:=HO2.out
      simpa using this)
     go_wp2
     go_roundw
     case rel=>exact ⟨j - 1,by go_num,by omega,HO3,HAr2,HBr2⟩
     case measure=>simp [intOf];omega
  ·have hj0:j=0:=by omega
   subst hj0
   go_wp2
   go_ret
   exact ⟨_,rfl,HO.out,HBr.out⟩
theorem of_any (n hi lo:Nat) (w:World) (h:W2 n hi lo) :
  Calls Tryz.prog 97 #[.agg #[.int .u64 hi,.int .u64 lo]] w fun e w'=>∃ v',e = .returned v'∧DigRow w' w.heap.size v' (dig n)∧Below w.heap.size w w':=by
 have HW:=Lib.hid h
 have HA:=Lib.hid (At.new w 24 #[.int .u64 hi,.int .u64 lo])
 have HB:=Lib.hid ((Below.refl _ w).alloc (Nat.le_refl _) (.cells #[.int .u64 hi,.int .u64 lo] 24))
 clear h
 go_enter Tryz.func97,Tryz.ntmps97
 have hc:=words_any lo hi n (w.alloc (.cells #[.int .u64 hi,.int .u64 lo] 24)) HW.out
 rw [size_alloc] at hc
 have HC:=Lib.hid hc
 clear hc
 go_wp2_with fail
 refine HC.out.mono ?_
 rintro e w1 ⟨v',rfl,hd,hb⟩
 have HO:=Lib.hid (hd.mono (Nat.le_succ _))
 have HB1:=Lib.hid (HB.out.trans (hb.mono (Nat.le_succ _)))
 clear hd hb
 go_wp2
 go_ret
 exact ⟨_,rfl,HO.out,HB1.out⟩
set_option maxHeartbeats 1000000 in
theorem rForm_any (neg:Bool) (n hi lo:Nat) (s:Int) (w:World) (h:W2 n hi lo) :
  Calls Tryz.prog 92 #[.agg #[.bool neg,.int .u64 hi,.int .u64 lo,.int .i64 s]] w fun e w'=>e = .returned (.bool (dcmB neg n s))∧Below w.heap.size w w':=by
 have HW:=Lib.hid h
 have HA:=Lib.hid (At.new w 26 #[.bool neg,.int .u64 hi,.int .u64 lo,.int .i64 s])
 have HB:=Lib.hid ((Below.refl _ w).alloc (Nat.le_refl _) (.cells #[.bool neg,.int .u64 hi,.int .u64 lo,.int .i64 s] 26))
 clear h
 go_enter Tryz.func92,Tryz.ntmps92
 go_wp2_with fail
 generalize w.alloc (.cells #[.bool neg,.int .u64 hi,.int .u64 lo,.int .i64 s] 26)=W0 at HA HB ⊢
 refine (of_any n hi lo W0 HW.out).mono ?_
 rintro e w1 ⟨v',rfl,hd,hb⟩
 obtain ⟨p,cap,rfl,hp⟩:=hd.shape
 have HA1:=keepA HA hb
 have HB1:=keepB HB hb
 have HP:=Lib.hid hp
 clear hd hb HA HB hp
 have k0:=HA1.out.cell 0 (v:=.bool neg) rfl
 have k3:=HA1.out.cell 3 (v:=.int .i64 s) rfl
 by_cases hn:n < 10 ^ 34
 ·have hl:(dig n).length≤34:=dig_len 34 n hn
  have dl:decide ((34:Int) < ((dig n).length:Int))=false:=decide_eq_false (by omega)
  by_cases s0:s < 0
  ·have HV:=Lib.hid (dcmB_scale (neg:=neg) (n:=n) (Or.inl s0))
   have ds:decide (s < 0)=true:=decide_eq_true s0
   clear s0 hn hl
   go_wp2
   go_ret
   exact ⟨by rw [HV.out];rfl,HB1.out⟩
  ·have ds:decide (s < 0)=false:=decide_eq_false s0
   by_cases s1:18 < s
   ·have HV:=Lib.hid (dcmB_scale (neg:=neg) (n:=n) (Or.inr s1))
    have dt:decide (18 < s)=true:=decide_eq_true s1
    clear s0 s1 hn hl
    go_wp2
    go_ret
    exact ⟨by rw [HV.out];rfl,HB1.out⟩
   ·have dt:decide (18 < s)=false:=decide_eq_false s1
    have s0' : 0≤s:=by omega
    have s1' : s≤18:=by omega
    obtain ⟨z,hz⟩:∃ z,decide (s=0)=z:=⟨_,rfl⟩
    have dz:(s == 0)=z:=hz
    by_cases n0:n=0
    ·have HV:=Lib.hid (dcmB_zero (neg:=neg) s0' s1')
     have HN:=Lib.hid n0
     rw [hz] at HV
     have d0:(((dig n).length:Int) == 0)=true:=by rw [n0,dig_zero];rfl
     clear s0 s1 hn hl s0' s1' hz n0
     cases neg
     ·go_wp2
      go_ret
      exact ⟨by rw [HN.out,HV.out];cases z <;> rfl,HB1.out⟩
     ·go_wp2
      go_ret
      exact ⟨by rw [HN.out,HV.out];cases z <;> rfl,HB1.out⟩
    ·have HV:=Lib.hid (dcmB_num (neg:=neg) hn n0 s0' s1')
     rw [hz] at HV
     have hdp:=dig_pos n0
     obtain ⟨g,hpg,hg,hcell⟩:=HP.out 0 (n % 10) (by rw [hdp];rfl)
     subst hpg
     have hl1:1≤(dig n).length:=by rw [hdp];simp
     have d0:(((dig n).length:Int) == 0)=false:=beq_false_of_ne (by omega)
     obtain ⟨y,hy⟩:∃ y,decide (n % 10≠0)=y:=⟨_,rfl⟩
     have dy:(((n % 10:Nat):Int) != 0)=y:=by
      rw [← hy]
      by_cases h0:n % 10=0
      ·rw [h0];rfl
      ·rw [decide_eq_true h0,bne_iff_ne];omega
     rw [hy] at HV
     generalize n % 10=r at *
     clear s0 s1 hn s0' s1' hz n0 hy hdp
     cases z
     ·go_wp2
      go_ret
      exact ⟨by rw [HV.out];rfl,HB1.out⟩
     ·go_wp2
      go_ret
      exact ⟨by rw [HV.out];rfl,HB1.out⟩
 ·have HV:=Lib.hid (dcmB_big (neg:=neg) (s:=s) hn)
  have dl:decide ((34:Int) < ((dig n).length:Int))=true:=decide_eq_true (by have:=dig_len_ge 34 n (by omega);omega)
  clear hn
  go_wp2
  go_ret
  exact ⟨by rw [HV.out];rfl,HB1.out⟩
end Go.Proofs.YtnghlakllgkjlaaGreatDoor
