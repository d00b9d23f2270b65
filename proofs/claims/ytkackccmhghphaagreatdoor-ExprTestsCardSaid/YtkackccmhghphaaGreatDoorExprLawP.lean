/- The laws ExprParses, ExprTests: their walks. (fast) -/
import Derived.Test.YtkackccmhghphaaGreatDoorRgO
import Derived.Test.YtkackccmhghphaaGreatDoorSepMac2
import Derived.Test.YtkackccmhghphaaGreatDoorExprEv
namespace Go.Proofs.YtkackccmhghphaaGreatDoor
open Go.RowKit
set_option linter.unusedVariables false
set_option linter.unusedSimpArgs false
set_option maxRecDepth 100000

set_option maxHeartbeats 8000000 in
theorem exprParses_walk (s:ByteArray) (w:World) (hT:U8 w) :
  Calls Tryz.prog 3 #[.string s] w fun e w'=>e = .returned (.bool true)∧Below w.heap.size w w':=by
 have HM:=Lib.hid (Mem.start w)
 have HT:=Lib.hid hT
 have HA:=Lib.hid (fun W=>rParse_any s W)
 have HB:=Lib.hid (fun W h=>xParse_any s W h)
 unfold NPost at HA HB
 have hok:=parseF_ok s false
 obtain ⟨⟨l,er⟩,hr⟩:∃ x,parseF s false=x:=⟨_,rfl⟩
 simp only [hr] at HA HB hok
 have HS:=Lib.hid (fun (p q:Option Addr) (c d:Nat) W h1 h2=>rSame_any p q c d l W h1 h2 (by have:=hok.1;omega))
 have HC:=Lib.hid (fun (p:Option Addr) (c:Nat) W h1 h2=>eCheck_any p c l false W h1 (nodes_wf hok.2) (by have:=hok.1;omega) h2)
 have q0:(er == er)=true:=by simp
 by_cases h0:er=0
 ·subst h0
  obtain ⟨n,-,-,hc⟩:=parse_ok hr
  rw [hc] at HC
  clear hT hr hok hc
  go_enter Tryz.func3,Tryz.ntmps3
  go_wp2_with (first|(go_at_call 11;(with_reducible refine (xknown_any _ (U8.below HT.out HM.out.below)).mono ?_);refine cB1 HM ?_;clear HM;intro W1 HM)|(go_at_call 12;(with_reducible refine (HA.out _).mono ?_);rintro e W2 ⟨p,oc,rfl,hM2⟩;have HM1:=Lib.hid (HM.out.comp2 hM2);clear HM hM2;(try clear W1);rename World=>W1;have HM:=HM1;clear HM1;simp only [List.cons_append,List.nil_append] at HM)|(go_at_call 13;(with_reducible refine (HB.out _ (U8.below HT.out HM.out.below)).mono ?_);rintro e W2 ⟨q,od,rfl,hM2⟩;have HM1:=Lib.hid (HM.out.comp2 hM2);clear HM hM2;(try clear W1);rename World=>W1;have HM:=HM1;clear HM1;simp only [List.cons_append,List.nil_append] at HM)|(go_at_call 14;(with_reducible refine (HS.out _ _ _ _ _ (row_sl (HM.out.get (k:=1) rfl)) (row_sl (HM.out.get (k:=0) rfl))).mono ?_);rintro e W1 ⟨rfl,hb⟩;replace HM:=Lib.hid (HM.out.next hb);clear hb)|(go_at_call 15;(with_reducible refine (HC.out _ _ _ (row_sl (HM.out.get (k:=0) rfl)) (U8.below HT.out HM.out.below)).mono ?_);rintro e W1 ⟨rfl,hb⟩;replace HM:=Lib.hid (HM.out.next hb);clear hb)|((with_reducible refine skip_op ?_ ?_);exact rfl))
  go_ret
  exact ⟨rfl,HM.out.below⟩
 ·have q1:(er != 0)=true:=by simpa using h0
  clear hT hr hok
  go_enter Tryz.func3,Tryz.ntmps3
  go_wp2_with (first|(go_at_call 11;(with_reducible refine (xknown_any _ (U8.below HT.out HM.out.below)).mono ?_);refine cB1 HM ?_;clear HM;intro W1 HM)|(go_at_call 12;(with_reducible refine (HA.out _).mono ?_);rintro e W2 ⟨p,oc,rfl,hM2⟩;have HM1:=Lib.hid (HM.out.comp2 hM2);clear HM hM2;(try clear W1);rename World=>W1;have HM:=HM1;clear HM1;simp only [List.cons_append,List.nil_append] at HM)|(go_at_call 13;(with_reducible refine (HB.out _ (U8.below HT.out HM.out.below)).mono ?_);rintro e W2 ⟨q,od,rfl,hM2⟩;have HM1:=Lib.hid (HM.out.comp2 hM2);clear HM hM2;(try clear W1);rename World=>W1;have HM:=HM1;clear HM1;simp only [List.cons_append,List.nil_append] at HM)|(go_at_call 14;(with_reducible refine (HS.out _ _ _ _ _ (row_sl (HM.out.get (k:=1) rfl)) (row_sl (HM.out.get (k:=0) rfl))).mono ?_);rintro e W1 ⟨rfl,hb⟩;replace HM:=Lib.hid (HM.out.next hb);clear hb)|((with_reducible refine skip_op ?_ ?_);exact rfl))
  go_ret
  exact ⟨rfl,HM.out.below⟩

set_option maxHeartbeats 8000000 in
theorem exprTests_walk (s:ByteArray) (w:World) (hT:U8 w) :
  Calls Tryz.prog 4 #[.string s] w fun e w'=>e = .returned (.bool true)∧Below w.heap.size w w':=by
 have HM:=Lib.hid (Mem.start w)
 have HT:=Lib.hid hT
 have HA:=Lib.hid (fun W=>rDocTests_any s W)
 have HB:=Lib.hid (fun W h=>xTests_any s W h)
 unfold NPost at HA HB
 have hok:=parseF_ok s true
 obtain ⟨⟨l,er⟩,hr⟩:∃ x,parseF s true=x:=⟨_,rfl⟩
 simp only [hr] at HA HB hok
 have HS:=Lib.hid (fun (p q:Option Addr) (c d:Nat) W h1 h2=>rSame_any p q c d l W h1 h2 (by have:=hok.1;omega))
 have HC:=Lib.hid (fun (p:Option Addr) (c:Nat) W h1 h2=>eCheck_any p c l true W h1 (nodes_wf hok.2) (by have:=hok.1;omega) h2)
 have q0:(er == er)=true:=by simp
 by_cases h0:er=0
 ·subst h0
  obtain ⟨n,-,-,hc⟩:=parse_ok hr
  rw [hc] at HC
  clear hT hr hok hc
  go_enter Tryz.func4,Tryz.ntmps4
  go_wp2_with (first|(go_at_call 11;(with_reducible refine (xknown_any _ (U8.below HT.out HM.out.below)).mono ?_);refine cB1 HM ?_;clear HM;intro W1 HM)|(go_at_call 16;(with_reducible refine (HA.out _).mono ?_);rintro e W2 ⟨p,oc,rfl,hM2⟩;have HM1:=Lib.hid (HM.out.comp2 hM2);clear HM hM2;(try clear W1);rename World=>W1;have HM:=HM1;clear HM1;simp only [List.cons_append,List.nil_append] at HM)|(go_at_call 17;(with_reducible refine (HB.out _ (U8.below HT.out HM.out.below)).mono ?_);rintro e W2 ⟨q,od,rfl,hM2⟩;have HM1:=Lib.hid (HM.out.comp2 hM2);clear HM hM2;(try clear W1);rename World=>W1;have HM:=HM1;clear HM1;simp only [List.cons_append,List.nil_append] at HM)|(go_at_call 14;(with_reducible refine (HS.out _ _ _ _ _ (row_sl (HM.out.get (k:=1) rfl)) (row_sl (HM.out.get (k:=0) rfl))).mono ?_);rintro e W1 ⟨rfl,hb⟩;replace HM:=Lib.hid (HM.out.next hb);clear hb)|(go_at_call 15;(with_reducible refine (HC.out _ _ _ (row_sl (HM.out.get (k:=0) rfl)) (U8.below HT.out HM.out.below)).mono ?_);rintro e W1 ⟨rfl,hb⟩;replace HM:=Lib.hid (HM.out.next hb);clear hb)|((with_reducible refine skip_op ?_ ?_);exact rfl))
  go_ret
  exact ⟨rfl,HM.out.below⟩
 ·have q1:(er != 0)=true:=by simpa using h0
  clear hT hr hok
  go_enter Tryz.func4,Tryz.ntmps4
  go_wp2_with (first|(go_at_call 11;(with_reducible refine (xknown_any _ (U8.below HT.out HM.out.below)).mono ?_);refine cB1 HM ?_;clear HM;intro W1 HM)|(go_at_call 16;(with_reducible refine (HA.out _).mono ?_);rintro e W2 ⟨p,oc,rfl,hM2⟩;have HM1:=Lib.hid (HM.out.comp2 hM2);clear HM hM2;(try clear W1);rename World=>W1;have HM:=HM1;clear HM1;simp only [List.cons_append,List.nil_append] at HM)|(go_at_call 17;(with_reducible refine (HB.out _ (U8.below HT.out HM.out.below)).mono ?_);rintro e W2 ⟨q,od,rfl,hM2⟩;have HM1:=Lib.hid (HM.out.comp2 hM2);clear HM hM2;(try clear W1);rename World=>W1;have HM:=HM1;clear HM1;simp only [List.cons_append,List.nil_append] at HM)|(go_at_call 14;(with_reducible refine (HS.out _ _ _ _ _ (row_sl (HM.out.get (k:=1) rfl)) (row_sl (HM.out.get (k:=0) rfl))).mono ?_);rintro e W1 ⟨rfl,hb⟩;replace HM:=Lib.hid (HM.out.next hb);clear hb)|((with_reducible refine skip_op ?_ ?_);exact rfl))
  go_ret
  exact ⟨rfl,HM.out.below⟩
end Go.Proofs.YtkackccmhghphaaGreatDoor
