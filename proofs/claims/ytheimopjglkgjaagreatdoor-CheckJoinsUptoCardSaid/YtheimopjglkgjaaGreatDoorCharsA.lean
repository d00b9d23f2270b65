/- The walks over package chars' names and keywords, and the reference's. The walks over package chars' texts: what a character is, what a text is. Characters of a text, over lists of bytes: the decoder's steps, what they come to, where each character begins. No program's walk. The walks over the reference's decoder: a byte that follows, one character, the places of all. The walks over the reference's decoder: the places at which characters begin; is it a text? The walks over Count and Part, of the package and of the reference. -/
import Derived.Test.YtheimopjglkgjaaGreatDoorProg
import Derived.WalkKit
import Derived.WalkSpells
import Derived.WalkLawsBesides
import Derived.Lib.Hide
import Derived.Lib.Strings
import Derived.Test.YtheimopjglkgjaaGreatDoorShelf
import Derived.Shelf.Unicode.ValidAny
import Derived.Shelf.Strings.FuncGrows
import Derived.Lib.MapLaws
import Derived.Lib.ValidLaws
import Derived.Lib.RuneCount
import Derived.Laws.Cover4
import Derived.Shelf.GgClosure.StringsIndexFunc
import Derived.Test.YtheimopjglkgjaaGreatDoorSepA
import Derived.Laws.AppendOwn
import Derived.Lib.MinMax
import Derived.Outline
import Derived.Deep.QuietTactic
import Derived.BigQuiet
import Derived.IntWalk
import Derived.Laws.IdiomStrings
namespace Go.Proofs.YtheimopjglkgjaaGreatDoor
open Go.RowKit
set_option linter.unusedVariables false

theorem c_ret_bool {a b:Bool} (h:a=b):Ending.returned (.bool a) = .returned (.bool b):=by rw [h]

def wordB (l:List UInt8):Bool:=l == [97,110,100] || l == [98,101,116,119,101,101,110] || l == [101,108,115,101] || l == [102,97,108,115,101] || l == [105,102] || l == [105,110] || l == [110,111,116] || l == [110,117,108,108] || l == [111,114] || l == [116,104,101,110] || l == [116,114,117,101]

set_option maxHeartbeats 1000000 in
theorem word_any (s:ByteArray) (w:World) :
  Calls Tryz.prog 65 #[.string s] w fun e w'=>e = .returned (.bool (wordB s.toList))∧w=w':=by
 by_cases h0:(s.toList == [97,110,100])=true
 ·have HW:=Lib.hid (show wordB s.toList=true by unfold wordB;rw [h0];simp)
  go_enter Tryz.func65,Tryz.ntmps65
  go_wp2
  go_ret
  exact ⟨c_ret_bool HW.out.symm,rfl⟩
 rw [Bool.not_eq_true] at h0
 by_cases h1:(s.toList == [98,101,116,119,101,101,110])=true
 ·have HW:=Lib.hid (show wordB s.toList=true by unfold wordB;rw [h1];simp)
  go_enter Tryz.func65,Tryz.ntmps65
  go_wp2
  go_ret
  exact ⟨c_ret_bool HW.out.symm,rfl⟩
 rw [Bool.not_eq_true] at h1
 by_cases h2:(s.toList == [101,108,115,101])=true
 ·have HW:=Lib.hid (show wordB s.toList=true by unfold wordB;rw [h2];simp)
  go_enter Tryz.func65,Tryz.ntmps65
  go_wp2
  go_ret
  exact ⟨c_ret_bool HW.out.symm,rfl⟩
 rw [Bool.not_eq_true] at h2
 by_cases h3:(s.toList == [102,97,108,115,101])=true
 ·have HW:=Lib.hid (show wordB s.toList=true by unfold wordB;rw [h3];simp)
  go_enter Tryz.func65,Tryz.ntmps65
  go_wp2
  go_ret
  exact ⟨c_ret_bool HW.out.symm,rfl⟩
 rw [Bool.not_eq_true] at h3
 by_cases h4:(s.toList == [105,102])=true
 ·have HW:=Lib.hid (show wordB s.toList=true by unfold wordB;rw [h4];simp)
  go_enter Tryz.func65,Tryz.ntmps65
  go_wp2
  go_ret
  exact ⟨c_ret_bool HW.out.symm,rfl⟩
 rw [Bool.not_eq_true] at h4
 by_cases h5:(s.toList == [105,110])=true
 ·have HW:=Lib.hid (show wordB s.toList=true by unfold wordB;rw [h5];simp)
  go_enter Tryz.func65,Tryz.ntmps65
  go_wp2
  go_ret
  exact ⟨c_ret_bool HW.out.symm,rfl⟩
 rw [Bool.not_eq_true] at h5
 by_cases h6:(s.toList == [110,111,116])=true
 ·have HW:=Lib.hid (show wordB s.toList=true by unfold wordB;rw [h6];simp)
  go_enter Tryz.func65,Tryz.ntmps65
  go_wp2
  go_ret
  exact ⟨c_ret_bool HW.out.symm,rfl⟩
 rw [Bool.not_eq_true] at h6
 by_cases h7:(s.toList == [110,117,108,108])=true
 ·have HW:=Lib.hid (show wordB s.toList=true by unfold wordB;rw [h7];simp)
  go_enter Tryz.func65,Tryz.ntmps65
  go_wp2
  go_ret
  exact ⟨c_ret_bool HW.out.symm,rfl⟩
 rw [Bool.not_eq_true] at h7
 by_cases h8:(s.toList == [111,114])=true
 ·have HW:=Lib.hid (show wordB s.toList=true by unfold wordB;rw [h8];simp)
  go_enter Tryz.func65,Tryz.ntmps65
  go_wp2
  go_ret
  exact ⟨c_ret_bool HW.out.symm,rfl⟩
 rw [Bool.not_eq_true] at h8
 by_cases h9:(s.toList == [116,104,101,110])=true
 ·have HW:=Lib.hid (show wordB s.toList=true by unfold wordB;rw [h9];simp)
  go_enter Tryz.func65,Tryz.ntmps65
  go_wp2
  go_ret
  exact ⟨c_ret_bool HW.out.symm,rfl⟩
 rw [Bool.not_eq_true] at h9
 by_cases h10:(s.toList == [116,114,117,101])=true
 ·have HW:=Lib.hid (show wordB s.toList=true by unfold wordB;rw [h10];simp)
  go_enter Tryz.func65,Tryz.ntmps65
  go_wp2
  go_ret
  exact ⟨c_ret_bool HW.out.symm,rfl⟩
 rw [Bool.not_eq_true] at h10
 have HW:=Lib.hid (show wordB s.toList=false by unfold wordB;rw [h0,h1,h2,h3,h4,h5,h6,h7,h8,h9,h10];rfl)
 go_enter Tryz.func65,Tryz.ntmps65
 go_wp2
 go_ret
 exact ⟨c_ret_bool HW.out.symm,rfl⟩

def letB (c:Int):Bool:=decide (97≤c∧c≤122∨65≤c∧c≤90∨c=95)
def decB (c:Int):Bool:=decide (48≤c∧c≤57)
theorem letB_t {c:Int} (h:97≤c∧c≤122∨65≤c∧c≤90∨c=95):letB c=true:=decide_eq_true h
theorem letB_f {c:Int} (h:¬ (97≤c∧c≤122∨65≤c∧c≤90∨c=95)):letB c=false:=decide_eq_false h
theorem decB_t {c:Int} (h:48≤c∧c≤57):decB c=true:=decide_eq_true h
theorem decB_f {c:Int} (h:¬ (48≤c∧c≤57)):decB c=false:=decide_eq_false h

/-- Where a byte lies, as the tests ask. -/
theorem byte_split (c:Int):(c < 48)∨(48≤c∧c≤57)∨(57 < c∧c < 65)∨(65≤c∧c≤90)∨(90 < c∧c < 95)∨(c=95)∨(95 < c∧c < 97)∨(97≤c∧c≤122)∨(122 < c):=by omega

/-- The letters and digits behind the first: all so? -/
def restB (l:List UInt8):Bool:=l.all fun b=>letB b.toNat || decB b.toNat
def nameB (s:ByteArray):Bool:=!s.toList.isEmpty && decide (s.size≤64) && !wordB s.toList && (s.data.toList.take 1).all (fun b=>letB b.toNat) && restB s.data.toList

theorem restB_take {l:List UInt8} {k:Nat} {b:UInt8} (hb:l[k]? = some b):restB (l.take (k + 1))=(restB (l.take k) && (letB b.toNat || decB b.toNat)):=by
 unfold restB
 rw [List.take_add_one,hb]
 simp
theorem restB_not {l:List UInt8} {k:Nat} (h:restB (l.take k)=false):restB l=false:=by
 unfold restB at h ⊢
 rw [List.all_eq_false] at h ⊢
 obtain ⟨b,hb,hn⟩:=h
 exact ⟨b,List.mem_of_mem_take hb,hn⟩
theorem c_at {s:ByteArray} {k:Nat} (h:k < s.size):s.data.toList[k]? = some s[k]:=by
 rw [List.getElem?_eq_getElem (by simpa using h)];rfl
theorem c_take {s:ByteArray} {k:Nat} (h:s.size≤k):s.data.toList.take k=s.data.toList:=List.take_of_length_le (by simpa using h)
theorem first_take {l:List UInt8} {k:Nat} {b:UInt8} (hb:l[k]? = some b) (hk:k=0):(l.take 1).all (fun b=>letB b.toNat)=letB b.toNat:=by
 subst hk
 rw [List.take_add_one,hb]
 simp
set_option maxHeartbeats 2000000 in
theorem name_loop (s:ByteArray) (w:World) (h0:s.toList.isEmpty=false) (h1:s.size≤64) (hw:wordB s.toList=false) :
  Calls Tryz.prog 39 #[.string s] w fun e w'=>e = .returned (.bool ((s.data.toList.take 1).all (fun b=>letB b.toNat) && restB s.data.toList))∧w=w':=by
 have HW:=Lib.hid hw
 clear hw
 go_enter Tryz.func39,Tryz.ntmps39
 go_wp2_with (go_at_call 65;refine (word_any _ _).mono ?_;rintro e w' ⟨rfl,rfl⟩;rw [HW.out])
 go_loop [19] (fun iv=>∃ k:Nat,k≤s.size∧Hid (restB (s.data.toList.take k)=true)∧Hid (0 < k→(s.data.toList.take 1).all (fun b=>letB b.toNat)=true)∧iv = .int .i64 k) (fun iv=>s.size - (intOf iv).toNat)
 case atStart=>exact ⟨0,by omega,rfl,fun h=>by omega,rfl⟩
 case round=>
  obtain ⟨k,hk,HR,HF,rfl⟩:=hrel
  by_cases hlt:k < s.size
  ·have hb:=c_at hlt
   have HT:=Lib.hid (restB_take hb)
   have HFi:=Lib.hid (fun h=>first_take (k:=k) hb h)
   clear hb
   cases hk0:((k:Int) == 0)
   ·rcases byte_split (s[k].toNat:Int) with h | ⟨h,h'⟩ | ⟨h,h'⟩ | ⟨h,h'⟩ | ⟨h,h'⟩|h | ⟨h,h'⟩ | ⟨h,h'⟩|h
    ·have HL:=Lib.hid (letB_f (c:=(s[k].toNat:Int)) (by omega))
     have HD:=Lib.hid (decB_f (c:=(s[k].toNat:Int)) (by omega))
     have HX:=Lib.hid (show ((s.data.toList.take 1).all (fun b=>letB b.toNat) && restB s.data.toList)=false by rw [restB_not (k:=k + 1) (by rw [HT.out,HR.out,HL.out,HD.out];rfl)];exact Bool.and_false _)
     have h5:((s[k].toNat:Int) == 95)=false:=beq_eq_false_iff_ne.2 (by omega)
     have g1:90 < (s[k].toNat:Int)→decide ((s[k].toNat:Int)≤90)=false:=fun _=>decide_eq_false (by omega)
     have g2:122 < (s[k].toNat:Int)→decide ((s[k].toNat:Int)≤122)=false:=fun _=>decide_eq_false (by omega)
     have g3:57 < (s[k].toNat:Int)→decide ((s[k].toNat:Int)≤57)=false:=fun _=>decide_eq_false (by omega)
     first|replace g1:=g1 (by omega)|clear g1
     first|replace g2:=g2 (by omega)|clear g2
     first|replace g3:=g3 (by omega)|clear g3
     go_wp2
     go_ret
     exact ⟨c_ret_bool HX.out.symm,rfl⟩
    ·have HL:=Lib.hid (letB_f (c:=(s[k].toNat:Int)) (by omega))
     have HD:=Lib.hid (decB_t (c:=(s[k].toNat:Int)) (by omega))
     have HN:=Lib.hid (show restB (s.data.toList.take (k + 1))=true by rw [HT.out,HR.out,HL.out,HD.out];rfl)
     have HG:=Lib.hid (HF.out (by rw [beq_eq_false_iff_ne] at hk0;omega))
     go_wp2
     go_round
     case rel=>exact ⟨k + 1,by omega,HN,fun _=>HG.out,by go_num⟩
     case measure=>simp [intOf];omega
    ·have HL:=Lib.hid (letB_f (c:=(s[k].toNat:Int)) (by omega))
     have HD:=Lib.hid (decB_f (c:=(s[k].toNat:Int)) (by omega))
     have HX:=Lib.hid (show ((s.data.toList.take 1).all (fun b=>letB b.toNat) && restB s.data.toList)=false by rw [restB_not (k:=k + 1) (by rw [HT.out,HR.out,HL.out,HD.out];rfl)];exact Bool.and_false _)
     have h5:((s[k].toNat:Int) == 95)=false:=beq_eq_false_iff_ne.2 (by omega)
     have g1:90 < (s[k].toNat:Int)→decide ((s[k].toNat:Int)≤90)=false:=fun _=>decide_eq_false (by omega)
     have g2:122 < (s[k].toNat:Int)→decide ((s[k].toNat:Int)≤122)=false:=fun _=>decide_eq_false (by omega)
     have g3:57 < (s[k].toNat:Int)→decide ((s[k].toNat:Int)≤57)=false:=fun _=>decide_eq_false (by omega)
     first|replace g1:=g1 (by omega)|clear g1
     first|replace g2:=g2 (by omega)|clear g2
     first|replace g3:=g3 (by omega)|clear g3
     go_wp2
     go_ret
     exact ⟨c_ret_bool HX.out.symm,rfl⟩
    ·have HL:=Lib.hid (letB_t (c:=(s[k].toNat:Int)) (by omega))
     have HD:=Lib.hid (decB_f (c:=(s[k].toNat:Int)) (by omega))
     have HN:=Lib.hid (show restB (s.data.toList.take (k + 1))=true by rw [HT.out,HR.out,HL.out,HD.out];rfl)
     have HG:=Lib.hid (HF.out (by rw [beq_eq_false_iff_ne] at hk0;omega))
     go_wp2
     go_round
     case rel=>exact ⟨k + 1,by omega,HN,fun _=>HG.out,by go_num⟩
     case measure=>simp [intOf];omega
    ·have HL:=Lib.hid (letB_f (c:=(s[k].toNat:Int)) (by omega))
     have HD:=Lib.hid (decB_f (c:=(s[k].toNat:Int)) (by omega))
     have HX:=Lib.hid (show ((s.data.toList.take 1).all (fun b=>letB b.toNat) && restB s.data.toList)=false by rw [restB_not (k:=k + 1) (by rw [HT.out,HR.out,HL.out,HD.out];rfl)];exact Bool.and_false _)
     have h5:((s[k].toNat:Int) == 95)=false:=beq_eq_false_iff_ne.2 (by omega)
     have g1:90 < (s[k].toNat:Int)→decide ((s[k].toNat:Int)≤90)=false:=fun _=>decide_eq_false (by omega)
     have g2:122 < (s[k].toNat:Int)→decide ((s[k].toNat:Int)≤122)=false:=fun _=>decide_eq_false (by omega)
     have g3:57 < (s[k].toNat:Int)→decide ((s[k].toNat:Int)≤57)=false:=fun _=>decide_eq_false (by omega)
     first|replace g1:=g1 (by omega)|clear g1
     first|replace g2:=g2 (by omega)|clear g2
     first|replace g3:=g3 (by omega)|clear g3
     go_wp2
     go_ret
     exact ⟨c_ret_bool HX.out.symm,rfl⟩
    ·have HL:=Lib.hid (letB_t (c:=(s[k].toNat:Int)) (by omega))
     have HD:=Lib.hid (decB_f (c:=(s[k].toNat:Int)) (by omega))
     have HN:=Lib.hid (show restB (s.data.toList.take (k + 1))=true by rw [HT.out,HR.out,HL.out,HD.out];rfl)
     have HG:=Lib.hid (HF.out (by rw [beq_eq_false_iff_ne] at hk0;omega))
     have h5:((s[k].toNat:Int) == 95)=true:=beq_iff_eq.2 h
     have h6:(s[k].toNat:Int)≤95:=by omega
     have h7:95≤(s[k].toNat:Int):=by omega
     have g1:decide ((s[k].toNat:Int)≤90)=false:=decide_eq_false (by omega)
     clear h
     go_wp2
     go_round
     case rel=>exact ⟨k + 1,by omega,HN,fun _=>HG.out,by go_num⟩
     case measure=>simp [intOf];omega
    ·have HL:=Lib.hid (letB_f (c:=(s[k].toNat:Int)) (by omega))
     have HD:=Lib.hid (decB_f (c:=(s[k].toNat:Int)) (by omega))
     have HX:=Lib.hid (show ((s.data.toList.take 1).all (fun b=>letB b.toNat) && restB s.data.toList)=false by rw [restB_not (k:=k + 1) (by rw [HT.out,HR.out,HL.out,HD.out];rfl)];exact Bool.and_false _)
     have h5:((s[k].toNat:Int) == 95)=false:=beq_eq_false_iff_ne.2 (by omega)
     have g1:90 < (s[k].toNat:Int)→decide ((s[k].toNat:Int)≤90)=false:=fun _=>decide_eq_false (by omega)
     have g2:122 < (s[k].toNat:Int)→decide ((s[k].toNat:Int)≤122)=false:=fun _=>decide_eq_false (by omega)
     have g3:57 < (s[k].toNat:Int)→decide ((s[k].toNat:Int)≤57)=false:=fun _=>decide_eq_false (by omega)
     first|replace g1:=g1 (by omega)|clear g1
     first|replace g2:=g2 (by omega)|clear g2
     first|replace g3:=g3 (by omega)|clear g3
     go_wp2
     go_ret
     exact ⟨c_ret_bool HX.out.symm,rfl⟩
    ·have HL:=Lib.hid (letB_t (c:=(s[k].toNat:Int)) (by omega))
     have HD:=Lib.hid (decB_f (c:=(s[k].toNat:Int)) (by omega))
     have HN:=Lib.hid (show restB (s.data.toList.take (k + 1))=true by rw [HT.out,HR.out,HL.out,HD.out];rfl)
     have HG:=Lib.hid (HF.out (by rw [beq_eq_false_iff_ne] at hk0;omega))
     go_wp2
     go_round
     case rel=>exact ⟨k + 1,by omega,HN,fun _=>HG.out,by go_num⟩
     case measure=>simp [intOf];omega
    ·have HL:=Lib.hid (letB_f (c:=(s[k].toNat:Int)) (by omega))
     have HD:=Lib.hid (decB_f (c:=(s[k].toNat:Int)) (by omega))
     have HX:=Lib.hid (show ((s.data.toList.take 1).all (fun b=>letB b.toNat) && restB s.data.toList)=false by rw [restB_not (k:=k + 1) (by rw [HT.out,HR.out,HL.out,HD.out];rfl)];exact Bool.and_false _)
     have h5:((s[k].toNat:Int) == 95)=false:=beq_eq_false_iff_ne.2 (by omega)
     have g1:90 < (s[k].toNat:Int)→decide ((s[k].toNat:Int)≤90)=false:=fun _=>decide_eq_false (by omega)
     have g2:122 < (s[k].toNat:Int)→decide ((s[k].toNat:Int)≤122)=false:=fun _=>decide_eq_false (by omega)
     have g3:57 < (s[k].toNat:Int)→decide ((s[k].toNat:Int)≤57)=false:=fun _=>decide_eq_false (by omega)
     first|replace g1:=g1 (by omega)|clear g1
     first|replace g2:=g2 (by omega)|clear g2
     first|replace g3:=g3 (by omega)|clear g3
     go_wp2
     go_ret
     exact ⟨c_ret_bool HX.out.symm,rfl⟩
   ·rcases byte_split (s[k].toNat:Int) with h | ⟨h,h'⟩ | ⟨h,h'⟩ | ⟨h,h'⟩ | ⟨h,h'⟩|h | ⟨h,h'⟩ | ⟨h,h'⟩|h
    ·have HL:=Lib.hid (letB_f (c:=(s[k].toNat:Int)) (by omega))
     have HD:=Lib.hid (decB_f (c:=(s[k].toNat:Int)) (by omega))
     have HX:=Lib.hid (show ((s.data.toList.take 1).all (fun b=>letB b.toNat) && restB s.data.toList)=false by rw [HFi.out (by rw [beq_iff_eq] at hk0;omega),HL.out];rfl)
     have h5:((s[k].toNat:Int) == 95)=false:=beq_eq_false_iff_ne.2 (by omega)
     have g1:90 < (s[k].toNat:Int)→decide ((s[k].toNat:Int)≤90)=false:=fun _=>decide_eq_false (by omega)
     have g2:122 < (s[k].toNat:Int)→decide ((s[k].toNat:Int)≤122)=false:=fun _=>decide_eq_false (by omega)
     have g3:57 < (s[k].toNat:Int)→decide ((s[k].toNat:Int)≤57)=false:=fun _=>decide_eq_false (by omega)
     first|replace g1:=g1 (by omega)|clear g1
     first|replace g2:=g2 (by omega)|clear g2
     first|replace g3:=g3 (by omega)|clear g3
     go_wp2
     go_ret
     exact ⟨c_ret_bool HX.out.symm,rfl⟩
    ·have HL:=Lib.hid (letB_f (c:=(s[k].toNat:Int)) (by omega))
     have HD:=Lib.hid (decB_t (c:=(s[k].toNat:Int)) (by omega))
     have HX:=Lib.hid (show ((s.data.toList.take 1).all (fun b=>letB b.toNat) && restB s.data.toList)=false by rw [HFi.out (by rw [beq_iff_eq] at hk0;omega),HL.out];rfl)
     have h5:((s[k].toNat:Int) == 95)=false:=beq_eq_false_iff_ne.2 (by omega)
     have g1:90 < (s[k].toNat:Int)→decide ((s[k].toNat:Int)≤90)=false:=fun _=>decide_eq_false (by omega)
     have g2:122 < (s[k].toNat:Int)→decide ((s[k].toNat:Int)≤122)=false:=fun _=>decide_eq_false (by omega)
     have g3:57 < (s[k].toNat:Int)→decide ((s[k].toNat:Int)≤57)=false:=fun _=>decide_eq_false (by omega)
     first|replace g1:=g1 (by omega)|clear g1
     first|replace g2:=g2 (by omega)|clear g2
     first|replace g3:=g3 (by omega)|clear g3
     go_wp2
     go_ret
     exact ⟨c_ret_bool HX.out.symm,rfl⟩
    ·have HL:=Lib.hid (letB_f (c:=(s[k].toNat:Int)) (by omega))
     have HD:=Lib.hid (decB_f (c:=(s[k].toNat:Int)) (by omega))
     have HX:=Lib.hid (show ((s.data.toList.take 1).all (fun b=>letB b.toNat) && restB s.data.toList)=false by rw [HFi.out (by rw [beq_iff_eq] at hk0;omega),HL.out];rfl)
     have h5:((s[k].toNat:Int) == 95)=false:=beq_eq_false_iff_ne.2 (by omega)
     have g1:90 < (s[k].toNat:Int)→decide ((s[k].toNat:Int)≤90)=false:=fun _=>decide_eq_false (by omega)
     have g2:122 < (s[k].toNat:Int)→decide ((s[k].toNat:Int)≤122)=false:=fun _=>decide_eq_false (by omega)
     have g3:57 < (s[k].toNat:Int)→decide ((s[k].toNat:Int)≤57)=false:=fun _=>decide_eq_false (by omega)
     first|replace g1:=g1 (by omega)|clear g1
     first|replace g2:=g2 (by omega)|clear g2
     first|replace g3:=g3 (by omega)|clear g3
     go_wp2
     go_ret
     exact ⟨c_ret_bool HX.out.symm,rfl⟩
    ·have HL:=Lib.hid (letB_t (c:=(s[k].toNat:Int)) (by omega))
     have HD:=Lib.hid (decB_f (c:=(s[k].toNat:Int)) (by omega))
     have HN:=Lib.hid (show restB (s.data.toList.take (k + 1))=true by rw [HT.out,HR.out,HL.out,HD.out];rfl)
     have HG:=Lib.hid (show (s.data.toList.take 1).all (fun b=>letB b.toNat)=true by rw [HFi.out (by rw [beq_iff_eq] at hk0;omega)];exact HL.out)
     go_wp2
     go_round
     case rel=>exact ⟨k + 1,by omega,HN,fun _=>HG.out,by go_num⟩
     case measure=>simp [intOf];omega
    ·have HL:=Lib.hid (letB_f (c:=(s[k].toNat:Int)) (by omega))
     have HD:=Lib.hid (decB_f (c:=(s[k].toNat:Int)) (by omega))
     have HX:=Lib.hid (show ((s.data.toList.take 1).all (fun b=>letB b.toNat) && restB s.data.toList)=false by rw [HFi.out (by rw [beq_iff_eq] at hk0;omega),HL.out];rfl)
     have h5:((s[k].toNat:Int) == 95)=false:=beq_eq_false_iff_ne.2 (by omega)
     have g1:90 < (s[k].toNat:Int)→decide ((s[k].toNat:Int)≤90)=false:=fun _=>decide_eq_false (by omega)
     have g2:122 < (s[k].toNat:Int)→decide ((s[k].toNat:Int)≤122)=false:=fun _=>decide_eq_false (by omega)
     have g3:57 < (s[k].toNat:Int)→decide ((s[k].toNat:Int)≤57)=false:=fun _=>decide_eq_false (by omega)
     first|replace g1:=g1 (by omega)|clear g1
     first|replace g2:=g2 (by omega)|clear g2
     first|replace g3:=g3 (by omega)|clear g3
     go_wp2
     go_ret
     exact ⟨c_ret_bool HX.out.symm,rfl⟩
    ·have HL:=Lib.hid (letB_t (c:=(s[k].toNat:Int)) (by omega))
     have HD:=Lib.hid (decB_f (c:=(s[k].toNat:Int)) (by omega))
     have HN:=Lib.hid (show restB (s.data.toList.take (k + 1))=true by rw [HT.out,HR.out,HL.out,HD.out];rfl)
     have HG:=Lib.hid (show (s.data.toList.take 1).all (fun b=>letB b.toNat)=true by rw [HFi.out (by rw [beq_iff_eq] at hk0;omega)];exact HL.out)
     have h5:((s[k].toNat:Int) == 95)=true:=beq_iff_eq.2 h
     have h6:(s[k].toNat:Int)≤95:=by omega
     have h7:95≤(s[k].toNat:Int):=by omega
     have g1:decide ((s[k].toNat:Int)≤90)=false:=decide_eq_false (by omega)
     clear h
     go_wp2
     go_round
     case rel=>exact ⟨k + 1,by omega,HN,fun _=>HG.out,by go_num⟩
     case measure=>simp [intOf];omega
    ·have HL:=Lib.hid (letB_f (c:=(s[k].toNat:Int)) (by omega))
     have HD:=Lib.hid (decB_f (c:=(s[k].toNat:Int)) (by omega))
     have HX:=Lib.hid (show ((s.data.toList.take 1).all (fun b=>letB b.toNat) && restB s.data.toList)=false by rw [HFi.out (by rw [beq_iff_eq] at hk0;omega),HL.out];rfl)
     have h5:((s[k].toNat:Int) == 95)=false:=beq_eq_false_iff_ne.2 (by omega)
     have g1:90 < (s[k].toNat:Int)→decide ((s[k].toNat:Int)≤90)=false:=fun _=>decide_eq_false (by omega)
     have g2:122 < (s[k].toNat:Int)→decide ((s[k].toNat:Int)≤122)=false:=fun _=>decide_eq_false (by omega)
     have g3:57 < (s[k].toNat:Int)→decide ((s[k].toNat:Int)≤57)=false:=fun _=>decide_eq_false (by omega)
     first|replace g1:=g1 (by omega)|clear g1
     first|replace g2:=g2 (by omega)|clear g2
     first|replace g3:=g3 (by omega)|clear g3
     go_wp2
     go_ret
     exact ⟨c_ret_bool HX.out.symm,rfl⟩
    ·have HL:=Lib.hid (letB_t (c:=(s[k].toNat:Int)) (by omega))
     have HD:=Lib.hid (decB_f (c:=(s[k].toNat:Int)) (by omega))
     have HN:=Lib.hid (show restB (s.data.toList.take (k + 1))=true by rw [HT.out,HR.out,HL.out,HD.out];rfl)
     have HG:=Lib.hid (show (s.data.toList.take 1).all (fun b=>letB b.toNat)=true by rw [HFi.out (by rw [beq_iff_eq] at hk0;omega)];exact HL.out)
     go_wp2
     go_round
     case rel=>exact ⟨k + 1,by omega,HN,fun _=>HG.out,by go_num⟩
     case measure=>simp [intOf];omega
    ·have HL:=Lib.hid (letB_f (c:=(s[k].toNat:Int)) (by omega))
     have HD:=Lib.hid (decB_f (c:=(s[k].toNat:Int)) (by omega))
     have HX:=Lib.hid (show ((s.data.toList.take 1).all (fun b=>letB b.toNat) && restB s.data.toList)=false by rw [HFi.out (by rw [beq_iff_eq] at hk0;omega),HL.out];rfl)
     have h5:((s[k].toNat:Int) == 95)=false:=beq_eq_false_iff_ne.2 (by omega)
     have g1:90 < (s[k].toNat:Int)→decide ((s[k].toNat:Int)≤90)=false:=fun _=>decide_eq_false (by omega)
     have g2:122 < (s[k].toNat:Int)→decide ((s[k].toNat:Int)≤122)=false:=fun _=>decide_eq_false (by omega)
     have g3:57 < (s[k].toNat:Int)→decide ((s[k].toNat:Int)≤57)=false:=fun _=>decide_eq_false (by omega)
     first|replace g1:=g1 (by omega)|clear g1
     first|replace g2:=g2 (by omega)|clear g2
     first|replace g3:=g3 (by omega)|clear g3
     go_wp2
     go_ret
     exact ⟨c_ret_bool HX.out.symm,rfl⟩
  ·have HE:=Lib.hid (c_take (s:=s) (k:=k) (by omega))
   have hpos:0 < k:=by
    by_cases h:0 < k
    ·exact h
    ·exfalso
     have e:s.size=0:=by omega
     have e2:s.toList=[]:=by rw [Lib.toList_data];exact List.eq_nil_of_length_eq_zero (by simpa using e)
     rw [e2] at h0
     cases h0
   have HX:=Lib.hid (show ((s.data.toList.take 1).all (fun b=>letB b.toNat) && restB s.data.toList)=true by rw [HF.out hpos,← HE.out,HR.out];rfl)
   go_wp2
   go_ret
   exact ⟨c_ret_bool HX.out.symm,rfl⟩

theorem name_any (s:ByteArray) (w:World) :
  Calls Tryz.prog 39 #[.string s] w fun e w'=>e = .returned (.bool (nameB s))∧w=w':=by
 cases h0:s.toList.isEmpty
 ·by_cases h1:s.size≤64
  ·cases hw:wordB s.toList
   ·have e:nameB s=((s.data.toList.take 1).all (fun b=>letB b.toNat) && restB s.data.toList):=by
     unfold nameB
     rw [h0,hw,decide_eq_true h1]
     simp
    rw [e]
    exact name_loop s w h0 h1 hw
   ·have HX:=Lib.hid (show nameB s=false by unfold nameB;rw [hw];simp)
    have HW:=Lib.hid hw
    clear hw
    go_enter Tryz.func39,Tryz.ntmps39
    go_wp2_with (go_at_call 65;refine (word_any _ _).mono ?_;rintro e w' ⟨rfl,rfl⟩;rw [HW.out])
    go_ret
    exact ⟨c_ret_bool HX.out.symm,rfl⟩
  ·have HX:=Lib.hid (show nameB s=false by unfold nameB;rw [decide_eq_false h1];simp)
   go_enter Tryz.func39,Tryz.ntmps39
   go_wp2
   go_ret
   exact ⟨c_ret_bool HX.out.symm,rfl⟩
 ·have HX:=Lib.hid (show nameB s=false by unfold nameB;rw [h0];simp)
  go_enter Tryz.func39,Tryz.ntmps39
  go_wp2
  go_ret
  exact ⟨c_ret_bool HX.out.symm,rfl⟩

end Go.Proofs.YtheimopjglkgjaaGreatDoor

namespace Go.Proofs.YtheimopjglkgjaaGreatDoor
open Go.RowKit
set_option linter.unusedVariables false

/-- Is it a character of a text? -/
def charB (c:Int):Bool:=decide (c=9∨c=10∨c=13∨32≤c∧c≤55295∨57344≤c∧c≤65533∨65536≤c∧c≤1114111)
theorem charB_t {c:Int} (h:c=9∨c=10∨c=13∨32≤c∧c≤55295∨57344≤c∧c≤65533∨65536≤c∧c≤1114111):charB c=true:=decide_eq_true h
theorem charB_f {c:Int} (h:¬ (c=9∨c=10∨c=13∨32≤c∧c≤55295∨57344≤c∧c≤65533∨65536≤c∧c≤1114111)):charB c=false:=decide_eq_false h

theorem char_split (c:Int) (h0:0≤c) (h1:c≤1114111):(9≤c∧c≤9)∨(10≤c∧c≤10)∨(13≤c∧c≤13)∨(c≤8)∨(11≤c∧c≤12)∨(14≤c∧c < 32)∨(32≤c∧c < 55296)∨(55296≤c∧c < 57344)∨(57344≤c∧c < 65534)∨(65534≤c∧c≤65534)∨(65535≤c∧c≤65535)∨(65536≤c∧c≤1114111):=by omega

set_option maxHeartbeats 2000000 in
theorem char_any (c:Int) (w:World) (h0:0≤c) (h1:c≤1114111) :
  Calls Tryz.prog 64 #[.int .i32 c] w fun e w'=>e = .returned (.bool (charB c))∧w=w':=by
 rcases char_split c h0 h1 with ⟨h,h'⟩ | ⟨h,h'⟩ | ⟨h,h'⟩|h | ⟨h,h'⟩ | ⟨h,h'⟩ | ⟨h,h'⟩ | ⟨h,h'⟩ | ⟨h,h'⟩ | ⟨h,h'⟩ | ⟨h,h'⟩ | ⟨h,h'⟩
 all_goals
  first
   | have HC:=Lib.hid (charB_t (c:=c) (by omega))
   | have HC:=Lib.hid (charB_f (c:=c) (by omega))
  first|have b9:(c == 9)=true:=beq_iff_eq.2 (by omega)|have b9:(c == 9)=false:=beq_eq_false_iff_ne.2 (by omega)
  first|have b10:(c == 10)=true:=beq_iff_eq.2 (by omega)|have b10:(c == 10)=false:=beq_eq_false_iff_ne.2 (by omega)
  first|have b13:(c == 13)=true:=beq_iff_eq.2 (by omega)|have b13:(c == 13)=false:=beq_eq_false_iff_ne.2 (by omega)
  first|have b65534:(c == 65534)=true:=beq_iff_eq.2 (by omega)|have b65534:(c == 65534)=false:=beq_eq_false_iff_ne.2 (by omega)
  first|have b65535:(c == 65535)=true:=beq_iff_eq.2 (by omega)|have b65535:(c == 65535)=false:=beq_eq_false_iff_ne.2 (by omega)
  go_enter Tryz.func64,Tryz.ntmps64
  go_wp2
  go_ret
  exact ⟨c_ret_bool (by rw [HC.out];try (first|rfl|(simp;done)|(simp <;> omega))),rfl⟩

theorem pred_any (x:Nat) (w:World) (h1:x≤1114111) :
  Calls Tryz.prog 63 #[.int .i32 x] w fun e w'=>e = .returned (.bool (!charB x))∧w=w':=by
 go_enter Tryz.func63,Tryz.ntmps63
 go_wp2_with (go_at_call 64;refine (char_any _ _ (by omega) (by omega)).mono ?_;rintro e w' ⟨rfl,rfl⟩)
 go_ret
 exact ⟨rfl,rfl⟩

theorem grows_any (w:World):PredGrows Tryz.prog 63 #[] (fun x=>!charB x) w:=
 fun W x hx _=>(pred_any x W hx).mono fun _ _ ⟨he,hw⟩=>⟨he,hw▸Below.refl _ _⟩

/-- Is it a text? -/
def textB (s:ByteArray):Bool:=Lib.validD s.data.toList && decide (Lib.idxFunc (fun x=>!charB x) true s < 0)
/-- The decoder's tables, as they lie. -/
def U8 (w:World):Prop:=Lib.Utf8Tabs (Tryz.lays196_ren.g 3) (Tryz.lays196_ren.g 4) w
theorem U8.below {w w' : World} (h:U8 w) (hb:Below w.heap.size w w'):U8 w':=by
 obtain ⟨h1,h2⟩:=h
 exact ⟨fun c hc=>cell_later hb (h1 c hc),fun i hi=>⟨cell_later hb (h2 i hi).1,cell_later hb (h2 i hi).2⟩⟩

set_option maxHeartbeats 1000000 in
theorem valid_any (s:ByteArray) (w:World) (hs:s.size≤9223372036854775807) (hT:U8 w) :
  Calls Tryz.prog 38 #[.string s] w fun e w'=>e = .returned (.bool (textB s))∧Below w.heap.size w w':=by
 have HV:=fun W (h:U8 W)=>Any.utf8_ValidString Tryz.lays196 s W hs h
 have cV:=HV w hT
 change Calls Tryz.prog 61 #[.string s] w (fun e w'=>e = .returned (.bool (Lib.validD s.data.toList))∧Below w.heap.size w w') at cV
 have HcV:=Lib.hid cV
 clear cV HV
 cases hv:Lib.validD s.data.toList
 ·have HX:=Lib.hid (show textB s=false by unfold textB;rw [hv];rfl)
  have Hv:=Lib.hid hv
  clear hv
  go_enter Tryz.func38,Tryz.ntmps38
  go_wp2_with fail
  refine HcV.out.mono ?_
  rintro e w1 ⟨rfl,hb1⟩
  rw [Hv.out]
  go_wp2
  go_ret
  exact ⟨c_ret_bool HX.out.symm,hb1⟩
 ·have HX:=Lib.hid (show textB s=decide (Lib.idxFunc (fun x=>!charB x) true s < 0) by unfold textB;rw [hv];rfl)
  have Hv:=Lib.hid hv
  have hr:=Lib.idxFuncFrom_range (fun x=>!charB x) true s s.size 0
  have hr1 : -1≤Lib.idxFunc (fun x=>!charB x) true s∧Lib.idxFunc (fun x=>!charB x) true s≤9223372036854775807:=by
   unfold Lib.idxFunc
   rcases hr with h | ⟨h,h'⟩ <;> omega
  obtain ⟨r1,r2⟩:=hr1
  clear hv hr
  generalize hI:Lib.idxFunc (fun x=>!charB x) true s=I at *
  have HI:=Lib.hid hI
  clear hI
  go_enter Tryz.func38,Tryz.ntmps38
  go_wp2_with fail
  refine HcV.out.mono ?_
  rintro e w1 ⟨rfl,hb1⟩
  rw [Hv.out]
  go_wp2_with fail
  refine (Tryz.strings_IndexFunc_grows 63 #[] (enters_of Tryz.func63 (by kernel_rfl) rfl) (fun x=>!charB x) s _ (grows_any _)).mono ?_
  rintro e w2 ⟨rfl,hb2⟩
  rw [HI.out]
  go_wp2
  go_ret
  exact ⟨c_ret_bool HX.out.symm,hb1.trans (hb2.mono hb1.size)⟩
end Go.Proofs.YtheimopjglkgjaaGreatDoor

namespace Go.Proofs.YtheimopjglkgjaaGreatDoor
set_option linter.unusedVariables false
open Go.Lib
set_option maxRecDepth 100000

/-- A step of the decoder that no text has. -/
def badD (d:Nat × Nat):Bool:=(d.1 == 65533 && d.2 == 1) || !charB d.1
/-- The characters of a text, by so many steps; none: it is no text. -/
def charsF:Nat→List UInt8→Option (List Nat)
 | 0,_=>some []
 | f + 1,l=>if l=[] then some [] else if badD (decodeL l)=true then none else (charsF f (l.drop (decodeL l).2)).map ((decodeL l).1 :: ·)
def chars (l:List UInt8):Option (List Nat):=charsF l.length l
/-- A character's bytes. -/
def encL (c:Nat):List UInt8:=(Utf8.encode (c:Int)).data.toList

theorem charsF_more:∀ (f g:Nat) (l:List UInt8),l.length≤f→l.length≤g→charsF f l=charsF g l
 | 0,g,l,hf,_=>by
  have:l=[]:=List.eq_nil_of_length_eq_zero (by omega)
  subst this
  cases g <;> simp [charsF]
 | f + 1,0,l,_,hg=>by
  have:l=[]:=List.eq_nil_of_length_eq_zero (by omega)
  subst this
  simp [charsF]
 | f + 1,g + 1,l,hf,hg=>by
  unfold charsF
  by_cases h:l=[]
  ·simp [h]
  ·have hw:=decodeL_width l
   have hl:0 < l.length:=List.length_pos_iff.2 h
   rw [charsF_more f g _ (by simp;omega) (by simp;omega)]

theorem chars_nil:chars []=some []:=rfl
theorem chars_step {l:List UInt8} (h:l≠[]):chars l=if badD (decodeL l)=true then none else (chars (l.drop (decodeL l).2)).map ((decodeL l).1 :: ·):=by
 have hw:=decodeL_width l
 have hl:0 < l.length:=List.length_pos_iff.2 h
 unfold chars
 obtain ⟨n,hn⟩:∃ n,l.length=n + 1:=⟨l.length - 1,by omega⟩
 rw [hn]
 show (if l=[] then some [] else _)=_
 rw [if_neg h,charsF_more n (l.drop (decodeL l).2).length _ (by simp;omega) (Nat.le_refl _)]

/-- A rune that was decoded from valid bytes encodes to just those. -/
theorem enc_dec {l:List UInt8} (h:l≠[]) (hb:badD (decodeL l)=false):encL (decodeL l).1=l.take (decodeL l).2∧(decodeL l).2≤l.length:=by
 unfold badD at hb
 rw [Bool.or_eq_false_iff] at hb
 have hv:¬ ((decodeL l).1=65533∧(decodeL l).2=1):=by
  intro ⟨h1,h2⟩
  have:=hb.1
  rw [h1,h2] at this
  cases this
 have hl:0 < l.length:=List.length_pos_iff.2 h
 refine ⟨?_,decodeL_le l h⟩
 clear hb
 rw [decodeL_N] at hv ⊢
 have k0:=(l.getD 0 0).toNat_lt
 have k1:=(l.getD 1 0).toNat_lt
 have k2:=(l.getD 2 0).toNat_lt
 have k3:=(l.getD 3 0).toNat_lt
 have bt:∀ (z:Nat) (x:UInt8),z=x.toNat→UInt8.ofNat z=x:=fun z x h=>by subst h;simp
 unfold encL Utf8.encode
 rcases decodeN_shape l.length (l.getD 0 0).toNat (l.getD 1 0).toNat (l.getD 2 0).toNat (l.getD 3 0).toNat with ⟨c,e⟩ | ⟨c1,c2,c3,cv,e⟩ | ⟨c1,c2,c3,c4,cv,cs,e⟩ | ⟨c1,c2,c3,c4,c5,cv,cw,e⟩|e
 ·rw [e]
  have hval:Utf8.valid (((l.getD 0 0).toNat:Nat):Int)=true:=by rw [validRune_eq];exact decide_eq_true (by omega)
  simp only [hval,if_true,Int.toNat_natCast]
  rw [if_pos (by omega),takeA l hl]
  simp
 ·rw [e]
  have hval:Utf8.valid (((l.getD 0 0).toNat % 32 * 64 + (l.getD 1 0).toNat % 64:Nat):Int)=true:=by rw [validRune_eq];exact decide_eq_true (by omega)
  simp only [hval,if_true,Int.toNat_natCast]
  rw [if_neg (by omega),if_pos (by omega),takeB l (by omega)]
  simp only
  rw [bt _ (l.getD 0 0) (by omega),bt _ (l.getD 1 0) (by omega)]
 ·rw [e]
  have hval:Utf8.valid (((l.getD 0 0).toNat % 16 * 4096 + (l.getD 1 0).toNat % 64 * 64 + (l.getD 2 0).toNat % 64:Nat):Int)=true:=by rw [validRune_eq];exact decide_eq_true (by omega)
  simp only [hval,if_true,Int.toNat_natCast]
  rw [if_neg (by omega),if_neg (by omega),if_pos (by omega),takeC l (by omega)]
  simp only
  rw [bt _ (l.getD 0 0) (by omega),bt _ (l.getD 1 0) (by omega),bt _ (l.getD 2 0) (by omega)]
 ·rw [e]
  have hval:Utf8.valid (((l.getD 0 0).toNat % 8 * 262144 + (l.getD 1 0).toNat % 64 * 4096 + (l.getD 2 0).toNat % 64 * 64 + (l.getD 3 0).toNat % 64:Nat):Int)=true:=by rw [validRune_eq];exact decide_eq_true (by omega)
  simp only [hval,if_true,Int.toNat_natCast]
  rw [if_neg (by omega),if_neg (by omega),if_neg (by omega),takeD l (by omega)]
  simp only
  rw [bt _ (l.getD 0 0) (by omega),bt _ (l.getD 1 0) (by omega),bt _ (l.getD 2 0) (by omega),bt _ (l.getD 3 0) (by omega)]
 ·exact absurd (by rw [e];exact ⟨rfl,rfl⟩) hv

/-- A text is its characters' bytes. -/
theorem chars_bytes:∀ (n:Nat) (l:List UInt8) (cs:List Nat),l.length≤n→chars l=some cs→l=cs.flatMap encL∧∀ c ∈ cs,charB c=true
 | n,l,cs,hn,h=>by
  by_cases hne:l=[]
  ·subst hne
   rw [chars_nil] at h
   cases h
   exact ⟨rfl,fun _ h=>by cases h⟩
  ·rw [chars_step hne] at h
   have hw:=decodeL_width l
   have hl:0 < l.length:=List.length_pos_iff.2 hne
   cases n with
   | zero=>omega
   | succ n=>
    cases hb:badD (decodeL l) with
    | true=>rw [hb] at h;simp at h
    | false=>
     rw [hb] at h
     cases hc:chars (l.drop (decodeL l).2) with
     | none=>rw [hc] at h;simp at h
     | some r=>
      rw [hc] at h
      simp only [Bool.false_eq_true,if_false,Option.map_some,Option.some.injEq] at h
      subst h
      obtain ⟨h1,h2⟩:=chars_bytes n _ r (by simp;omega) hc
      obtain ⟨h3,h4⟩:=enc_dec hne hb
      constructor
      ·rw [List.flatMap_cons,h3,← h1,List.take_append_drop]
      ·intro c hcm
       rcases List.mem_cons.1 hcm with rfl|hcm
       ·unfold badD at hb
        rw [Bool.or_eq_false_iff] at hb
        simpa using hb.2
       ·exact h2 c hcm

theorem charB_lt {c:Nat} (h:charB c=true):(c < 55296∨57344≤c)∧c≤1114111:=by
 have:=of_decide_eq_true h
 omega

theorem encL_cases (c:Nat) (h:(c < 55296∨57344≤c)∧c≤1114111) :
  (c < 128∧encL c=[UInt8.ofNat c])∨(128≤c∧c < 2048∧encL c=[UInt8.ofNat (192 + c / 64),UInt8.ofNat (128 + c % 64)])∨
  (2048≤c∧c < 65536∧encL c=[UInt8.ofNat (224 + c / 4096),UInt8.ofNat (128 + c / 64 % 64),UInt8.ofNat (128 + c % 64)])∨
  (65536≤c∧encL c=[UInt8.ofNat (240 + c / 262144),UInt8.ofNat (128 + c / 4096 % 64),UInt8.ofNat (128 + c / 64 % 64),UInt8.ofNat (128 + c % 64)]):=by
 have hval:Utf8.valid (c:Int)=true:=by rw [validRune_eq];exact decide_eq_true (by omega)
 unfold encL Utf8.encode
 simp only [hval,if_true,Int.toNat_natCast]
 by_cases h1:c < 128
 ·left;exact ⟨h1,by rw [if_pos h1]⟩
 ·by_cases h2:c < 2048
  ·right;left;exact ⟨by omega,h2,by rw [if_neg h1,if_pos h2]⟩
  ·by_cases h3:c < 65536
   ·right;right;left;exact ⟨by omega,h3,by rw [if_neg h1,if_neg h2,if_pos h3]⟩
   ·right;right;right;exact ⟨by omega,by rw [if_neg h1,if_neg h2,if_neg h3]⟩

theorem byte_nat {n:Nat} (h:n < 256):(UInt8.ofNat n).toNat=n:=by
 rw [UInt8.toNat_ofNat']
 exact Nat.mod_eq_of_lt h

/-- What a character's bytes are decoded to. -/
theorem dec_enc {c:Nat} (h:(c < 55296∨57344≤c)∧c≤1114111) (r:List UInt8):decodeL (encL c++r)=(c,(encL c).length):=by
 rw [decodeL_N]
 rcases encL_cases c h with ⟨h1,e⟩ | ⟨h1,h2,e⟩ | ⟨h1,h2,e⟩ | ⟨h1,e⟩
 ·rw [e]
  simp only [List.cons_append,List.nil_append,List.getD_cons_zero,List.length_cons]
  rw [byte_nat (by omega)]
  unfold decodeN
  rw [if_pos h1]
  rfl
 ·rw [e]
  simp only [List.cons_append,List.nil_append,List.getD_cons_zero,List.getD_cons_succ,List.length_cons,List.length_nil]
  rw [byte_nat (by omega),byte_nat (by omega)]
  unfold decodeN
  rw [if_neg (by omega),if_pos (by omega),if_pos (by omega)]
  refine Prod.ext ?_ rfl
  show _=c
  omega
 ·rw [e]
  simp only [List.cons_append,List.nil_append,List.getD_cons_zero,List.getD_cons_succ,List.length_cons,List.length_nil]
  rw [byte_nat (by omega),byte_nat (by omega),byte_nat (by omega)]
  unfold decodeN
  rw [if_neg (by omega),if_neg (by omega),if_pos (by omega),if_pos (by omega)]
  refine Prod.ext ?_ rfl
  show _=c
  omega
 ·rw [e]
  simp only [List.cons_append,List.nil_append,List.getD_cons_zero,List.getD_cons_succ,List.length_cons,List.length_nil]
  rw [byte_nat (by omega),byte_nat (by omega),byte_nat (by omega),byte_nat (by omega)]
  unfold decodeN
  rw [if_neg (by omega),if_neg (by omega),if_neg (by omega),if_pos (by omega),if_pos (by omega)]
  refine Prod.ext ?_ rfl
  show _=c
  omega

theorem encL_len {c:Nat} (h:(c < 55296∨57344≤c)∧c≤1114111):1≤(encL c).length∧(encL c).length≤4:=by
 rcases encL_cases c h with ⟨h1,e⟩ | ⟨h1,h2,e⟩ | ⟨h1,h2,e⟩ | ⟨h1,e⟩ <;> rw [e] <;> simp

theorem enc_good {c:Nat} (h:charB c=true) (r:List UInt8):badD (decodeL (encL c++r))=false:=by
 rw [dec_enc (charB_lt h)]
 unfold badD
 simp only [h,Bool.not_true,Bool.or_false]
 by_cases hc:c=65533
 ·subst hc;rfl
 ·simp [hc]

/-- What is made of characters is a text, with just these. -/
theorem chars_of:∀ (cs:List Nat),(∀ c ∈ cs,charB c=true)→chars (cs.flatMap encL)=some cs
 | [],_=>rfl
 | c :: cs,h=>by
  have hc:=h c (by simp)
  have hl:=encL_len (charB_lt hc)
  have hne:(c :: cs).flatMap encL≠[]:=by
   rw [List.flatMap_cons]
   intro e
   have:=congrArg List.length e
   rw [List.length_append,List.length_nil] at this
   omega
  rw [chars_step hne,List.flatMap_cons,enc_good hc]
  rw [dec_enc (charB_lt hc)]
  simp only [Bool.false_eq_true,if_false]
  rw [List.drop_left' rfl,chars_of cs (fun c hc=>h c (by simp [hc]))]
  rfl

theorem text_from (s:ByteArray):∀ (f pos:Nat),s.size - pos≤f→(charsF f (s.data.toList.drop pos)).isSome=(validGoD f (s.data.toList.drop pos) && decide (idxFuncFrom (fun x=>!charB x) true s f pos < 0))
 | 0,pos,h=>rfl
 | f + 1,pos,h=>by
  have hw:=decodeL_width (s.data.toList.drop pos)
  unfold charsF validGoD idxFuncFrom
  by_cases hp:pos < s.size
  ·have hne:s.data.toList.drop pos≠[]:=by
    intro e
    have:=congrArg List.length e
    rw [List.length_drop,List.length_nil,Array.length_toList] at this
    have:s.data.size=s.size:=rfl
    omega
   rw [if_neg hne,if_neg hne,if_pos hp,← decodeL_drop]
   cases hb:badD (decodeL (s.data.toList.drop pos)) with
   | true=>
    unfold badD at hb
    rw [Bool.or_eq_true] at hb
    simp only [if_true,Option.isSome_none]
    rcases hb with hb|hb
    ·rw [Bool.and_eq_true,beq_iff_eq,beq_iff_eq] at hb
     rw [if_pos hb]
     rfl
    ·rw [if_pos hb]
     have:decide ((pos:Int) < 0)=false:=decide_eq_false (by omega)
     rw [this,Bool.and_false]
   | false=>
    have hb':=hb
    unfold badD at hb
    rw [Bool.or_eq_false_iff] at hb
    have hv:¬ ((decodeL (s.data.toList.drop pos)).1=65533∧(decodeL (s.data.toList.drop pos)).2=1):=by
     intro ⟨h1,h2⟩
     have:=hb.1
     rw [h1,h2] at this
     cases this
    rw [if_neg hv,hb.2]
    simp only [Bool.false_eq_true,if_false,Option.isSome_map]
    rw [List.drop_drop]
    exact text_from s f _ (by omega)
  ·have he:s.data.toList.drop pos=[]:=List.drop_of_length_le (by rw [Array.length_toList];have:s.data.size=s.size:=rfl;omega)
   rw [he,if_neg hp]
   rfl

/-- A text: what has characters. -/
theorem textB_chars (s:ByteArray):textB s=(chars s.data.toList).isSome:=by
 have:=text_from s s.size 0 (by omega)
 rw [List.drop_zero] at this
 unfold textB chars validD idxFunc
 have hsz:s.data.toList.length=s.size:=by rw [Array.length_toList];rfl
 rw [hsz,this]

end Go.Proofs.YtheimopjglkgjaaGreatDoor

namespace Go.Proofs.YtheimopjglkgjaaGreatDoor
open Go.RowKit
set_option linter.unusedVariables false
set_option maxRecDepth 100000

end Go.Proofs.YtheimopjglkgjaaGreatDoor

namespace Go.Proofs.YtheimopjglkgjaaGreatDoor
open Go.RowKit
open Go.Lib (decodeL decodeL_width decodeL_drop decodeN)
set_option linter.unusedVariables false
set_option maxRecDepth 100000

/-- How far the reader has come: the characters so far, and what is left to do. -/
def Upto (s:ByteArray) (i:Nat) (pre:List Nat):Prop:=i=(pre.flatMap encL).length∧i≤s.size∧pre.length≤i∧chars s.data.toList=(chars (s.data.toList.drop i)).map (pre++·)
theorem Upto.start (s:ByteArray):Upto s 0 []:=⟨rfl,by omega,by simp,by simp⟩
theorem drop_ne {s:ByteArray} {i:Nat} (h:i < s.size):s.data.toList.drop i≠[]:=by
 intro e
 have:=congrArg List.length e
 rw [List.length_drop,List.length_nil,Array.length_toList] at this
 have:s.data.size=s.size:=rfl
 omega
theorem Upto.bad {s:ByteArray} {i:Nat} {pre:List Nat} (h:Upto s i pre) (hi:i < s.size) (hb:badD (decodeL (s.data.toList.drop i))=true):chars s.data.toList=none:=by
 obtain ⟨_,_,_,h4⟩:=h
 rw [h4,chars_step (drop_ne hi),hb]
 rfl
theorem Upto.good {s:ByteArray} {i:Nat} {pre:List Nat} (h:Upto s i pre) (hi:i < s.size) (hb:badD (decodeL (s.data.toList.drop i))=false) :
  Upto s (i + (decodeL (s.data.toList.drop i)).2) (pre++[(decodeL (s.data.toList.drop i)).1])∧charB (decodeL (s.data.toList.drop i)).1=true∧(decodeL (s.data.toList.drop i)).1≤1114111∧1≤(decodeL (s.data.toList.drop i)).2∧i + (decodeL (s.data.toList.drop i)).2≤s.size:=by
 obtain ⟨h1,h2,h3,h4⟩:=h
 obtain ⟨e1,e2⟩:=enc_dec (drop_ne hi) hb
 have hw:=decodeL_width (s.data.toList.drop i)
 have hl:(s.data.toList.drop i).length=s.size - i:=by rw [List.length_drop,Array.length_toList];rfl
 have hlen:(encL (decodeL (s.data.toList.drop i)).1).length=(decodeL (s.data.toList.drop i)).2:=by rw [e1,List.length_take,Nat.min_eq_left e2]
 refine ⟨⟨?_,by omega,by simp;omega,?_⟩,?_,Lib.decodeL_rune _,hw,by omega⟩
 ·rw [List.flatMap_append,List.length_append,← h1]
  simp [hlen]
 ·rw [h4,chars_step (drop_ne hi),hb,List.drop_drop]
  rw [if_neg (by decide),Option.map_map]
  exact congrArg (fun f=>Option.map f _) (funext fun l=>by simp)
 ·unfold badD at hb
  rw [Bool.or_eq_false_iff] at hb
  simpa using hb.2
theorem Upto.done {s:ByteArray} {i:Nat} {pre:List Nat} (h:Upto s i pre) (hi:s.size≤i):chars s.data.toList=some pre:=by
 obtain ⟨_,_,_,h4⟩:=h
 rw [h4,List.drop_of_length_le (by rw [Array.length_toList];exact hi),chars_nil]
 simp
theorem text_of_none {s:ByteArray} (h:chars s.data.toList=none):textB s=false:=by rw [textB_chars,h];rfl
theorem text_of_some {s:ByteArray} {cs:List Nat} (h:chars s.data.toList=some cs):textB s=true:=by rw [textB_chars,h];rfl

end Go.Proofs.YtheimopjglkgjaaGreatDoor

namespace Go.Proofs.YtheimopjglkgjaaGreatDoor
open Go.RowKit
set_option linter.unusedVariables false
set_option maxRecDepth 100000

end Go.Proofs.YtheimopjglkgjaaGreatDoor
