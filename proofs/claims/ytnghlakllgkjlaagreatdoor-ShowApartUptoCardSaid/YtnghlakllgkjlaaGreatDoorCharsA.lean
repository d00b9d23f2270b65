/- The walks over package chars' names and keywords, and the reference's. The walks over package chars' texts: what a character is, what a text is. Characters of a text, over lists of bytes: the decoder's steps, what they come to, where each character begins. No program's walk. The walks over the reference's decoder: a byte that follows, one character, the places of all. The walks over the reference's decoder: the places at which characters begin; is it a text? The walks over Count and Part, of the package and of the reference. -/
import Derived.Test.YtnghlakllgkjlaaGreatDoorProg
import Derived.WalkKit
import Derived.WalkSpells
import Derived.WalkLawsBesides
import Derived.Lib.Hide
import Derived.Lib.Strings
import Derived.Test.YtnghlakllgkjlaaGreatDoorShelf
import Derived.Shelf.Unicode.ValidAny
import Derived.Shelf.Strings.FuncGrows
import Derived.Lib.MapLaws
import Derived.Lib.ValidLaws
import Derived.Lib.RuneCount
import Derived.Laws.Cover4
import Derived.Shelf.GgClosure.StringsIndexFunc
import Derived.Test.YtnghlakllgkjlaaGreatDoorSepA
import Derived.Laws.AppendOwn
import Derived.Lib.MinMax
import Derived.Outline
import Derived.Deep.QuietTactic
import Derived.BigQuiet
import Derived.IntWalk
import Derived.Laws.IdiomStrings
namespace Go.Proofs.YtnghlakllgkjlaaGreatDoor
open Go.RowKit
set_option linter.unusedVariables false
theorem c_ret_bool {a b:Bool} (h:a=b):Ending.returned (.bool a) = .returned (.bool b):=by rw [h]
def wordB (l:List UInt8):Bool:=l == [97,110,100] || l == [98,101,116,119,101,101,110] || l == [101,108,115,101] || l == [102,97,108,115,101] || l == [105,102] || l == [105,110] || l == [110,111,116] || l == [110,117,108,108] || l == [111,114] || l == [116,104,101,110] || l == [116,114,117,101]
set_option maxHeartbeats 1000000 in
theorem word_any (s:ByteArray) (w:World) :
  Calls Tryz.prog 192 #[.string s] w fun e w'=>e = .returned (.bool (wordB s.toList))∧w=w':=by
 by_cases h0:(s.toList == [97,110,100])=true
 ·have HW:=Lib.hid (show wordB s.toList=true by unfold wordB;rw [h0];simp)
  go_enter Tryz.func192,Tryz.ntmps192
  go_wp2
  go_ret
  exact ⟨c_ret_bool HW.out.symm,rfl⟩
 rw [Bool.not_eq_true] at h0
 by_cases h1:(s.toList == [98,101,116,119,101,101,110])=true
 ·have HW:=Lib.hid (show wordB s.toList=true by unfold wordB;rw [h1];simp)
  go_enter Tryz.func192,Tryz.ntmps192
  go_wp2
  go_ret
  exact ⟨c_ret_bool HW.out.symm,rfl⟩
 rw [Bool.not_eq_true] at h1
 by_cases h2:(s.toList == [101,108,115,101])=true
 ·have HW:=Lib.hid (show wordB s.toList=true by unfold wordB;rw [h2];simp)
  go_enter Tryz.func192,Tryz.ntmps192
  go_wp2
  go_ret
  exact ⟨c_ret_bool HW.out.symm,rfl⟩
 rw [Bool.not_eq_true] at h2
 by_cases h3:(s.toList == [102,97,108,115,101])=true
 ·have HW:=Lib.hid (show wordB s.toList=true by unfold wordB;rw [h3];simp)
  go_enter Tryz.func192,Tryz.ntmps192
  go_wp2
  go_ret
  exact ⟨c_ret_bool HW.out.symm,rfl⟩
 rw [Bool.not_eq_true] at h3
 by_cases h4:(s.toList == [105,102])=true
 ·have HW:=Lib.hid (show wordB s.toList=true by unfold wordB;rw [h4];simp)
  go_enter Tryz.func192,Tryz.ntmps192
  go_wp2
  go_ret
  exact ⟨c_ret_bool HW.out.symm,rfl⟩
 rw [Bool.not_eq_true] at h4
 by_cases h5:(s.toList == [105,110])=true
 ·have HW:=Lib.hid (show wordB s.toList=true by unfold wordB;rw [h5];simp)
  go_enter Tryz.func192,Tryz.ntmps192
  go_wp2
  go_ret
  exact ⟨c_ret_bool HW.out.symm,rfl⟩
 rw [Bool.not_eq_true] at h5
 by_cases h6:(s.toList == [110,111,116])=true
 ·have HW:=Lib.hid (show wordB s.toList=true by unfold wordB;rw [h6];simp)
  go_enter Tryz.func192,Tryz.ntmps192
  go_wp2
  go_ret
  exact ⟨c_ret_bool HW.out.symm,rfl⟩
 rw [Bool.not_eq_true] at h6
 by_cases h7:(s.toList == [110,117,108,108])=true
 ·have HW:=Lib.hid (show wordB s.toList=true by unfold wordB;rw [h7];simp)
  go_enter Tryz.func192,Tryz.ntmps192
  go_wp2
  go_ret
  exact ⟨c_ret_bool HW.out.symm,rfl⟩
 rw [Bool.not_eq_true] at h7
 by_cases h8:(s.toList == [111,114])=true
 ·have HW:=Lib.hid (show wordB s.toList=true by unfold wordB;rw [h8];simp)
  go_enter Tryz.func192,Tryz.ntmps192
  go_wp2
  go_ret
  exact ⟨c_ret_bool HW.out.symm,rfl⟩
 rw [Bool.not_eq_true] at h8
 by_cases h9:(s.toList == [116,104,101,110])=true
 ·have HW:=Lib.hid (show wordB s.toList=true by unfold wordB;rw [h9];simp)
  go_enter Tryz.func192,Tryz.ntmps192
  go_wp2
  go_ret
  exact ⟨c_ret_bool HW.out.symm,rfl⟩
 rw [Bool.not_eq_true] at h9
 by_cases h10:(s.toList == [116,114,117,101])=true
 ·have HW:=Lib.hid (show wordB s.toList=true by unfold wordB;rw [h10];simp)
  go_enter Tryz.func192,Tryz.ntmps192
  go_wp2
  go_ret
  exact ⟨c_ret_bool HW.out.symm,rfl⟩
 rw [Bool.not_eq_true] at h10
 have HW:=Lib.hid (show wordB s.toList=false by unfold wordB;rw [h0,h1,h2,h3,h4,h5,h6,h7,h8,h9,h10];rfl)
 go_enter Tryz.func192,Tryz.ntmps192
 go_wp2
 go_ret
 exact ⟨c_ret_bool HW.out.symm,rfl⟩
set_option maxHeartbeats 1000000 in
theorem rword_any (s:ByteArray) (w:World) :
  Calls Tryz.prog 143 #[.string s] w fun e w'=>e = .returned (.bool (wordB s.toList))∧w=w':=by
 by_cases h0:(s.toList == [97,110,100])=true
 ·have HW:=Lib.hid (show wordB s.toList=true by unfold wordB;rw [h0];simp)
  go_enter Tryz.func143,Tryz.ntmps143
  go_wp2
  go_ret
  exact ⟨c_ret_bool HW.out.symm,rfl⟩
 rw [Bool.not_eq_true] at h0
 by_cases h1:(s.toList == [98,101,116,119,101,101,110])=true
 ·have HW:=Lib.hid (show wordB s.toList=true by unfold wordB;rw [h1];simp)
  go_enter Tryz.func143,Tryz.ntmps143
  go_wp2
  go_ret
  exact ⟨c_ret_bool HW.out.symm,rfl⟩
 rw [Bool.not_eq_true] at h1
 by_cases h2:(s.toList == [101,108,115,101])=true
 ·have HW:=Lib.hid (show wordB s.toList=true by unfold wordB;rw [h2];simp)
  go_enter Tryz.func143,Tryz.ntmps143
  go_wp2
  go_ret
  exact ⟨c_ret_bool HW.out.symm,rfl⟩
 rw [Bool.not_eq_true] at h2
 by_cases h3:(s.toList == [102,97,108,115,101])=true
 ·have HW:=Lib.hid (show wordB s.toList=true by unfold wordB;rw [h3];simp)
  go_enter Tryz.func143,Tryz.ntmps143
  go_wp2
  go_ret
  exact ⟨c_ret_bool HW.out.symm,rfl⟩
 rw [Bool.not_eq_true] at h3
 by_cases h4:(s.toList == [105,102])=true
 ·have HW:=Lib.hid (show wordB s.toList=true by unfold wordB;rw [h4];simp)
  go_enter Tryz.func143,Tryz.ntmps143
  go_wp2
  go_ret
  exact ⟨c_ret_bool HW.out.symm,rfl⟩
 rw [Bool.not_eq_true] at h4
 by_cases h5:(s.toList == [105,110])=true
 ·have HW:=Lib.hid (show wordB s.toList=true by unfold wordB;rw [h5];simp)
  go_enter Tryz.func143,Tryz.ntmps143
  go_wp2
  go_ret
  exact ⟨c_ret_bool HW.out.symm,rfl⟩
 rw [Bool.not_eq_true] at h5
 by_cases h6:(s.toList == [110,111,116])=true
 ·have HW:=Lib.hid (show wordB s.toList=true by unfold wordB;rw [h6];simp)
  go_enter Tryz.func143,Tryz.ntmps143
  go_wp2
  go_ret
  exact ⟨c_ret_bool HW.out.symm,rfl⟩
 rw [Bool.not_eq_true] at h6
 by_cases h7:(s.toList == [110,117,108,108])=true
 ·have HW:=Lib.hid (show wordB s.toList=true by unfold wordB;rw [h7];simp)
  go_enter Tryz.func143,Tryz.ntmps143
  go_wp2
  go_ret
  exact ⟨c_ret_bool HW.out.symm,rfl⟩
 rw [Bool.not_eq_true] at h7
 by_cases h8:(s.toList == [111,114])=true
 ·have HW:=Lib.hid (show wordB s.toList=true by unfold wordB;rw [h8];simp)
  go_enter Tryz.func143,Tryz.ntmps143
  go_wp2
  go_ret
  exact ⟨c_ret_bool HW.out.symm,rfl⟩
 rw [Bool.not_eq_true] at h8
 by_cases h9:(s.toList == [116,104,101,110])=true
 ·have HW:=Lib.hid (show wordB s.toList=true by unfold wordB;rw [h9];simp)
  go_enter Tryz.func143,Tryz.ntmps143
  go_wp2
  go_ret
  exact ⟨c_ret_bool HW.out.symm,rfl⟩
 rw [Bool.not_eq_true] at h9
 by_cases h10:(s.toList == [116,114,117,101])=true
 ·have HW:=Lib.hid (show wordB s.toList=true by unfold wordB;rw [h10];simp)
  go_enter Tryz.func143,Tryz.ntmps143
  go_wp2
  go_ret
  exact ⟨c_ret_bool HW.out.symm,rfl⟩
 rw [Bool.not_eq_true] at h10
 have HW:=Lib.hid (show wordB s.toList=false by unfold wordB;rw [h0,h1,h2,h3,h4,h5,h6,h7,h8,h9,h10];rfl)
 go_enter Tryz.func143,Tryz.ntmps143
 go_wp2
 go_ret
 exact ⟨c_ret_bool HW.out.symm,rfl⟩
def letB (c:Int):Bool:=decide (97≤c∧c≤122∨65≤c∧c≤90∨c=95)
def decB (c:Int):Bool:=decide (48≤c∧c≤57)
theorem letB_t {c:Int} (h:97≤c∧c≤122∨65≤c∧c≤90∨c=95):letB c=true:=decide_eq_true h
theorem letB_f {c:Int} (h:¬ (97≤c∧c≤122∨65≤c∧c≤90∨c=95)):letB c=false:=decide_eq_false h
theorem decB_t {c:Int} (h:48≤c∧c≤57):decB c=true:=decide_eq_true h
theorem decB_f {c:Int} (h:¬ (48≤c∧c≤57)):decB c=false:=decide_eq_false h
theorem byte_split (c:Int):(c < 48)∨(48≤c∧c≤57)∨(57 < c∧c < 65)∨(65≤c∧c≤90)∨(90 < c∧c < 95)∨(c=95)∨(95 < c∧c < 97)∨(97≤c∧c≤122)∨(122 < c):=by omega
set_option maxHeartbeats 1000000 in
theorem letter_any (c:Int) (w:World) :
  Calls Tryz.prog 142 #[.int .u8 c] w fun e w'=>e = .returned (.bool (letB c))∧w=w':=by
 rcases byte_split c with h | ⟨h,h'⟩ | ⟨h,h'⟩ | ⟨h,h'⟩ | ⟨h,h'⟩|h | ⟨h,h'⟩ | ⟨h,h'⟩|h
 all_goals
  first
   | have HL:=Lib.hid (letB_f (c:=c) (by omega))
   | have HL:=Lib.hid (letB_t (c:=c) (by omega))
  try subst h
  go_enter Tryz.func142,Tryz.ntmps142
  go_wp2
  go_ret
  exact ⟨c_ret_bool (by rw [HL.out];try (first|rfl|(simp;done)|(simp <;> omega))),rfl⟩
set_option maxHeartbeats 1000000 in
theorem digit_any (c:Int) (w:World) :
  Calls Tryz.prog 144 #[.int .u8 c] w fun e w'=>e = .returned (.bool (decB c))∧w=w':=by
 by_cases h:48≤c
 ·by_cases h' : c≤57
  ·have HL:=Lib.hid (decB_t ⟨h,h'⟩)
   go_enter Tryz.func144,Tryz.ntmps144
   go_wp2
   go_ret
   exact ⟨c_ret_bool HL.out.symm,rfl⟩
  ·have HL:=Lib.hid (decB_f (c:=c) (by omega))
   go_enter Tryz.func144,Tryz.ntmps144
   go_wp2
   go_ret
   exact ⟨c_ret_bool HL.out.symm,rfl⟩
 ·have HL:=Lib.hid (decB_f (c:=c) (by omega))
  go_enter Tryz.func144,Tryz.ntmps144
  go_wp2
  go_ret
  exact ⟨c_ret_bool HL.out.symm,rfl⟩
def restB (l:List UInt8):Bool:=l.all fun b=>letB b.toNat || decB b.toNat
def nameB (s:ByteArray):Bool:=!s.toList.isEmpty && decide (s.size≤64) && !wordB s.toList && (s.data.toList.take 1).all (fun b=>letB b.toNat) && restB s.data.toList
theorem restB_take {l:List UInt8} {k:Nat} {b:UInt8} (hb:l[k]? = some b):restB (l.take (k + 1))=(restB (l.take k) && (letB b.toNat || decB b.toNat)):=by
 unfold restB
 rw [List.take_add_one,hb]
 simp
theorem restB_not {l:List UInt8} {k:Nat} (h:restB (l.take k)=false):restB l=false:=by
 unfold restB at h ⊢
 rw [List.all_eq_false] at h ⊢
 obtain ⟨b,hb,hn⟩:=h
 exact ⟨b,List.mem_of_mem_take hb,hn⟩
theorem c_at {s:ByteArray} {k:Nat} (h:k < s.size):s.data.toList[k]? = some s[k]:=by
 rw [List.getElem?_eq_getElem (by simpa using h)];rfl
theorem c_take {s:ByteArray} {k:Nat} (h:s.size≤k):s.data.toList.take k=s.data.toList:=List.take_of_length_le (by simpa using h)
theorem first_take {l:List UInt8} {k:Nat} {b:UInt8} (hb:l[k]? = some b) (hk:k=0):(l.take 1).all (fun b=>letB b.toNat)=letB b.toNat:=by
 subst hk
 rw [List.take_add_one,hb]
 simp
set_option maxHeartbeats 2000000 in
theorem name_loop (s:ByteArray) (w:World) (h0:s.toList.isEmpty=false) (h1:s.size≤64) (hw:wordB s.toList=false) :
  Calls Tryz.prog 134 #[.string s] w fun e w'=>e = .returned (.bool ((s.data.toList.take 1).all (fun b=>letB b.toNat) && restB s.data.toList))∧w=w':=by
 have HW:=Lib.hid hw
 clear hw
 go_enter Tryz.func134,Tryz.ntmps134
 go_wp2_with (go_at_call 192;refine (word_any _ _).mono ?_;rintro e w' ⟨rfl,rfl⟩;rw [HW.out])
 go_loop [19] (fun iv=>∃ k:Nat,k≤s.size∧Hid (restB (s.data.toList.take k)=true)∧Hid (0 < k→(s.data.toList.take 1).all (fun b=>letB b.toNat)=true)∧iv = .int .i64 k) (fun iv=>s.size - (intOf iv).toNat)
 case atStart=>exact ⟨0,by omega,rfl,fun h=>by omega,rfl⟩
 case round=>
  obtain ⟨k,hk,HR,HF,rfl⟩:=hrel
  by_cases hlt:k < s.size
  ·have hb:=c_at hlt
   have HT:=Lib.hid (restB_take hb)
   have HFi:=Lib.hid (fun h=>first_take (k:=k) hb h)
   clear hb
   cases hk0:((k:Int) == 0)
   ·rcases byte_split (s[k].toNat:Int) with h | ⟨h,h'⟩ | ⟨h,h'⟩ | ⟨h,h'⟩ | ⟨h,h'⟩|h | ⟨h,h'⟩ | ⟨h,h'⟩|h
    ·have HL:=Lib.hid (letB_f (c:=(s[k].toNat:Int)) (by omega))
     have HD:=Lib.hid (decB_f (c:=(s[k].toNat:Int)) (by omega))
     have HX:=Lib.hid (show ((s.data.toList.take 1).all (fun b=>letB b.toNat) && restB s.data.toList)=false by rw [restB_not (k:=k + 1) (by rw [HT.out,HR.out,HL.out,HD.out];rfl)];exact Bool.and_false _)
     have h5:((s[k].toNat:Int) == 95)=false:=beq_eq_false_iff_ne.2 (by omega)
     have g1:90 < (s[k].toNat:Int)→decide ((s[k].toNat:Int)≤90)=false:=fun _=>decide_eq_false (by omega)
     have g2:122 < (s[k].toNat:Int)→decide ((s[k].toNat:Int)≤122)=false:=fun _=>decide_eq_false (by omega)
     have g3:57 < (s[k].toNat:Int)→decide ((s[k].toNat:Int)≤57)=false:=fun _=>decide_eq_false (by omega)
     first|replace g1:=g1 (by omega)|clear g1
     first|replace g2:=g2 (by omega)|clear g2
     first|replace g3:=g3 (by omega)|clear g3
     go_wp2
     go_ret
     exact ⟨c_ret_bool HX.out.symm,rfl⟩
    ·have HL:=Lib.hid (letB_f (c:=(s[k].toNat:Int)) (by omega))
     have HD:=Lib.hid (decB_t (c:=(s[k].toNat:Int)) (by omega))
     have HN:=Lib.hid (show restB (s.data.toList.take (k + 1))=true by rw [HT.out,HR.out,HL.out,HD.out];rfl)
     have HG:=Lib.hid (HF.out (by rw [beq_eq_false_iff_ne] at hk0;omega))
     go_wp2
     go_round
     case rel=>exact ⟨k + 1,by omega,HN,fun _=>HG.out,by go_num⟩
     case measure=>simp [intOf];omega
    ·have HL:=Lib.hid (letB_f (c:=(s[k].toNat:Int)) (by omega))
     have HD:=Lib.hid (decB_f (c:=(s[k].toNat:Int)) (by omega))
     have HX:=Lib.hid (show ((s.data.toList.take 1).all (fun b=>letB b.toNat) && restB s.data.toList)=false by rw [restB_not (k:=k + 1) (by rw [HT.out,HR.out,HL.out,HD.out];rfl)];exact Bool.and_false _)
     have h5:((s[k].toNat:Int) == 95)=false:=beq_eq_false_iff_ne.2 (by omega)
     have g1:90 < (s[k].toNat:Int)→decide ((s[k].toNat:Int)≤90)=false:=fun _=>decide_eq_false (by omega)
     have g2:122 < (s[k].toNat:Int)→decide ((s[k].toNat:Int)≤122)=false:=fun _=>decide_eq_false (by omega)
     have g3:57 < (s[k].toNat:Int)→decide ((s[k].toNat:Int)≤57)=false:=fun _=>decide_eq_false (by omega)
     first|replace g1:=g1 (by omega)|clear g1
     first|replace g2:=g2 (by omega)|clear g2
     first|replace g3:=g3 (by omega)|clear g3
     go_wp2
     go_ret
     exact ⟨c_ret_bool HX.out.symm,rfl⟩
    ·have HL:=Lib.hid (letB_t (c:=(s[k].toNat:Int)) (by omega))
     have HD:=Lib.hid (decB_f (c:=(s[k].toNat:Int)) (by omega))
     have HN:=Lib.hid (show restB (s.data.toList.take (k + 1))=true by rw [HT.out,HR.out,HL.out,HD.out];rfl)
     have HG:=Lib.hid (HF.out (by rw [beq_eq_false_iff_ne] at hk0;omega))
     go_wp2
     go_round
     case rel=>exact ⟨k + 1,by omega,HN,fun _=>HG.out,by go_num⟩
     case measure=>simp [intOf];omega
    ·have HL:=Lib.hid (letB_f (c:=(s[k].toNat:Int)) (by omega))
     have HD:=Lib.hid (decB_f (c:=(s[k].toNat:Int)) (by omega))
     have HX:=Lib.hid (show ((s.data.toList.take 1).all (fun b=>letB b.toNat) && restB s.data.toList)=false by rw [restB_not (k:=k + 1) (by rw [HT.out,HR.out,HL.out,HD.out];rfl)];exact Bool.and_false _)
     have h5:((s[k].toNat:Int) == 95)=false:=beq_eq_false_iff_ne.2 (by omega)
     have g1:90 < (s[k].toNat:Int)→decide ((s[k].toNat:Int)≤90)=false:=fun _=>decide_eq_false (by omega)
     have g2:122 < (s[k].toNat:Int)→decide ((s[k].toNat:Int)≤122)=false:=fun _=>decide_eq_false (by omega)
     have g3:57 < (s[k].toNat:Int)→decide ((s[k].toNat:Int)≤57)=false:=fun _=>decide_eq_false (by omega)
     first|replace g1:=g1 (by omega)|clear g1
     first|replace g2:=g2 (by omega)|clear g2
     first|replace g3:=g3 (by omega)|clear g3
     go_wp2
     go_ret
     exact ⟨c_ret_bool HX.out.symm,rfl⟩
    ·have HL:=Lib.hid (letB_t (c:=(s[k].toNat:Int)) (by omega))
     have HD:=Lib.hid (decB_f (c:=(s[k].toNat:Int)) (by omega))
     have HN:=Lib.hid (show restB (s.data.toList.take (k + 1))=true by rw [HT.out,HR.out,HL.out,HD.out];rfl)
     have HG:=Lib.hid (HF.out (by rw [beq_eq_false_iff_ne] at hk0;omega))
     have h5:((s[k].toNat:Int) == 95)=true:=beq_iff_eq.2 h
     have h6:(s[k].toNat:Int)≤95:=by omega
     have h7:95≤(s[k].toNat:Int):=by omega
     have g1:decide ((s[k].toNat:Int)≤90)=false:=decide_eq_false (by omega)
     clear h
     go_wp2
     go_round
     case rel=>exact ⟨k + 1,by omega,HN,fun _=>HG.out,by go_num⟩
     case measure=>simp [intOf];omega
    ·have HL:=Lib.hid (letB_f (c:=(s[k].toNat:Int)) (by omega))
     have HD:=Lib.hid (decB_f (c:=(s[k].toNat:Int)) (by omega))
     have HX:=Lib.hid (show ((s.data.toList.take 1).all (fun b=>letB b.toNat) && restB s.data.toList)=false by rw [restB_not (k:=k + 1) (by rw [HT.out,HR.out,HL.out,HD.out];rfl)];exact Bool.and_false _)
     have h5:((s[k].toNat:Int) == 95)=false:=beq_eq_false_iff_ne.2 (by omega)
     have g1:90 < (s[k].toNat:Int)→decide ((s[k].toNat:Int)≤90)=false:=fun _=>decide_eq_false (by omega)
     have g2:122 < (s[k].toNat:Int)→decide ((s[k].toNat:Int)≤122)=false:=fun _=>decide_eq_false (by omega)
     have g3:57 < (s[k].toNat:Int)→decide ((s[k].toNat:Int)≤57)=false:=fun _=>decide_eq_false (by omega)
     first|replace g1:=g1 (by omega)|clear g1
     first|replace g2:=g2 (by omega)|clear g2
     first|replace g3:=g3 (by omega)|clear g3
     go_wp2
     go_ret
     exact ⟨c_ret_bool HX.out.symm,rfl⟩
    ·have HL:=Lib.hid (letB_t (c:=(s[k].toNat:Int)) (by omega))
     have HD:=Lib.hid (decB_f (c:=(s[k].toNat:Int)) (by omega))
     have HN:=Lib.hid (show restB (s.data.toList.take (k + 1))=true by rw [HT.out,HR.out,HL.out,HD.out];rfl)
     have HG:=Lib.hid (HF.out (by rw [beq_eq_false_iff_ne] at hk0;omega))
     go_wp2
     go_round
     case rel=>exact ⟨k + 1,by omega,HN,fun _=>HG.out,by go_num⟩
     case measure=>simp [intOf];omega
    ·have HL:=Lib.hid (letB_f (c:=(s[k].toNat:Int)) (by omega))
     have HD:=Lib.hid (decB_f (c:=(s[k].toNat:Int)) (by omega))
     have HX:=Lib.hid (show ((s.data.toList.take 1).all (fun b=>letB b.toNat) && restB s.data.toList)=false by rw [restB_not (k:=k + 1) (by rw [HT.out,HR.out,HL.out,HD.out];rfl)];exact Bool.and_false _)
     have h5:((s[k].toNat:Int) == 95)=false:=beq_eq_false_iff_ne.2 (by omega)
     have g1:90 < (s[k].toNat:Int)→decide ((s[k].toNat:Int)≤90)=false:=fun _=>decide_eq_false (by omega)
     have g2:122 < (s[k].toNat:Int)→decide ((s[k].toNat:Int)≤122)=false:=fun _=>decide_eq_false (by omega)
     have g3:57 < (s[k].toNat:Int)→decide ((s[k].toNat:Int)≤57)=false:=fun _=>decide_eq_false (by omega)
     first|replace g1:=g1 (by omega)|clear g1
     first|replace g2:=g2 (by omega)|clear g2
     first|replace g3:=g3 (by omega)|clear g3
     go_wp2
     go_ret
     exact ⟨c_ret_bool HX.out.symm,rfl⟩
   ·rcases byte_split (s[k].toNat:Int) with h | ⟨h,h'⟩ | ⟨h,h'⟩ | ⟨h,h'⟩ | ⟨h,h'⟩|h | ⟨h,h'⟩ | ⟨h,h'⟩|h
    ·have HL:=Lib.hid (letB_f (c:=(s[k].toNat:Int)) (by omega))
     have HD:=Lib.hid (decB_f (c:=(s[k].toNat:Int)) (by omega))
     have HX:=Lib.hid (show ((s.data.toList.take 1).all (fun b=>letB b.toNat) && restB s.data.toList)=false by rw [HFi.out (by rw [beq_iff_eq] at hk0;omega),HL.out];rfl)
     have h5:((s[k].toNat:Int) == 95)=false:=beq_eq_false_iff_ne.2 (by omega)
     have g1:90 < (s[k].toNat:Int)→decide ((s[k].toNat:Int)≤90)=false:=fun _=>decide_eq_false (by omega)
     have g2:122 < (s[k].toNat:Int)→decide ((s[k].toNat:Int)≤122)=false:=fun _=>decide_eq_false (by omega)
     have g3:57 < (s[k].toNat:Int)→decide ((s[k].toNat:Int)≤57)=false:=fun _=>decide_eq_false (by omega)
     first|replace g1:=g1 (by omega)|clear g1
     first|replace g2:=g2 (by omega)|clear g2
     first|replace g3:=g3 (by omega)|clear g3
     go_wp2
     go_ret
     exact ⟨c_ret_bool HX.out.symm,rfl⟩
    ·have HL:=Lib.hid (letB_f (c:=(s[k].toNat:Int)) (by omega))
     have HD:=Lib.hid (decB_t (c:=(s[k].toNat:Int)) (by omega))
     have HX:=Lib.hid (show ((s.data.toList.take 1).all (fun b=>letB b.toNat) && restB s.data.toList)=false by rw [HFi.out (by rw [beq_iff_eq] at hk0;omega),HL.out];rfl)
     have h5:((s[k].toNat:Int) == 95)=false:=beq_eq_false_iff_ne.2 (by omega)
     have g1:90 < (s[k].toNat:Int)→decide ((s[k].toNat:Int)≤90)=false:=fun _=>decide_eq_false (by omega)
     have g2:122 < (s[k].toNat:Int)→decide ((s[k].toNat:Int)≤122)=false:=fun _=>decide_eq_false (by omega)
     have g3:57 < (s[k].toNat:Int)→decide ((s[k].toNat:Int)≤57)=false:=fun _=>decide_eq_false (by omega)
     first|replace g1:=g1 (by omega)|clear g1
     first|replace g2:=g2 (by omega)|clear g2
     first|replace g3:=g3 (by omega)|clear g3
     go_wp2
     go_ret
     exact ⟨c_ret_bool HX.out.symm,rfl⟩
    ·have HL:=Lib.hid (letB_f (c:=(s[k].toNat:Int)) (by omega))
     have HD:=Lib.hid (decB_f (c:=(s[k].toNat:Int)) (by omega))
     have HX:=Lib.hid (show ((s.data.toList.take 1).all (fun b=>letB b.toNat) && restB s.data.toList)=false by rw [HFi.out (by rw [beq_iff_eq] at hk0;omega),HL.out];rfl)
     have h5:((s[k].toNat:Int) == 95)=false:=beq_eq_false_iff_ne.2 (by omega)
     have g1:90 < (s[k].toNat:Int)→decide ((s[k].toNat:Int)≤90)=false:=fun _=>decide_eq_false (by omega)
     have g2:122 < (s[k].toNat:Int)→decide ((s[k].toNat:Int)≤122)=false:=fun _=>decide_eq_false (by omega)
     have g3:57 < (s[k].toNat:Int)→decide ((s[k].toNat:Int)≤57)=false:=fun _=>decide_eq_false (by omega)
     first|replace g1:=g1 (by omega)|clear g1
     first|replace g2:=g2 (by omega)|clear g2
     first|replace g3:=g3 (by omega)|clear g3
     go_wp2
     go_ret
     exact ⟨c_ret_bool HX.out.symm,rfl⟩
    ·have HL:=Lib.hid (letB_t (c:=(s[k].toNat:Int)) (by omega))
     have HD:=Lib.hid (decB_f (c:=(s[k].toNat:Int)) (by omega))
     have HN:=Lib.hid (show restB (s.data.toList.take (k + 1))=true by rw [HT.out,HR.out,HL.out,HD.out];rfl)
     have HG:=Lib.hid (show (s.data.toList.take 1).all (fun b=>letB b.toNat)=true by rw [HFi.out (by rw [beq_iff_eq] at hk0;omega)];exact HL.out)
     go_wp2
     go_round
     case rel=>exact ⟨k + 1,by omega,HN,fun _=>HG.out,by go_num⟩
     case measure=>simp [intOf];omega
    ·have HL:=Lib.hid (letB_f (c:=(s[k].toNat:Int)) (by omega))
     have HD:=Lib.hid (decB_f (c:=(s[k].toNat:Int)) (by omega))
     have HX:=Lib.hid (show ((s.data.toList.take 1).all (fun b=>letB b.toNat) && restB s.data.toList)=false by rw [HFi.out (by rw [beq_iff_eq] at hk0;omega),HL.out];rfl)
     have h5:((s[k].toNat:Int) == 95)=false:=beq_eq_false_iff_ne.2 (by omega)
     have g1:90 < (s[k].toNat:Int)→decide ((s[k].toNat:Int)≤90)=false:=fun _=>decide_eq_false (by omega)
     have g2:122 < (s[k].toNat:Int)→decide ((s[k].toNat:Int)≤122)=false:=fun _=>decide_eq_false (by omega)
     have g3:57 < (s[k].toNat:Int)→decide ((s[k].toNat:Int)≤57)=false:=fun _=>decide_eq_false (by omega)
     first|replace g1:=g1 (by omega)|clear g1
     first|replace g2:=g2 (by omega)|clear g2
     first|replace g3:=g3 (by omega)|clear g3
     go_wp2
     go_ret
     exact ⟨c_ret_bool HX.out.symm,rfl⟩
    ·have HL:=Lib.hid (letB_t (c:=(s[k].toNat:Int)) (by omega))
     have HD:=Lib.hid (decB_f (c:=(s[k].toNat:Int)) (by omega))
     have HN:=Lib.hid (show restB (s.data.toList.take (k + 1))=true by rw [HT.out,HR.out,HL.out,HD.out];rfl)
     have HG:=Lib.hid (show (s.data.toList.take 1).all (fun b=>letB b.toNat)=true by rw [HFi.out (by rw [beq_iff_eq] at hk0;omega)];exact HL.out)
     have h5:((s[k].toNat:Int) == 95)=true:=beq_iff_eq.2 h
     have h6:(s[k].toNat:Int)≤95:=by omega
     have h7:95≤(s[k].toNat:Int):=by omega
     have g1:decide ((s[k].toNat:Int)≤90)=false:=decide_eq_false (by omega)
     clear h
     go_wp2
     go_round
     case rel=>exact ⟨k + 1,by omega,HN,fun _=>HG.out,by go_num⟩
     case measure=>simp [intOf];omega
    ·have HL:=Lib.hid (letB_f (c:=(s[k].toNat:Int)) (by omega))
     have HD:=Lib.hid (decB_f (c:=(s[k].toNat:Int)) (by omega))
     have HX:=Lib.hid (show ((s.data.toList.take 1).all (fun b=>letB b.toNat) && restB s.data.toList)=false by rw [HFi.out (by rw [beq_iff_eq] at hk0;omega),HL.out];rfl)
     have h5:((s[k].toNat:Int) == 95)=false:=beq_eq_false_iff_ne.2 (by omega)
     have g1:90 < (s[k].toNat:Int)→decide ((s[k].toNat:Int)≤90)=false:=fun _=>decide_eq_false (by omega)
     have g2:122 < (s[k].toNat:Int)→decide ((s[k].toNat:Int)≤122)=false:=fun _=>decide_eq_false (by omega)
     have g3:57 < (s[k].toNat:Int)→decide ((s[k].toNat:Int)≤57)=false:=fun _=>decide_eq_false (by omega)
     first|replace g1:=g1 (by omega)|clear g1
     first|replace g2:=g2 (by omega)|clear g2
     first|replace g3:=g3 (by omega)|clear g3
     go_wp2
     go_ret
     exact ⟨c_ret_bool HX.out.symm,rfl⟩
    ·have HL:=Lib.hid (letB_t (c:=(s[k].toNat:Int)) (by omega))
     have HD:=Lib.hid (decB_f (c:=(s[k].toNat:Int)) (by omega))
     have HN:=Lib.hid (show restB (s.data.toList.take (k + 1))=true by rw [HT.out,HR.out,HL.out,HD.out];rfl)
     have HG:=Lib.hid (show (s.data.toList.take 1).all (fun b=>letB b.toNat)=true by rw [HFi.out (by rw [beq_iff_eq] at hk0;omega)];exact HL.out)
     go_wp2
     go_round
     case rel=>exact ⟨k + 1,by omega,HN,fun _=>HG.out,by go_num⟩
     case measure=>simp [intOf];omega
    ·have HL:=Lib.hid (letB_f (c:=(s[k].toNat:Int)) (by omega))
     have HD:=Lib.hid (decB_f (c:=(s[k].toNat:Int)) (by omega))
     have HX:=Lib.hid (show ((s.data.toList.take 1).all (fun b=>letB b.toNat) && restB s.data.toList)=false by rw [HFi.out (by rw [beq_iff_eq] at hk0;omega),HL.out];rfl)
     have h5:((s[k].toNat:Int) == 95)=false:=beq_eq_false_iff_ne.2 (by omega)
     have g1:90 < (s[k].toNat:Int)→decide ((s[k].toNat:Int)≤90)=false:=fun _=>decide_eq_false (by omega)
     have g2:122 < (s[k].toNat:Int)→decide ((s[k].toNat:Int)≤122)=false:=fun _=>decide_eq_false (by omega)
     have g3:57 < (s[k].toNat:Int)→decide ((s[k].toNat:Int)≤57)=false:=fun _=>decide_eq_false (by omega)
     first|replace g1:=g1 (by omega)|clear g1
     first|replace g2:=g2 (by omega)|clear g2
     first|replace g3:=g3 (by omega)|clear g3
     go_wp2
     go_ret
     exact ⟨c_ret_bool HX.out.symm,rfl⟩
  ·have HE:=Lib.hid (c_take (s:=s) (k:=k) (by omega))
   have hpos:0 < k:=by
    by_cases h:0 < k
    ·exact h
    ·exfalso
     have e:s.size=0:=by omega
     have e2:s.toList=[]:=by rw [Lib.toList_data];exact List.eq_nil_of_length_eq_zero (by simpa using e)
     rw [e2] at h0
     cases h0
   have HX:=Lib.hid (show ((s.data.toList.take 1).all (fun b=>letB b.toNat) && restB s.data.toList)=true by rw [HF.out hpos,← HE.out,HR.out];rfl)
   go_wp2
   go_ret
   exact ⟨c_ret_bool HX.out.symm,rfl⟩
theorem name_any (s:ByteArray) (w:World) :
  Calls Tryz.prog 134 #[.string s] w fun e w'=>e = .returned (.bool (nameB s))∧w=w':=by
 cases h0:s.toList.isEmpty
 ·by_cases h1:s.size≤64
  ·cases hw:wordB s.toList
   ·have e:nameB s=((s.data.toList.take 1).all (fun b=>letB b.toNat) && restB s.data.toList):=by
     unfold nameB
     rw [h0,hw,decide_eq_true h1]
     simp
    rw [e]
    exact name_loop s w h0 h1 hw
   ·have HX:=Lib.hid (show nameB s=false by unfold nameB;rw [hw];simp)
    have HW:=Lib.hid hw
    clear hw
    go_enter Tryz.func134,Tryz.ntmps134
    go_wp2_with (go_at_call 192;refine (word_any _ _).mono ?_;rintro e w' ⟨rfl,rfl⟩;rw [HW.out])
    go_ret
    exact ⟨c_ret_bool HX.out.symm,rfl⟩
  ·have HX:=Lib.hid (show nameB s=false by unfold nameB;rw [decide_eq_false h1];simp)
   go_enter Tryz.func134,Tryz.ntmps134
   go_wp2
   go_ret
   exact ⟨c_ret_bool HX.out.symm,rfl⟩
 ·have HX:=Lib.hid (show nameB s=false by unfold nameB;rw [h0];simp)
  go_enter Tryz.func134,Tryz.ntmps134
  go_wp2
  go_ret
  exact ⟨c_ret_bool HX.out.symm,rfl⟩
theorem c_first {s:ByteArray} (h:0 < s.size):(s.data.toList.take 1).all (fun b=>letB b.toNat)=letB s[0].toNat:=first_take (k:=0) (c_at h) rfl
theorem restB_first {s:ByteArray} (h:0 < s.size):restB (s.data.toList.take 1)=(letB s[0].toNat || decB s[0].toNat):=by
 have:=restB_take (c_at h)
 rw [this]
 rfl
theorem c_pos {s:ByteArray} (h0:s.toList.isEmpty=false):0 < s.size:=by
 by_cases h:0 < s.size
 ·exact h
 ·exfalso
  have e:s.size=0:=by omega
  have e2:s.toList=[]:=by rw [Lib.toList_data];exact List.eq_nil_of_length_eq_zero (by simpa using e)
  rw [e2] at h0
  cases h0
set_option maxHeartbeats 2000000 in
theorem rname_loop (s:ByteArray) (w:World) (h0:s.toList.isEmpty=false) (h1:s.size≤64) (hpos:0 < s.size) (hl:letB s[0].toNat=true) (hw:wordB s.toList=false) :
  Calls Tryz.prog 95 #[.string s] w fun e w'=>e = .returned (.bool (restB s.data.toList))∧w=w':=by
 have HW:=Lib.hid hw
 have HL:=Lib.hid hl
 have H1:=Lib.hid (show restB (s.data.toList.take 1)=true by rw [restB_first hpos,hl];rfl)
 clear hw hl
 go_enter Tryz.func95,Tryz.ntmps95
 go_wp2_with (first|(go_at_call 143;refine (rword_any _ _).mono ?_;rintro e w' ⟨rfl,rfl⟩;rw [HW.out])|(go_at_call 142;refine (letter_any _ _).mono ?_;rintro e w' ⟨rfl,rfl⟩;rw [HL.out]))
 go_loop [3] (fun iv=>∃ k:Nat,k≤s.size∧1≤k∧Hid (restB (s.data.toList.take k)=true)∧iv = .int .i64 k) (fun iv=>s.size - (intOf iv).toNat)
 case atStart=>exact ⟨1,by omega,by omega,H1,rfl⟩
 case round=>
  obtain ⟨k,hk,hk1,HR,rfl⟩:=hrel
  by_cases hlt:k < s.size
  ·have HT:=Lib.hid (restB_take (c_at hlt))
   cases hlk:letB s[k].toNat
   ·cases hdk:decB s[k].toNat
    ·have HX:=Lib.hid (show restB s.data.toList=false by exact restB_not (k:=k + 1) (by rw [HT.out,HR.out,hlk,hdk];rfl))
     have HLk:=Lib.hid hlk
     have HDk:=Lib.hid hdk
     clear hlk hdk
     go_wp2_with (first|(go_at_call 142;refine (letter_any _ _).mono ?_;rintro e w' ⟨rfl,rfl⟩;rw [HLk.out])|(go_at_call 144;refine (digit_any _ _).mono ?_;rintro e w' ⟨rfl,rfl⟩;rw [HDk.out]))
     go_ret
     exact ⟨c_ret_bool HX.out.symm,rfl⟩
    ·have HN:=Lib.hid (show restB (s.data.toList.take (k + 1))=true by rw [HT.out,HR.out,hlk,hdk];rfl)
     have HLk:=Lib.hid hlk
     have HDk:=Lib.hid hdk
     clear hlk hdk
     go_wp2_with (first|(go_at_call 142;refine (letter_any _ _).mono ?_;rintro e w' ⟨rfl,rfl⟩;rw [HLk.out])|(go_at_call 144;refine (digit_any _ _).mono ?_;rintro e w' ⟨rfl,rfl⟩;rw [HDk.out]))
     go_round
     case rel=>exact ⟨k + 1,by omega,by omega,HN,by go_num⟩
     case measure=>simp [intOf];omega
   ·have HN:=Lib.hid (show restB (s.data.toList.take (k + 1))=true by rw [HT.out,HR.out,hlk];rfl)
    have HLk:=Lib.hid hlk
    clear hlk
    go_wp2_with (first|(go_at_call 142;refine (letter_any _ _).mono ?_;rintro e w' ⟨rfl,rfl⟩;rw [HLk.out]))
    go_round
    case rel=>exact ⟨k + 1,by omega,by omega,HN,by go_num⟩
    case measure=>simp [intOf];omega
  ·have HX:=Lib.hid (show restB s.data.toList=true by rw [← c_take (s:=s) (k:=k) (by omega)];exact HR.out)
   go_wp2
   go_ret
   exact ⟨c_ret_bool HX.out.symm,rfl⟩
theorem rname_any (s:ByteArray) (w:World) :
  Calls Tryz.prog 95 #[.string s] w fun e w'=>e = .returned (.bool (nameB s))∧w=w':=by
 cases h0:s.toList.isEmpty
 ·have hpos:=c_pos h0
  by_cases h1:s.size≤64
  ·cases hl:letB s[0].toNat
   ·have HX:=Lib.hid (show nameB s=false by unfold nameB;rw [c_first hpos,hl];simp)
    have HL:=Lib.hid hl
    clear hl
    go_enter Tryz.func95,Tryz.ntmps95
    go_wp2_with (first|(go_at_call 142;refine (letter_any _ _).mono ?_;rintro e w' ⟨rfl,rfl⟩;rw [HL.out]))
    go_ret
    exact ⟨c_ret_bool HX.out.symm,rfl⟩
   ·cases hw:wordB s.toList
    ·have e:nameB s=restB s.data.toList:=by
      unfold nameB
      rw [h0,hw,decide_eq_true h1,c_first hpos,hl]
      simp
     rw [e]
     exact rname_loop s w h0 h1 hpos hl hw
    ·have HX:=Lib.hid (show nameB s=false by unfold nameB;rw [hw];simp)
     have HW:=Lib.hid hw
     have HL:=Lib.hid hl
     clear hw hl
     go_enter Tryz.func95,Tryz.ntmps95
     go_wp2_with (first|(go_at_call 143;refine (rword_any _ _).mono ?_;rintro e w' ⟨rfl,rfl⟩;rw [HW.out])|(go_at_call 142;refine (letter_any _ _).mono ?_;rintro e w' ⟨rfl,rfl⟩;rw [HL.out]))
     go_ret
     exact ⟨c_ret_bool HX.out.symm,rfl⟩
  ·have HX:=Lib.hid (show nameB s=false by unfold nameB;rw [decide_eq_false h1];simp)
   go_enter Tryz.func95,Tryz.ntmps95
   go_wp2
   go_ret
   exact ⟨c_ret_bool HX.out.symm,rfl⟩
 ·have HX:=Lib.hid (show nameB s=false by unfold nameB;rw [h0];simp)
  go_enter Tryz.func95,Tryz.ntmps95
  go_wp2
  go_ret
  exact ⟨c_ret_bool HX.out.symm,rfl⟩
def charB (c:Int):Bool:=decide (c=9∨c=10∨c=13∨32≤c∧c≤55295∨57344≤c∧c≤65533∨65536≤c∧c≤1114111)
theorem charB_t {c:Int} (h:c=9∨c=10∨c=13∨32≤c∧c≤55295∨57344≤c∧c≤65533∨65536≤c∧c≤1114111):charB c=true:=decide_eq_true h
theorem charB_f {c:Int} (h:¬ (c=9∨c=10∨c=13∨32≤c∧c≤55295∨57344≤c∧c≤65533∨65536≤c∧c≤1114111)):charB c=false:=decide_eq_false h
theorem char_split (c:Int) (h0:0≤c) (h1:c≤1114111):(9≤c∧c≤9)∨(10≤c∧c≤10)∨(13≤c∧c≤13)∨(c≤8)∨(11≤c∧c≤12)∨(14≤c∧c < 32)∨(32≤c∧c < 55296)∨(55296≤c∧c < 57344)∨(57344≤c∧c < 65534)∨(65534≤c∧c≤65534)∨(65535≤c∧c≤65535)∨(65536≤c∧c≤1114111):=by omega
set_option maxHeartbeats 2000000 in
theorem char_any (c:Int) (w:World) (h0:0≤c) (h1:c≤1114111) :
  Calls Tryz.prog 159 #[.int .i32 c] w fun e w'=>e = .returned (.bool (charB c))∧w=w':=by
 rcases char_split c h0 h1 with ⟨h,h'⟩ | ⟨h,h'⟩ | ⟨h,h'⟩|h | ⟨h,h'⟩ | ⟨h,h'⟩ | ⟨h,h'⟩ | ⟨h,h'⟩ | ⟨h,h'⟩ | ⟨h,h'⟩ | ⟨h,h'⟩ | ⟨h,h'⟩
 all_goals
  first
   | have HC:=Lib.hid (charB_t (c:=c) (by omega))
   | have HC:=Lib.hid (charB_f (c:=c) (by omega))
  first|have b9:(c == 9)=true:=beq_iff_eq.2 (by omega)|have b9:(c == 9)=false:=beq_eq_false_iff_ne.2 (by omega)
  first|have b10:(c == 10)=true:=beq_iff_eq.2 (by omega)|have b10:(c == 10)=false:=beq_eq_false_iff_ne.2 (by omega)
  first|have b13:(c == 13)=true:=beq_iff_eq.2 (by omega)|have b13:(c == 13)=false:=beq_eq_false_iff_ne.2 (by omega)
  first|have b65534:(c == 65534)=true:=beq_iff_eq.2 (by omega)|have b65534:(c == 65534)=false:=beq_eq_false_iff_ne.2 (by omega)
  first|have b65535:(c == 65535)=true:=beq_iff_eq.2 (by omega)|have b65535:(c == 65535)=false:=beq_eq_false_iff_ne.2 (by omega)
  go_enter Tryz.func159,Tryz.ntmps159
  go_wp2
  go_ret
  exact ⟨c_ret_bool (by rw [HC.out];try (first|rfl|(simp;done)|(simp <;> omega))),rfl⟩
theorem pred_any (x:Nat) (w:World) (h1:x≤1114111) :
  Calls Tryz.prog 158 #[.int .i32 x] w fun e w'=>e = .returned (.bool (!charB x))∧w=w':=by
 go_enter Tryz.func158,Tryz.ntmps158
 go_wp2_with (go_at_call 159;refine (char_any _ _ (by omega) (by omega)).mono ?_;rintro e w' ⟨rfl,rfl⟩)
 go_ret
 exact ⟨rfl,rfl⟩
theorem grows_any (w:World):PredGrows Tryz.prog 158 #[] (fun x=>!charB x) w:=
 fun W x hx _=>(pred_any x W hx).mono fun _ _ ⟨he,hw⟩=>⟨he,hw▸Below.refl _ _⟩
def textB (s:ByteArray):Bool:=Lib.validD s.data.toList && decide (Lib.idxFunc (fun x=>!charB x) true s < 0)
def U8 (w:World):Prop:=Lib.Utf8Tabs (Tryz.lays196_ren.g 3) (Tryz.lays196_ren.g 4) w
theorem U8.below {w w' : World} (h:U8 w) (hb:Below w.heap.size w w'):U8 w':=by
 obtain ⟨h1,h2⟩:=h
 exact ⟨fun c hc=>cell_later hb (h1 c hc),fun i hi=>⟨cell_later hb (h2 i hi).1,cell_later hb (h2 i hi).2⟩⟩
set_option maxHeartbeats 1000000 in
theorem valid_any (s:ByteArray) (w:World) (hs:s.size≤9223372036854775807) (hT:U8 w) :
  Calls Tryz.prog 105 #[.string s] w fun e w'=>e = .returned (.bool (textB s))∧Below w.heap.size w w':=by
 have HV:=fun W (h:U8 W)=>Any.utf8_ValidString Tryz.lays196 s W hs h
 have cV:=HV w hT
 change Calls Tryz.prog 156 #[.string s] w (fun e w'=>e = .returned (.bool (Lib.validD s.data.toList))∧Below w.heap.size w w') at cV
 have HcV:=Lib.hid cV
 clear cV HV
 cases hv:Lib.validD s.data.toList
 ·have HX:=Lib.hid (show textB s=false by unfold textB;rw [hv];rfl)
  have Hv:=Lib.hid hv
  clear hv
  go_enter Tryz.func105,Tryz.ntmps105
  go_wp2_with fail
  refine HcV.out.mono ?_
  rintro e w1 ⟨rfl,hb1⟩
  rw [Hv.out]
  go_wp2
  go_ret
  exact ⟨c_ret_bool HX.out.symm,hb1⟩
 ·have HX:=Lib.hid (show textB s=decide (Lib.idxFunc (fun x=>!charB x) true s < 0) by unfold textB;rw [hv];rfl)
  have Hv:=Lib.hid hv
  have hr:=Lib.idxFuncFrom_range (fun x=>!charB x) true s s.size 0
  have hr1 : -1≤Lib.idxFunc (fun x=>!charB x) true s∧Lib.idxFunc (fun x=>!charB x) true s≤9223372036854775807:=by
   unfold Lib.idxFunc
   rcases hr with h | ⟨h,h'⟩ <;> omega
  obtain ⟨r1,r2⟩:=hr1
  clear hv hr
  generalize hI:Lib.idxFunc (fun x=>!charB x) true s=I at *
  have HI:=Lib.hid hI
  clear hI
  go_enter Tryz.func105,Tryz.ntmps105
  go_wp2_with fail
  refine HcV.out.mono ?_
  rintro e w1 ⟨rfl,hb1⟩
  rw [Hv.out]
  go_wp2_with fail
  refine (Tryz.strings_IndexFunc_grows 158 #[] (enters_of Tryz.func158 (by kernel_rfl) rfl) (fun x=>!charB x) s _ (grows_any _)).mono ?_
  rintro e w2 ⟨rfl,hb2⟩
  rw [HI.out]
  go_wp2
  go_ret
  exact ⟨c_ret_bool HX.out.symm,hb1.trans (hb2.mono hb1.size)⟩
open Go.Lib
set_option maxRecDepth 100000
def badD (d:Nat × Nat):Bool:=(d.1 == 65533 && d.2 == 1) || !charB d.1
def charsF:Nat→List UInt8→Option (List Nat)
 | 0,_=>some []
 | f + 1,l=>if l=[] then some [] else if badD (decodeL l)=true then none else (charsF f (l.drop (decodeL l).2)).map ((decodeL l).1 :: ·)
def chars (l:List UInt8):Option (List Nat):=charsF l.length l
def encL (c:Nat):List UInt8:=(Utf8.encode (c:Int)).data.toList
theorem charsF_more:∀ (f g:Nat) (l:List UInt8),l.length≤f→l.length≤g→charsF f l=charsF g l
 | 0,g,l,hf,_=>by
  have:l=[]:=List.eq_nil_of_length_eq_zero (by omega)
  subst this
  cases g <;> simp [charsF]
 | f + 1,0,l,_,hg=>by
  have:l=[]:=List.eq_nil_of_length_eq_zero (by omega)
  subst this
  simp [charsF]
 | f + 1,g + 1,l,hf,hg=>by
  unfold charsF
  by_cases h:l=[]
  ·simp [h]
  ·have hw:=decodeL_width l
   have hl:0 < l.length:=List.length_pos_iff.2 h
   rw [charsF_more f g _ (by simp;omega) (by simp;omega)]
theorem chars_nil:chars []=some []:=rfl
theorem chars_step {l:List UInt8} (h:l≠[]):chars l=if badD (decodeL l)=true then none else (chars (l.drop (decodeL l).2)).map ((decodeL l).1 :: ·):=by
 have hw:=decodeL_width l
 have hl:0 < l.length:=List.length_pos_iff.2 h
 unfold chars
 obtain ⟨n,hn⟩:∃ n,l.length=n + 1:=⟨l.length - 1,by omega⟩
 rw [hn]
 show (if l=[] then some [] else _)=_
 rw [if_neg h,charsF_more n (l.drop (decodeL l).2).length _ (by simp;omega) (Nat.le_refl _)]
theorem enc_dec {l:List UInt8} (h:l≠[]) (hb:badD (decodeL l)=false):encL (decodeL l).1=l.take (decodeL l).2∧(decodeL l).2≤l.length:=by
 unfold badD at hb
 rw [Bool.or_eq_false_iff] at hb
 have hv:¬ ((decodeL l).1=65533∧(decodeL l).2=1):=by
  intro ⟨h1,h2⟩
  have:=hb.1
  rw [h1,h2] at this
  cases this
 have hl:0 < l.length:=List.length_pos_iff.2 h
 refine ⟨?_,decodeL_le l h⟩
 clear hb
 rw [decodeL_N] at hv ⊢
 have k0:=(l.getD 0 0).toNat_lt
 have k1:=(l.getD 1 0).toNat_lt
 have k2:=(l.getD 2 0).toNat_lt
 have k3:=(l.getD 3 0).toNat_lt
 have bt:∀ (z:Nat) (x:UInt8),z=x.toNat→UInt8.ofNat z=x:=fun z x h=>by subst h;simp
 unfold encL Utf8.encode
 rcases decodeN_shape l.length (l.getD 0 0).toNat (l.getD 1 0).toNat (l.getD 2 0).toNat (l.getD 3 0).toNat with ⟨c,e⟩ | ⟨c1,c2,c3,cv,e⟩ | ⟨c1,c2,c3,c4,cv,cs,e⟩ | ⟨c1,c2,c3,c4,c5,cv,cw,e⟩|e
 ·rw [e]
  have hval:Utf8.valid (((l.getD 0 0).toNat:Nat):Int)=true:=by rw [validRune_eq];exact decide_eq_true (by omega)
  simp only [hval,if_true,Int.toNat_natCast]
  rw [if_pos (by omega),takeA l hl]
  simp
 ·rw [e]
  have hval:Utf8.valid (((l.getD 0 0).toNat % 32 * 64 + (l.getD 1 0).toNat % 64:Nat):Int)=true:=by rw [validRune_eq];exact decide_eq_true (by omega)
  simp only [hval,if_true,Int.toNat_natCast]
  rw [if_neg (by omega),if_pos (by omega),takeB l (by omega)]
  simp only
  rw [bt _ (l.getD 0 0) (by omega),bt _ (l.getD 1 0) (by omega)]
 ·rw [e]
  have hval:Utf8.valid (((l.getD 0 0).toNat % 16 * 4096 + (l.getD 1 0).toNat % 64 * 64 + (l.getD 2 0).toNat % 64:Nat):Int)=true:=by rw [validRune_eq];exact decide_eq_true (by omega)
  simp only [hval,if_true,Int.toNat_natCast]
  rw [if_neg (by omega),if_neg (by omega),if_pos (by omega),takeC l (by omega)]
  simp only
  rw [bt _ (l.getD 0 0) (by omega),bt _ (l.getD 1 0) (by omega),bt _ (l.getD 2 0) (by omega)]
 ·rw [e]
  have hval:Utf8.valid (((l.getD 0 0).toNat % 8 * 262144 + (l.getD 1 0).toNat % 64 * 4096 + (l.getD 2 0).toNat % 64 * 64 + (l.getD 3 0).toNat % 64:Nat):Int)=true:=by rw [validRune_eq];exact decide_eq_true (by omega)
  simp only [hval,if_true,Int.toNat_natCast]
  rw [if_neg (by omega),if_neg (by omega),if_neg (by omega),takeD l (by omega)]
  simp only
  rw [bt _ (l.getD 0 0) (by omega),bt _ (l.getD 1 0) (by omega),bt _ (l.getD 2 0) (by omega),bt _ (l.getD 3 0) (by omega)]
 ·exact absurd (by rw [e];exact ⟨rfl,rfl⟩) hv
theorem text_from (s:ByteArray):∀ (f pos:Nat),s.size - pos≤f→(charsF f (s.data.toList.drop pos)).isSome=(validGoD f (s.data.toList.drop pos) && decide (idxFuncFrom (fun x=>!charB x) true s f pos < 0))
 | 0,pos,h=>rfl
 | f + 1,pos,h=>by
  have hw:=decodeL_width (s.data.toList.drop pos)
  unfold charsF validGoD idxFuncFrom
  by_cases hp:pos < s.size
  ·have hne:s.data.toList.drop pos≠[]:=by
    intro e
    have:=congrArg List.length e
    rw [List.length_drop,List.length_nil,Array.length_toList] at this
    have:s.data.size=s.size:=rfl
    omega
   rw [if_neg hne,if_neg hne,if_pos hp,← decodeL_drop]
   cases hb:badD (decodeL (s.data.toList.drop pos)) with
   | true=>
    unfold badD at hb
    rw [Bool.or_eq_true] at hb
    simp only [if_true,Option.isSome_none]
    rcases hb with hb|hb
    ·rw [Bool.and_eq_true,beq_iff_eq,beq_iff_eq] at hb
     rw [if_pos hb]
     rfl
    ·rw [if_pos hb]
     have:decide ((pos:Int) < 0)=false:=decide_eq_false (by omega)
     rw [this,Bool.and_false]
   | false=>
    have hb':=hb
    unfold badD at hb
    rw [Bool.or_eq_false_iff] at hb
    have hv:¬ ((decodeL (s.data.toList.drop pos)).1=65533∧(decodeL (s.data.toList.drop pos)).2=1):=by
     intro ⟨h1,h2⟩
     have:=hb.1
     rw [h1,h2] at this
     cases this
    rw [if_neg hv,hb.2]
    simp only [Bool.false_eq_true,if_false,Option.isSome_map]
    rw [List.drop_drop]
    exact text_from s f _ (by omega)
  ·have he:s.data.toList.drop pos=[]:=List.drop_of_length_le (by rw [Array.length_toList];have:s.data.size=s.size:=rfl;omega)
   rw [he,if_neg hp]
   rfl
theorem textB_chars (s:ByteArray):textB s=(chars s.data.toList).isSome:=by
 have:=text_from s s.size 0 (by omega)
 rw [List.drop_zero] at this
 unfold textB chars validD idxFunc
 have hsz:s.data.toList.length=s.size:=by rw [Array.length_toList];rfl
 rw [hsz,this]
def offC (cs:List Nat) (k:Nat):Nat:=((cs.take k).flatMap encL).length
theorem offC_all (cs:List Nat) {k:Nat} (h:cs.length≤k):offC cs k=(cs.flatMap encL).length:=by
 unfold offC
 rw [List.take_of_length_le h]
theorem and_192F:∀ b:Fin 256,(bits .and .u8 ((b.val:Nat):Int) 192 != 128) = !decide (b.val / 64=2):=by decide +kernel
theorem and_63F:∀ b:Fin 256,bits .and .u8 ((b.val:Nat):Int) 63=((b.val % 64:Nat):Int):=by decide +kernel
theorem and_192n (b:UInt8):(bits .and .u8 (b.toNat:Int) 192 != 128) = !decide (b.toNat / 64=2):=and_192F ⟨b.toNat,b.toNat_lt⟩
theorem and_63 (b:UInt8):bits .and .u8 (b.toNat:Int) 63=((b.toNat % 64:Nat):Int):=and_63F ⟨b.toNat,b.toNat_lt⟩
theorem and_31F:∀ b:Fin 256,bits .and .i64 ((b.val:Nat):Int) 31=((b.val % 32:Nat):Int):=by decide +kernel
theorem and_15F:∀ b:Fin 256,bits .and .i64 ((b.val:Nat):Int) 15=((b.val % 16:Nat):Int):=by decide +kernel
theorem and_7F:∀ b:Fin 256,bits .and .i64 ((b.val:Nat):Int) 7=((b.val % 8:Nat):Int):=by decide +kernel
theorem and_31 (b:UInt8):bits .and .i64 (b.toNat:Int) 31=((b.toNat % 32:Nat):Int):=and_31F ⟨b.toNat,b.toNat_lt⟩
theorem and_15 (b:UInt8):bits .and .i64 (b.toNat:Int) 15=((b.toNat % 16:Nat):Int):=and_15F ⟨b.toNat,b.toNat_lt⟩
theorem and_7 (b:UInt8):bits .and .i64 (b.toNat:Int) 7=((b.toNat % 8:Nat):Int):=and_7F ⟨b.toNat,b.toNat_lt⟩
theorem tail_far (s:ByteArray) (i:Int) (w:World) (h:(s.size:Int)≤i) (h1:i≤9223372036854775807) :
  Calls Tryz.prog 231 #[.string s,.int .i64 i] w fun e w'=>e = .returned (.tuple #[.int .i64 0,.bool false])∧w=w':=by
 go_enter Tryz.func231,Tryz.ntmps231
 go_wp2
 go_ret2
 exact ⟨rfl,rfl⟩
theorem tail_in (s:ByteArray) (i:Nat) (w:World) (h:i < s.size) (hs:s.size≤9223372036854775807) :
  Calls Tryz.prog 231 #[.string s,.int .i64 i] w fun e w'=>e = .returned (.tuple #[.int .i64 (if s[i].toNat / 64=2 then ((s[i].toNat % 64:Nat):Int) else 0),.bool (decide (s[i].toNat / 64=2))])∧w=w':=by
 have ha:=and_192n s[i]
 have hb:=and_63 s[i]
 by_cases h2:s[i].toNat / 64=2
 ·rw [if_pos h2,decide_eq_true h2]
  rw [decide_eq_true h2] at ha
  clear h2
  go_enter Tryz.func231,Tryz.ntmps231
  go_wp2
  go_ret2
  exact ⟨rfl,rfl⟩
 ·rw [if_neg h2,decide_eq_false h2]
  rw [decide_eq_false h2] at ha
  clear h2
  go_enter Tryz.func231,Tryz.ntmps231
  go_wp2
  go_ret2
  exact ⟨rfl,rfl⟩
def tlN (s:ByteArray) (j:Nat):Option Nat:=if h:j < s.size then (if s[j].toNat / 64=2 then some (s[j].toNat % 64) else none) else none
def accN (s:ByteArray) (i c0:Nat):Nat→Option Nat
 | 0=>some c0
 | k + 1=>match accN s i c0 k,tlN s (i + 1 + k) with|some a,some t=>some (a * 64 + t)|_,_=>none
theorem tail_some (s:ByteArray) (j t:Nat) (w:World) (h:tlN s j=some t) (hs:s.size≤9223372036854775807) :
  Calls Tryz.prog 231 #[.string s,.int .i64 j] w fun e w'=>e = .returned (.tuple #[.int .i64 t,.bool true])∧w=w':=by
 unfold tlN at h
 by_cases hj:j < s.size
 ·rw [dif_pos hj] at h
  by_cases h2:s[j].toNat / 64=2
  ·rw [if_pos h2] at h
   cases h
   have:=tail_in s j w hj hs
   rw [if_pos h2,decide_eq_true h2] at this
   exact this
  ·rw [if_neg h2] at h;cases h
 ·rw [dif_neg hj] at h;cases h
theorem tail_none (s:ByteArray) (j:Nat) (w:World) (h:tlN s j=none) (hs:s.size≤9223372036854775807) (hj2:j≤9223372036854775807) :
  Calls Tryz.prog 231 #[.string s,.int .i64 j] w fun e w'=>e = .returned (.tuple #[.int .i64 0,.bool false])∧w=w':=by
 unfold tlN at h
 by_cases hj:j < s.size
 ·rw [dif_pos hj] at h
  by_cases h2:s[j].toNat / 64=2
  ·rw [if_pos h2] at h;cases h
  ·have:=tail_in s j w hj hs
   rw [if_neg h2,decide_eq_false h2] at this
   exact this
 ·exact tail_far s j w (by omega) (by omega)
theorem tlN_lt {s:ByteArray} {j t:Nat} (h:tlN s j=some t):t < 64∧j < s.size:=by
 unfold tlN at h
 by_cases hj:j < s.size
 ·rw [dif_pos hj] at h
  by_cases h2:s[j].toNat / 64=2
  ·rw [if_pos h2] at h;cases h;omega
  ·rw [if_neg h2] at h;cases h
 ·rw [dif_neg hj] at h;cases h
theorem accN_lt {s:ByteArray} {i c0:Nat} (h0:c0 < 32):∀ {k c:Nat},accN s i c0 k=some c→c < 32 * 64 ^ k
 | 0,c,h=>by cases h;simpa using h0
 | k + 1,c,h=>by
  unfold accN at h
  cases ha:accN s i c0 k with
  | none=>rw [ha] at h;cases h
  | some a=>
   cases ht:tlN s (i + 1 + k) with
   | none=>rw [ha,ht] at h;cases h
   | some t=>
    rw [ha,ht] at h
    cases h
    have h1:=accN_lt h0 ha
    have h2:=(tlN_lt ht).1
    rw [Nat.pow_succ]
    omega
theorem accN_prev {s:ByteArray} {i c0:Nat}:∀ {k m:Nat},k≤m→accN s i c0 k=none→accN s i c0 m=none
 | k,0,h,hn=>by
  obtain rfl:k=0:=by omega
  exact hn
 | k,m + 1,h,hn=>by
  by_cases e:k=m + 1
  ·subst e;exact hn
  ·have:=accN_prev (k:=k) (m:=m) (by omega) hn
   unfold accN
   rw [this]
def oneV (o:Option Nat) (n least:Nat):Value:=match o with
 | some c=>.tuple #[.int .i64 c,.int .i64 n,.bool (decide (least≤c))]
 | none=>.tuple #[.int .i64 0,.int .i64 0,.bool false]
theorem oneV_some (c n least:Nat):oneV (some c) n least = .tuple #[.int .i64 c,.int .i64 n,.bool (decide ((least:Int)≤(c:Int)))]:=by
 unfold oneV
 have:decide ((least:Int)≤(c:Int))=decide (least≤c):=by simp
 rw [this]
theorem one_ascii (s:ByteArray) (i:Nat) (w:World) (h:i < s.size) (hs:s.size≤9223372036854775807) (hb:s[i].toNat < 128) :
  Calls Tryz.prog 196 #[.string s,.int .i64 i] w fun e w'=>e = .returned (.tuple #[.int .i64 s[i].toNat,.int .i64 1,.bool true])∧w=w':=by
 go_enter Tryz.func196,Tryz.ntmps196
 go_wp2
 go_ret3
 exact ⟨rfl,rfl⟩
theorem one_bad (s:ByteArray) (i:Nat) (w:World) (h:i < s.size) (hs:s.size≤9223372036854775807) (hb:128≤s[i].toNat∧s[i].toNat < 192∨248≤s[i].toNat) :
  Calls Tryz.prog 196 #[.string s,.int .i64 i] w fun e w'=>e = .returned (.tuple #[.int .i64 0,.int .i64 0,.bool false])∧w=w':=by
 have hlt:=s[i].toNat_lt
 rcases hb with ⟨h1,h2⟩|h1
 ·go_enter Tryz.func196,Tryz.ntmps196
  go_wp2
  go_ret3
  exact ⟨rfl,rfl⟩
 ·go_enter Tryz.func196,Tryz.ntmps196
  go_wp2
  go_ret3
  exact ⟨rfl,rfl⟩
set_option maxHeartbeats 1000000 in
theorem one_2 (s:ByteArray) (i:Nat) (w:World) (h:i < s.size) (hs:s.size≤4611686018427387904) (h1:192≤s[i].toNat) (h2:s[i].toNat < 224) :
  Calls Tryz.prog 196 #[.string s,.int .i64 i] w fun e w'=>e = .returned (oneV (accN s i (s[i].toNat % 32) 1) 2 128)∧w=w':=by
 have ha:=and_31 s[i]
 have hm:s[i].toNat % 32 < 32:=by omega
 have hd0:decide ((s[i].toNat:Int) < 128)=false:=decide_eq_false (by omega)
 have hd1:decide ((s[i].toNat:Int) < 192)=false:=decide_eq_false (by omega)
 have hd2:decide ((s[i].toNat:Int) < 224)=true:=by simp;omega
 have hd4:decide ((s[i].toNat:Int) < 248)=true:=by simp;omega
 have hd3:decide ((s[i].toNat:Int) < 240)=true:=by simp;omega
 generalize hM:s[i].toNat % 32=M at *
 have HM:=Lib.hid hM
 clear hM
 go_enter Tryz.func196,Tryz.ntmps196
 go_wp2
 go_loop [7,10,11,12] (fun cv kv _ _=>∃ k c:Nat,k < 2∧kv = .int .i64 ((k:Int) + 1)∧cv = .int .i64 c∧Hid (accN s i M k=some c)) (fun _ kv _ _=>(2 - intOf kv).toNat)
 case atStart=>exact ⟨0,M,by omega,rfl,rfl,(rfl:accN s i M 0=some M)⟩
 case round=>
  obtain ⟨k,c,hk,rfl,rfl,HA⟩:=hrel
  have hc:=accN_lt hm HA.out
  have hc2:c≤32 * 64 ^ 3:=Nat.le_trans (Nat.le_of_lt hc) (Nat.mul_le_mul_left _ (Nat.pow_le_pow_right (by omega) (by omega)))
  have hc3:c≤8388608:=by simpa using hc2
  clear hc hc2
  by_cases hlt:k < 1
  ·cases ht:tlN s (i + 1 + k) with
   | some t=>
    have h64:=(tlN_lt ht).1
    have hcall:=tail_some s _ _ w ht (by omega)
    have HN:=Lib.hid (show accN s i M (k + 1)=some (c * 64 + t) by unfold accN;rw [HA.out,ht])
    have hcast:((i + 1 + k:Nat):Int)=(i:Int) + ((k:Int) + 1):=by omega
    rw [hcast] at hcall
    have HC:=Lib.hid hcall
    clear ht hcall hcast
    go_wp2_with fail
    refine HC.out.mono ?_
    rintro e w' ⟨rfl,rfl⟩
    go_wp2
    go_round
    case rel=>exact ⟨k + 1,c * 64 + t,by omega,by go_num,by go_num,HN⟩
    case measure=>simp [intOf];omega
   | none=>
    have hcall:=tail_none s (i + 1 + k) w ht (by omega) (by omega)
    have HN:=Lib.hid (show accN s i M 1=none from accN_prev (k:=k + 1) (by omega) (by unfold accN;rw [HA.out,ht]))
    have hcast:((i + 1 + k:Nat):Int)=(i:Int) + ((k:Int) + 1):=by omega
    rw [hcast] at hcall
    have HC:=Lib.hid hcall
    clear ht hcall hcast
    go_wp2_with fail
    refine HC.out.mono ?_
    rintro e w' ⟨rfl,rfl⟩
    go_wp2
    go_ret3
    exact ⟨by rw [HN.out];rfl,rfl⟩
  ·obtain rfl:k=1:=by omega
   go_wp2
   go_ret3
   exact ⟨by rw [HA.out,oneV_some];rfl,rfl⟩
set_option maxHeartbeats 1000000 in
theorem one_3 (s:ByteArray) (i:Nat) (w:World) (h:i < s.size) (hs:s.size≤4611686018427387904) (h1:224≤s[i].toNat) (h2:s[i].toNat < 240) :
  Calls Tryz.prog 196 #[.string s,.int .i64 i] w fun e w'=>e = .returned (oneV (accN s i (s[i].toNat % 16) 2) 3 2048)∧w=w':=by
 have ha:=and_15 s[i]
 have hm:s[i].toNat % 16 < 32:=by omega
 have hd0:decide ((s[i].toNat:Int) < 128)=false:=decide_eq_false (by omega)
 have hd1:decide ((s[i].toNat:Int) < 224)=false:=decide_eq_false (by omega)
 have hd2:decide ((s[i].toNat:Int) < 224)=false:=by simp;omega
 have hd4:decide ((s[i].toNat:Int) < 248)=true:=by simp;omega
 have hd3:decide ((s[i].toNat:Int) < 240)=true:=by simp;omega
 generalize hM:s[i].toNat % 16=M at *
 have HM:=Lib.hid hM
 clear hM
 go_enter Tryz.func196,Tryz.ntmps196
 go_wp2
 go_loop [7,10,11,12] (fun cv kv _ _=>∃ k c:Nat,k < 3∧kv = .int .i64 ((k:Int) + 1)∧cv = .int .i64 c∧Hid (accN s i M k=some c)) (fun _ kv _ _=>(3 - intOf kv).toNat)
 case atStart=>exact ⟨0,M,by omega,rfl,rfl,(rfl:accN s i M 0=some M)⟩
 case round=>
  obtain ⟨k,c,hk,rfl,rfl,HA⟩:=hrel
  have hc:=accN_lt hm HA.out
  have hc2:c≤32 * 64 ^ 3:=Nat.le_trans (Nat.le_of_lt hc) (Nat.mul_le_mul_left _ (Nat.pow_le_pow_right (by omega) (by omega)))
  have hc3:c≤8388608:=by simpa using hc2
  clear hc hc2
  by_cases hlt:k < 2
  ·cases ht:tlN s (i + 1 + k) with
   | some t=>
    have h64:=(tlN_lt ht).1
    have hcall:=tail_some s _ _ w ht (by omega)
    have HN:=Lib.hid (show accN s i M (k + 1)=some (c * 64 + t) by unfold accN;rw [HA.out,ht])
    have hcast:((i + 1 + k:Nat):Int)=(i:Int) + ((k:Int) + 1):=by omega
    rw [hcast] at hcall
    have HC:=Lib.hid hcall
    clear ht hcall hcast
    go_wp2_with fail
    refine HC.out.mono ?_
    rintro e w' ⟨rfl,rfl⟩
    go_wp2
    go_round
    case rel=>exact ⟨k + 1,c * 64 + t,by omega,by go_num,by go_num,HN⟩
    case measure=>simp [intOf];omega
   | none=>
    have hcall:=tail_none s (i + 1 + k) w ht (by omega) (by omega)
    have HN:=Lib.hid (show accN s i M 2=none from accN_prev (k:=k + 1) (by omega) (by unfold accN;rw [HA.out,ht]))
    have hcast:((i + 1 + k:Nat):Int)=(i:Int) + ((k:Int) + 1):=by omega
    rw [hcast] at hcall
    have HC:=Lib.hid hcall
    clear ht hcall hcast
    go_wp2_with fail
    refine HC.out.mono ?_
    rintro e w' ⟨rfl,rfl⟩
    go_wp2
    go_ret3
    exact ⟨by rw [HN.out];rfl,rfl⟩
  ·obtain rfl:k=2:=by omega
   go_wp2
   go_ret3
   exact ⟨by rw [HA.out,oneV_some];rfl,rfl⟩
set_option maxHeartbeats 1000000 in
theorem one_4 (s:ByteArray) (i:Nat) (w:World) (h:i < s.size) (hs:s.size≤4611686018427387904) (h1:240≤s[i].toNat) (h2:s[i].toNat < 248) :
  Calls Tryz.prog 196 #[.string s,.int .i64 i] w fun e w'=>e = .returned (oneV (accN s i (s[i].toNat % 8) 3) 4 65536)∧w=w':=by
 have ha:=and_7 s[i]
 have hm:s[i].toNat % 8 < 32:=by omega
 have hd0:decide ((s[i].toNat:Int) < 128)=false:=decide_eq_false (by omega)
 have hd1:decide ((s[i].toNat:Int) < 240)=false:=decide_eq_false (by omega)
 have hd2:decide ((s[i].toNat:Int) < 224)=false:=by simp;omega
 have hd4:decide ((s[i].toNat:Int) < 248)=true:=by simp;omega
 have hd3:decide ((s[i].toNat:Int) < 240)=false:=by simp;omega
 generalize hM:s[i].toNat % 8=M at *
 have HM:=Lib.hid hM
 clear hM
 go_enter Tryz.func196,Tryz.ntmps196
 go_wp2
 go_loop [7,10,11,12] (fun cv kv _ _=>∃ k c:Nat,k < 4∧kv = .int .i64 ((k:Int) + 1)∧cv = .int .i64 c∧Hid (accN s i M k=some c)) (fun _ kv _ _=>(4 - intOf kv).toNat)
 case atStart=>exact ⟨0,M,by omega,rfl,rfl,(rfl:accN s i M 0=some M)⟩
 case round=>
  obtain ⟨k,c,hk,rfl,rfl,HA⟩:=hrel
  have hc:=accN_lt hm HA.out
  have hc2:c≤32 * 64 ^ 3:=Nat.le_trans (Nat.le_of_lt hc) (Nat.mul_le_mul_left _ (Nat.pow_le_pow_right (by omega) (by omega)))
  have hc3:c≤8388608:=by simpa using hc2
  clear hc hc2
  by_cases hlt:k < 3
  ·cases ht:tlN s (i + 1 + k) with
   | some t=>
    have h64:=(tlN_lt ht).1
    have hcall:=tail_some s _ _ w ht (by omega)
    have HN:=Lib.hid (show accN s i M (k + 1)=some (c * 64 + t) by unfold accN;rw [HA.out,ht])
    have hcast:((i + 1 + k:Nat):Int)=(i:Int) + ((k:Int) + 1):=by omega
    rw [hcast] at hcall
    have HC:=Lib.hid hcall
    clear ht hcall hcast
    go_wp2_with fail
    refine HC.out.mono ?_
    rintro e w' ⟨rfl,rfl⟩
    go_wp2
    go_round
    case rel=>exact ⟨k + 1,c * 64 + t,by omega,by go_num,by go_num,HN⟩
    case measure=>simp [intOf];omega
   | none=>
    have hcall:=tail_none s (i + 1 + k) w ht (by omega) (by omega)
    have HN:=Lib.hid (show accN s i M 3=none from accN_prev (k:=k + 1) (by omega) (by unfold accN;rw [HA.out,ht]))
    have hcast:((i + 1 + k:Nat):Int)=(i:Int) + ((k:Int) + 1):=by omega
    rw [hcast] at hcall
    have HC:=Lib.hid hcall
    clear ht hcall hcast
    go_wp2_with fail
    refine HC.out.mono ?_
    rintro e w' ⟨rfl,rfl⟩
    go_wp2
    go_ret3
    exact ⟨by rw [HN.out];rfl,rfl⟩
  ·obtain rfl:k=3:=by omega
   go_wp2
   go_ret3
   exact ⟨by rw [HA.out,oneV_some];rfl,rfl⟩
open Go.Lib (decodeL decodeL_width decodeL_drop decodeN)
theorem get_at {s:ByteArray} {i:Nat} (h:i < s.size):s.get! i=s[i]:=getElem!_pos s.data i h
theorem tlN_get (s:ByteArray) (j:Nat):tlN s j=if j < s.size∧(s.get! j).toNat / 64=2 then some ((s.get! j).toNat % 64) else none:=by
 unfold tlN
 by_cases h:j < s.size
 ·rw [dif_pos h,get_at h]
  by_cases h2:s[j].toNat / 64=2
  ·rw [if_pos h2,if_pos ⟨h,h2⟩]
  ·rw [if_neg h2,if_neg (fun x=>h2 x.2)]
 ·rw [dif_neg h,if_neg (fun x=>h x.1)]
def OneOk (o:Option Nat) (n least:Nat) (d:Nat × Nat):Prop:=
 (badD d=false→∃ c,o=some c∧least≤c∧d=(c,n))∧(badD d=true→∀ c,o=some c→least≤c→charB c=false)
theorem badD_err:badD (65533,1)=true:=rfl
theorem badD_wide {c n:Nat} (hn:2≤n):badD (c,n) = !charB c:=by
 have:(n == 1)=false:=beq_eq_false_iff_ne.2 (by omega)
 unfold badD
 show ((c == 65533 && n == 1) || !charB c)=_
 rw [this,Bool.and_false,Bool.false_or]
theorem oneOk_err {o:Option Nat} {n least:Nat} (h:∀ c,o=some c→least≤c→charB c=false):OneOk o n least (65533,1):=
 ⟨fun h=>(by rw [badD_err] at h;cases h),fun _=>h⟩
theorem oneOk_hit {c n least:Nat} (hn:2≤n) (hl:least≤c):OneOk (some c) n least (c,n):=
 ⟨fun _=>⟨c,rfl,hl,rfl⟩,fun h d hd _=>by cases hd;rw [badD_wide hn] at h;simpa using h⟩
theorem sur_char {c:Nat} (h:55296≤c∧c < 57344∨1114111 < c):charB c=false:=charB_f (by omega)
theorem decN2 (n b0 b1 b2 b3:Nat) (h1:192≤b0) (h2:b0 < 224):decodeN n b0 b1 b2 b3=if 1 < n∧b1 / 64=2 then (if 128≤b0 % 32 * 64 + b1 % 64 then (b0 % 32 * 64 + b1 % 64,2) else (65533,1)) else (65533,1):=by
 unfold decodeN
 rw [if_neg (by omega)]
 by_cases ht:1 < n∧b1 / 64=2
 ·rw [if_pos ⟨by omega,ht⟩,if_pos ht]
 ·rw [if_neg (fun x=>ht x.2),if_neg (fun x=>by have:=x.1;omega),if_neg (fun x=>by have:=x.1;omega),if_neg ht]
theorem decN3 (n b0 b1 b2 b3:Nat) (h1:224≤b0) (h2:b0 < 240):decodeN n b0 b1 b2 b3=if (1 < n∧b1 / 64=2)∧(2 < n∧b2 / 64=2) then (if b0 % 16 * 4096 + b1 % 64 * 64 + b2 % 64 ≥ 2048∧(b0 % 16 * 4096 + b1 % 64 * 64 + b2 % 64 < 55296∨(57344≤b0 % 16 * 4096 + b1 % 64 * 64 + b2 % 64∧b0 % 16 * 4096 + b1 % 64 * 64 + b2 % 64≤1114111)) then (b0 % 16 * 4096 + b1 % 64 * 64 + b2 % 64,3) else (65533,1)) else (65533,1):=by
 unfold decodeN
 rw [if_neg (by omega),if_neg (fun x=>by have:=x.1;omega)]
 by_cases ht:(1 < n∧b1 / 64=2)∧(2 < n∧b2 / 64=2)
 ·rw [if_pos ⟨by omega,ht⟩,if_pos ht]
 ·rw [if_neg (fun x=>ht x.2),if_neg (fun x=>by have:=x.1;omega),if_neg ht]
theorem decN4 (n b0 b1 b2 b3:Nat) (h1:240≤b0) (h2:b0 < 248):decodeN n b0 b1 b2 b3=if (1 < n∧b1 / 64=2)∧(2 < n∧b2 / 64=2)∧(3 < n∧b3 / 64=2) then
  (if b0 % 8 * 262144 + b1 % 64 * 4096 + b2 % 64 * 64 + b3 % 64 ≥ 65536∧(b0 % 8 * 262144 + b1 % 64 * 4096 + b2 % 64 * 64 + b3 % 64 < 55296∨(57344≤b0 % 8 * 262144 + b1 % 64 * 4096 + b2 % 64 * 64 + b3 % 64∧b0 % 8 * 262144 + b1 % 64 * 4096 + b2 % 64 * 64 + b3 % 64≤1114111))
   then (b0 % 8 * 262144 + b1 % 64 * 4096 + b2 % 64 * 64 + b3 % 64,4) else (65533,1)) else (65533,1):=by
 unfold decodeN
 rw [if_neg (by omega),if_neg (fun x=>by have:=x.1;omega),if_neg (fun x=>by have:=x.1;omega)]
 by_cases ht:(1 < n∧b1 / 64=2)∧(2 < n∧b2 / 64=2)∧(3 < n∧b3 / 64=2)
 ·rw [if_pos ⟨by omega,ht⟩,if_pos ht]
 ·rw [if_neg (fun x=>ht x.2),if_neg ht]
theorem one_plain2 (s:ByteArray) (i:Nat) (h:i < s.size) (h1:192≤s[i].toNat) (h2:s[i].toNat < 224):OneOk (accN s i (s[i].toNat % 32) 1) 2 128 (Utf8.decode s i):=by
 rw [Lib.decode_at,get_at h,decN2 _ _ _ _ _ h1 h2]
 have e1:(1 < s.size - i)=(i + 1 < s.size):=propext (by omega)
 unfold accN accN
 rw [tlN_get]
 simp only [Nat.add_zero,e1]
 generalize (s.get! (i + 1)).toNat=b1
 generalize s[i].toNat=b0 at *
 by_cases ht:i + 1 < s.size∧b1 / 64=2
 ·simp only [ht,and_self,if_true]
  split
  ·rename_i hc;exact oneOk_hit (by omega) hc
  ·exact oneOk_err (fun c h hl=>by cases h;omega)
 ·simp only [ht,if_false]
  exact oneOk_err (fun c h=>by cases h)
theorem one_plain3 (s:ByteArray) (i:Nat) (h:i < s.size) (h1:224≤s[i].toNat) (h2:s[i].toNat < 240):OneOk (accN s i (s[i].toNat % 16) 2) 3 2048 (Utf8.decode s i):=by
 rw [Lib.decode_at,get_at h,decN3 _ _ _ _ _ h1 h2]
 have e1:(1 < s.size - i)=(i + 1 < s.size):=propext (by omega)
 have e2:(2 < s.size - i)=(i + 2 < s.size):=propext (by omega)
 have e3:i + 1 + 1=i + 2:=by omega
 unfold accN accN accN
 rw [tlN_get,tlN_get]
 simp only [Nat.add_zero,e1,e2,e3]
 generalize (s.get! (i + 1)).toNat=b1
 generalize (s.get! (i + 2)).toNat=b2
 generalize s[i].toNat=b0 at *
 by_cases ht:i + 1 < s.size∧b1 / 64=2
 ·by_cases hu:i + 2 < s.size∧b2 / 64=2
  ·have e:(b0 % 16 * 64 + b1 % 64) * 64 + b2 % 64=b0 % 16 * 4096 + b1 % 64 * 64 + b2 % 64:=by omega
   simp only [ht,hu,and_self,if_true,e]
   split
   ·rename_i hc;exact oneOk_hit (by omega) hc.1
   ·exact oneOk_err (fun c h hl=>by cases h;exact sur_char (by omega))
  ·simp only [ht,hu,and_self,and_false,if_true,if_false]
   exact oneOk_err (fun c h=>by cases h)
 ·simp only [ht,false_and,if_false]
  exact oneOk_err (fun c h=>by cases h)
theorem one_plain4 (s:ByteArray) (i:Nat) (h:i < s.size) (h1:240≤s[i].toNat) (h2:s[i].toNat < 248):OneOk (accN s i (s[i].toNat % 8) 3) 4 65536 (Utf8.decode s i):=by
 rw [Lib.decode_at,get_at h,decN4 _ _ _ _ _ h1 h2]
 have e1:(1 < s.size - i)=(i + 1 < s.size):=propext (by omega)
 have e2:(2 < s.size - i)=(i + 2 < s.size):=propext (by omega)
 have e3:(3 < s.size - i)=(i + 3 < s.size):=propext (by omega)
 have e4:i + 1 + 1=i + 2:=by omega
 have e5:i + 1 + 2=i + 3:=by omega
 unfold accN accN accN accN
 rw [tlN_get,tlN_get,tlN_get]
 simp only [Nat.add_zero,e1,e2,e3,e4,e5]
 generalize (s.get! (i + 1)).toNat=b1
 generalize (s.get! (i + 2)).toNat=b2
 generalize (s.get! (i + 3)).toNat=b3
 generalize s[i].toNat=b0 at *
 by_cases ht:i + 1 < s.size∧b1 / 64=2
 ·by_cases hu:i + 2 < s.size∧b2 / 64=2
  ·by_cases hw:i + 3 < s.size∧b3 / 64=2
   ·have e:((b0 % 8 * 64 + b1 % 64) * 64 + b2 % 64) * 64 + b3 % 64=b0 % 8 * 262144 + b1 % 64 * 4096 + b2 % 64 * 64 + b3 % 64:=by omega
    simp only [ht,hu,hw,and_self,if_true,e]
    split
    ·rename_i hc;exact oneOk_hit (by omega) hc.1
    ·exact oneOk_err (fun c h hl=>by cases h;exact sur_char (by omega))
   ·simp only [ht,hu,hw,and_self,and_false,if_true,if_false]
    exact oneOk_err (fun c h=>by cases h)
  ·simp only [ht,hu,false_and,and_false,and_self,if_true,if_false]
   exact oneOk_err (fun c h=>by cases h)
 ·simp only [ht,false_and,if_false]
  exact oneOk_err (fun c h=>by cases h)
theorem one_plain0 (s:ByteArray) (i:Nat) (h:i < s.size) (hb:128≤s[i].toNat∧s[i].toNat < 192∨248≤s[i].toNat):Utf8.decode s i=(65533,1):=by
 rw [Lib.decode_at,get_at h]
 have:=s[i].toNat_lt
 unfold decodeN
 rw [if_neg (by omega),if_neg (by omega),if_neg (by omega),if_neg (by omega)]
def OneTells (d:Nat × Nat) (e:Ending):Prop:=
 (badD d=false∧e = .returned (.tuple #[.int .i64 d.1,.int .i64 d.2,.bool true]))∨
 (badD d=true∧∃ c n:Nat,c≤8388608∧charB c=false∧e = .returned (.tuple #[.int .i64 c,.int .i64 n,.bool true]))∨
 (badD d=true∧e = .returned (.tuple #[.int .i64 (0:Nat),.int .i64 (0:Nat),.bool false]))∨
 (badD d=true∧∃ c n:Nat,c≤8388608∧e = .returned (.tuple #[.int .i64 c,.int .i64 n,.bool false]))
theorem oneTells_of {o:Option Nat} {n least:Nat} {d:Nat × Nat} (h:OneOk o n least d) (hlt:∀ c,o=some c→c≤8388608):OneTells d (.returned (oneV o n least)):=by
 cases hb:badD d with
 | false=>
  obtain ⟨c,rfl,hl,rfl⟩:=h.1 hb
  exact .inl ⟨hb,by simp [oneV,hl]⟩
 | true=>
  cases o with
  | none=>exact .inr (.inr (.inl ⟨hb,rfl⟩))
  | some c=>
   by_cases hl:least≤c
   ·exact .inr (.inl ⟨hb,c,n,hlt c rfl,h.2 hb c rfl hl,by simp [oneV,hl]⟩)
   ·exact .inr (.inr (.inr ⟨hb,c,n,hlt c rfl,by simp [oneV,hl]⟩))
theorem accN_le {s:ByteArray} {i c0 k c:Nat} (h0:c0 < 32) (hk:k≤3) (h:accN s i c0 k=some c):c≤8388608:=by
 have:=accN_lt h0 h
 have h2:32 * 64 ^ k≤32 * 64 ^ 3:=Nat.mul_le_mul_left _ (Nat.pow_le_pow_right (by omega) hk)
 have:(32 * 64 ^ 3:Nat)=8388608:=by decide
 omega
theorem one_any (s:ByteArray) (i:Nat) (w:World) (h:i < s.size) (hs:s.size≤4611686018427387904) :
  Calls Tryz.prog 196 #[.string s,.int .i64 i] w fun e w'=>OneTells (decodeL (s.data.toList.drop i)) e∧w=w':=by
 rw [decodeL_drop]
 have hlt:=s[i].toNat_lt
 by_cases c1:s[i].toNat < 128
 ·refine (one_ascii s i w h (by omega) c1).mono fun e w' ⟨he,hw⟩=>⟨?_,hw⟩
  subst he
  rw [decode_ascii s i h c1]
  by_cases hc:charB ((s[i].toNat:Nat):Int)=true
  ·refine .inl ⟨?_,rfl⟩
   unfold badD
   simp only [hc,Bool.not_true,Bool.or_false]
   have:(s[i].toNat == 65533)=false:=beq_eq_false_iff_ne.2 (by omega)
   rw [this];rfl
  ·rw [Bool.not_eq_true] at hc
   refine .inr (.inl ⟨by unfold badD;simp only [hc,Bool.not_false,Bool.or_true],_,1,by omega,hc,rfl⟩)
 by_cases c2:s[i].toNat < 192
 ·refine (one_bad s i w h (by omega) (by omega)).mono fun e w' ⟨he,hw⟩=>⟨?_,hw⟩
  subst he
  rw [one_plain0 s i h (by omega)]
  exact .inr (.inr (.inl ⟨rfl,rfl⟩))
 by_cases c3:s[i].toNat < 224
 ·refine (one_2 s i w h (by omega) (by omega) c3).mono fun e w' ⟨he,hw⟩=>⟨?_,hw⟩
  subst he
  exact oneTells_of (one_plain2 s i h (by omega) c3) (fun c hc=>accN_le (by omega) (by omega) hc)
 by_cases c4:s[i].toNat < 240
 ·refine (one_3 s i w h (by omega) (by omega) c4).mono fun e w' ⟨he,hw⟩=>⟨?_,hw⟩
  subst he
  exact oneTells_of (one_plain3 s i h (by omega) c4) (fun c hc=>accN_le (by omega) (by omega) hc)
 by_cases c5:s[i].toNat < 248
 ·refine (one_4 s i w h (by omega) (by omega) c5).mono fun e w' ⟨he,hw⟩=>⟨?_,hw⟩
  subst he
  exact oneTells_of (one_plain4 s i h (by omega) c5) (fun c hc=>accN_le (by omega) (by omega) hc)
 ·refine (one_bad s i w h (by omega) (by omega)).mono fun e w' ⟨he,hw⟩=>⟨?_,hw⟩
  subst he
  rw [one_plain0 s i h (by omega)]
  exact .inr (.inr (.inl ⟨rfl,rfl⟩))
set_option maxHeartbeats 2000000 in
theorem rChar_any (c:Nat) (w:World) (h1:c≤8388608) :
  Calls Tryz.prog 197 #[.int .i64 c] w fun e w'=>e = .returned (.bool (charB c))∧w=w':=by
 have hsp:(9≤c∧c≤9)∨(10≤c∧c≤10)∨(13≤c∧c≤13)∨(c≤8)∨(11≤c∧c≤12)∨(14≤c∧c < 32)∨(32≤c∧c < 55296)∨(55296≤c∧c < 57344)∨(57344≤c∧c < 65534)∨(65534≤c∧c < 65536)∨(65536≤c∧c≤1114111)∨(1114111 < c):=by omega
 rcases hsp with ⟨h,h'⟩ | ⟨h,h'⟩ | ⟨h,h'⟩|h | ⟨h,h'⟩ | ⟨h,h'⟩ | ⟨h,h'⟩ | ⟨h,h'⟩ | ⟨h,h'⟩ | ⟨h,h'⟩ | ⟨h,h'⟩|h
 all_goals
  first
   | have HC:=Lib.hid (charB_t (c:=(c:Int)) (by omega))
   | have HC:=Lib.hid (charB_f (c:=(c:Int)) (by omega))
  first|have b9:((c:Int) == 9)=true:=beq_iff_eq.2 (by omega)|have b9:((c:Int) == 9)=false:=beq_eq_false_iff_ne.2 (by omega)
  first|have b10:((c:Int) == 10)=true:=beq_iff_eq.2 (by omega)|have b10:((c:Int) == 10)=false:=beq_eq_false_iff_ne.2 (by omega)
  first|have b13:((c:Int) == 13)=true:=beq_iff_eq.2 (by omega)|have b13:((c:Int) == 13)=false:=beq_eq_false_iff_ne.2 (by omega)
  go_enter Tryz.func197,Tryz.ntmps197
  go_wp2
  go_ret
  exact ⟨c_ret_bool (by rw [HC.out];try (first|rfl|(simp;done)|(simp <;> omega))),rfl⟩
theorem n_info:(Tryz.prog.info? 3).map (fun i=>(i.zero,i.size,i.bytes))=some (some (.int .i64 0),1,8):=by kernel_rfl
def offsV (cs:List Nat) (n:Nat):List Value:=(List.range n).map fun j=>.int .i64 (offC cs j:Nat)
theorem offC_snoc (cs:List Nat) (c j:Nat) (h:j≤cs.length):offC (cs++[c]) j=offC cs j:=by
 unfold offC
 rw [List.take_append_of_le_length h]
theorem offsV_snoc (cs:List Nat) (c:Nat):offsV (cs++[c]) (cs++[c]).length=offsV cs cs.length++[.int .i64 ((cs.flatMap encL).length:Nat)]:=by
 unfold offsV
 rw [List.length_append,List.length_singleton,List.range_succ,List.map_append,List.map_singleton]
 congr 1
 ·apply List.map_congr_left
  intro j hj
  rw [offC_snoc _ _ _ (Nat.le_of_lt (List.mem_range.1 hj))]
 ·rw [offC_snoc _ _ _ (Nat.le_refl _),offC_all _ (Nat.le_refl _)]
theorem offsV_last (cs:List Nat):offsV cs (cs.length + 1)=offsV cs cs.length++[.int .i64 ((cs.flatMap encL).length:Nat)]:=by
 unfold offsV
 rw [List.range_succ,List.map_append,List.map_singleton,offC_all _ (Nat.le_refl _)]
def CharsPost (s:ByteArray) (w:World) (e:Ending) (w' : World):Prop:=∃ v,e = .returned (.tuple #[v,.bool (textB s)])∧Below w.heap.size w w'∧
 ∀ cs,chars s.data.toList=some cs→w'.ownsRow w.heap.size 3 1 v (cs.length + 1) (offsV cs (cs.length + 1))
def Upto (s:ByteArray) (i:Nat) (pre:List Nat):Prop:=i=(pre.flatMap encL).length∧i≤s.size∧pre.length≤i∧chars s.data.toList=(chars (s.data.toList.drop i)).map (pre++·)
theorem Upto.start (s:ByteArray):Upto s 0 []:=⟨rfl,by omega,by simp,by simp⟩
theorem drop_ne {s:ByteArray} {i:Nat} (h:i < s.size):s.data.toList.drop i≠[]:=by
 intro e
 have:=congrArg List.length e
 rw [List.length_drop,List.length_nil,Array.length_toList] at this
 have:s.data.size=s.size:=rfl
 omega
theorem Upto.bad {s:ByteArray} {i:Nat} {pre:List Nat} (h:Upto s i pre) (hi:i < s.size) (hb:badD (decodeL (s.data.toList.drop i))=true):chars s.data.toList=none:=by
 obtain ⟨_,_,_,h4⟩:=h
 rw [h4,chars_step (drop_ne hi),hb]
 rfl
theorem Upto.good {s:ByteArray} {i:Nat} {pre:List Nat} (h:Upto s i pre) (hi:i < s.size) (hb:badD (decodeL (s.data.toList.drop i))=false) :
  Upto s (i + (decodeL (s.data.toList.drop i)).2) (pre++[(decodeL (s.data.toList.drop i)).1])∧charB (decodeL (s.data.toList.drop i)).1=true∧(decodeL (s.data.toList.drop i)).1≤1114111∧1≤(decodeL (s.data.toList.drop i)).2∧i + (decodeL (s.data.toList.drop i)).2≤s.size:=by
 obtain ⟨h1,h2,h3,h4⟩:=h
 obtain ⟨e1,e2⟩:=enc_dec (drop_ne hi) hb
 have hw:=decodeL_width (s.data.toList.drop i)
 have hl:(s.data.toList.drop i).length=s.size - i:=by rw [List.length_drop,Array.length_toList];rfl
 have hlen:(encL (decodeL (s.data.toList.drop i)).1).length=(decodeL (s.data.toList.drop i)).2:=by rw [e1,List.length_take,Nat.min_eq_left e2]
 refine ⟨⟨?_,by omega,by simp;omega,?_⟩,?_,Lib.decodeL_rune _,hw,by omega⟩
 ·rw [List.flatMap_append,List.length_append,← h1]
  simp [hlen]
 ·rw [h4,chars_step (drop_ne hi),hb,List.drop_drop]
  rw [if_neg (by decide),Option.map_map]
  exact congrArg (fun f=>Option.map f _) (funext fun l=>by simp)
 ·unfold badD at hb
  rw [Bool.or_eq_false_iff] at hb
  simpa using hb.2
theorem Upto.done {s:ByteArray} {i:Nat} {pre:List Nat} (h:Upto s i pre) (hi:s.size≤i):chars s.data.toList=some pre:=by
 obtain ⟨_,_,_,h4⟩:=h
 rw [h4,List.drop_of_length_le (by rw [Array.length_toList];exact hi),chars_nil]
 simp
theorem text_of_none {s:ByteArray} (h:chars s.data.toList=none):textB s=false:=by rw [textB_chars,h];rfl
theorem text_of_some {s:ByteArray} {cs:List Nat} (h:chars s.data.toList=some cs):textB s=true:=by rw [textB_chars,h];rfl
set_option maxHeartbeats 2000000 in
theorem rChars_any (s:ByteArray) (w:World) (hs:s.size≤1099511627776) :
  Calls Tryz.prog 141 #[.string s] w (CharsPost s w):=by
 obtain ⟨i0,hi,hz0,hz1,hz2⟩:=info_parts n_info
 have hown0:w.ownsRow w.heap.size 3 1 (.slice none 0 0) 0 []:=⟨rfl,Or.inl ⟨rfl,rfl⟩⟩
 have HOwn0:=Lib.hid hown0
 clear hown0
 go_enter Tryz.func141,Tryz.ntmps141
 go_wp2
 go_loopw [4,5,6,7,8] (fun v iv _ _ _ wr=>∃ (pre:List Nat) (i:Nat),iv = .int .i64 i∧i≤s.size∧pre.length≤i∧Hid (Upto s i pre)∧Hid (wr.ownsRow w.heap.size 3 1 v pre.length (offsV pre pre.length))∧Hid (Below w.heap.size w wr)) (fun _ iv _ _ _ _=>s.size - (intOf iv).toNat)
 case atStart=>exact ⟨[],0,rfl,by omega,by simp,Upto.start s,HOwn0,Below.refl _ _⟩
 case round=>
  obtain ⟨pre,i,rfl,his,hpi,HU,HO,HB⟩:=hrel
  by_cases hlt:i < s.size
  ·have hone:=one_any s i wr hlt (by omega)
   have HOne:=Lib.hid hone
   clear hone
   go_wp2_with fail
   refine HOne.out.mono ?_
   rintro e w1 ⟨hte,rfl⟩
   rcases hte with ⟨hb,rfl⟩ | ⟨hb,c,n,hc,hcb,rfl⟩ | ⟨hb,rfl⟩ | ⟨hb,c,n,hc,rfl⟩
   ·obtain ⟨hu,hcb,hc,hn,hin⟩:=HU.out.good hlt hb
    have HU2:=Lib.hid hu
    have HCb:=Lib.hid hcb
    have HSn:=Lib.hid (offsV_snoc pre (decodeL (s.data.toList.drop i)).1)
    have HI:=Lib.hid HU.out.1
    clear hu hcb hb
    generalize decodeL (s.data.toList.drop i)=d at *
    obtain ⟨c,n⟩:=d
    dsimp only at HU2 HCb HSn hc hn hin ⊢
    go_wp2_with fail
    refine (rChar_any c wr (by omega)).mono ?_
    rintro e w1 ⟨rfl,rfl⟩
    rw [HCb.out]
    have hszs:=HB.out.size
    have K3:=Lib.hid (show pre.length + 1≤maxLen by unfold maxLen;omega)
    have K4:=Lib.hid (show (pre.length + 1) * 8≤140737488355328 by omega)
    have K5:=Lib.hid (show w.heap.size≤(wr.alloc (.cells #[.int .i64 i] 3)).heap.size by simp;omega)
    go_wp2_with (at_builtin;refine wpList_append_own _ rfl _ _ 106 rfl w.heap.size 3 i0 (.int .i64 0) 1 8 Tryz.underlying106 hi hz0 hz1 hz2 rfl (by decide) _ _ _ rfl (HO.out.alloc _) ⟨wr.heap.size,0,none⟩ 1 1 [.int .i64 i] rfl rfl ?c1 ?c2 K3.out K4.out K5.out ?_)
    case c1=>exact lit_cells _ _ _
    case c2=>exact lit_one rfl
    intro v' w1 hown1 hgrow1 hnil1
    have hb1:=below_own (HB.out.alloc hszs _) K5.out (HO.out.alloc _) hgrow1
    have HOwn:=Lib.hid (show w1.ownsRow w.heap.size 3 1 v' (pre++[c]).length (offsV (pre++[c]) (pre++[c]).length) by
     rw [HSn.out,List.length_append,List.length_singleton,← HI.out]
     exact hown1)
    have HB1:=Lib.hid hb1
    clear hown1 hgrow1 hnil1 hb1
    go_wp2
    go_roundw
    case rel=>exact ⟨pre++[c],i + n,by go_num,by omega,HU2.out.2.2.1,HU2,HOwn,HB1⟩
    case measure=>simp [intOf];omega
   ·have HN:=Lib.hid (text_of_none (HU.out.bad hlt hb))
    have HN2:=Lib.hid (HU.out.bad hlt hb)
    have HCb:=Lib.hid hcb
    clear hb hcb
    go_wp2_with fail
    refine (rChar_any c wr (by omega)).mono ?_
    rintro e w1 ⟨rfl,rfl⟩
    rw [HCb.out]
    go_wp2
    go_ret2
    exact ⟨_,by rw [HN.out];rfl,HB.out,fun cs h=>by rw [HN2.out] at h;cases h⟩
   ·have HN:=Lib.hid (text_of_none (HU.out.bad hlt hb))
    have HN2:=Lib.hid (HU.out.bad hlt hb)
    clear hb
    go_wp2
    go_ret2
    exact ⟨_,by rw [HN.out];rfl,HB.out,fun cs h=>by rw [HN2.out] at h;cases h⟩
   ·have HN:=Lib.hid (text_of_none (HU.out.bad hlt hb))
    have HN2:=Lib.hid (HU.out.bad hlt hb)
    clear hb
    go_wp2
    go_ret2
    exact ⟨_,by rw [HN.out];rfl,HB.out,fun cs h=>by rw [HN2.out] at h;cases h⟩
  ·have HN2:=Lib.hid (HU.out.done (by omega))
   have HN:=Lib.hid (text_of_some HN2.out)
   have HSn:=Lib.hid (offsV_last pre)
   have HI:=Lib.hid HU.out.1
   have hszs:=HB.out.size
   have K3:=Lib.hid (show pre.length + 1≤maxLen by unfold maxLen;omega)
   have K4:=Lib.hid (show (pre.length + 1) * 8≤140737488355328 by omega)
   have K5:=Lib.hid (show w.heap.size≤(wr.alloc (.cells #[.int .i64 i] 3)).heap.size by simp;omega)
   go_wp2_with (at_builtin;refine wpList_append_own _ rfl _ _ 106 rfl w.heap.size 3 i0 (.int .i64 0) 1 8 Tryz.underlying106 hi hz0 hz1 hz2 rfl (by decide) _ _ _ rfl (HO.out.alloc _) ⟨wr.heap.size,0,none⟩ 1 1 [.int .i64 i] rfl rfl ?c1 ?c2 K3.out K4.out K5.out ?_)
   case c1=>exact lit_cells _ _ _
   case c2=>exact lit_one rfl
   intro v' w1 hown1 hgrow1 hnil1
   have hb1:=below_own (HB.out.alloc hszs _) K5.out (HO.out.alloc _) hgrow1
   have HOwn:=Lib.hid hown1
   have HB1:=Lib.hid hb1
   clear hown1 hgrow1 hnil1 hb1
   go_wp2
   go_ret2
   refine ⟨_,by rw [HN.out];rfl,HB1.out,fun cs h=>?_⟩
   rw [HN2.out] at h
   cases h
   rw [HSn.out,← HI.out]
   exact HOwn.out
theorem rValid_any (s:ByteArray) (w:World) (hs:s.size≤1099511627776) :
  Calls Tryz.prog 93 #[.string s] w fun e w'=>e = .returned (.bool (textB s))∧Below w.heap.size w w':=by
 have HC:=Lib.hid (rChars_any s w hs)
 go_enter Tryz.func93,Tryz.ntmps93
 go_wp2_with fail
 refine HC.out.mono ?_
 rintro e w1 ⟨v,rfl,hb,-⟩
 go_wp2
 go_ret
 exact ⟨rfl,hb⟩
end Go.Proofs.YtnghlakllgkjlaaGreatDoor
