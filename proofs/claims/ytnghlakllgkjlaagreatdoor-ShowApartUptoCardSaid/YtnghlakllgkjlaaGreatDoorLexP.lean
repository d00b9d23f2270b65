/- The words of an expression, in plain Lean: where a token ends, what it is; the list of all. The reader's small functions: a letter, a digit, a blank; Cut, CutPrefix; dec's number. wide's Add of a digit, Read of digits; strings' tails; dec's Parse of a number's text. dec's Parse of a number's text. -/
import Derived.Test.YtnghlakllgkjlaaGreatDoorUnqA
import Derived.Test.YtnghlakllgkjlaaGreatDoorCharsA
import Derived.Test.YtnghlakllgkjlaaGreatDoorDateA
import Derived.Lib.TrimByte
import Derived.Test.YtnghlakllgkjlaaGreatDoorSepA
import Derived.Test.YtnghlakllgkjlaaGreatDoorWideA
import Derived.Test.YtnghlakllgkjlaaGreatDoorTypes
namespace Go.Proofs.YtnghlakllgkjlaaGreatDoor
open Go.RowKit
set_option linter.unusedVariables false
def dg (b:UInt8):Bool:=Cal.digB b
theorem decB_dg (b:UInt8):decB b.toNat=dg b:=by
 unfold decB dg Cal.digB
 rw [Bool.eq_iff_iff]
 simp only [decide_eq_true_eq]
 omega
def dval (l:List UInt8):Nat:=l.foldl (fun a b=>a * 10 + (b.toNat - 48)) 0
def lt1 (b:UInt8):Bool:=letB b.toNat
def blankB (b:UInt8):Bool:=b == 32 || b == 9 || b == 10 || b == 13
def wdB (b:UInt8):Bool:=lt1 b || dg b
def spanL (p:UInt8→Bool):List UInt8→Nat
 | []=>0
 | b :: l=>if p b then spanL p l + 1 else 0
theorem spanL_le (p:UInt8→Bool):∀ l,spanL p l≤l.length
 | []=>Nat.le_refl _
 | b :: l=>by
  unfold spanL
  split
  ·have:=spanL_le p l;simp;omega
  ·exact Nat.zero_le _
def spanE (p:UInt8→Bool) (l:List UInt8) (i:Nat):Nat:=i + spanL p (l.drop i)
theorem drop_cons {l:List UInt8} {i:Nat} {b:UInt8} (h:l[i]? = some b):l.drop i=b :: l.drop (i + 1):=by
 have hi:i < l.length:=(List.getElem?_eq_some_iff.1 h).1
 rw [List.drop_eq_getElem_cons hi]
 rw [List.getElem?_eq_getElem hi] at h
 rw [Option.some.inj h]
theorem spanE_yes {p:UInt8→Bool} {l:List UInt8} {i:Nat} {b:UInt8} (h:l[i]? = some b) (hp:p b=true):spanE p l i=spanE p l (i + 1):=by
 unfold spanE
 rw [drop_cons h]
 unfold spanL
 rw [if_pos hp]
 rw [← spanL.eq_def]
 omega
theorem spanE_no {p:UInt8→Bool} {l:List UInt8} {i:Nat} {b:UInt8} (h:l[i]? = some b) (hp:p b=false):spanE p l i=i:=by
 unfold spanE
 rw [drop_cons h]
 unfold spanL
 rw [if_neg (by rw [hp];simp)]
 rfl
theorem spanE_end {p:UInt8→Bool} {l:List UInt8} {i:Nat} (h:l.length≤i):spanE p l i=i:=by
 unfold spanE
 rw [List.drop_of_length_le h]
 rfl
theorem spanE_le {p:UInt8→Bool} {l:List UInt8} {i:Nat} (h:i≤l.length):i≤spanE p l i∧spanE p l i≤l.length:=by
 unfold spanE
 have:=spanL_le p (l.drop i)
 rw [List.length_drop] at this
 omega
theorem spanE_in {p:UInt8→Bool} {l:List UInt8}:∀ (n i j:Nat),l.length - i=n→i≤j→j < spanE p l i→∃ b,l[j]? = some b∧p b=true
 | n,i,j,hn,hij,hj=>by
  by_cases hi:i < l.length
  ·obtain ⟨b,hb⟩:∃ b,l[i]? = some b:=⟨_,List.getElem?_eq_getElem hi⟩
   cases hp:p b with
   | false=>rw [spanE_no hb hp] at hj;omega
   | true=>
    by_cases e:j=i
    ·subst e;exact ⟨b,hb,hp⟩
    ·rw [spanE_yes hb hp] at hj
     exact spanE_in (l.length - (i + 1)) (i + 1) j rfl (by omega) hj
  ·rw [spanE_end (by omega)] at hj;omega
termination_by n=>n
decreasing_by omega
theorem spanE_stop {p:UInt8→Bool} {l:List UInt8}:∀ (n i:Nat),l.length - i=n→∀ b,l[spanE p l i]? = some b→p b=false
 | n,i,hn,b,hb=>by
  by_cases hi:i < l.length
  ·obtain ⟨c,hc⟩:∃ c,l[i]? = some c:=⟨_,List.getElem?_eq_getElem hi⟩
   cases hp:p c with
   | false=>rw [spanE_no hc hp,hc] at hb;rw [← Option.some.inj hb];exact hp
   | true=>rw [spanE_yes hc hp] at hb;exact spanE_stop (l.length - (i + 1)) (i + 1) rfl b hb
  ·rw [spanE_end (by omega),List.getElem?_eq_none (by omega)] at hb;cases hb
termination_by n=>n
decreasing_by omega
def numE (l:List UInt8) (i:Nat):Nat:=
 let k:=spanE dg l i
 if l[k]? = some 46∧(l[k + 1]?.map dg)=some true then spanE dg l (k + 1) else k
def quoE (l:List UInt8):Nat→Nat→Option Nat
 | 0,_=>none
 | f + 1,k=>match l[k]? with
  | none=>none
  | some b=>if b=92 then quoE l f (k + 2) else if b=34 then some (k + 1) else quoE l f (k + 1)
theorem quoE_more (l:List UInt8):∀ (f g k:Nat),l.length < f + k→l.length < g + k→quoE l f k=quoE l g k
 | 0,0,_,_,_=>rfl
 | 0,g + 1,k,hf,_=>by unfold quoE;rw [List.getElem?_eq_none (by omega)]
 | f + 1,0,k,_,hg=>by unfold quoE;rw [List.getElem?_eq_none (by omega)]
 | f + 1,g + 1,k,hf,hg=>by
  unfold quoE
  cases l[k]? with
  | none=>rfl
  | some b=>
   simp only
   rw [quoE_more l f g (k + 2) (by omega) (by omega),quoE_more l f g (k + 1) (by omega) (by omega)]
theorem quoE_le {l:List UInt8}:∀ (f k e:Nat),quoE l f k=some e→k < e∧e≤l.length
 | f + 1,k,e,h=>by
  unfold quoE at h
  cases hk:l[k]? with
  | none=>rw [hk] at h;cases h
  | some b=>
   have hl:k < l.length:=(List.getElem?_eq_some_iff.1 hk).1
   rw [hk] at h
   simp only at h
   split at h
   ·have:=quoE_le f _ e h;omega
   ·split at h
    ·cases h;omega
    ·have:=quoE_le f _ e h;omega
def unqR (s:ByteArray):ByteArray × Int:=match chars s.data.toList with
 | some _=>match (qform s.data.toList).bind unq with
  | some r=>(⟨r.toArray⟩,0)
  | none=>(⟨#[]⟩,5)
 | none=>(⟨#[]⟩,2)
theorem unquoteV_R (s:ByteArray):unquoteV s = .tuple #[.string (unqR s).1,.int .i64 (unqR s).2]:=by
 unfold unquoteV unqR
 cases chars s.data.toList with
 | none=>rfl
 | some cs=>cases (qform s.data.toList).bind unq <;> rfl
def textF (s:ByteArray) (i:Nat):Option (ByteArray × Nat):=
 if s.data.toList[i]? = some 34 then
  match quoE s.data.toList (s.size + 1) (i + 1) with
  | none=>none
  | some k=>if (unqR (s.extract i k)).2=0 then some ((unqR (s.extract i k)).1,k) else none
 else none
def sgn2 (a b:UInt8):Bool:=(a == 46 && b == 46) || (a == 33 && b == 61) || (a == 60 && b == 61) || (a == 62 && b == 61)
def sgn1 (a:UInt8):Bool:=[40,41,91,93,123,125,44,58,46,43,45,42,47,61,60,62].contains a
def signN (l:List UInt8) (i:Nat):Nat:=
 match l[i]?,l[i + 1]? with
 | some a,some b=>if sgn2 a b then 2 else if sgn1 a then 1 else 0
 | some a,none=>if sgn1 a then 1 else 0
 | none,_=>0
def decT (ds fs:List UInt8):(Nat × Nat) × Int:=
 if 1 < ds.length∧ds[0]? = some 48 then ((0,0),5) else
 if Lib.trimLeftB (ds++Lib.trimRightB fs 48) 48=[] then ((0,0),0) else
 if 18 < (Lib.trimRightB fs 48).length∨34 < (Lib.trimLeftB (ds++Lib.trimRightB fs 48) 48).length then ((0,0),3) else
 ((dval (Lib.trimLeftB (ds++Lib.trimRightB fs 48) 48),(Lib.trimRightB fs 48).length),0)
structure TokD where
 kind:Int
 text:ByteArray
 num:Nat
 sc:Nat
 day:Int
 at_:Nat
def decCs (n sc:Nat):List Value:=[.bool false,.int .u64 (n / 18446744073709551616:Nat),.int .u64 (n % 18446744073709551616:Nat),.int .i64 sc]
def TokD.cs (t:TokD):List Value:=[.int .i64 t.kind,.string t.text,.bool false,.int .u64 (t.num / 18446744073709551616:Nat),.int .u64 (t.num % 18446744073709551616:Nat),.int .i64 t.sc,.int .i64 t.day,.int .i64 t.at_]
theorem TokD.cs_len (t:TokD):t.cs.length=8:=rfl
def numD (l:List UInt8) (i:Nat):List UInt8:=(l.drop i).take (spanL dg (l.drop i))
def numF (l:List UInt8) (i:Nat):List UInt8:=if numE l i=spanE dg l i then [] else (l.drop (spanE dg l i + 1)).take (numE l i - (spanE dg l i + 1))
def oneF (s:ByteArray) (i:Nat):TokD × Nat × Int:=
 match s.data.toList[i]? with
 | none=>(⟨0,⟨#[]⟩,0,0,0,i⟩,i,5)
 | some c=>
  if dg c then
   (⟨1,⟨#[]⟩,(decT (numD s.data.toList i) (numF s.data.toList i)).1.1,(decT (numD s.data.toList i) (numF s.data.toList i)).1.2,0,i⟩,numE s.data.toList i,(decT (numD s.data.toList i) (numF s.data.toList i)).2)
  else if c=34 then
   match textF s i with
   | none=>(⟨0,⟨#[]⟩,0,0,0,i⟩,i,5)
   | some (t,k)=>(⟨2,t,0,0,0,i⟩,k,0)
  else if c=64 then
   match textF s (i + 1) with
   | none=>(⟨0,⟨#[]⟩,0,0,0,i⟩,i,5)
   | some (t,k)=>(⟨3,⟨#[]⟩,0,0,Cal.parseV t.data.toList,i⟩,k,Cal.parseE t.data.toList)
  else if lt1 c then
   if 64 < spanE wdB s.data.toList i - i then (⟨0,⟨#[]⟩,0,0,0,i⟩,i,5)
   else (⟨if wordB (s.extract i (spanE wdB s.data.toList i)).toList then 5 else 4,s.extract i (spanE wdB s.data.toList i),0,0,0,i⟩,spanE wdB s.data.toList i,0)
  else if signN s.data.toList i=0 then (⟨0,⟨#[]⟩,0,0,0,i⟩,i,5)
  else (⟨6,s.extract i (i + signN s.data.toList i),0,0,0,i⟩,i + signN s.data.toList i,0)
def lexG (s:ByteArray):Nat→Nat→List TokD→Bool→Bool→Option (List TokD × Bool × Bool)
 | 0,_,acc,o,r=>some (acc,o,r)
 | f + 1,i,acc,o,r=>match s.data.toList[i]? with
  | none=>some (acc,o,r)
  | some c=>if blankB c then lexG s f (i + 1) acc o r
   else if (oneF s i).2.2=5 then none
   else lexG s f (oneF s i).2.1 (acc++[(oneF s i).1]) (o || decide ((oneF s i).2.2=3)) (r || decide ((oneF s i).2.2=17))
def lexF (s:ByteArray):List TokD × Int:=
 if 1000 < s.size then ([],6) else if textB s=false then ([],2) else
 match lexG s (s.size + 1) 0 [] false false with
 | none=>([],5)
 | some (ts,o,r)=>if o then ([],3) else if r then ([],17) else (ts,0)
set_option linter.unusedSimpArgs false
set_option maxRecDepth 100000
instance:StrT Tryz.prog 9:=⟨Tryz.underlying9⟩
set_option maxHeartbeats 1000000 in
theorem lLetter_any (c:Int) (w:World) :
  Calls Tryz.prog 256 #[.int .u8 c] w fun e w'=>e = .returned (.bool (letB c))∧w=w':=by
 rcases byte_split c with h | ⟨h,h'⟩ | ⟨h,h'⟩ | ⟨h,h'⟩ | ⟨h,h'⟩|h | ⟨h,h'⟩ | ⟨h,h'⟩|h
 all_goals
  first
   | have HL:=Lib.hid (letB_f (c:=c) (by omega))
   | have HL:=Lib.hid (letB_t (c:=c) (by omega))
  try subst h
  go_enter Tryz.func256,Tryz.ntmps256
  go_wp2
  go_ret
  exact ⟨c_ret_bool (by rw [HL.out];try (first|rfl|(simp;done)|(simp <;> omega))),rfl⟩
set_option maxHeartbeats 1000000 in
theorem lDigit_any (c:Int) (w:World) :
  Calls Tryz.prog 253 #[.int .u8 c] w fun e w'=>e = .returned (.bool (decB c))∧w=w':=by
 by_cases h:48≤c
 ·by_cases h' : c≤57
  ·have HL:=Lib.hid (decB_t ⟨h,h'⟩)
   go_enter Tryz.func253,Tryz.ntmps253
   go_wp2
   go_ret
   exact ⟨c_ret_bool HL.out.symm,rfl⟩
  ·have HL:=Lib.hid (decB_f (c:=c) (by omega))
   go_enter Tryz.func253,Tryz.ntmps253
   go_wp2
   go_ret
   exact ⟨c_ret_bool HL.out.symm,rfl⟩
 ·have HL:=Lib.hid (decB_f (c:=c) (by omega))
  go_enter Tryz.func253,Tryz.ntmps253
  go_wp2
  go_ret
  exact ⟨c_ret_bool HL.out.symm,rfl⟩
theorem lDg (b:UInt8) (w:World):Calls Tryz.prog 253 #[.int .u8 b.toNat] w fun e w'=>e = .returned (.bool (dg b))∧w=w':=decB_dg b▸lDigit_any b.toNat w
set_option maxHeartbeats 1000000 in
theorem lWd (b:UInt8) (w:World):Calls Tryz.prog 257 #[.int .u8 b.toNat] w fun e w'=>e = .returned (.bool (wdB b))∧w=w':=by
 have HL:=Lib.hid (fun W=>lLetter_any b.toNat W)
 have HD:=Lib.hid (fun W=>lDg b W)
 have HW:=Lib.hid (show wdB b=(letB b.toNat || dg b) from rfl)
 cases hb:letB b.toNat
 all_goals
  rw [hb] at HL HW
  go_enter Tryz.func257,Tryz.ntmps257
  go_wp2_with (first|(go_at_call 256;(with_reducible refine (HL.out _).mono ?_);rintro e W2 ⟨rfl,rfl⟩)|(go_at_call 253;(with_reducible refine (HD.out _).mono ?_);rintro e W2 ⟨rfl,rfl⟩))
  go_ret
  exact ⟨by rw [HW.out];rfl,rfl⟩
theorem blank_idx (b:UInt8):decide (0≤Lib.indexByte [32,9,10,13] b)=blankB b:=by
 have key:∀ n:Fin 256,decide (0≤Lib.indexByte [32,9,10,13] (UInt8.ofNat n.val))=blankB (UInt8.ofNat n.val):=by decide
 have h:=key ⟨b.toNat,b.toNat_lt⟩
 simpa using h
set_option maxHeartbeats 1000000 in
theorem lBl (b:UInt8) (w:World):Calls Tryz.prog 222 #[.int .u8 b.toNat] w fun e w'=>e = .returned (.bool (blankB b))∧w=w':=by
 have HI:=Lib.hid (show ∀ W,Calls Tryz.prog 116 #[.string ⟨#[32,9,10,13]⟩,.int .u8 b.toNat] W fun e w'=>e = .returned (.int .i64 (Lib.indexByte [32,9,10,13] b))∧W=w' from fun W=>
  (Tryz.strings_IndexByte ⟨#[32,9,10,13]⟩ b.toNat W).mono fun e w' ⟨h1,h2⟩=>⟨by rw [h1];simp,h2.symm⟩)
 have HB:=Lib.hid (blank_idx b)
 obtain ⟨k,hk⟩:∃ k,Lib.indexByte [32,9,10,13] b=k:=⟨_,rfl⟩
 rw [hk] at HI HB
 clear hk
 go_enter Tryz.func222,Tryz.ntmps222
 go_wp2_with (first|(go_at_call 116;(with_reducible refine (HI.out _).mono ?_);rintro e W2 ⟨rfl,rfl⟩))
 go_ret
 exact ⟨by rw [← HB.out];rfl,rfl⟩
/-! Cut at a point, and nothing to cut ahead. -/
theorem slCut_none (s:ByteArray) (w:World) (h:Lib.indexByte s.data.toList 46 = -1) :
  Calls Tryz.prog 170 #[.string s,.string ⟨#[46]⟩] w fun e w'=>e = .returned (.tuple #[.string s,.string ⟨#[]⟩,.bool false])∧w=w':=by
 have HI:=Lib.hid (show ∀ W,Calls Tryz.prog 215 #[.string s,.string ⟨#[46]⟩] W fun e w'=>e = .returned (.int .i64 (-1))∧W=w' from fun W=>
  (Tryz.stringslite_Index_one s 46 W).mono fun e w' ⟨h1,h2⟩=>⟨by rw [h1,h],h2.symm⟩)
 clear h
 go_enter Tryz.func170,Tryz.ntmps170
 go_wp2_with (first|(go_at_call 215;(with_reducible refine (HI.out _).mono ?_);rintro e W2 ⟨rfl,rfl⟩))
 go_ret3
 exact ⟨rfl,rfl⟩
set_option maxHeartbeats 1000000 in
theorem slCut_some (s:ByteArray) (i:Nat) (w:World) (h:Lib.indexByte s.data.toList 46=i) (hi:i < s.size) (hs:s.size≤9223372036854775806) :
  Calls Tryz.prog 170 #[.string s,.string ⟨#[46]⟩] w fun e w'=>e = .returned (.tuple #[.string (s.extract 0 i),.string (s.extract (i + 1) s.size),.bool true])∧Below w.heap.size w w':=by
 have HM:=Lib.hid (Mem.start w)
 have HI:=Lib.hid (show ∀ W,Calls Tryz.prog 215 #[.string s,.string ⟨#[46]⟩] W fun e w'=>e = .returned (.int .i64 i)∧W=w' from fun W=>
  (Tryz.stringslite_Index_one s 46 W).mono fun e w' ⟨h1,h2⟩=>⟨by rw [h1,h],h2.symm⟩)
 clear h
 have d1:decide ((0:Int)≤i)=true:=decide_eq_true (by omega)
 go_enter Tryz.func170,Tryz.ntmps170
 go_wp2_with (first|(go_at_call 215;(with_reducible refine (HI.out _).mono ?_);rintro e W2 ⟨rfl,rfl⟩))
 refine wp_region_mem (by kernel_rfl) (by kernel_rfl) HM.out ?_;intro hNE;(repeat (any_goals (first|((with_reducible refine skip_q ?_ ?_ ?_);(exact rfl);(rotate_left;(exact (hNE.elim fun p=>⟨p.W,p,rfl⟩))))|refine mQ ?_|((with_reducible refine qat 15 ?_);(refine qsslh rfl rfl rfl (Nat.le_of_lt hi) ?_))|((with_reducible refine qat 21 ?_);(refine qsslf rfl rfl (i:=i + 1) (by simp) hi ?_))|go_big_quiet_step (fail)|quiet_step (fail))));clear hNE;refine wpQuiet_nil ?_;intro W1 HM1;replace HM:=Lib.hid HM1;clear HM1
 go_wp2_with fail
 go_ret3
 exact ⟨rfl,HM.out.below⟩
theorem cut_none (s:ByteArray) (w:World) (h:Lib.indexByte s.data.toList 46 = -1) :
  Calls Tryz.prog 118 #[.string s,.string ⟨#[46]⟩] w fun e w'=>e = .returned (.tuple #[.string s,.string ⟨#[]⟩,.bool false])∧Below w.heap.size w w':=by
 have HM:=Lib.hid (Mem.start w)
 have HI:=Lib.hid (fun W=>slCut_none s W h)
 go_enter Tryz.func118,Tryz.ntmps118
 go_wp2_with (first|(go_at_call 170;(with_reducible refine (HI.out _).mono ?_);rintro e W2 ⟨rfl,rfl⟩))
 go_ret3
 exact ⟨rfl,HM.out.below⟩
theorem cut_some (s:ByteArray) (i:Nat) (w:World) (h:Lib.indexByte s.data.toList 46=i) (hi:i < s.size) (hs:s.size≤9223372036854775806) :
  Calls Tryz.prog 118 #[.string s,.string ⟨#[46]⟩] w fun e w'=>e = .returned (.tuple #[.string (s.extract 0 i),.string (s.extract (i + 1) s.size),.bool true])∧Below w.heap.size w w':=by
 have HM:=Lib.hid (Mem.start w)
 have HI:=Lib.hid (fun W=>slCut_some s i W h hi hs)
 clear h
 go_enter Tryz.func118,Tryz.ntmps118
 go_wp2_with (first|(go_at_call 170;(with_reducible refine cB HM (HI.out _) ?_);clear HM;intro W1 HM))
 go_ret3
 exact ⟨rfl,HM.out.below⟩
theorem cutPre_no (s:ByteArray) (w:World) (h:Lib.hasPrefix s.data.toList [45]=false) :
  Calls Tryz.prog 117 #[.string s,.string ⟨#[45]⟩] w fun e w'=>e = .returned (.tuple #[.string s,.bool false])∧Below w.heap.size w w':=by
 have HM:=Lib.hid (Mem.start w)
 have HP:=Lib.hid (show ∀ W,Calls Tryz.prog 203 #[.string s,.string ⟨#[45]⟩] W fun e w'=>e = .returned (.bool false)∧W=w' from fun W=>
  (Tryz.stringslite_HasPrefix s ⟨#[45]⟩ W).mono fun e w' ⟨h1,h2⟩=>⟨by rw [h1];exact congrArg _ (congrArg _ h),h2.symm⟩)
 have HI:=Lib.hid (show ∀ W,Calls Tryz.prog 169 #[.string s,.string ⟨#[45]⟩] W fun e w'=>e = .returned (.tuple #[.string s,.bool false])∧W=w' from fun W=>by
  go_enter Tryz.func169,Tryz.ntmps169
  go_wp2_with (first|(go_at_call 203;(with_reducible refine (HP.out _).mono ?_);rintro e W2 ⟨rfl,rfl⟩))
  go_ret2
  exact ⟨rfl,rfl⟩)
 clear h
 go_enter Tryz.func117,Tryz.ntmps117
 go_wp2_with (first|(go_at_call 169;(with_reducible refine (HI.out _).mono ?_);rintro e W2 ⟨rfl,rfl⟩))
 go_ret2
 exact ⟨rfl,HM.out.below⟩
theorem number_yes (s:ByteArray) (w:World) (hd:Cal.digs s.data.toList=true) (h0:s.data.toList≠[]) (hs:s.size≤9223372036854775807) :
  Calls Tryz.prog 119 #[.string s] w fun e w'=>e = .returned (.bool true)∧Below w.heap.size w w':=by
 have HM:=Lib.hid (Mem.start w)
 have HT:=Lib.hid (show ∀ W,Calls Tryz.prog 165 #[.string s,.string ⟨#[48,49,50,51,52,53,54,55,56,57]⟩] W fun e w'=>e = .returned (.string ⟨#[]⟩)∧Below W.heap.size W w' from fun W=>
  (dtrim_any s W hs).mono fun e w' ⟨h1,h2⟩=>⟨by rw [h1,Cal.trim_digs hd],h2⟩)
 have hne1:s.toList.isEmpty=false:=by rw [ByteArray.toList_eq];simpa using h0
 have hne2:(s.toList == [])=false:=by rw [ByteArray.toList_eq];simpa using h0
 clear hd h0
 go_enter Tryz.func119,Tryz.ntmps119
 go_wp2_with (first|(go_at_call 165;(with_reducible refine cB HM (HT.out _) ?_);clear HM;intro W1 HM))
 go_ret
 exact ⟨rfl,HM.out.below⟩
set_option maxHeartbeats 2000000 in
theorem wadd_fit (n hi lo d:Nat) (w:World) (h:W2 n hi lo) (hd:d≤9) (hn:n + d < 340282366920938463463374607431768211456) :
  Calls Tryz.prog 180 #[.agg #[.int .u64 hi,.int .u64 lo],.agg #[.int .u64 0,.int .u64 d]] w fun e w'=>∃ h2 l2:Nat,e = .returned (.tuple #[.agg #[.int .u64 h2,.int .u64 l2],.int .i64 0])∧W2 (n + d) h2 l2∧Below w.heap.size w w':=by
 have HM:=Lib.hid (Mem.start w)
 obtain ⟨h1,h2,h3⟩:=h
 obtain ⟨r0,hr0⟩:∃ r,(lo + d + 0) % 18446744073709551616=r:=⟨_,rfl⟩
 obtain ⟨c0,hc0⟩:∃ r,(lo + d + 0) / 18446744073709551616=r:=⟨_,rfl⟩
 obtain ⟨r1,hr1⟩:∃ r,(hi + 0 + c0) % 18446744073709551616=r:=⟨_,rfl⟩
 have hadd1:∀ w,(callFunc 195 #[.int .u64 lo,.int .u64 d,.int .u64 0]).run Tryz.prog w = .ok (.value (.tuple #[.int .u64 r0,.int .u64 c0])) w:=fun w=>by
  have h:=Any7.bits_Add64 Tryz.lays25 lo d 0 (by omega) w
  rw [hr0,hc0] at h
  exact h
 have hadd2:∀ w,(callFunc 195 #[.int .u64 hi,.int .u64 0,.int .u64 c0]).run Tryz.prog w = .ok (.value (.tuple #[.int .u64 r1,.int .u64 0])) w:=fun w=>by
  have h:=Any7.bits_Add64 Tryz.lays25 hi 0 c0 (by omega) w
  rw [hr1,show (hi + 0 + c0) / 18446744073709551616=0 by omega] at h
  exact h
 have HR:=Lib.hid (show W2 (n + d) r1 r0 from ⟨by omega,by omega,by omega⟩)
 clear h1 h2 h3 hr0 hc0 hr1 hn hd
 go_enter Tryz.func180,Tryz.ntmps180
 go_wp2_with (first|refine mP ?_|(refine mS ?_;clear HM;intro W1 HM)|(refine hbxA (dst:=some 2) HM rfl rfl ?_;clear HM;intro g2 W1 HM)|(refine hbxA (dst:=some 3) HM rfl rfl ?_;clear HM;intro g3 W1 HM)|(refine hal (dst:=some 4) HM rfl ?_;clear HM;intro g4 W1 HM))
 exact bodyPost_ret (res_box_tmp rfl HM.out 0 rfl rfl rfl rfl) rfl ⟨_,_,rfl,HR.out,HM.out.below⟩
theorem dval_snoc (l:List UInt8) (b:UInt8):dval (l++[b])=dval l * 10 + (b.toNat - 48):=by unfold dval;rw [List.foldl_append];rfl
theorem dval_lt:∀ (n:Nat) (l:List UInt8),l.length=n→(∀ b ∈ l,dg b=true)→dval l < 10 ^ n
 | 0,l,hn,_=>by rw [List.eq_nil_of_length_eq_zero hn];decide
 | n + 1,l,hn,hd=>by
  rcases List.eq_nil_or_concat l with rfl | ⟨l',b,rfl⟩
  ·simp at hn
  ·rw [List.concat_eq_append,dval_snoc]
   have h1:=dval_lt n l' (by simpa using hn) (fun x hx=>hd x (by simp [hx]))
   have h2:=(Cal.digB_iff b).1 (hd b (by simp))
   rw [Nat.pow_succ]
   omega
set_option maxHeartbeats 4000000 in
theorem wread_any (s:ByteArray) (w:World) (hd:∀ b ∈ s.data.toList,dg b=true) (h0:0 < s.size) (h1:s.size≤34) (hz:s.data.toList[0]?≠some 48) :
  Calls Tryz.prog 122 #[.string s] w fun e w'=>∃ h2 l2:Nat,e = .returned (.tuple #[.agg #[.int .u64 h2,.int .u64 l2],.int .i64 0])∧W2 (dval s.data.toList) h2 l2∧Below w.heap.size w w':=by
 have HM:=Lib.hid (Mem.start w)
 have hlen:s.data.toList.length=s.size:=by simp
 have HB:=Lib.hid (show ∀ i,i < s.size→∃ b,s.data.toList[i]? = some b∧48≤b.toNat∧b.toNat≤57 from fun i hi=>by
  obtain ⟨b,hb⟩:∃ b,s.data.toList[i]? = some b:=⟨_,List.getElem?_eq_getElem (by rw [hlen];exact hi)⟩
  exact ⟨b,hb,(Cal.digB_iff b).1 (hd b (List.mem_of_getElem? hb))⟩)
 have HV:=Lib.hid (show ∀ i b,s.data.toList[i]? = some b→dval (s.data.toList.take (i + 1))=dval (s.data.toList.take i) * 10 + (b.toNat - 48) from fun i b hb=>by
  rw [List.take_add_one,hb];exact dval_snoc _ b)
 have HLt:=Lib.hid (show ∀ i,i < s.size→dval (s.data.toList.take i) < 10 ^ 33 from fun i hi=>by
  have h2:=dval_lt i (s.data.toList.take i) (by rw [List.length_take,hlen];omega) (fun b hb=>hd b (List.mem_of_mem_take hb))
  exact Nat.lt_of_lt_of_le h2 (Nat.pow_le_pow_right (by omega) (by omega)))
 have hne1:s.toList.isEmpty=false:=by rw [ByteArray.toList_eq];cases h:s.data.toList with|nil=>rw [h] at hlen;simp at hlen;omega|cons a l=>rfl
 have hne2:(s.toList == [])=false:=by rw [ByteArray.toList_eq];cases h:s.data.toList with|nil=>rw [h] at hlen;simp at hlen;omega|cons a l=>rfl
 obtain ⟨b0,hb0,hb1,hb2⟩:=HB.out 0 h0
 have HB0:=Lib.hid hb0
 have hnz:¬ b0.toNat=48:=fun e=>hz (by rw [hb0];exact congrArg some (UInt8.toNat_inj.1 e))
 have HT:=Lib.hid (show dval (s.data.toList.take s.size)=dval s.data.toList by rw [List.take_of_length_le (by rw [hlen];exact Nat.le_refl _)])
 have hq:((b0.toNat:Int) == 48)=false:=by simpa using fun e:(b0.toNat:Int)=48=>hnz (by omega)
 clear hd hz hb0 hlen
 rcases Nat.lt_or_ge 1 s.size with hs1|hs1
 all_goals
  go_enter Tryz.func122,Tryz.ntmps122
  go_wp2_with (first|((with_reducible refine iat 17 ?_);(refine six rfl rfl (i:=0) rfl HB0.out ?_))|((with_reducible refine skip_op ?_ ?_);exact rfl)|refine mP ?_|(refine mS ?_;clear HM;intro W1 HM)|(refine hal (dst:=some 2) HM rfl ?_;clear HM;intro g2 W1 HM)|(refine hal HM rfl ?_;clear HM;intro g1 W1 HM))
  go_loopw [24] (fun iv wr=>∃ i:Nat,iv = .int .i64 i∧i≤s.size∧Hid (Mem w wr [.box g2 24 [.int .u64 0,.int .u64 0]])) (fun iv _=>s.size - (intOf iv).toNat)
  case atStart=>exact ⟨0,rfl,Nat.zero_le _,HM⟩
  case round=>
   clear HM
   obtain ⟨i,rfl,hi,HM⟩:=hrel
   by_cases hlt:i < s.size
   ·obtain ⟨b,hb,hb3,hb4⟩:=HB.out i hlt
    have hlt3:=Lib.hid (show i + 1≤s.size from hlt)
    have d1:decide ((i:Int) < s.size)=true:=decide_eq_true (by omega)
    have d2:decide ((b.toNat:Int) < 48)=false:=decide_eq_false (by omega)
    have d3:decide ((57:Int) < b.toNat)=false:=decide_eq_false (by omega)
    have HBi:=Lib.hid hb
    clear hb
    go_wp2_with (first|((with_reducible refine iat 29 ?_);(refine six rfl rfl rfl HBi.out ?_))|((with_reducible refine iat 34 ?_);(refine six rfl rfl rfl HBi.out ?_)))
    go_roundw
    case rel=>exact ⟨i + 1,by go_num,hlt3.out,HM⟩
    case measure=>have:=hlt3.out;simp [intOf];omega
   ·obtain rfl:i=s.size:=by omega
    have d1:decide ((s.size:Int) < s.size)=false:=by simp
    go_wp2_with (first|((with_reducible refine skip_op ?_ ?_);exact rfl)|refine mP ?_|(refine mS ?_;clear HM;intro W1 HM)|(refine hal (dst:=some 5) HM rfl ?_;clear HM;intro g5 W1 HM)|(refine hal HM rfl ?_;clear HM;intro g1 W1 HM))
    go_loopw [41] (fun iv wr=>∃ i hi lo:Nat,iv = .int .i64 i∧i≤s.size∧Hid (W2 (dval (s.data.toList.take i)) hi lo)∧Hid (Mem w wr [.box g5 24 [.int .u64 hi,.int .u64 lo],.box g2 24 [.int .u64 0,.int .u64 0]])) (fun iv _=>s.size - (intOf iv).toNat)
    case atStart=>exact ⟨0,0,0,rfl,Nat.zero_le _,Lib.hid ⟨rfl,by omega,by omega⟩,HM⟩
    case round=>
     clear HM
     obtain ⟨i,hi,lo,rfl,hil,HW,HM⟩:=hrel
     by_cases hlt:i < s.size
     ·obtain ⟨b,hb,hb3,hb4⟩:=HB.out i hlt
      have hlt3:=Lib.hid (show i + 1≤s.size from hlt)
      have d4:decide ((i:Int) < s.size)=true:=decide_eq_true (by omega)
      have hll:=HLt.out i hlt
      have hm:=HW.out.mul10 (by omega)
      obtain ⟨x1,hx1⟩:∃ x,mw1 lo hi 10 0=x:=⟨_,rfl⟩
      obtain ⟨x0,hx0⟩:∃ x,mw0 lo hi 10 0=x:=⟨_,rfl⟩
      have HMul:=Lib.hid (fun W=>(show Calls Tryz.prog 179 #[.agg #[.int .u64 hi,.int .u64 lo],.agg #[.int .u64 0,.int .u64 10]] W fun e w'=>e = .returned (.agg #[.int .u64 x0,.int .u64 x1,.int .u64 0,.int .u64 0])∧Below W.heap.size W w' from by
       have h:=mul_any lo hi 10 0 W HW.out.lo HW.out.hi (by omega) (by omega)
       rw [hm.2.1,hm.2.2,hx0,hx1] at h
       exact h))
      have hm1:=hm.1
      rw [hx0,hx1] at hm1
      have HAdd:=Lib.hid (fun W=>(show Calls Tryz.prog 180 #[.agg #[.int .u64 x1,.int .u64 x0],.agg #[.int .u64 0,.int .u64 ((b.toNat:Int) - 48)]] W fun e w'=>∃ h2 l2:Nat,e = .returned (.tuple #[.agg #[.int .u64 h2,.int .u64 l2],.int .i64 0])∧W2 (dval (s.data.toList.take (i + 1))) h2 l2∧Below W.heap.size W w' from by
       have h:=wadd_fit _ x1 x0 (b.toNat - 48) W hm1 (by omega) (by omega)
       rw [← HV.out i b hb,show ((b.toNat - 48:Nat):Int)=(b.toNat:Int) - 48 by omega] at h
       exact h))
      have HNr:=Lib.hid (fun W=>narrow_fit x0 x1 W)
      have HBi:=Lib.hid hb
      clear hb hm hm1 hx0 hx1 hll
      go_wp2_with (first|(go_at_call 179;(with_reducible refine cB HM (HMul.out _) ?_);clear HM;intro W1 HM)|(go_at_call 178;(with_reducible refine cB HM (HNr.out _) ?_);clear HM;intro W1 HM)|((with_reducible refine skip_op ?_ ?_);exact rfl)|refine mP ?_|(refine mS ?_;clear HM;intro W1 HM)|(refine hal (dst:=some 7) HM rfl ?_;clear HM;intro g7 W1 HM)|(refine hal HM rfl ?_;clear HM;intro g1 W1 HM))
      refine wp_region_steps2 [(true,0),(true,1),(true,2),(true,3),(true,4),(true,5),(true,6),(false,7),(true,8),(true,9),(true,10),(false,11),(true,12)] (by kernel_rfl) (by kernel_rfl) rfl (by kernel_rfl) (fun _ _ _ _ _ h=>h) HM.out _ (.cons_cons _ (.cons _ (.cons_cons _ .slnil))) ?_
      intro hNE W1 HM1;replace HM:=Lib.hid HM1;clear HM1
      have HS0:=Lib.hid (HM.out.sub (.cons_cons _ (.cons _ (.cons_cons _ .slnil))))
      simp only [wpSteps,List.getElem?_cons_succ,List.getElem?_cons_zero]
      (repeat (first|((with_reducible refine wpQuiet_nil ?_);(try dsimp only))|refine mQ ?_|((with_reducible refine qat 59 ?_);(refine qsix rfl rfl rfl HBi.out ?_))|go_big_quiet_step (fail)|quiet_step (fail)))
      go_wp2_with (first|(go_at_call 180;(with_reducible refine (HAdd.out _).mono ?_);rintro e W2 ⟨h2,l2,rfl,hw2,hb⟩;have HW2:=Lib.hid hw2;clear hw2;have HM1:=Lib.hid (HM.out.next hb);clear hb;clear HM;(try clear W1);rename World=>W1;have HM:=HM1;clear HM1))
      refine ⟨⟨⟨_,HM.out.sub msub⟩,rfl⟩,?_⟩
      (try dsimp only)
      (repeat (first|((with_reducible refine wpQuiet_nil ?_);(try dsimp only))|go_big_quiet_step (fail)|quiet_step (fail)))
      go_wp2_with (first|(refine mS ?_;clear HM;intro W1 HM))
      refine ⟨⟨⟨_,HM.out.sub msub⟩,rfl⟩,?_⟩
      (try dsimp only)
      (repeat (first|((with_reducible refine wpQuiet_nil ?_);(try dsimp only))|go_big_quiet_step (fail)|quiet_step (fail)))
      clear HS0 hNE
      go_wp2_with fail
      go_roundw
      case rel=>exact ⟨i + 1,h2,l2,by go_num,hlt3.out,HW2,Lib.hid (HM.out.sub (.cons _ (.refl _)))⟩
      case measure=>have:=hlt3.out;simp [intOf];omega
     ·obtain rfl:i=s.size:=by omega
      have d4:decide ((s.size:Int) < s.size)=false:=by simp
      go_wp2_with (first|((with_reducible refine skip_op ?_ ?_);exact rfl)|refine mP ?_|(refine mS ?_;clear HM;intro W1 HM)|(refine hal HM rfl ?_;clear HM;intro g1 W1 HM))
      exact bodyPost_ret (res_box_tmp rfl HM.out 1 rfl rfl rfl rfl) rfl ⟨hi,lo,rfl,HT.out▸HW.out,HM.out.below⟩
def decV (r:(Nat × Nat) × Int):Value:=.tuple #[.agg (decCs r.1.1 r.1.2).toArray,.int .i64 r.2]
theorem str_empty {s:ByteArray} (h:s.data.toList=[]):s.toList.isEmpty=true∧(s.toList == [])=true∧s=⟨#[]⟩:=by
 refine ⟨by rw [ByteArray.toList_eq,h];rfl,by rw [ByteArray.toList_eq,h];rfl,?_⟩
 rcases s with ⟨⟨l⟩⟩
 simp at h
 subst h
 rfl
theorem str_full {s:ByteArray} (h:s.data.toList≠[]):s.toList.isEmpty=false∧(s.toList == [])=false∧0 < s.size:=by
 refine ⟨by rw [ByteArray.toList_eq];simpa using h,by rw [ByteArray.toList_eq];simpa using h,?_⟩
 have:s.data.toList.length=s.size:=by simp
 rcases Nat.eq_zero_or_pos s.size with h0|h0
 ·exact absurd (List.eq_nil_of_length_eq_zero (by omega)) h
 ·exact h0
theorem trimL_dg {l:List UInt8} (h:∀ b ∈ l,dg b=true):(∀ b ∈ Lib.trimLeftB l 48,dg b=true)∧(Lib.trimLeftB l 48)[0]?≠some 48∧(Lib.trimLeftB l 48).length≤l.length:=by
 unfold Lib.trimLeftB
 refine ⟨fun b hb=>h b (List.dropWhile_sublist _ |>.mem hb),fun e=>?_,(List.dropWhile_sublist _).length_le⟩
 induction l with
 | nil=>simp at e
 | cons a l ih=>
  rw [List.dropWhile_cons] at e
  split at e
  ·exact ih (fun b hb=>h b (List.mem_cons_of_mem _ hb)) e
  ·rename_i hn
   simp at e
   subst e
   exact hn (by decide)
theorem trimR_sub (l:List UInt8):(Lib.trimRightB l 48).Sublist l:=by
 unfold Lib.trimRightB
 have:=(List.dropWhile_sublist (l:=l.reverse) (fun x=>x == 48)).reverse
 rwa [List.reverse_reverse] at this
set_option maxHeartbeats 4000000 in
theorem decParse_core (s A B:ByteArray) (ds fs:List UInt8) (pt:Bool) (w:World) (hA:A.data.toList=ds) (hB:B.data.toList=fs) (hpt:pt = !fs.isEmpty) (hd0:ds≠[]) (hd:∀ b ∈ ds,dg b=true) (hf:∀ b ∈ fs,dg b=true) (hsz:ds.length + fs.length≤1000)
  (hcut:∀ W,Calls Tryz.prog 118 #[.string s,.string ⟨#[46]⟩] W fun e w'=>e = .returned (.tuple #[.string A,.string B,.bool pt])∧Below W.heap.size W w') (hpre:Lib.hasPrefix s.data.toList [45]=false) :
  Calls Tryz.prog 57 #[.string s] w fun e w'=>e = .returned (decV (decT ds fs))∧Below w.heap.size w w':=by
 have HM:=Lib.hid (Mem.start w)
 have HCp:=Lib.hid (fun W=>cutPre_no s W hpre)
 have HCut:=Lib.hid hcut
 have hAl:A.size=ds.length:=by rw [← hA];simp
 have hBl:B.size=fs.length:=by rw [← hB];simp
 have HNa:=Lib.hid (fun W=>number_yes A W (by rw [hA];exact List.all_eq_true.2 hd) (by rw [hA];exact hd0) (by omega))
 obtain ⟨a0,ha0⟩:∃ b,ds[0]? = some b:=⟨_,List.getElem?_eq_getElem (List.length_pos_iff.2 hd0)⟩
 have HA0:=Lib.hid (show A.data.toList[0]? = some a0 by rw [hA];exact ha0)
 obtain ⟨bl,hbl⟩:∃ x,Lib.trimRightB fs 48=x:=⟨_,rfl⟩
 obtain ⟨B2,hB2⟩:∃ x:ByteArray,(⟨bl.toArray⟩:ByteArray)=x:=⟨_,rfl⟩
 have hB2l:B2.data.toList=bl:=by rw [← hB2]
 obtain ⟨dl,hdl⟩:∃ x,Lib.trimLeftB (ds++bl) 48=x:=⟨_,rfl⟩
 obtain ⟨D,hD⟩:∃ x:ByteArray,(⟨dl.toArray⟩:ByteArray)=x:=⟨_,rfl⟩
 have hDl:D.data.toList=dl:=by rw [← hD]
 have hbsub:bl.Sublist fs:=hbl▸trimR_sub fs
 have hbl3:=hbsub.length_le
 have htd:=trimL_dg (l:=ds++bl) (fun b hb=>by
  rcases List.mem_append.1 hb with hb|hb
  ·exact hd b hb
  ·exact hf b (hbsub.mem hb))
 rw [hdl,List.length_append] at htd
 have HTr:=Lib.hid (fun W=>(show Calls Tryz.prog 120 #[.string B,.string ⟨#[48]⟩] W fun e w'=>e = .returned (.string B2)∧W=w' from
  (Tryz.strings_TrimRight_one B 48 (by decide) W (by omega)).mono fun e w' ⟨h1,h2⟩=>⟨by rw [h1,hB,hbl,hB2],h2.symm⟩))
 have hB2s:B2.size=bl.length:=by rw [← hB2l];simp
 have hDs:D.size=dl.length:=by rw [← hDl];simp
 have hcat:=fun w=>run_string_add_sum (P:=Tryz.prog) w A B2 (by omega)
 have HTl:=Lib.hid (fun W=>(show Calls Tryz.prog 121 #[.string (A++B2),.string ⟨#[48]⟩] W fun e w'=>e = .returned (.string D)∧W=w' from
  (Tryz.strings_TrimLeft_one (A++B2) 48 (by decide) W).mono fun e w' ⟨h1,h2⟩=>⟨by rw [h1,ByteArray.data_append,Array.toList_append,hA,hB2l,hdl,hD],h2.symm⟩))
 by_cases hz:1 < ds.length∧ds[0]? = some 48
 ·have HR:=Lib.hid (show decT ds fs=((0,0),5) by unfold decT;rw [if_pos hz])
  obtain ⟨hz1,hz2⟩:=hz
  have hz3:a0=48:=by rw [ha0] at hz2;exact Option.some.inj hz2
  have d1:decide ((1:Int) < A.size)=true:=decide_eq_true (by omega)
  have d2:((a0.toNat:Int) == 48)=true:=by rw [hz3];rfl
  clear hA hB hd0 hd hf hcut hpre ha0 hbl hB2 hB2l hdl hD hDl hbsub htd hz2 hz3 hpt
  go_enter Tryz.func57,Tryz.ntmps57
  go_wp2_with (first|(go_at_call 117;(with_reducible refine cB HM (HCp.out _) ?_);clear HM;intro W1 HM)|(go_at_call 118;(with_reducible refine cB HM (HCut.out _) ?_);clear HM;intro W1 HM)|(go_at_call 119;(with_reducible refine cB HM (HNa.out _) ?_);clear HM;intro W1 HM)|((with_reducible refine iat 31 ?_);(refine six rfl rfl (i:=0) rfl HA0.out ?_))|((with_reducible refine skip_op ?_ ?_);exact rfl)|refine mP ?_|(refine mS ?_;clear HM;intro W1 HM)|(refine hal (dst:=some 2) HM rfl ?_;clear HM;intro g2 W1 HM)|(refine hal HM rfl ?_;clear HM;intro g1 W1 HM))
  exact bodyPost_ret (res_box_tmp rfl HM.out 0 rfl rfl rfl rfl) rfl ⟨by rw [HR.out];rfl,HM.out.below⟩
 ·have HNe:=Lib.hid (show pt=true→fs≠[] from fun h e=>by rw [hpt,e] at h;cases h)
  have HNb2:=Lib.hid (show pt=true→∀ W,Calls Tryz.prog 119 #[.string B] W fun e w'=>e = .returned (.bool true)∧Below W.heap.size W w' from fun h W=>number_yes B W (by rw [hB];exact List.all_eq_true.2 hf) (by rw [hB];exact HNe.out h) (by omega))
  have q1:1 < A.size→((a0.toNat:Int) == 48)=false:=fun h1=>by
   simpa using fun e:(a0.toNat:Int)=48=>hz ⟨by omega,by rw [ha0];exact congrArg some (UInt8.toNat_inj.1 (by show a0.toNat=48;omega))⟩
  have step:∀ (r:(Nat × Nat) × Int),decT ds fs=r→(dl=[]∧r=((0,0),0))∨(dl≠[]∧(18 < bl.length∨34 < dl.length)∧r=((0,0),3))∨(dl≠[]∧¬ (18 < bl.length)∧¬ (34 < dl.length)∧r=((dval dl,bl.length),0)):=fun r hr=>by
   unfold decT at hr
   rw [if_neg hz,hbl,hdl] at hr
   by_cases h1:dl=[]
   ·rw [if_pos h1] at hr;exact Or.inl ⟨h1,hr.symm⟩
   ·rw [if_neg h1] at hr
    by_cases h2:18 < bl.length∨34 < dl.length
    ·rw [if_pos h2] at hr;exact Or.inr (Or.inl ⟨h1,h2,hr.symm⟩)
    ·rw [if_neg h2] at hr;exact Or.inr (Or.inr ⟨h1,fun h=>h2 (Or.inl h),fun h=>h2 (Or.inr h),hr.symm⟩)
  rcases Nat.lt_or_ge 1 A.size with hs1|hs1
  ·have d2:=q1 hs1
   have d1:decide ((1:Int) < A.size)=true:=decide_eq_true (by omega)
   rcases step _ rfl with ⟨h1,hr⟩ | ⟨h1,h2,hr⟩ | ⟨h1,h2,h3,hr⟩
   ·have HR:=Lib.hid hr
    obtain ⟨e1,e2,-⟩:=str_empty (show D.data.toList=[] by rw [hDl];exact h1)
    clear hA hB hd0 hd hf hcut hpre ha0 hbl hB2 hB2l hdl hD hDl hbsub htd hz hpt step q1 hr hAl hBl hB2s hDs h1
    cases pt
    all_goals
     go_enter Tryz.func57,Tryz.ntmps57
     go_wp2_with (first|(go_at_call 117;(with_reducible refine cB HM (HCp.out _) ?_);clear HM;intro W1 HM)|(go_at_call 118;(with_reducible refine cB HM (HCut.out _) ?_);clear HM;intro W1 HM)|(go_at_call 119;first|((with_reducible refine cB HM (HNa.out _) ?_);clear HM;intro W1 HM)|((with_reducible refine cB HM (HNb2.out (by trivial) _) ?_);clear HM;intro W1 HM))|((with_reducible refine iat 31 ?_);(refine six rfl rfl (i:=0) rfl HA0.out ?_))|(go_at_call 120;(with_reducible refine (HTr.out _).mono ?_);rintro e W2 ⟨rfl,rfl⟩)|(go_at_call 121;(with_reducible refine (HTl.out _).mono ?_);rintro e W2 ⟨rfl,rfl⟩)|((with_reducible refine skip_op ?_ ?_);exact rfl)|refine mP ?_|(refine mS ?_;clear HM;intro W1 HM)|(refine hal (dst:=some 2) HM rfl ?_;clear HM;intro g2 W1 HM)|(refine hal HM rfl ?_;clear HM;intro g1 W1 HM))
     exact bodyPost_ret (res_box_tmp rfl HM.out 0 rfl rfl rfl rfl) rfl ⟨by rw [HR.out];rfl,HM.out.below⟩
   ·have HR:=Lib.hid hr
    obtain ⟨e1,e2,-⟩:=str_full (show D.data.toList≠[] by rw [hDl];exact h1)
    by_cases h18:18 < bl.length
    ·have g1:decide ((18:Int) < B2.size)=true:=decide_eq_true (by omega)
     clear hA hB hd0 hd hf hcut hpre ha0 hbl hB2 hB2l hdl hD hDl hbsub htd hz hpt step q1 hr hAl hBl hB2s hDs h1
     cases pt
     all_goals
      go_enter Tryz.func57,Tryz.ntmps57
      go_wp2_with (first|(go_at_call 117;(with_reducible refine cB HM (HCp.out _) ?_);clear HM;intro W1 HM)|(go_at_call 118;(with_reducible refine cB HM (HCut.out _) ?_);clear HM;intro W1 HM)|(go_at_call 119;first|((with_reducible refine cB HM (HNa.out _) ?_);clear HM;intro W1 HM)|((with_reducible refine cB HM (HNb2.out (by trivial) _) ?_);clear HM;intro W1 HM))|((with_reducible refine iat 31 ?_);(refine six rfl rfl (i:=0) rfl HA0.out ?_))|(go_at_call 120;(with_reducible refine (HTr.out _).mono ?_);rintro e W2 ⟨rfl,rfl⟩)|(go_at_call 121;(with_reducible refine (HTl.out _).mono ?_);rintro e W2 ⟨rfl,rfl⟩)|((with_reducible refine skip_op ?_ ?_);exact rfl)|refine mP ?_|(refine mS ?_;clear HM;intro W1 HM)|(refine hal (dst:=some 2) HM rfl ?_;clear HM;intro g2 W1 HM)|(refine hal HM rfl ?_;clear HM;intro g1 W1 HM))
      exact bodyPost_ret (res_box_tmp rfl HM.out 0 rfl rfl rfl rfl) rfl ⟨by rw [HR.out];rfl,HM.out.below⟩
    ·have g1:decide ((18:Int) < B2.size)=false:=decide_eq_false (by omega)
     have g2:decide ((34:Int) < D.size)=true:=decide_eq_true (by omega)
     clear hA hB hd0 hd hf hcut hpre ha0 hbl hB2 hB2l hdl hD hDl hbsub htd hz hpt step q1 hr hAl hBl hB2s hDs h1
     cases pt
     all_goals
      go_enter Tryz.func57,Tryz.ntmps57
      go_wp2_with (first|(go_at_call 117;(with_reducible refine cB HM (HCp.out _) ?_);clear HM;intro W1 HM)|(go_at_call 118;(with_reducible refine cB HM (HCut.out _) ?_);clear HM;intro W1 HM)|(go_at_call 119;first|((with_reducible refine cB HM (HNa.out _) ?_);clear HM;intro W1 HM)|((with_reducible refine cB HM (HNb2.out (by trivial) _) ?_);clear HM;intro W1 HM))|((with_reducible refine iat 31 ?_);(refine six rfl rfl (i:=0) rfl HA0.out ?_))|(go_at_call 120;(with_reducible refine (HTr.out _).mono ?_);rintro e W2 ⟨rfl,rfl⟩)|(go_at_call 121;(with_reducible refine (HTl.out _).mono ?_);rintro e W2 ⟨rfl,rfl⟩)|((with_reducible refine skip_op ?_ ?_);exact rfl)|refine mP ?_|(refine mS ?_;clear HM;intro W1 HM)|(refine hal (dst:=some 2) HM rfl ?_;clear HM;intro g2 W1 HM)|(refine hal HM rfl ?_;clear HM;intro g1 W1 HM))
      exact bodyPost_ret (res_box_tmp rfl HM.out 0 rfl rfl rfl rfl) rfl ⟨by rw [HR.out];rfl,HM.out.below⟩
   ·obtain ⟨nh,hnh⟩:∃ x,dval dl / 18446744073709551616=x:=⟨_,rfl⟩
    obtain ⟨nl,hnl⟩:∃ x,dval dl % 18446744073709551616=x:=⟨_,rfl⟩
    have HR:=Lib.hid (show decV (decT ds fs) = .tuple #[.agg #[.bool false,.int .u64 nh,.int .u64 nl,.int .i64 B2.size],.int .i64 0] by rw [hr,hB2s,← hnh,← hnl];rfl)
    obtain ⟨e1,e2,e3⟩:=str_full (show D.data.toList≠[] by rw [hDl];exact h1)
    have HRd:=Lib.hid (fun W=>(show Calls Tryz.prog 122 #[.string D] W fun e w'=>e = .returned (.tuple #[.agg #[.int .u64 nh,.int .u64 nl],.int .i64 0])∧Below W.heap.size W w' from
     (wread_any D W (by rw [hDl];exact htd.1) e3 (by omega) (by rw [hDl];exact htd.2.1)).mono fun e w' ⟨h2',l2',he,hw,hb⟩=>⟨by
      rw [hDl] at hw
      obtain ⟨w1,w2,w3⟩:=hw
      rw [he,← hnh,← hnl,show dval dl / 18446744073709551616=h2' by omega,show dval dl % 18446744073709551616=l2' by omega],hb⟩))
    have g1:decide ((18:Int) < B2.size)=false:=decide_eq_false (by omega)
    have g2:decide ((34:Int) < D.size)=false:=decide_eq_false (by omega)
    clear hA hB hd0 hd hf hcut hpre ha0 hbl hB2 hB2l hdl hD hDl hbsub htd hz hpt step q1 hr hAl hBl hB2s hDs h1 hnh hnl
    cases pt
    all_goals
     go_enter Tryz.func57,Tryz.ntmps57
     go_wp2_with (first|(go_at_call 117;(with_reducible refine cB HM (HCp.out _) ?_);clear HM;intro W1 HM)|(go_at_call 118;(with_reducible refine cB HM (HCut.out _) ?_);clear HM;intro W1 HM)|(go_at_call 119;first|((with_reducible refine cB HM (HNa.out _) ?_);clear HM;intro W1 HM)|((with_reducible refine cB HM (HNb2.out (by trivial) _) ?_);clear HM;intro W1 HM))|((with_reducible refine iat 31 ?_);(refine six rfl rfl (i:=0) rfl HA0.out ?_))|(go_at_call 120;(with_reducible refine (HTr.out _).mono ?_);rintro e W2 ⟨rfl,rfl⟩)|(go_at_call 121;(with_reducible refine (HTl.out _).mono ?_);rintro e W2 ⟨rfl,rfl⟩)|(go_at_call 122;(with_reducible refine cB HM (HRd.out _) ?_);clear HM;intro W1 HM)|((with_reducible refine skip_op ?_ ?_);exact rfl)|refine mP ?_|(refine mS ?_;clear HM;intro W1 HM)|(refine hal (dst:=some 2) HM rfl ?_;clear HM;intro g2 W1 HM)|(refine hal (dst:=some 9) HM rfl ?_;clear HM;intro g9 W1 HM))
     exact bodyPost_ret (res_box_tmp rfl HM.out 1 rfl rfl rfl rfl) rfl ⟨HR.out▸rfl,HM.out.below⟩
  ·have d1:decide ((1:Int) < A.size)=false:=decide_eq_false (by omega)
   rcases step _ rfl with ⟨h1,hr⟩ | ⟨h1,h2,hr⟩ | ⟨h1,h2,h3,hr⟩
   ·have HR:=Lib.hid hr
    obtain ⟨e1,e2,-⟩:=str_empty (show D.data.toList=[] by rw [hDl];exact h1)
    clear hA hB hd0 hd hf hcut hpre ha0 hbl hB2 hB2l hdl hD hDl hbsub htd hz hpt step q1 hr hAl hBl hB2s hDs h1
    cases pt
    all_goals
     go_enter Tryz.func57,Tryz.ntmps57
     go_wp2_with (first|(go_at_call 117;(with_reducible refine cB HM (HCp.out _) ?_);clear HM;intro W1 HM)|(go_at_call 118;(with_reducible refine cB HM (HCut.out _) ?_);clear HM;intro W1 HM)|(go_at_call 119;first|((with_reducible refine cB HM (HNa.out _) ?_);clear HM;intro W1 HM)|((with_reducible refine cB HM (HNb2.out (by trivial) _) ?_);clear HM;intro W1 HM))|((with_reducible refine iat 31 ?_);(refine six rfl rfl (i:=0) rfl HA0.out ?_))|(go_at_call 120;(with_reducible refine (HTr.out _).mono ?_);rintro e W2 ⟨rfl,rfl⟩)|(go_at_call 121;(with_reducible refine (HTl.out _).mono ?_);rintro e W2 ⟨rfl,rfl⟩)|((with_reducible refine skip_op ?_ ?_);exact rfl)|refine mP ?_|(refine mS ?_;clear HM;intro W1 HM)|(refine hal (dst:=some 2) HM rfl ?_;clear HM;intro g2 W1 HM)|(refine hal HM rfl ?_;clear HM;intro g1 W1 HM))
     exact bodyPost_ret (res_box_tmp rfl HM.out 0 rfl rfl rfl rfl) rfl ⟨by rw [HR.out];rfl,HM.out.below⟩
   ·have HR:=Lib.hid hr
    obtain ⟨e1,e2,-⟩:=str_full (show D.data.toList≠[] by rw [hDl];exact h1)
    by_cases h18:18 < bl.length
    ·have g1:decide ((18:Int) < B2.size)=true:=decide_eq_true (by omega)
     clear hA hB hd0 hd hf hcut hpre ha0 hbl hB2 hB2l hdl hD hDl hbsub htd hz hpt step q1 hr hAl hBl hB2s hDs h1
     cases pt
     all_goals
      go_enter Tryz.func57,Tryz.ntmps57
      go_wp2_with (first|(go_at_call 117;(with_reducible refine cB HM (HCp.out _) ?_);clear HM;intro W1 HM)|(go_at_call 118;(with_reducible refine cB HM (HCut.out _) ?_);clear HM;intro W1 HM)|(go_at_call 119;first|((with_reducible refine cB HM (HNa.out _) ?_);clear HM;intro W1 HM)|((with_reducible refine cB HM (HNb2.out (by trivial) _) ?_);clear HM;intro W1 HM))|((with_reducible refine iat 31 ?_);(refine six rfl rfl (i:=0) rfl HA0.out ?_))|(go_at_call 120;(with_reducible refine (HTr.out _).mono ?_);rintro e W2 ⟨rfl,rfl⟩)|(go_at_call 121;(with_reducible refine (HTl.out _).mono ?_);rintro e W2 ⟨rfl,rfl⟩)|((with_reducible refine skip_op ?_ ?_);exact rfl)|refine mP ?_|(refine mS ?_;clear HM;intro W1 HM)|(refine hal (dst:=some 2) HM rfl ?_;clear HM;intro g2 W1 HM)|(refine hal HM rfl ?_;clear HM;intro g1 W1 HM))
      exact bodyPost_ret (res_box_tmp rfl HM.out 0 rfl rfl rfl rfl) rfl ⟨by rw [HR.out];rfl,HM.out.below⟩
    ·have g1:decide ((18:Int) < B2.size)=false:=decide_eq_false (by omega)
     have g2:decide ((34:Int) < D.size)=true:=decide_eq_true (by omega)
     clear hA hB hd0 hd hf hcut hpre ha0 hbl hB2 hB2l hdl hD hDl hbsub htd hz hpt step q1 hr hAl hBl hB2s hDs h1
     cases pt
     all_goals
      go_enter Tryz.func57,Tryz.ntmps57
      go_wp2_with (first|(go_at_call 117;(with_reducible refine cB HM (HCp.out _) ?_);clear HM;intro W1 HM)|(go_at_call 118;(with_reducible refine cB HM (HCut.out _) ?_);clear HM;intro W1 HM)|(go_at_call 119;first|((with_reducible refine cB HM (HNa.out _) ?_);clear HM;intro W1 HM)|((with_reducible refine cB HM (HNb2.out (by trivial) _) ?_);clear HM;intro W1 HM))|((with_reducible refine iat 31 ?_);(refine six rfl rfl (i:=0) rfl HA0.out ?_))|(go_at_call 120;(with_reducible refine (HTr.out _).mono ?_);rintro e W2 ⟨rfl,rfl⟩)|(go_at_call 121;(with_reducible refine (HTl.out _).mono ?_);rintro e W2 ⟨rfl,rfl⟩)|((with_reducible refine skip_op ?_ ?_);exact rfl)|refine mP ?_|(refine mS ?_;clear HM;intro W1 HM)|(refine hal (dst:=some 2) HM rfl ?_;clear HM;intro g2 W1 HM)|(refine hal HM rfl ?_;clear HM;intro g1 W1 HM))
      exact bodyPost_ret (res_box_tmp rfl HM.out 0 rfl rfl rfl rfl) rfl ⟨by rw [HR.out];rfl,HM.out.below⟩
   ·obtain ⟨nh,hnh⟩:∃ x,dval dl / 18446744073709551616=x:=⟨_,rfl⟩
    obtain ⟨nl,hnl⟩:∃ x,dval dl % 18446744073709551616=x:=⟨_,rfl⟩
    have HR:=Lib.hid (show decV (decT ds fs) = .tuple #[.agg #[.bool false,.int .u64 nh,.int .u64 nl,.int .i64 B2.size],.int .i64 0] by rw [hr,hB2s,← hnh,← hnl];rfl)
    obtain ⟨e1,e2,e3⟩:=str_full (show D.data.toList≠[] by rw [hDl];exact h1)
    have HRd:=Lib.hid (fun W=>(show Calls Tryz.prog 122 #[.string D] W fun e w'=>e = .returned (.tuple #[.agg #[.int .u64 nh,.int .u64 nl],.int .i64 0])∧Below W.heap.size W w' from
     (wread_any D W (by rw [hDl];exact htd.1) e3 (by omega) (by rw [hDl];exact htd.2.1)).mono fun e w' ⟨h2',l2',he,hw,hb⟩=>⟨by
      rw [hDl] at hw
      obtain ⟨w1,w2,w3⟩:=hw
      rw [he,← hnh,← hnl,show dval dl / 18446744073709551616=h2' by omega,show dval dl % 18446744073709551616=l2' by omega],hb⟩))
    have g1:decide ((18:Int) < B2.size)=false:=decide_eq_false (by omega)
    have g2:decide ((34:Int) < D.size)=false:=decide_eq_false (by omega)
    clear hA hB hd0 hd hf hcut hpre ha0 hbl hB2 hB2l hdl hD hDl hbsub htd hz hpt step q1 hr hAl hBl hB2s hDs h1 hnh hnl
    cases pt
    all_goals
     go_enter Tryz.func57,Tryz.ntmps57
     go_wp2_with (first|(go_at_call 117;(with_reducible refine cB HM (HCp.out _) ?_);clear HM;intro W1 HM)|(go_at_call 118;(with_reducible refine cB HM (HCut.out _) ?_);clear HM;intro W1 HM)|(go_at_call 119;first|((with_reducible refine cB HM (HNa.out _) ?_);clear HM;intro W1 HM)|((with_reducible refine cB HM (HNb2.out (by trivial) _) ?_);clear HM;intro W1 HM))|((with_reducible refine iat 31 ?_);(refine six rfl rfl (i:=0) rfl HA0.out ?_))|(go_at_call 120;(with_reducible refine (HTr.out _).mono ?_);rintro e W2 ⟨rfl,rfl⟩)|(go_at_call 121;(with_reducible refine (HTl.out _).mono ?_);rintro e W2 ⟨rfl,rfl⟩)|(go_at_call 122;(with_reducible refine cB HM (HRd.out _) ?_);clear HM;intro W1 HM)|((with_reducible refine skip_op ?_ ?_);exact rfl)|refine mP ?_|(refine mS ?_;clear HM;intro W1 HM)|(refine hal (dst:=some 2) HM rfl ?_;clear HM;intro g2 W1 HM)|(refine hal (dst:=some 9) HM rfl ?_;clear HM;intro g9 W1 HM))
     exact bodyPost_ret (res_box_tmp rfl HM.out 1 rfl rfl rfl rfl) rfl ⟨HR.out▸rfl,HM.out.below⟩
end Go.Proofs.YtnghlakllgkjlaaGreatDoor
