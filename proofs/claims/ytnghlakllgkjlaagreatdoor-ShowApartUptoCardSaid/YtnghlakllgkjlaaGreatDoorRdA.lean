/- The tokens of a text are in bounds; what the reader of expressions answers, in plain Lean. The small functions of the reader of expressions. -/
import Derived.Test.YtnghlakllgkjlaaGreatDoorLexChain
import Derived.Test.YtnghlakllgkjlaaGreatDoorGramA
import Derived.Test.YtnghlakllgkjlaaGreatDoorPlainA
import Derived.Test.YtnghlakllgkjlaaGreatDoorSepA
import Derived.Test.YtnghlakllgkjlaaGreatDoorTypes
namespace Go.Proofs.YtnghlakllgkjlaaGreatDoor
open Go.RowKit
set_option linter.unusedVariables false
theorem lexG_all (s:ByteArray) (P:TokD→Prop) (hP:∀ i c,s.data.toList[i]? = some c→(oneF s i).2.2≠5→P (oneF s i).1):∀ (f i:Nat) (acc:List TokD) (o r:Bool) (ts:List TokD) (o' r' : Bool),(∀ t ∈ acc,P t)→lexG s f i acc o r=some (ts,o',r')→∀ t ∈ ts,P t
 | 0,i,acc,o,r,ts,o',r',ha,h=>by
  unfold lexG at h
  cases h
  exact ha
 | f + 1,i,acc,o,r,ts,o',r',ha,h=>by
  unfold lexG at h
  cases hc:s.data.toList[i]? with
  | none=>
   rw [hc] at h
   cases h
   exact ha
  | some c=>
   rw [hc] at h
   simp only at h
   split at h
   ·exact lexG_all s P hP f (i + 1) acc o r ts o' r' ha h
   ·split at h
    ·cases h
    ·rename_i h5
     refine lexG_all s P hP f _ _ _ _ ts o' r' (fun t ht=>?_) h
     rcases List.mem_append.1 ht with ht|ht
     ·exact ha t ht
     ·rw [List.mem_singleton.1 ht];exact hP i c hc h5
theorem lexF_all (s:ByteArray) (P:TokD→Prop) (hP:s.size≤1000→∀ i c,s.data.toList[i]? = some c→(oneF s i).2.2≠5→P (oneF s i).1):∀ t ∈ (lexF s).1,P t:=by
 unfold lexF
 split
 ·intro t ht;cases ht
 ·rename_i h1000
  split
  ·intro t ht;cases ht
  ·cases hg:lexG s (s.size + 1) 0 [] false false with
   | none=>intro t ht;cases ht
   | some x=>
    obtain ⟨ts,o,r⟩:=x
    simp only
    split
    ·intro t ht;cases ht
    ·split
     ·intro t ht;cases ht
     ·exact lexG_all s P (hP (by omega)) _ _ _ _ _ _ _ _ (fun t ht=>by cases ht) hg
theorem dval_ltE:∀ (l:List UInt8) (a k:Nat),(∀ b ∈ l,dg b=true)→a < 10 ^ k→l.foldl (fun a b=>a * 10 + (b.toNat - 48)) a < 10 ^ (k + l.length)
 | [],a,k,_,h=>h
 | b :: l,a,k,hl,h=>by
  have hb:=(Cal.digB_iff b).1 (hl b (List.mem_cons_self ..))
  have:=dval_ltE l (a * 10 + (b.toNat - 48)) (k + 1) (fun x hx=>hl x (List.mem_cons_of_mem _ hx)) (by rw [Nat.pow_succ];omega)
  rw [List.foldl_cons,List.length_cons,show k + (l.length + 1)=k + 1 + l.length by omega]
  exact this
theorem trimL_subE (l:List UInt8) (c b:UInt8) (h:b ∈ Lib.trimLeftB l c):b ∈ l:=by
 unfold Lib.trimLeftB at h
 exact (List.dropWhile_suffix _).subset h
theorem trimR_subE (l:List UInt8) (c b:UInt8) (h:b ∈ Lib.trimRightB l c):b ∈ l:=by
 unfold Lib.trimRightB at h
 have h2:b ∈ List.dropWhile (fun x=>x == c) l.reverse:=by simpa using h
 simpa using (List.dropWhile_suffix _).subset h2
theorem decT_lt {ds fs:List UInt8} (hd:∀ b ∈ ds,dg b=true) (hf:∀ b ∈ fs,dg b=true):(decT ds fs).1.1 < 340282366920938463463374607431768211456:=by
 unfold decT
 split
 ·show (0:Nat) < _;decide
 ·split
  ·show (0:Nat) < _;decide
  ·split
   ·show (0:Nat) < _;decide
   ·rename_i h3
    have h4:(Lib.trimLeftB (ds++Lib.trimRightB fs 48) 48).length≤34:=by have:=not_or.1 h3;omega
    have h5:=dval_ltE (Lib.trimLeftB (ds++Lib.trimRightB fs 48) 48) 0 0 (fun b hb=>by
     rcases List.mem_append.1 (trimL_subE _ _ b hb) with h|h
     ·exact hd b h
     ·exact hf b (trimR_subE _ _ b h)) (by decide)
    rw [Nat.zero_add] at h5
    exact Nat.lt_of_lt_of_le h5 (Nat.le_trans (Nat.pow_le_pow_right (by decide) h4) (by decide))
theorem unqL_len:∀ (f:Nat) (l r:List UInt8),unqL f l=some r→r.length≤l.length
 | 0,l,r,h=>by
  unfold unqL at h
  revert h
  cases l <;> intro h <;> simp_all
 | f + 1,[],r,h=>by
  unfold unqL at h
  simp_all
 | f + 1,c :: l,r,h=>by
  unfold unqL at h
  simp only at h
  split at h
  ·cases h
  ·split at h
   ·cases l with
    | nil=>cases h
    | cons d l'=>
     simp only at h
     cases hd:escD d with
     | none=>rw [hd] at h;cases h
     | some b=>
      rw [hd] at h
      simp only [Option.map_eq_some_iff] at h
      obtain ⟨r',h1,rfl⟩:=h
      have:=unqL_len f l' r' h1
      simp only [List.length_cons]
      omega
   ·simp only [Option.map_eq_some_iff] at h
    obtain ⟨r',h1,rfl⟩:=h
    have:=unqL_len f l r' h1
    simp only [List.length_cons]
    omega
theorem unqR_len (s:ByteArray):(unqR s).1.size≤s.size:=by
 unfold unqR
 split
 ·cases hq:qform s.data.toList with
  | none=>exact Nat.zero_le _
  | some l=>
   cases hu:unq l with
   | none=>
    show (match unq l with|some r=>((⟨r.toArray⟩:ByteArray),(0:Int))|none=>(⟨#[]⟩,5)).1.size≤s.size
    rw [hu]
    exact Nat.zero_le _
   | some r=>
    show (match unq l with|some r=>((⟨r.toArray⟩:ByteArray),(0:Int))|none=>(⟨#[]⟩,5)).1.size≤s.size
    rw [hu]
    have h1:=unqL_len _ _ _ hu
    unfold qform at hq
    split at hq
    ·cases hq
     have h2:((s.data.toList.drop 1).take (s.data.toList.length - 2)).length≤s.data.toList.length:=by rw [List.length_take,List.length_drop];omega
     have h3:s.data.toList.length=s.size:=by simp
     show r.length≤s.size
     omega
    ·cases hq
 ·exact Nat.zero_le _
theorem textF_len {s:ByteArray} {i k:Nat} {t:ByteArray} (h:textF s i=some (t,k)):t.size≤s.size:=by
 unfold textF at h
 split at h
 ·split at h
  ·cases h
  ·rename_i k' hk
   split at h
   ·cases h
    exact Nat.le_trans (unqR_len _) (by rw [ByteArray.size_extract];omega)
   ·cases h
 ·cases h
theorem oneF_tk {s:ByteArray} (hs:s.size≤1000) {i:Nat} {c:UInt8} (hc:s.data.toList[i]? = some c):TkOk (oneF s i).1:=by
 unfold oneF
 rw [hc]
 simp only
 have z:∀ (k:Int) (t:ByteArray) (d:Int),t.size≤1000→TkOk ⟨k,t,0,0,d,i⟩:=fun k t d h=>⟨by show (0:Nat) < _;decide,h⟩
 split
 ·rename_i hd
  obtain ⟨-,-,-,h4,h5,-⟩:=num_parts hc hd
  exact ⟨decT_lt h4 h5,by show (0:Nat)≤_;decide⟩
 ·split
  ·cases hx:textF s i with
   | none=>exact z _ _ _ (by show (0:Nat)≤_;decide)
   | some x=>exact z _ _ _ (Nat.le_trans (textF_len hx) hs)
  ·split
   ·cases hx:textF s (i + 1) with
    | none=>exact z _ _ _ (by show (0:Nat)≤_;decide)
    | some x=>exact z _ _ _ (by show (0:Nat)≤_;decide)
   ·split
    ·split
     ·exact z _ _ _ (by show (0:Nat)≤_;decide)
     ·exact z _ _ _ (by rw [ByteArray.size_extract];omega)
    ·split
     ·exact z _ _ _ (by show (0:Nat)≤_;decide)
     ·exact z _ _ _ (by rw [ByteArray.size_extract];omega)
theorem lexF_tks (s:ByteArray):TksOk (lexF s).1:=⟨lexF_small s,lexF_all s TkOk (fun hs i c hc _=>oneF_tk hs hc)⟩
def KndOk (T:List TokD):Prop:=∀ t ∈ T,1≤t.kind∧t.kind≤6∧(t.kind=5→wordB t.text.toList=true)
theorem lexF_knd (s:ByteArray):KndOk (lexF s).1:=lexF_all s (fun t=>1≤t.kind∧t.kind≤6∧(t.kind=5→wordB t.text.toList=true)) (fun hs i c hc h5=>by
 obtain ⟨-,-,h1,h2,-,h3⟩:=oneF_ok hc h5
 exact ⟨h1,h2,h3⟩)
def topN (tests:Bool):NT:=if tests then .unary else .expr
def topG (T:List TokD) (tests:Bool):PR:=G T (T.length * 16 + 12) (topN tests) 0
theorem topG_out (T:List TokD) (tests:Bool):topG T tests≠.out:=by
 intro h
 have h1:=G_good (T:=T) (T.length * 16 + 12) (topN tests) 0 (Nat.zero_le _) (fun _=>rfl)
 unfold topG at h
 rw [h] at h1
 refine h1 ?_
 unfold need topN
 cases tests <;> simp [NT.rank] <;> omega
def topF (T:List TokD) (tests:Bool):List NodeD × Int:=match topG T tests with
 | .ok l _ j=>if j=T.length then if checkC l tests=0 then (l,0) else ([],checkC l tests) else ([],5)
 | _=>([],5)
def parseF (s:ByteArray) (tests:Bool):List NodeD × Int:=if (lexF s).2=0 then topF (lexF s).1 tests else ([],(lexF s).2)
theorem NodeOk.wf {x:NodeD} (h:NodeOk x):x.wf:=⟨Nat.lt_of_lt_of_le h.hi (by decide),Nat.lt_of_lt_of_le h.lo (by decide),Nat.le_trans h.text (by decide),by have:=h.kids;omega⟩
theorem topG_ok {T:List TokD} (hT:TksOk T) {tests:Bool} {l:List NodeD} {n j:Nat} (h:topG T tests = .ok l n j):j≤T.length∧l.length≤T.length + 2∧NodesOk l:=by
 have h1:=G_good (T:=T) (T.length * 16 + 12) (topN tests) 0 (Nat.zero_le _) (fun _=>rfl)
 unfold topG at h
 rw [h] at h1
 have h2:GS T (topN tests) 0 l n j:=h1
 have h3:=h2.len
 have h4:=h2.to_
 refine ⟨h4,?_,h2.ok hT ?_ ?_⟩
 ·unfold topN at h3
  cases tests <;> simp [NT.acc,NT.slk] at h3 <;> omega
 ·unfold topN;cases tests <;> exact Nat.le_refl _
 ·unfold topN;cases tests <;> exact NodesOk.nil
theorem parseF_ok (s:ByteArray) (tests:Bool):(parseF s tests).1.length≤1002∧NodesOk (parseF s tests).1:=by
 have hT:=lexF_tks s
 have h0:([]:List NodeD).length≤1002∧NodesOk []:=⟨by decide,.nil⟩
 unfold parseF
 split
 ·unfold topF
  cases h:topG (lexF s).1 tests with
  | out=>exact h0
  | no=>exact h0
  | ok l n j=>
   have:=topG_ok hT h
   simp only
   split
   ·split
    ·exact ⟨by have:=hT.len;show l.length≤1002;omega,this.2.2⟩
    ·exact h0
   ·exact h0
 ·exact h0
set_option linter.unusedSimpArgs false
set_option maxRecDepth 100000
theorem xFail (W:World):Calls Tryz.prog 187 #[] W fun e w'=>e=faultE∧W=w':=by
 go_enter Tryz.func187,Tryz.ntmps187
 go_wp2_with fail
 exact ⟨rfl,rfl,rfl⟩
set_option maxHeartbeats 4000000 in
theorem xRel (s:ByteArray) (W:World):Calls Tryz.prog 279 #[.string s] W fun e w'=>e = .returned (.int .i64 (relL s.toList))∧W=w':=by
 by_cases h0:(s.toList == [61])=true
 ·have HW:=Lib.hid (show relL s.toList=13 by unfold relL;rw [h0];rfl)
  rw [HW.out]
  clear HW
  go_enter Tryz.func279,Tryz.ntmps279
  go_wp2
  go_ret
  exact ⟨rfl,rfl⟩
 rw [Bool.not_eq_true] at h0
 by_cases h1:(s.toList == [33,61])=true
 ·have HW:=Lib.hid (show relL s.toList=14 by unfold relL;rw [h0,h1];rfl)
  rw [HW.out]
  clear HW
  go_enter Tryz.func279,Tryz.ntmps279
  go_wp2
  go_ret
  exact ⟨rfl,rfl⟩
 rw [Bool.not_eq_true] at h1
 by_cases h2:(s.toList == [60])=true
 ·have HW:=Lib.hid (show relL s.toList=15 by unfold relL;rw [h0,h1,h2];rfl)
  rw [HW.out]
  clear HW
  go_enter Tryz.func279,Tryz.ntmps279
  go_wp2
  go_ret
  exact ⟨rfl,rfl⟩
 rw [Bool.not_eq_true] at h2
 by_cases h3:(s.toList == [60,61])=true
 ·have HW:=Lib.hid (show relL s.toList=16 by unfold relL;rw [h0,h1,h2,h3];rfl)
  rw [HW.out]
  clear HW
  go_enter Tryz.func279,Tryz.ntmps279
  go_wp2
  go_ret
  exact ⟨rfl,rfl⟩
 rw [Bool.not_eq_true] at h3
 by_cases h4:(s.toList == [62])=true
 ·have HW:=Lib.hid (show relL s.toList=17 by unfold relL;rw [h0,h1,h2,h3,h4];rfl)
  rw [HW.out]
  clear HW
  go_enter Tryz.func279,Tryz.ntmps279
  go_wp2
  go_ret
  exact ⟨rfl,rfl⟩
 rw [Bool.not_eq_true] at h4
 by_cases h5:(s.toList == [62,61])=true
 ·have HW:=Lib.hid (show relL s.toList=18 by unfold relL;rw [h0,h1,h2,h3,h4,h5];rfl)
  rw [HW.out]
  clear HW
  go_enter Tryz.func279,Tryz.ntmps279
  go_wp2
  go_ret
  exact ⟨rfl,rfl⟩
 rw [Bool.not_eq_true] at h5
 have HW:=Lib.hid (show relL s.toList=0 by unfold relL;rw [h0,h1,h2,h3,h4,h5];rfl)
 rw [HW.out]
 clear HW
 go_enter Tryz.func279,Tryz.ntmps279
 go_wp2
 go_ret
 exact ⟨rfl,rfl⟩
section
variable {T:List TokD} {w0 W:World} {R:Nat} {tp:Option Addr} {tc i:Nat} {rest:List Res}
theorem tokAt (HT:Sl w0 tp (T.flatMap TokD.cs)) {t:TokD} (ht:T[i]? = some t):∃ b,tp=some b∧Cells w0 (b.add (i * 8)) t.cs:=by
 obtain ⟨b,hp,hb⟩:=HT.some_at TokD.cs_len (by decide) (some_lt ht)
 exact ⟨b,hp,hb.elem TokD.cs 8 TokD.cs_len ht⟩
end
set_option maxHeartbeats 8000000 in
theorem xPeek (T:List TokD) (w0 W:World) (R:Nat) (tp:Option Addr) (tc i:Nat) (V:Value) (rest:List Res) (HT:Sl w0 tp (T.flatMap TokD.cs)) (HM0:Mem w0 W (.box R 231 [.slice tp T.length tc,.int .i64 i,V] :: rest)) (hT:T.length≤1000) (hi:i≤T.length) :
  Calls Tryz.prog 259 #[.pointer (some ⟨R,0,none⟩)] W fun e w'=>e = .returned (.string (sgT T i))∧Mem w0 w' (.box R 231 [.slice tp T.length tc,.int .i64 i,V] :: rest):=by
 have HM:=Lib.hid HM0
 clear HM0
 by_cases hlt:i < T.length
 ·obtain ⟨t,ht⟩:∃ t,T[i]? = some t:=⟨_,List.getElem?_eq_getElem hlt⟩
  obtain ⟨b,rfl,hb⟩:=tokAt HT ht
  obtain ⟨kd,tx,nu,sc,dy,pt⟩:=t
  have HE:=Lib.hid hb
  have hs:sgT T i=if 5≤kd then tx else ⟨#[]⟩:=by unfold sgT;rw [ht]
  rw [hs]
  obtain ⟨n,hn⟩:∃ n,T.length=n:=⟨_,rfl⟩
  rw [hn] at HM hlt ⊢
  have d1:decide ((i:Int) < n)=true:=decide_eq_true (by omega)
  clear hs ht hb HT
  by_cases h5:5≤kd
  ·rw [if_pos h5]
   have d2:decide (5≤kd)=true:=decide_eq_true h5
   go_enter Tryz.func259,Tryz.ntmps259
   go_wp2_with fail
   refine wp_region_mem (by kernel_rfl) (by kernel_rfl) HM.out ?_;intro hNE;(repeat (any_goals (first|((with_reducible refine skip_q ?_ ?_ ?_);(exact rfl);(rotate_left;(exact (hNE.elim fun p=>⟨p.W,p,rfl⟩))))|refine mQ ?_|((with_reducible refine qat 22 ?_);(refine qixa rfl rfl rfl hlt ?_))|((with_reducible refine qat 24 ?_);(refine qdx0 HE.out rfl rfl ?_))|go_big_quiet_step (fail)|quiet_step (fail))));clear hNE;refine wpQuiet_nil ?_;intro W1 HM1;replace HM:=Lib.hid HM1;clear HM1
   go_wp2_with fail
   refine wp_region_mem (by kernel_rfl) (by kernel_rfl) HM.out ?_;intro hNE;(repeat (any_goals (first|((with_reducible refine skip_q ?_ ?_ ?_);(exact rfl);(rotate_left;(exact (hNE.elim fun p=>⟨p.W,p,rfl⟩))))|refine mQ ?_|((with_reducible refine qat 35 ?_);(refine qixa rfl rfl rfl hlt ?_))|((with_reducible refine qat 37 ?_);(refine qdxf HE.out rfl rfl rfl ?_))|go_big_quiet_step (fail)|quiet_step (fail))));clear hNE;refine wpQuiet_nil ?_;intro W1 HM1;replace HM:=Lib.hid HM1;clear HM1
   go_wp2_with fail
   go_ret
   exact ⟨rfl,HM.out⟩
  ·rw [if_neg h5]
   have d2:decide (5≤kd)=false:=decide_eq_false h5
   go_enter Tryz.func259,Tryz.ntmps259
   go_wp2_with fail
   refine wp_region_mem (by kernel_rfl) (by kernel_rfl) HM.out ?_;intro hNE;(repeat (any_goals (first|((with_reducible refine skip_q ?_ ?_ ?_);(exact rfl);(rotate_left;(exact (hNE.elim fun p=>⟨p.W,p,rfl⟩))))|refine mQ ?_|((with_reducible refine qat 22 ?_);(refine qixa rfl rfl rfl hlt ?_))|((with_reducible refine qat 24 ?_);(refine qdx0 HE.out rfl rfl ?_))|go_big_quiet_step (fail)|quiet_step (fail))));clear hNE;refine wpQuiet_nil ?_;intro W1 HM1;replace HM:=Lib.hid HM1;clear HM1
   go_wp2_with fail
   go_ret
   exact ⟨rfl,HM.out⟩
 ·rw [sgT_none (by omega)]
  obtain ⟨n,hn⟩:∃ n,T.length=n:=⟨_,rfl⟩
  rw [hn] at HM hlt ⊢
  have d1:decide ((i:Int) < n)=false:=decide_eq_false (by omega)
  go_enter Tryz.func259,Tryz.ntmps259
  go_wp2_with fail
  refine wp_region_mem (by kernel_rfl) (by kernel_rfl) HM.out ?_;intro hNE;(repeat (any_goals (first|((with_reducible refine skip_q ?_ ?_ ?_);(exact rfl);(rotate_left;(exact (hNE.elim fun p=>⟨p.W,p,rfl⟩))))|refine mQ ?_|fail|go_big_quiet_step (fail)|quiet_step (fail))));clear hNE;refine wpQuiet_nil ?_;intro W1 HM1;replace HM:=Lib.hid HM1;clear HM1
  go_wp2_with fail
  go_ret
  exact ⟨rfl,HM.out⟩
set_option maxHeartbeats 8000000 in
theorem xTake (T:List TokD) (w0 W:World) (R:Nat) (tp:Option Addr) (tc i:Nat) (V:Value) (rest:List Res) (x:ByteArray) (HT:Sl w0 tp (T.flatMap TokD.cs)) (HM0:Mem w0 W (.box R 231 [.slice tp T.length tc,.int .i64 i,V] :: rest)) (hT:T.length≤1000) (hi:i≤T.length) :
  Calls Tryz.prog 224 #[.pointer (some ⟨R,0,none⟩),.string x] W fun e w'=>e = .returned (.bool (isT T i x.toList))∧Mem w0 w' (.box R 231 [.slice tp T.length tc,.int .i64 (if isT T i x.toList then i + 1 else i:Nat),V] :: rest):=by
 have HM:=Lib.hid HM0
 have HP:=Lib.hid (xPeek T w0 W R tp tc i V rest HT HM0 hT hi)
 clear HM0
 cases hb:isT T i x.toList with
 | true=>
  have q:((sgT T i).toList == x.toList)=true:=hb
  have q' : ((sgT T i).toList != x.toList)=false:=by unfold bne;rw [q];rfl
  rw [if_pos rfl]
  clear hb
  go_enter Tryz.func224,Tryz.ntmps224
  go_wp2_with (first|(go_at_call 259;(with_reducible refine HP.out.mono ?_);rintro e W2 ⟨rfl,hM2⟩;have HM1:=Lib.hid hM2;clear hM2;clear HM;(try clear W1);rename World=>W1;have HM:=HM1;clear HM1)|refine mP ?_|(refine mS ?_;clear HM;intro W1 HM))
  go_ret
  exact ⟨rfl,HM.out⟩
 | false=>
  have q:((sgT T i).toList == x.toList)=false:=hb
  have q' : ((sgT T i).toList != x.toList)=true:=by unfold bne;rw [q];rfl
  rw [if_neg (by simp)]
  clear hb
  go_enter Tryz.func224,Tryz.ntmps224
  go_wp2_with (first|(go_at_call 259;(with_reducible refine HP.out.mono ?_);rintro e W2 ⟨rfl,hM2⟩;have HM1:=Lib.hid hM2;clear hM2;clear HM;(try clear W1);rename World=>W1;have HM:=HM1;clear HM1)|refine mP ?_|(refine mS ?_;clear HM;intro W1 HM))
  go_ret
  exact ⟨rfl,HM.out⟩
set_option maxHeartbeats 8000000 in
theorem xPut (w0 W:World) (R:Nat) (tp:Option Addr) (n tc:Nat) (i:Int) (op:Option Addr) (oc:Nat) (acc:List NodeD) (rest:List Res) (o k:Int) (HM0:Mem w0 W (.box R 231 [.slice tp n tc,.int .i64 i,.slice op acc.length oc] :: .row op oc 46 8 acc.length (acc.flatMap NodeD.cs) :: rest)) (ha:acc.length≤2000) :
  Calls Tryz.prog 225 #[.pointer (some ⟨R,0,none⟩),.int .i64 o,.int .i64 k] W fun e w'=>∃ op oc,e = .returned (.tuple #[])∧Mem w0 w' (.box R 231 [.slice tp n tc,.int .i64 i,.slice op (acc++[nOp o k]).length oc] :: .row op oc 46 8 (acc++[nOp o k]).length ((acc++[nOp o k]).flatMap NodeD.cs) :: rest):=by
 have HM:=Lib.hid HM0
 clear HM0
 obtain ⟨av,hav⟩:∃ x,acc.flatMap NodeD.cs=x:=⟨_,rfl⟩
 obtain ⟨m,hm⟩:∃ m,acc.length=m:=⟨_,rfl⟩
 have HAv:=Lib.hid (show av.take (m * 8)++[.int .i64 o,.int .i64 k,.string ⟨#[]⟩,.bool false,.int .u64 0,.int .u64 0,.int .i64 0,.int .i64 0]=(acc++[nOp o k]).flatMap NodeD.cs by
  rw [← hav,← hm,List.take_of_length_le (by rw [flat_len NodeD.cs 8 NodeD.cs_len];exact Nat.le_refl _),List.flatMap_append]
  rfl)
 have HL:=Lib.hid (show (acc++[nOp o k]).length=m + 1 by rw [List.length_append,hm];rfl)
 rw [hav,hm] at HM
 rw [hm] at ha
 rw [HL.out,← HAv.out]
 clear hav hm HAv HL
 go_enter Tryz.func225,Tryz.ntmps225
 go_wp2_with (first|(refine apb rfl HM.out 2 0 rfl rfl rfl rfl rfl rfl (by omega) (by omega) (by omega) ?_;intro p1 cap1 W1 HM1;replace HM:=Lib.hid HM1;clear HM1;simp only [List.set] at HM)|refine mP ?_|(refine mS ?_;clear HM;intro W1 HM)|(refine hbs1A HM rfl rfl rfl rfl ?_;clear HM;intro g1 W1 HM))
 go_end0
 exact ⟨p1,cap1,rfl,HM.out.sub (.cons _ (.refl _))⟩
set_option maxHeartbeats 8000000 in
theorem xNamed (w0 W:World) (R:Nat) (tp:Option Addr) (n tc:Nat) (i:Int) (op:Option Addr) (oc:Nat) (acc:List NodeD) (rest:List Res) (o k:Int) (x:ByteArray) (HM0:Mem w0 W (.box R 231 [.slice tp n tc,.int .i64 i,.slice op acc.length oc] :: .row op oc 46 8 acc.length (acc.flatMap NodeD.cs) :: rest)) (ha:acc.length≤2000) :
  Calls Tryz.prog 282 #[.pointer (some ⟨R,0,none⟩),.int .i64 o,.int .i64 k,.string x] W fun e w'=>∃ op oc,e = .returned (.tuple #[])∧Mem w0 w' (.box R 231 [.slice tp n tc,.int .i64 i,.slice op (acc++[nTx o k x]).length oc] :: .row op oc 46 8 (acc++[nTx o k x]).length ((acc++[nTx o k x]).flatMap NodeD.cs) :: rest):=by
 have HM:=Lib.hid HM0
 clear HM0
 obtain ⟨av,hav⟩:∃ x,acc.flatMap NodeD.cs=x:=⟨_,rfl⟩
 obtain ⟨m,hm⟩:∃ m,acc.length=m:=⟨_,rfl⟩
 have HAv:=Lib.hid (show av.take (m * 8)++[.int .i64 o,.int .i64 k,.string x,.bool false,.int .u64 0,.int .u64 0,.int .i64 0,.int .i64 0]=(acc++[nTx o k x]).flatMap NodeD.cs by
  rw [← hav,← hm,List.take_of_length_le (by rw [flat_len NodeD.cs 8 NodeD.cs_len];exact Nat.le_refl _),List.flatMap_append]
  rfl)
 have HL:=Lib.hid (show (acc++[nTx o k x]).length=m + 1 by rw [List.length_append,hm];rfl)
 rw [hav,hm] at HM
 rw [hm] at ha
 rw [HL.out,← HAv.out]
 clear hav hm HAv HL
 go_enter Tryz.func282,Tryz.ntmps282
 go_wp2_with (first|(refine apb rfl HM.out 2 0 rfl rfl rfl rfl rfl rfl (by omega) (by omega) (by omega) ?_;intro p1 cap1 W1 HM1;replace HM:=Lib.hid HM1;clear HM1;simp only [List.set] at HM)|refine mP ?_|(refine mS ?_;clear HM;intro W1 HM)|(refine hbs1A HM rfl rfl rfl rfl ?_;clear HM;intro g1 W1 HM))
 go_end0
 exact ⟨p1,cap1,rfl,HM.out.sub (.cons _ (.refl _))⟩
set_option maxHeartbeats 8000000 in
theorem xMust (T:List TokD) (w0 W:World) (R:Nat) (tp:Option Addr) (tc i:Nat) (V:Value) (rest:List Res) (x:ByteArray) (HT:Sl w0 tp (T.flatMap TokD.cs)) (HM0:Mem w0 W (.box R 231 [.slice tp T.length tc,.int .i64 i,V] :: rest)) (hT:T.length≤1000) (hi:i≤T.length) :
  Calls Tryz.prog 228 #[.pointer (some ⟨R,0,none⟩),.string x] W fun e w'=>(isT T i x.toList=true→e = .returned (.tuple #[])∧Mem w0 w' (.box R 231 [.slice tp T.length tc,.int .i64 (i + 1:Nat),V] :: rest))∧(isT T i x.toList=false→e=faultE∧Below w0.heap.size w0 w'):=by
 have HM:=Lib.hid HM0
 have HP:=Lib.hid (xTake T w0 W R tp tc i V rest x HT HM0 hT hi)
 clear HM0
 cases hb:isT T i x.toList with
 | true=>
  rw [hb] at HP
  rw [if_pos rfl] at HP
  refine Calls.mono (R:=fun e w'=>e = .returned (.tuple #[])∧Mem w0 w' (.box R 231 [.slice tp T.length tc,.int .i64 (i + 1:Nat),V] :: rest)) ?_ (fun e w' h=>⟨fun _=>h,(fun h2=>by cases h2)⟩)
  clear hb
  go_enter Tryz.func228,Tryz.ntmps228
  go_wp2_with (first|(go_at_call 224;(with_reducible refine HP.out.mono ?_);rintro e W2 ⟨rfl,hM2⟩;have HM1:=Lib.hid hM2;clear hM2;clear HM;(try clear W1);rename World=>W1;have HM:=HM1;clear HM1)|fail)
  go_end0
  exact ⟨rfl,HM.out⟩
 | false=>
  rw [hb] at HP
  rw [if_neg (by simp)] at HP
  refine Calls.mono (R:=fun e w'=>e=faultE∧Below w0.heap.size w0 w') ?_ (fun e w' h=>⟨(fun h2=>by cases h2),fun _=>h⟩)
  clear hb
  go_enter Tryz.func228,Tryz.ntmps228
  go_wp2_with (first|(go_at_call 224;(with_reducible refine HP.out.mono ?_);rintro e W2 ⟨rfl,hM2⟩;have HM1:=Lib.hid hM2;clear hM2;clear HM;(try clear W1);rename World=>W1;have HM:=HM1;clear HM1)|(go_at_call 187;(with_reducible refine (xFail _).mono ?_);rintro e W2 ⟨rfl,rfl⟩;unfold faultE)|fail)
  exact ⟨rfl,rfl,HM.out.below⟩
set_option maxHeartbeats 8000000 in
theorem xNameY (T:List TokD) (w0 W:World) (R:Nat) (tp:Option Addr) (tc i:Nat) (V:Value) (rest:List Res) (HT:Sl w0 tp (T.flatMap TokD.cs)) (HM0:Mem w0 W (.box R 231 [.slice tp T.length tc,.int .i64 i,V] :: rest)) (hT:T.length≤1000) {t:TokD} (ht:T[i]? = some t) (hk:t.kind=4) :
  Calls Tryz.prog 311 #[.pointer (some ⟨R,0,none⟩)] W fun e w'=>e = .returned (.string t.text)∧Mem w0 w' (.box R 231 [.slice tp T.length tc,.int .i64 (i + 1:Nat),V] :: rest):=by
 have HM:=Lib.hid HM0
 clear HM0
 have hlt:=some_lt ht
 obtain ⟨b,rfl,hb⟩:=tokAt HT ht
 obtain ⟨kd,tx,nu,sc,dy,pt⟩:=t
 dsimp only at hk ⊢
 subst hk
 have HE:=Lib.hid hb
 obtain ⟨n,hn⟩:∃ n,T.length=n:=⟨_,rfl⟩
 rw [hn] at HM hlt hT ⊢
 have d1:decide ((n:Int)≤i)=false:=decide_eq_false (by omega)
 have d1' : decide (n≤i)=false:=decide_eq_false (by omega)
 clear ht hb HT
 go_enter Tryz.func311,Tryz.ntmps311
 go_wp2_with fail
 refine wp_region_mem (by kernel_rfl) (by kernel_rfl) HM.out ?_;intro hNE;(repeat (any_goals (first|((with_reducible refine skip_q ?_ ?_ ?_);(exact rfl);(rotate_left;(exact (hNE.elim fun p=>⟨p.W,p,rfl⟩))))|refine mQ ?_|((with_reducible refine qat 22 ?_);(refine qixa rfl rfl rfl hlt ?_))|((with_reducible refine qat 24 ?_);(refine qdx0 HE.out rfl rfl ?_))|go_big_quiet_step (fail)|quiet_step (fail))));clear hNE;refine wpQuiet_nil ?_;intro W1 HM1;replace HM:=Lib.hid HM1;clear HM1
 go_wp2_with (first|((with_reducible refine skip_op ?_ ?_);exact rfl)|refine mP ?_|(refine mS ?_;clear HM;intro W1 HM))
 refine wp_region_mem (by kernel_rfl) (by kernel_rfl) HM.out ?_;intro hNE;(repeat (any_goals (first|((with_reducible refine skip_q ?_ ?_ ?_);(exact rfl);(rotate_left;(exact (hNE.elim fun p=>⟨p.W,p,rfl⟩))))|refine mQ ?_|((with_reducible refine qat 44 ?_);(refine qixa (i:=i) rfl rfl (by omega) hlt ?_))|((with_reducible refine qat 46 ?_);(refine qdxf HE.out rfl rfl rfl ?_))|go_big_quiet_step (fail)|quiet_step (fail))));clear hNE;refine wpQuiet_nil ?_;intro W1 HM1;replace HM:=Lib.hid HM1;clear HM1
 go_wp2_with fail
 go_ret
 exact ⟨rfl,HM.out⟩
set_option maxHeartbeats 8000000 in
theorem xNameN (T:List TokD) (w0 W:World) (R:Nat) (tp:Option Addr) (tc i:Nat) (V:Value) (rest:List Res) (HT:Sl w0 tp (T.flatMap TokD.cs)) (HM0:Mem w0 W (.box R 231 [.slice tp T.length tc,.int .i64 i,V] :: rest)) (hT:T.length≤1000) (hk:∀ t,T[i]? = some t→t.kind≠4) :
  Calls Tryz.prog 311 #[.pointer (some ⟨R,0,none⟩)] W fun e w'=>e=faultE∧Below w0.heap.size w0 w':=by
 have HM:=Lib.hid HM0
 clear HM0
 by_cases hlt:i < T.length
 ·obtain ⟨t,ht⟩:∃ t,T[i]? = some t:=⟨_,List.getElem?_eq_getElem hlt⟩
  obtain ⟨b,rfl,hb⟩:=tokAt HT ht
  have hk4:=hk t ht
  obtain ⟨kd,tx,nu,sc,dy,pt⟩:=t
  have q4:(kd != 4)=true:=by simpa using hk4
  have HE:=Lib.hid hb
  obtain ⟨n,hn⟩:∃ n,T.length=n:=⟨_,rfl⟩
  rw [hn] at HM hlt hT
  have d1:decide ((n:Int)≤i)=false:=decide_eq_false (by omega)
  have d1' : decide (n≤i)=false:=decide_eq_false (by omega)
  clear ht hb HT hk hk4
  go_enter Tryz.func311,Tryz.ntmps311
  go_wp2_with fail
  refine wp_region_mem (by kernel_rfl) (by kernel_rfl) HM.out ?_;intro hNE;(repeat (any_goals (first|((with_reducible refine skip_q ?_ ?_ ?_);(exact rfl);(rotate_left;(exact (hNE.elim fun p=>⟨p.W,p,rfl⟩))))|refine mQ ?_|((with_reducible refine qat 22 ?_);(refine qixa rfl rfl rfl hlt ?_))|((with_reducible refine qat 24 ?_);(refine qdx0 HE.out rfl rfl ?_))|go_big_quiet_step (fail)|quiet_step (fail))));clear hNE;refine wpQuiet_nil ?_;intro W1 HM1;replace HM:=Lib.hid HM1;clear HM1
  go_wp2_with (first|(go_at_call 187;(with_reducible refine (xFail _).mono ?_);rintro e W2 ⟨rfl,rfl⟩;unfold faultE))
  exact ⟨rfl,rfl,HM.out.below⟩
 ·obtain ⟨n,hn⟩:∃ n,T.length=n:=⟨_,rfl⟩
  rw [hn] at HM hlt hT
  have d1:decide ((n:Int)≤i)=true:=decide_eq_true (by omega)
  have d1' : decide (n≤i)=true:=decide_eq_true (by omega)
  clear HT hk
  go_enter Tryz.func311,Tryz.ntmps311
  go_wp2_with fail
  refine wp_region_mem (by kernel_rfl) (by kernel_rfl) HM.out ?_;intro hNE;(repeat (any_goals (first|((with_reducible refine skip_q ?_ ?_ ?_);(exact rfl);(rotate_left;(exact (hNE.elim fun p=>⟨p.W,p,rfl⟩))))|refine mQ ?_|fail|go_big_quiet_step (fail)|quiet_step (fail))));clear hNE;refine wpQuiet_nil ?_;intro W1 HM1;replace HM:=Lib.hid HM1;clear HM1
  go_wp2_with (first|(go_at_call 187;(with_reducible refine (xFail _).mono ?_);rintro e W2 ⟨rfl,rfl⟩;unfold faultE))
  exact ⟨rfl,rfl,HM.out.below⟩
section
variable {T:List TokD} {w0 W:World} {R:Nat} {tp:Option Addr} {n tc i oc:Nat} {op:Option Addr} {acc:List NodeD} {rest:List Res} {r A B:PR} {V:Value} {K:Ending→World→Prop} {x:ByteArray} {s:List UInt8} {d:Int}
theorem take_use (HR:(if isT T i s=true then A else B)=r) (HT:Sl w0 tp (T.flatMap TokD.cs)) (HM:Mem w0 W (.box R 231 [.slice tp T.length tc,.int .i64 d,V] :: rest)) (hd:d=(i:Int)) (hT:T.length≤1000) (hi:i≤T.length) (hs:x.data.toList=s)
  (hyes:isT T i s=true→A=r→∀ W',Mem w0 W' (.box R 231 [.slice tp T.length tc,.int .i64 (i + 1:Nat),V] :: rest)→K (.returned (.bool true)) W')
  (hno:isT T i s=false→B=r→∀ W',Mem w0 W' (.box R 231 [.slice tp T.length tc,.int .i64 i,V] :: rest)→K (.returned (.bool false)) W') :
  Calls Tryz.prog 224 #[.pointer (some ⟨R,0,none⟩),.string x] W K:=by
 subst hd
 have h:=xTake T w0 W R tp tc i V rest x HT HM hT hi
 rw [toList_of hs] at h
 refine h.mono fun e W' ⟨he,hM⟩=>?_
 subst he
 cases hb:isT T i s with
 | true=>
  rw [hb] at hM HR
  exact hyes hb HR W' hM
 | false=>
  rw [hb] at hM HR
  exact hno hb HR W' hM
theorem must_use (HR:(if isT T i s=true then A else PR.no)=r) (HT:Sl w0 tp (T.flatMap TokD.cs)) (HM:Mem w0 W (.box R 231 [.slice tp T.length tc,.int .i64 d,V] :: rest)) (hd:d=(i:Int)) (hT:T.length≤1000) (hi:i≤T.length) (hs:x.data.toList=s)
  (hno:r = .no→∀ W',Below w0.heap.size w0 W'→K faultE W')
  (hyes:isT T i s=true→A=r→∀ W',Mem w0 W' (.box R 231 [.slice tp T.length tc,.int .i64 (i + 1:Nat),V] :: rest)→K (.returned (.tuple #[])) W') :
  Calls Tryz.prog 228 #[.pointer (some ⟨R,0,none⟩),.string x] W K:=by
 subst hd
 have h:=xMust T w0 W R tp tc i V rest x HT HM hT hi
 rw [toList_of hs] at h
 refine h.mono fun e W' ⟨h1,h2⟩=>?_
 cases hb:isT T i s with
 | true=>
  rw [hb] at HR
  obtain ⟨rfl,hM⟩:=h1 hb
  exact hyes hb HR W' hM
 | false=>
  rw [hb] at HR
  obtain ⟨rfl,hM⟩:=h2 hb
  exact hno HR.symm W' hM
theorem rel_use {j:Nat} {A B:PR} {L:Prop} (HR:(if relT T j≠0 then A else B)=r) (hyes:(relL (sgT T j).toList≠0)→(relL (sgT T j).toList != 0)=true→A=r→L) (hno:(relL (sgT T j).toList=0)→(relL (sgT T j).toList != 0)=false→B=r→L):L:=by
 by_cases h:relT T j=0
 ·rw [if_neg (fun x=>x h)] at HR
  exact hno h (by show (relT T j != 0)=false;rw [h];rfl) HR
 ·rw [if_pos h] at HR
  exact hyes h (by show (relT T j != 0)=true;simpa using h) HR
theorem of_rel {j:Nat} (h:relL (sgT T j).toList≠0):relT T j≠0:=h
theorem put_use {i:Int} (o k:Int) (HM:Mem w0 W (.box R 231 [.slice tp n tc,.int .i64 i,.slice op acc.length oc] :: .row op oc 46 8 acc.length (acc.flatMap NodeD.cs) :: rest)) (ha:acc.length≤2000)
  (h:∀ (op:Option Addr) (oc:Nat) (W' : World),Mem w0 W' (.box R 231 [.slice tp n tc,.int .i64 i,.slice op (acc++[nOp o k]).length oc] :: .row op oc 46 8 (acc++[nOp o k]).length ((acc++[nOp o k]).flatMap NodeD.cs) :: rest)→K (.returned (.tuple #[])) W') :
  Calls Tryz.prog 225 #[.pointer (some ⟨R,0,none⟩),.int .i64 o,.int .i64 k] W K:=
 (xPut w0 W R tp n tc i op oc acc rest o k HM ha).mono fun e W' ⟨op,oc,he,hM⟩=>he▸h op oc W' hM
theorem named_use {i:Int} (o k:Int) (x:ByteArray) (HM:Mem w0 W (.box R 231 [.slice tp n tc,.int .i64 i,.slice op acc.length oc] :: .row op oc 46 8 acc.length (acc.flatMap NodeD.cs) :: rest)) (ha:acc.length≤2000)
  (h:∀ (op:Option Addr) (oc:Nat) (W' : World),Mem w0 W' (.box R 231 [.slice tp n tc,.int .i64 i,.slice op (acc++[nTx o k x]).length oc] :: .row op oc 46 8 (acc++[nTx o k x]).length ((acc++[nTx o k x]).flatMap NodeD.cs) :: rest)→K (.returned (.tuple #[])) W') :
  Calls Tryz.prog 282 #[.pointer (some ⟨R,0,none⟩),.int .i64 o,.int .i64 k,.string x] W K:=
 (xNamed w0 W R tp n tc i op oc acc rest o k x HM ha).mono fun e W' ⟨op,oc,he,hM⟩=>he▸h op oc W' hM
end
end Go.Proofs.YtnghlakllgkjlaaGreatDoor
