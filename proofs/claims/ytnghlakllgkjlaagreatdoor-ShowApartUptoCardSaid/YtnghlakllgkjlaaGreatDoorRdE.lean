/- Contexts: the reader of expressions. What begins with a sign or a keyword: the reader of expressions. -/
import Derived.Test.YtnghlakllgkjlaaGreatDoorRdD
import Derived.Test.YtnghlakllgkjlaaGreatDoorSepMac2
namespace Go.Proofs.YtnghlakllgkjlaaGreatDoor
open Go.RowKit
set_option linter.unusedVariables false
set_option linter.unusedSimpArgs false
set_option maxRecDepth 100000
def strC (x:ByteArray):List Value:=[.string x]
theorem strC_len (x:ByteArray):(strC x).length=1:=rfl
def hasS (l:List ByteArray) (x:ByteArray):Bool:=l.any fun y=>y.toList == x.toList
set_option maxHeartbeats 8000000 in
theorem sIndex (p:Option Addr) (c:Nat) (l:List ByteArray) (x:ByteArray) (W:World) (h:Sl W p (l.flatMap strC)) (hl:l.length≤2000) :
  Calls Tryz.prog 86 #[.slice p l.length c,.string x] W fun e w'=>(∃ k:Int,e = .returned (.int .i64 k)∧(hasS l x=true→0≤k)∧(hasS l x=false→k = -1))∧W=w':=by
 have HS:=Lib.hid h
 obtain ⟨n,hn⟩:∃ n,l.length=n:=⟨_,rfl⟩
 have HN:=Lib.hid hn
 rw [hn] at hl ⊢
 clear h hn
 go_enter Tryz.func86,Tryz.ntmps86
 go_wp2_with fail
 go_loop [8] (fun kv=>∃ k:Nat,kv = .int .i64 k∧k≤n∧Hid (∀ (j:Nat) (y:ByteArray),j < k→l[j]? = some y→(y.toList == x.toList)=false)) (fun kv=>n - (intOf kv).toNat)
 case atStart=>exact ⟨0,rfl,Nat.zero_le _,Lib.hid (fun j y hj=>absurd hj (Nat.not_lt_zero _))⟩
 case round=>
  obtain ⟨k,rfl,hk,HF⟩:=hrel
  by_cases hlt:k < n
  ·obtain ⟨y,hy⟩:∃ y,l[k]? = some y:=⟨_,List.getElem?_eq_getElem (by rw [HN.out];exact hlt)⟩
   obtain ⟨a,rfl,ha⟩:=HS.out.some_at strC_len (by decide) (show k < l.length by rw [HN.out];exact hlt)
   have HE:=Lib.hid (show Cells _ (a.add (k * 1)) [.string y] from ha.elem strC 1 strC_len hy)
   have hlt3:=Lib.hid (show k + 1≤n from hlt)
   have d1:decide ((k:Int) < n)=true:=decide_eq_true (by omega)
   cases hb:(x.toList == y.toList) with
   | true=>
    have hb' : (y.toList == x.toList)=true:=by simpa using (by simpa using hb:x.toList=y.toList).symm
    have HY:=Lib.hid (show hasS l x=true from List.any_eq_true.2 ⟨y,List.mem_of_getElem? hy,hb'⟩)
    clear hy ha hb'
    go_wp2_with (first|((with_reducible refine iat 14 ?_);(refine ixa rfl rfl rfl hlt ?_))|((with_reducible refine iat 15 ?_);(refine ldx0 HE.out rfl rfl ?_)))
    first|go_ret|go_ret2
    exact ⟨⟨_,rfl,(fun _=>by omega),(fun h=>by rw [HY.out] at h;cases h)⟩,rfl⟩
   | false=>
    have hb' : (y.toList == x.toList)=false:=by
     cases h:(y.toList == x.toList) with
     | false=>rfl
     | true=>rw [show (x.toList == y.toList)=true by simpa using (by simpa using h:y.toList=x.toList).symm] at hb;cases hb
    have HF2:=Lib.hid (show ∀ (j:Nat) (z:ByteArray),j < k + 1→l[j]? = some z→(z.toList == x.toList)=false from fun j z hj hz=>by
     by_cases e:j=k
     ·subst e;rw [hy] at hz;cases hz;exact hb'
     ·exact HF.out j z (by omega) hz)
    clear hy ha hb' HF
    go_wp2_with (first|((with_reducible refine iat 14 ?_);(refine ixa rfl rfl rfl hlt ?_))|((with_reducible refine iat 15 ?_);(refine ldx0 HE.out rfl rfl ?_)))
    go_round
    case rel=>exact ⟨k + 1,by go_num,hlt3.out,HF2⟩
    case measure=>have:=hlt3.out;simp [intOf];omega
  ·obtain rfl:k=n:=by omega
   have d1:decide ((k:Int) < k)=false:=by simp
   have HY:=Lib.hid (show hasS l x=false by
    unfold hasS
    rw [List.any_eq_false]
    intro y hy
    obtain ⟨j,hj⟩:=List.mem_iff_getElem?.1 hy
    rw [HF.out j y (by have:=(List.getElem?_eq_some_iff.1 hj).1;have:=HN.out;omega) hj]
    decide)
   go_wp2_with fail
   first|go_ret|go_ret2
   exact ⟨⟨_,rfl,(fun h=>by rw [HY.out] at h;cases h),fun _=>rfl⟩,rfl⟩
set_option maxHeartbeats 4000000 in
theorem sContains (p:Option Addr) (c:Nat) (l:List ByteArray) (x:ByteArray) (W:World) (h:Sl W p (l.flatMap strC)) (hl:l.length≤2000) :
  Calls Tryz.prog 200 #[.slice p l.length c,.string x] W fun e w'=>e = .returned (.bool (hasS l x))∧W=w':=by
 have HI:=Lib.hid (sIndex p c l x W h hl)
 cases hb:hasS l x with
 | true=>
  rw [hb] at HI
  clear hb
  go_enter Tryz.func200,Tryz.ntmps200
  go_wp2_with (go_at_call 86;(with_reducible refine HI.out.mono ?_);rintro e W2 ⟨⟨k,rfl,hk,-⟩,rfl⟩;have hk0:=hk rfl;have d0:decide (0≤k)=true:=decide_eq_true hk0;clear hk hk0)
  go_ret
  exact ⟨rfl,rfl⟩
 | false=>
  rw [hb] at HI
  clear hb
  go_enter Tryz.func200,Tryz.ntmps200
  go_wp2_with (go_at_call 86;(with_reducible refine HI.out.mono ?_);rintro e W2 ⟨⟨k,rfl,-,hk⟩,rfl⟩;obtain rfl:=hk rfl)
  go_ret
  exact ⟨rfl,rfl⟩
def entF (T:List TokD) (g:Nat) (ns:List ByteArray) (i:Nat):PR:=match T[i]? with
 | none=>.no
 | some t=>if t.kind=4 then if hasS ns t.text then .no else if isT T (i + 1) [58] then (G T g .expr (i + 2)).bind fun b _ j=>.ok (b++[nTx 28 1 t.text]) 0 j else .no else .no
def EPost (T:List TokD) (r:PR) (w0:World) (R g2 g4 i:Nat) (tp:Option Addr) (n tc:Nat) (acc:List NodeD) (ns:List ByteArray) (rest:List Res) (e:Ending) (w' : World):Prop:=match r with
 | .out=>False
 | .no=>e=faultE∧Below w0.heap.size w0 w'
 | .ok l k j=>∃ op oc np nc tx,(∃ t,T[i]? = some t∧t.text=tx)∧(i + 3≤j∧j≤T.length∧l.length≤j - i)∧e = .returned (.tuple #[])∧Mem w0 w' (.box R 231 [.slice tp n tc,.int .i64 j,.slice op (acc++l).length oc] :: .row op oc 46 8 (acc++l).length ((acc++l).flatMap NodeD.cs) :: .box g2 229 [.pointer (some ⟨R,0,none⟩)] :: .box g4 28 [.slice np (ns++[tx]).length nc] :: .row np nc 9 1 (ns++[tx]).length ((ns++[tx]).flatMap strC) :: rest)
theorem EPost.no_ {T:List TokD} {r:PR} {w0:World} {R g2 g4 i:Nat} {tp:Option Addr} {n tc:Nat} {acc:List NodeD} {ns:List ByteArray} {rest:List Res} {w' : World} (h:r = .no) (hb:Below w0.heap.size w0 w'):EPost T r w0 R g2 g4 i tp n tc acc ns rest faultE w':=by
 subst h
 exact ⟨rfl,hb⟩
set_option maxHeartbeats 8000000 in
theorem xEntry {T:List TokD} (hT:TksOk T) (g:Nat) (ihE:XC T 186 .expr g) (w0 W:World) (R g2 g4:Nat) (tp np:Option Addr) (tc nc i:Nat) (op:Option Addr) (oc:Nat) (acc:List NodeD) (ns:List ByteArray) (rest:List Res) (HTk:Sl w0 tp (T.flatMap TokD.cs)) (HM0:Mem w0 W (.box R 231 [.slice tp T.length tc,.int .i64 i,.slice op acc.length oc] :: .row op oc 46 8 acc.length (acc.flatMap NodeD.cs) :: .box g2 229 [.pointer (some ⟨R,0,none⟩)] :: .box g4 28 [.slice np ns.length nc] :: .row np nc 9 1 ns.length (ns.flatMap strC) :: rest))
  (hi:i≤T.length) (ha:acc.length≤i + 2) (hns:ns.length≤i) (hne:entF T g ns i≠.out) :
  Calls Tryz.prog 314 #[.pointer (some ⟨g2,0,none⟩),.pointer (some ⟨g4,0,none⟩)] W (EPost T (entF T g ns i) w0 R g2 g4 i tp T.length tc acc ns rest):=by
 obtain ⟨r,hr⟩:∃ r,entF T g ns i=r:=⟨_,rfl⟩
 rw [hr] at hne ⊢
 have hR2:=hr
 unfold entF at hR2
 clear hr
 have hr:r≠.out:=hne
 have HM:=Lib.hid HM0
 have HTk:=Lib.hid HTk
 have hT1:=hT.len
 clear HM0 hne
 cases ht:T[i]? with
 | none=>
  rw [ht] at hR2
  have hno:r = .no:=hR2.symm
  have HN:=Lib.hid (show ∀ t,T[i]? = some t→t.kind≠4 from fun t h=>by rw [ht] at h;cases h)
  clear hR2 ht
  go_enter Tryz.func314,Tryz.ntmps314
  go_wp2_with (first|(go_at_call 311;(with_reducible refine (xNameN T w0 _ R tp tc _ _ _ HTk.out HM.out hT1 HN.out).mono ?_);rintro e W2 ⟨rfl,hb⟩;unfold faultE)|refine mP ?_|(refine mS ?_;clear HM;intro W1 HM)|((with_reducible refine ibuildSlice ?_);refine bs1c (v:=.string _) rfl HM.out rfl rfl ?_;intro g1 W1 HM1;replace HM:=Lib.hid HM1;clear HM1))
  exact ⟨rfl,EPost.no_ (by first|exact hno|rfl) hb⟩
 | some t=>
  rw [ht] at hR2
  simp only at hR2
  by_cases h4:t.kind=4
  ·rw [if_pos h4] at hR2
   have HT4:=Lib.hid ht
   have HK4:=Lib.hid h4
   have hi1:=some_lt ht
   have HC:=Lib.hid (fun (W:World) (h:Sl W np (ns.flatMap strC))=>sContains np nc ns t.text W h (by omega))
   cases hc:hasS ns t.text with
   | true=>
    rw [hc,if_pos rfl] at hR2
    rw [hc] at HC
    have hno:r = .no:=hR2.symm
    clear hR2 ht h4 hc
    go_enter Tryz.func314,Tryz.ntmps314
    go_wp2_with (first|(go_at_call 311;(with_reducible refine (xNameY T w0 _ R tp tc _ _ _ HTk.out HM.out hT1 HT4.out HK4.out).mono ?_);refine cM1 ?_;clear HM;intro W1 HM)|(go_at_call 200;(with_reducible refine (HC.out _ (row_sl (HM.out.get (k:=4) rfl))).mono ?_);rintro e W2 ⟨rfl,rfl⟩)|(go_at_call 187;(with_reducible refine (xFail _).mono ?_);rintro e W2 ⟨rfl,rfl⟩;unfold faultE)|refine mP ?_|(refine mS ?_;clear HM;intro W1 HM)|((with_reducible refine ibuildSlice ?_);refine bs1c (v:=.string _) rfl HM.out rfl rfl ?_;intro g1 W1 HM1;replace HM:=Lib.hid HM1;clear HM1))
    exact ⟨rfl,EPost.no_ (by first|exact hno|rfl) HM.out.below⟩
   | false=>
    rw [hc,if_neg (by simp)] at hR2
    rw [hc] at HC
    have HR:=Lib.hid hR2
    obtain ⟨nv,hnv⟩:∃ x,ns.flatMap strC=x:=⟨_,rfl⟩
    obtain ⟨m0,hm0⟩:∃ m,ns.length=m:=⟨_,rfl⟩
    have HNv:=Lib.hid (show nv.take (m0 * 1)++[.string t.text]=(ns++[t.text]).flatMap strC by
     rw [← hnv,← hm0,List.take_of_length_le (by rw [flat_len strC 1 strC_len];exact Nat.le_refl _),List.flatMap_append]
     rfl)
    have HNl:=Lib.hid (show (ns++[t.text]).length=m0 + 1 by rw [List.length_append,hm0];rfl)
    rw [hnv,hm0] at HM
    rw [hnv,hm0] at HC
    rw [hm0] at hns
    clear hR2 ht h4 hc hnv hm0
    go_enter Tryz.func314,Tryz.ntmps314
    go_wp2_with (first|(go_at_call 311;(with_reducible refine (xNameY T w0 _ R tp tc _ _ _ HTk.out HM.out hT1 HT4.out HK4.out).mono ?_);refine cM1 ?_;clear HM;intro W1 HM)|(go_at_call 200;(with_reducible refine (HC.out _ (row_sl (HM.out.get (k:=4) rfl))).mono ?_);rintro e W2 ⟨rfl,rfl⟩)|(go_at_call 228;refine must_use HR.out HTk.out (HM.out.sub (.cons _ (.refl _))) (by omega) hT1 (by omega) rfl (fun hno W2 hb=>(show _∧_ from ⟨rfl,EPost.no_ hno hb⟩)) ?_;intro hb hR2 W2 hM2;have hlt:=isT_lt hb;clear hb;have HR1:=Lib.hid hR2;clear HR hR2;have HR:=HR1;clear HR1;replace HM:=Lib.hid hM2;clear hM2)|(refine apb rfl HM.out 5 0 rfl rfl rfl rfl rfl rfl (by omega) (by omega) (by omega) ?_;intro p1 cap1 W1 HM1;replace HM:=Lib.hid HM1;clear HM1;simp only [List.set] at HM)|(go_at_call 186;refine XC.use (ihE) HR.out hr HTk.out HM.out (by omega) (by omega) om (fun hno W2 hb=>(show _∧_ from ⟨rfl,EPost.no_ hno hb⟩)) ?_;intro l m j hR2 hG op1 oc1 W2 hM2;have hg:=(hG (by simp)).lenc 0 rfl rfl rfl;clear hG;obtain ⟨hL,hF,hJ⟩:=hg;have HR1:=Lib.hid hR2;clear HR hR2;have HR:=HR1;clear HR1;replace HM:=Lib.hid hM2;clear hM2)|(go_at_call 282;refine named_use _ _ _ HM.out om ?_;intro op1 oc1 W2 hM2;replace HM:=Lib.hid hM2;clear hM2)|refine mP ?_|(refine mS ?_;clear HM;intro W1 HM)|((with_reducible refine ibuildSlice ?_);refine bs1c (v:=.string _) rfl HM.out rfl rfl ?_;intro g1 W1 HM1;replace HM:=Lib.hid HM1;clear HM1))
    first|go_end0|go_ret|go_ret2
    have HM2:=HM.out
    rw [HNv.out,← HNl.out] at HM2
    rw [← HR.out]
    exact ⟨op1,oc1,p1,cap1,t.text,⟨t,HT4.out,rfl⟩,⟨by omega,by omega,by simp only [List.length_append,List.length_singleton];omega⟩,rfl,by simpa only [List.append_assoc] using HM2⟩
  ·rw [if_neg h4] at hR2
   have hno:r = .no:=hR2.symm
   have HN:=Lib.hid (show ∀ t,T[i]? = some t→t.kind≠4 from fun t' h=>by rw [ht] at h;cases h;exact h4)
   clear hR2 ht h4
   go_enter Tryz.func314,Tryz.ntmps314
   go_wp2_with (first|(go_at_call 311;(with_reducible refine (xNameN T w0 _ R tp tc _ _ _ HTk.out HM.out hT1 HN.out).mono ?_);rintro e W2 ⟨rfl,hb⟩;unfold faultE)|refine mP ?_|(refine mS ?_;clear HM;intro W1 HM)|((with_reducible refine ibuildSlice ?_);refine bs1c (v:=.string _) rfl HM.out rfl rfl ?_;intro g1 W1 HM1;replace HM:=Lib.hid HM1;clear HM1))
   exact ⟨rfl,EPost.no_ (by first|exact hno|rfl) hb⟩
theorem G_ctxL (T:List TokD) (g:Nat) (a:List NodeD) (ns:List ByteArray) (i:Nat):G T (g + 1) (.ctxL a ns) i=(entF T g ns i).bind fun l _ j=>if isT T j [125] then .ok (a++l) (ns.length + 1) (j + 1) else if isT T j [44] then (match T[i]? with|some t=>G T g (.ctxL (a++l) (ns++[t.text])) (j + 1)|none=>.no) else .no:=by
 simp only [G]
 unfold entF hasS
 cases T[i]? with
 | none=>rfl
 | some t=>
  simp only
  split
  ·split
   ·rfl
   ·split
    ·cases G T g .expr (i + 2) with
     | out=>rfl
     | no=>rfl
     | ok l n j=>simp only [PR.bind,List.append_assoc]
    ·rfl
  ·rfl
theorem ctx_use {T:List TokD} (hT:TksOk T) {g:Nat} (ihE:XC T 186 .expr g) {w0 W:World} {R g2 g4:Nat} {tp np:Option Addr} {tc nc i:Nat} {op:Option Addr} {oc:Nat} {acc a:List NodeD} {ns:List ByteArray} {rest:List Res} {r:PR} {K:Ending→World→Prop} (HR:G T (g + 1) (.ctxL a ns) i=r) (hr:r≠.out) (HTk:Sl w0 tp (T.flatMap TokD.cs)) (HM0:Mem w0 W (.box R 231 [.slice tp T.length tc,.int .i64 i,.slice op (acc++a).length oc] :: .row op oc 46 8 (acc++a).length ((acc++a).flatMap NodeD.cs) :: .box g2 229 [.pointer (some ⟨R,0,none⟩)] :: .box g4 28 [.slice np ns.length nc] :: .row np nc 9 1 ns.length (ns.flatMap strC) :: rest))
  (hi:i≤T.length) (ha:(acc++a).length≤i + 2) (hns:ns.length≤i) (hno:r = .no→∀ W',Below w0.heap.size w0 W'→K faultE W')
  (hok:∀ (l:List NodeD) (j:Nat) (tx:ByteArray),(if isT T j [125]=true then PR.ok (a++l) (ns.length + 1) (j + 1) else if isT T j [44]=true then G T g (.ctxL (a++l) (ns++[tx])) (j + 1) else .no)=r→(i + 3≤j∧j≤T.length∧l.length≤j - i)→∀ (op np:Option Addr) (oc nc:Nat) (W' : World),Mem w0 W' (.box R 231 [.slice tp T.length tc,.int .i64 j,.slice op (acc++a++l).length oc] :: .row op oc 46 8 (acc++a++l).length ((acc++a++l).flatMap NodeD.cs) :: .box g2 229 [.pointer (some ⟨R,0,none⟩)] :: .box g4 28 [.slice np (ns++[tx]).length nc] :: .row np nc 9 1 (ns++[tx]).length ((ns++[tx]).flatMap strC) :: rest)→K (.returned (.tuple #[])) W') :
  Calls Tryz.prog 314 #[.pointer (some ⟨g2,0,none⟩),.pointer (some ⟨g4,0,none⟩)] W K:=by
 rw [G_ctxL] at HR
 have hne:entF T g ns i≠.out:=fun e=>by rw [e] at HR;exact hr HR.symm
 refine (xEntry hT g ihE w0 W R g2 g4 tp np tc nc i op oc (acc++a) ns rest HTk HM0 hi ha hns hne).mono fun e W' hp=>?_
 cases hg:entF T g ns i with
 | out=>exact absurd hg hne
 | no=>
  rw [hg] at hp HR
  obtain ⟨rfl,hb⟩:=hp
  exact hno HR.symm W' hb
 | ok l m j=>
  rw [hg] at hp HR
  obtain ⟨op',oc',np',nc',tx,⟨t,ht,htx⟩,hf,rfl,hM⟩:=hp
  refine hok l j tx ?_ hf op' np' oc' nc' W' hM
  rw [← htx,← HR]
  simp only [PR.bind,ht]
set_option maxHeartbeats 8000000 in
theorem xListC {T:List TokD} (hT:TksOk T) (fuel:Nat) (ihE:∀ g,g≤fuel→XC T 186 .expr g) (w0 W:World) (R g2 g4:Nat) (tp np:Option Addr) (tc nc i:Nat) (op:Option Addr) (oc:Nat) (acc:List NodeD) (rest:List Res) (HTk:Sl w0 tp (T.flatMap TokD.cs)) (HM0:Mem w0 W (.box R 231 [.slice tp T.length tc,.int .i64 i,.slice op acc.length oc] :: .row op oc 46 8 acc.length (acc.flatMap NodeD.cs) :: .box g2 229 [.pointer (some ⟨R,0,none⟩)] :: .box g4 28 [.slice np 0 nc] :: .row np nc 9 1 0 [] :: rest))
  (hi:i≤T.length) (ha:acc.length≤i + 2) (hne:G T (fuel + 1) .ctx i≠.out) :
  Calls Tryz.prog 312 #[.pointer (some ⟨R,0,none⟩),.string ⟨#[125]⟩,.func (.func 314) #[] #[.pointer (some ⟨g2,0,none⟩),.pointer (some ⟨g4,0,none⟩)]] W fun e w'=>∃ np nc m,XPost (G T (fuel + 1) .ctx i) cntV w0 R tp T.length tc acc (.box g2 229 [.pointer (some ⟨R,0,none⟩)] :: .box g4 28 [.slice np m nc] :: rest) e w':=by
 obtain ⟨r,hr⟩:∃ r,G T (fuel + 1) .ctx i=r:=⟨_,rfl⟩
 rw [hr] at hne ⊢
 have HR:=Lib.hid hr
 clear hr
 have hr:r≠.out:=hne
 have HM:=Lib.hid HM0
 have HTk:=Lib.hid HTk
 have hT1:=hT.len
 clear HM0 hne
 simp only [G] at HR
 cases hb:isT T i [125] with
 | true=>
  rw [hb,if_pos rfl] at HR
  have HB:=Lib.hid hb
  clear hb
  go_enter Tryz.func312,Tryz.ntmps312
  go_wp2_with (first|(go_at_call 224;(with_reducible refine (take_yes HB.out HTk.out HM.out (by omega) hT1 (by omega) rfl).mono ?_);refine cM1 ?_;clear HM;intro W1 HM))
  all_goals (first|go_ret|go_ret2)
  exact ⟨_,_,_,XPost.ok_ (v:=cntV) HR.out (by simp only [List.append_nil]) (HM.out.sub (.cons_cons _ (.cons_cons _ (.cons_cons _ (.cons_cons _ (.cons _ (.refl _)))))))⟩
 | false=>
  rw [hb,if_neg (by simp)] at HR
  have HB:=Lib.hid hb
  clear hb
  go_enter Tryz.func312,Tryz.ntmps312
  go_wp2_with (first|(go_at_call 224;(with_reducible refine (take_no HB.out HTk.out HM.out (by omega) hT1 (by omega) rfl).mono ?_);refine cM1 ?_;clear HM;intro W1 HM))
  go_loopw [7] (fun nv wr=>∃ (g j oc nc:Nat) (op np:Option Addr) (a:List NodeD) (ns:List ByteArray),nv = .int .i64 ns.length∧g≤fuel∧j≤T.length∧i + a.length≤j∧ns.length≤j∧Hid (G T g (.ctxL a ns) j=r)∧Hid (Mem w0 wr (.box R 231 [.slice tp T.length tc,.int .i64 j,.slice op (acc++a).length oc] :: .row op oc 46 8 (acc++a).length ((acc++a).flatMap NodeD.cs) :: .box g2 229 [.pointer (some ⟨R,0,none⟩)] :: .box g4 28 [.slice np ns.length nc] :: .row np nc 9 1 ns.length (ns.flatMap strC) :: rest))) (fun _ wr=>T.length - (intOf ((wr.cell? ⟨R,1,none⟩).getD undef)).toNat)
  case atStart=>exact ⟨fuel,_,_,_,_,_,[],[],rfl,Nat.le_refl _,hi,Nat.le_refl _,Nat.zero_le _,HR,Lib.hid (by rw [List.append_nil];exact HM.out)⟩
  case round=>
   clear HM HR HB
   obtain ⟨g,j0,oc2,nc2,op2,np2,a,ns,rfl,hg,hj0,hla,hm,HR,HM⟩:=hrel
   have HK:=Lib.hid (xrd_at HM.out)
   cases g with
   | zero=>exact absurd HR.out.symm hr
   | succ g=>
    go_wp2_with (first|(go_at_call 224;refine take_use HR.out HTk.out HM.out (by omega) hT1 (by omega) rfl ?_ ?_;all_goals (intro hb hR2 W2 hM2;(try have hlt:=isT_lt hb);clear hb;have HR1:=Lib.hid hR2;clear HR hR2;have HR:=HR1;clear HR1;replace HM:=Lib.hid hM2;clear hM2))|(go_at_call 314;refine ctx_use hT (ihE g (by omega)) HR.out hr HTk.out HM.out (by omega) om (by omega) (fun hno W2 hb=>(show _∧_ from ⟨rfl,none,0,0,XPost.no_ hno hb⟩)) ?_;intro l j tx hR2 hf op1 np1 oc1 nc1 W2 hM2;obtain ⟨hF,hJ,hL⟩:=hf;have HR1:=Lib.hid hR2;clear HR hR2;have HR:=HR1;clear HR1;replace HM:=Lib.hid hM2;clear hM2)|(go_at_call 228;refine must_use HR.out HTk.out HM.out (by omega) hT1 (by omega) rfl (fun hno W2 hb=>(show _∧_ from ⟨rfl,none,0,0,XPost.no_ hno hb⟩)) ?_;intro hb hR2 W2 hM2;have hlt:=isT_lt hb;clear hb;have HR1:=Lib.hid hR2;clear HR hR2;have HR:=HR1;clear HR1;replace HM:=Lib.hid hM2;clear hM2))
    all_goals first
     |(go_roundw
       case rel=>exact ⟨g,_,_,_,_,_,_,_,by (simp only [List.length_append,List.length_cons,List.length_nil];go_num),by omega,by omega,by (simp only [List.length_append];omega),by (simp only [List.length_append,List.length_cons,List.length_nil];omega),HR,Lib.hid (by simpa only [List.append_assoc] using HM.out)⟩
       case measure=>rw [xrd_at HM.out,HK.out];omega)
     |(go_ret;exact ⟨_,_,_,XPost.ok_ (v:=cntV) HR.out (by simp only [List.append_assoc]) (HM.out.sub (.cons_cons _ (.cons_cons _ (.cons_cons _ (.cons_cons _ (.cons _ (.refl _)))))))⟩)
     |(go_ret2;exact ⟨_,_,_,XPost.ok_ (v:=cntV) HR.out (by simp only [List.append_assoc]) (HM.out.sub (.cons_cons _ (.cons_cons _ (.cons_cons _ (.cons_cons _ (.cons _ (.refl _)))))))⟩)
def XL (T:List TokD) (ch:UInt8) (fuel:Nat):Prop:=
 ∀ (x:ByteArray),x.data.toList=[ch]→∀ (w0 W:World) (R:Nat) (tp:Option Addr) (tc i:Nat) (op:Option Addr) (oc:Nat) (acc:List NodeD) (rest:List Res),Sl w0 tp (T.flatMap TokD.cs)→Mem w0 W (.box R 231 [.slice tp T.length tc,.int .i64 i,.slice op acc.length oc] :: .row op oc 46 8 acc.length (acc.flatMap NodeD.cs) :: rest)→
  i≤T.length→acc.length≤i + 2→G T fuel (.list ch) i≠.out→Calls Tryz.prog 312 #[.pointer (some ⟨R,0,none⟩),.string x,.func (.func 186) #[.pointer (some ⟨R,0,none⟩)] #[]] W (XPost (G T fuel (.list ch) i) cntV w0 R tp T.length tc acc rest)
theorem xList_at {T:List TokD} (hT:TksOk T) (fuel:Nat) (ihE:∀ g,g≤fuel→XC T 186 .expr g) (ch:UInt8):XL T ch fuel:=by
 intro x hx w0 W R tp tc i op oc acc rest HTk HM hi ha hne
 cases fuel with
 | zero=>exact absurd rfl hne
 | succ f=>exact xListE hT f (fun g hg=>ihE g (by omega)) ch x hx w0 W R tp tc i op oc acc rest HTk HM hi ha hne
theorem xCtx_at {T:List TokD} (hT:TksOk T) (fuel:Nat) (ihE:∀ g,g≤fuel→XC T 186 .expr g) (w0 W:World) (R g2 g4:Nat) (tp np:Option Addr) (tc nc i:Nat) (op:Option Addr) (oc:Nat) (acc:List NodeD) (rest:List Res) (HTk:Sl w0 tp (T.flatMap TokD.cs)) (HM0:Mem w0 W (.box R 231 [.slice tp T.length tc,.int .i64 i,.slice op acc.length oc] :: .row op oc 46 8 acc.length (acc.flatMap NodeD.cs) :: .box g2 229 [.pointer (some ⟨R,0,none⟩)] :: .box g4 28 [.slice np 0 nc] :: .row np nc 9 1 0 [] :: rest))
  (hi:i≤T.length) (ha:acc.length≤i + 2) (hne:G T fuel .ctx i≠.out) :
  Calls Tryz.prog 312 #[.pointer (some ⟨R,0,none⟩),.string ⟨#[125]⟩,.func (.func 314) #[] #[.pointer (some ⟨g2,0,none⟩),.pointer (some ⟨g4,0,none⟩)]] W fun e w'=>∃ np nc m,XPost (G T fuel .ctx i) cntV w0 R tp T.length tc acc (.box g2 229 [.pointer (some ⟨R,0,none⟩)] :: .box g4 28 [.slice np m nc] :: rest) e w':=by
 cases fuel with
 | zero=>exact absurd rfl hne
 | succ f=>exact xListC hT f (fun g hg=>ihE g (by omega)) w0 W R g2 g4 tp np tc nc i op oc acc rest HTk HM0 hi ha hne
section
variable {T:List TokD} {w0 W:World} {R:Nat} {tp:Option Addr} {tc i oc:Nat} {op:Option Addr} {acc:List NodeD} {rest:List Res} {fuel:Nat} {r:PR} {K:Ending→World→Prop}
theorem XL.use {ch:UInt8} {d:Int} {x:ByteArray} (h:XL T ch fuel) {k:List NodeD→Nat→Nat→PR} (HR:(G T fuel (.list ch) i).bind k=r) (hr:r≠.out) (HT:Sl w0 tp (T.flatMap TokD.cs)) (HM:Mem w0 W (.box R 231 [.slice tp T.length tc,.int .i64 d,.slice op acc.length oc] :: .row op oc 46 8 acc.length (acc.flatMap NodeD.cs) :: rest)) (hd:d=(i:Int))
  (hi:i≤T.length) (ha:acc.length≤i + 2) (hx:x.data.toList=[ch]) (hno:r = .no→∀ W',Below w0.heap.size w0 W'→K faultE W')
  (hok:∀ (l:List NodeD) (m j:Nat),k l m j=r→(l.length≤j - i∧i + 1≤j∧j≤T.length∧m≤j - i)→∀ (op:Option Addr) (oc:Nat) (W' : World),Mem w0 W' (.box R 231 [.slice tp T.length tc,.int .i64 j,.slice op (acc++l).length oc] :: .row op oc 46 8 (acc++l).length ((acc++l).flatMap NodeD.cs) :: rest)→K (.returned (.int .i64 m)) W') :
  Calls Tryz.prog 312 #[.pointer (some ⟨R,0,none⟩),.string x,.func (.func 186) #[.pointer (some ⟨R,0,none⟩)] #[]] W K:=by
 subst hd
 have hne:G T fuel (.list ch) i≠.out:=fun e=>by rw [e] at HR;exact hr HR.symm
 refine (h x hx w0 W R tp tc i op oc acc rest HT HM hi ha hne).mono fun e W' hp=>?_
 cases hg:G T fuel (.list ch) i with
 | out=>exact absurd hg hne
 | no=>
  rw [hg] at hp HR
  obtain ⟨rfl,hb⟩:=hp
  exact hno HR.symm W' hb
 | ok l m j=>
  have hG:=G_ok hg hi (fun e=>by cases e)
  obtain ⟨h1,h2,h3⟩:=hG.lenc 0 rfl rfl rfl
  have h4:=hG.cnt
  simp only [NT.cnt] at h4
  rw [hg] at hp HR
  obtain ⟨op',oc',rfl,hM⟩:=hp
  exact hok l m j HR ⟨h1,h2,h3,by omega⟩ op' oc' W' hM
theorem ctxl_use {g2 g4:Nat} {np:Option Addr} {nc:Nat} {d:Int} (hT:TksOk T) (ihE:∀ g,g≤fuel→XC T 186 .expr g) {k:List NodeD→Nat→Nat→PR} (HR:(G T fuel .ctx i).bind k=r) (hr:r≠.out) (HT:Sl w0 tp (T.flatMap TokD.cs)) (HM:Mem w0 W (.box R 231 [.slice tp T.length tc,.int .i64 d,.slice op acc.length oc] :: .row op oc 46 8 acc.length (acc.flatMap NodeD.cs) :: .box g2 229 [.pointer (some ⟨R,0,none⟩)] :: .box g4 28 [.slice np 0 nc] :: .row np nc 9 1 0 [] :: rest)) (hd:d=(i:Int))
  (hi:i≤T.length) (ha:acc.length≤i + 2) (hno:r = .no→∀ W',Below w0.heap.size w0 W'→K faultE W')
  (hok:∀ (l:List NodeD) (m j:Nat),k l m j=r→(l.length≤j - i∧i + 1≤j∧j≤T.length∧m≤j - i)→∀ (op np:Option Addr) (oc nc n:Nat) (W' : World),Mem w0 W' (.box R 231 [.slice tp T.length tc,.int .i64 j,.slice op (acc++l).length oc] :: .row op oc 46 8 (acc++l).length ((acc++l).flatMap NodeD.cs) :: .box g2 229 [.pointer (some ⟨R,0,none⟩)] :: .box g4 28 [.slice np n nc] :: rest)→K (.returned (.int .i64 m)) W') :
  Calls Tryz.prog 312 #[.pointer (some ⟨R,0,none⟩),.string ⟨#[125]⟩,.func (.func 314) #[] #[.pointer (some ⟨g2,0,none⟩),.pointer (some ⟨g4,0,none⟩)]] W K:=by
 subst hd
 have hne:G T fuel .ctx i≠.out:=fun e=>by rw [e] at HR;exact hr HR.symm
 refine (xCtx_at hT fuel ihE w0 W R g2 g4 tp np tc nc i op oc acc rest HT HM hi ha hne).mono fun e W' hp=>?_
 obtain ⟨np',nc',n',hp⟩:=hp
 cases hg:G T fuel .ctx i with
 | out=>exact absurd hg hne
 | no=>
  rw [hg] at hp HR
  obtain ⟨rfl,hb⟩:=hp
  exact hno HR.symm W' hb
 | ok l m j=>
  have hG:=G_ok hg hi (fun e=>by cases e)
  obtain ⟨h1,h2,h3⟩:=hG.lenc 0 rfl rfl rfl
  have h4:=hG.cnt
  simp only [NT.cnt] at h4
  rw [hg] at hp HR
  obtain ⟨op',oc',rfl,hM⟩:=hp
  exact hok l m j HR ⟨h1,h2,h3,by omega⟩ op' np' oc' nc' n' W' hM
theorem Mem.five {w0 W:World} {a b c d e:Res} {L:List Res} (h:Mem w0 W (e :: d :: a :: b :: c :: L)):Mem w0 W (a :: b :: c :: d :: e :: L):=
 h.perm ((((List.perm_append_comm:([e,d]++[a,b,c]).Perm ([a,b,c]++[e,d])).trans (List.Perm.append_left [a,b,c] (List.Perm.swap _ _ _)))).append_right L)
end
set_option maxHeartbeats 16000000 in
theorem xMarked {T:List TokD} (hT:TksOk T) (fuel:Nat) (ihE:∀ g,g≤fuel→XC T 186 .expr g) (w0 W:World) (R:Nat) (tp:Option Addr) (tc i:Nat) (op:Option Addr) (oc:Nat) (acc:List NodeD) (rest:List Res) {t:TokD} (ht:T[i]? = some t) (h5:5≤t.kind) (HTk:Sl w0 tp (T.flatMap TokD.cs)) (HM0:Mem w0 W (.box R 231 [.slice tp T.length tc,.int .i64 (i + 1:Nat),.slice op acc.length oc] :: .row op oc 46 8 acc.length (acc.flatMap NodeD.cs) :: rest))
  (ha:acc.length≤i + 2) (hne:G T (fuel + 1) .sing i≠.out) :
  Calls Tryz.prog 313 #[.pointer (some ⟨R,0,none⟩),.string t.text] W (XPost (G T (fuel + 1) .sing i) unitV w0 R tp T.length tc acc rest):=by
 obtain ⟨r,hr⟩:∃ r,G T (fuel + 1) .sing i=r:=⟨_,rfl⟩
 rw [hr] at hne ⊢
 have hR2:=hr
 clear hr
 have hr:r≠.out:=hne
 have HM:=Lib.hid HM0
 have HTk:=Lib.hid HTk
 have hT1:=hT.len
 have hi1:=some_lt ht
 clear HM0 hne
 have hs:∀ s,isT T i s=(t.text.toList == s):=fun s=>by unfold isT sgT;rw [ht];simp only;rw [if_pos h5]
 simp only [G,ht,hs] at hR2
 rw [if_neg (by omega),if_neg (by omega),if_neg (by omega),if_neg (by omega)] at hR2
 have hmf:∀ (fn:Fn) (first cap:Array Value) (w:World),(Instr.makeFunc fn first cap).run Tryz.prog w = .ok (.func fn first cap) w:=fun _ _ _ _=>rfl
 obtain ⟨tx,htx⟩:∃ x,t.text=x:=⟨_,rfl⟩
 rw [htx] at hR2 ⊢
 clear hs htx ht h5
 by_cases g0:(tx.toList == [110,117,108,108])=true
 ·rw [if_pos g0] at hR2
  have HR:=Lib.hid hR2
  clear hR2
  go_enter Tryz.func313,Tryz.ntmps313
  go_wp2_with (first|((with_reducible refine iat 2 ?_);(refine bx1 (v:=.pointer _) rfl HM.out rfl rfl ?_;intro g2 W2 HM1;clear HM;(try clear W1);rename World=>W1;have HM:=Lib.hid (HM1.perm ((List.Perm.swap _ _ _).trans (List.Perm.cons _ (List.Perm.swap _ _ _))));clear HM1))|(go_at_call 225;refine put_use _ _ HM.out om ?_;intro op1 oc1 W2 hM2;replace HM:=Lib.hid hM2;clear hM2)|refine mP ?_|(refine hal HM rfl ?_;clear HM;intro g1 W1 HM)|((with_reducible refine ibox ?_);refine bx1 (v:=.pointer _) rfl HM.out rfl rfl ?_;intro g1 W1 HM1;replace HM:=Lib.hid HM1;clear HM1))
  first|go_end0|go_ret|go_ret2
  exact XPost.ok_ HR.out (by simp only [List.append_assoc]) (HM.out.sub (.cons_cons _ (.cons_cons _ (.cons _ (.refl _)))))
 rw [if_neg g0] at hR2
 rw [Bool.not_eq_true] at g0
 by_cases g1:(tx.toList == [116,114,117,101])=true
 ·rw [if_pos g1] at hR2
  have HR:=Lib.hid hR2
  clear hR2
  go_enter Tryz.func313,Tryz.ntmps313
  go_wp2_with (first|((with_reducible refine iat 2 ?_);(refine bx1 (v:=.pointer _) rfl HM.out rfl rfl ?_;intro g2 W2 HM1;clear HM;(try clear W1);rename World=>W1;have HM:=Lib.hid (HM1.perm ((List.Perm.swap _ _ _).trans (List.Perm.cons _ (List.Perm.swap _ _ _))));clear HM1))|(go_at_call 225;refine put_use _ _ HM.out om ?_;intro op1 oc1 W2 hM2;replace HM:=Lib.hid hM2;clear hM2)|refine mP ?_|(refine hal HM rfl ?_;clear HM;intro g1 W1 HM)|((with_reducible refine ibox ?_);refine bx1 (v:=.pointer _) rfl HM.out rfl rfl ?_;intro g1 W1 HM1;replace HM:=Lib.hid HM1;clear HM1))
  first|go_end0|go_ret|go_ret2
  exact XPost.ok_ HR.out (by simp only [List.append_assoc]) (HM.out.sub (.cons_cons _ (.cons_cons _ (.cons _ (.refl _)))))
 rw [if_neg g1] at hR2
 rw [Bool.not_eq_true] at g1
 by_cases g2:(tx.toList == [102,97,108,115,101])=true
 ·rw [if_pos g2] at hR2
  have HR:=Lib.hid hR2
  clear hR2
  go_enter Tryz.func313,Tryz.ntmps313
  go_wp2_with (first|((with_reducible refine iat 2 ?_);(refine bx1 (v:=.pointer _) rfl HM.out rfl rfl ?_;intro g2 W2 HM1;clear HM;(try clear W1);rename World=>W1;have HM:=Lib.hid (HM1.perm ((List.Perm.swap _ _ _).trans (List.Perm.cons _ (List.Perm.swap _ _ _))));clear HM1))|(go_at_call 225;refine put_use _ _ HM.out om ?_;intro op1 oc1 W2 hM2;replace HM:=Lib.hid hM2;clear hM2)|refine mP ?_|(refine hal HM rfl ?_;clear HM;intro g1 W1 HM)|((with_reducible refine ibox ?_);refine bx1 (v:=.pointer _) rfl HM.out rfl rfl ?_;intro g1 W1 HM1;replace HM:=Lib.hid HM1;clear HM1))
  first|go_end0|go_ret|go_ret2
  exact XPost.ok_ HR.out (by simp only [List.append_assoc]) (HM.out.sub (.cons_cons _ (.cons_cons _ (.cons _ (.refl _)))))
 rw [if_neg g2] at hR2
 rw [Bool.not_eq_true] at g2
 by_cases g3:(tx.toList == [40])=true
 ·rw [if_pos g3] at hR2
  have HR:=Lib.hid hR2
  clear hR2
  go_enter Tryz.func313,Tryz.ntmps313
  go_wp2_with (first|((with_reducible refine iat 2 ?_);(refine bx1 (v:=.pointer _) rfl HM.out rfl rfl ?_;intro g2 W2 HM1;clear HM;(try clear W1);rename World=>W1;have HM:=Lib.hid (HM1.perm ((List.Perm.swap _ _ _).trans (List.Perm.cons _ (List.Perm.swap _ _ _))));clear HM1))|(go_at_call 186;refine XC.use (ihE fuel (Nat.le_refl _)) HR.out hr HTk.out HM.out (by omega) (by omega) om (fun hno W2 hb=>(show _∧_ from ⟨rfl,XPost.no_ hno hb⟩)) ?_;intro l m j hR2 hG op1 oc1 W2 hM2;have hg:=(hG (by simp)).lenc 0 rfl rfl rfl;clear hG;obtain ⟨hL,hF,hJ⟩:=hg;have HR1:=Lib.hid hR2;clear HR hR2;have HR:=HR1;clear HR1;replace HM:=Lib.hid hM2;clear hM2)|(go_at_call 228;refine must_use HR.out HTk.out HM.out (by omega) hT1 (by omega) rfl (fun hno W2 hb=>(show _∧_ from ⟨rfl,XPost.no_ hno hb⟩)) ?_;intro hb hR2 W2 hM2;have hlt:=isT_lt hb;clear hb;have HR1:=Lib.hid hR2;clear HR hR2;have HR:=HR1;clear HR1;replace HM:=Lib.hid hM2;clear hM2)|refine mP ?_|(refine hal HM rfl ?_;clear HM;intro g1 W1 HM)|((with_reducible refine ibox ?_);refine bx1 (v:=.pointer _) rfl HM.out rfl rfl ?_;intro g1 W1 HM1;replace HM:=Lib.hid HM1;clear HM1))
  first|go_end0|go_ret|go_ret2
  exact XPost.ok_ HR.out (by simp only [List.append_assoc]) (HM.out.sub (.cons_cons _ (.cons_cons _ (.cons _ (.refl _)))))
 rw [if_neg g3] at hR2
 rw [Bool.not_eq_true] at g3
 by_cases g4:(tx.toList == [91])=true
 ·rw [if_pos g4] at hR2
  have HR:=Lib.hid hR2
  clear hR2
  go_enter Tryz.func313,Tryz.ntmps313
  go_wp2_with (first|((with_reducible refine iat 2 ?_);(refine bx1 (v:=.pointer _) rfl HM.out rfl rfl ?_;intro g2 W2 HM1;clear HM;(try clear W1);rename World=>W1;have HM:=Lib.hid (HM1.perm ((List.Perm.swap _ _ _).trans (List.Perm.cons _ (List.Perm.swap _ _ _))));clear HM1))|refine mP ?_|(refine hal HM rfl ?_;clear HM;intro g1 W1 HM)|((with_reducible refine ibox ?_);refine bx1 (v:=.pointer _) rfl HM.out rfl rfl ?_;intro g1 W1 HM1;replace HM:=Lib.hid HM1;clear HM1))
  refine wp_region_steps2 [(true,0),(true,1),(true,2),(false,3),(false,4),(false,5)] (by kernel_rfl) (by kernel_rfl) rfl (by kernel_rfl) (fun _ _ _ _ _ h=>h) HM.out _ (.cons _ (.cons _ (.cons_cons _ (List.nil_sublist _)))) ?_
  intro hNE W1 HM1;replace HM:=Lib.hid HM1;clear HM1
  have HS0:=Lib.hid (HM.out.sub (.cons _ (.cons _ (.cons_cons _ (List.nil_sublist _)))))
  simp only [wpSteps,List.getElem?_cons_succ,List.getElem?_cons_zero]
  (repeat (first|((with_reducible refine wpQuiet_nil ?_);(try dsimp only))|refine mQ ?_|go_big_quiet_step (fail)|quiet_step (fail)))
  go_wp2_with (first|fail)
  refine ⟨⟨⟨_,HM.out.sub msub⟩,rfl⟩,?_⟩
  (try dsimp only)
  go_wp2_with (first|(go_at_call 312;refine XL.use (xList_at hT fuel ihE 93) HR.out hr HTk.out HM.out (by omega) (by omega) om rfl (fun hno W2 hb=>(show _∧_ from ⟨rfl,XPost.no_ hno hb⟩)) ?_;intro l m j hR2 hg op1 oc1 W2 hM2;obtain ⟨hL,hF,hJ,hm⟩:=hg;have HR1:=Lib.hid hR2;clear HR hR2;have HR:=HR1;clear HR1;replace HM:=Lib.hid hM2;clear hM2)|(go_at_call 225;refine put_use _ _ HM.out om ?_;intro op1 oc1 W2 hM2;replace HM:=Lib.hid hM2;clear hM2))
  refine ⟨⟨⟨_,HM.out.sub msub⟩,rfl⟩,?_⟩
  (try dsimp only)
  go_wp2_with (first|(go_at_call 225;refine put_use _ _ HM.out om ?_;intro op1 oc1 W2 hM2;replace HM:=Lib.hid hM2;clear hM2))
  refine ⟨⟨⟨_,HM.out.sub msub⟩,rfl⟩,?_⟩
  (try dsimp only)
  clear HS0 hNE
  go_wp2_with fail
  first|go_end0|go_ret|go_ret2
  exact XPost.ok_ HR.out (by simp only [List.append_assoc]) (HM.out.sub (.cons_cons _ (.cons_cons _ (.cons _ (.refl _)))))
 rw [if_neg g4] at hR2
 rw [Bool.not_eq_true] at g4
 by_cases g5:(tx.toList == [123])=true
 ·rw [if_pos g5] at hR2
  have HR:=Lib.hid hR2
  clear hR2
  go_enter Tryz.func313,Tryz.ntmps313
  go_wp2_with (first|((with_reducible refine iat 2 ?_);(refine bx1 (v:=.pointer _) rfl HM.out rfl rfl ?_;intro g2 W2 HM1;clear HM;(try clear W1);rename World=>W1;have HM:=Lib.hid (HM1.perm ((List.Perm.swap _ _ _).trans (List.Perm.cons _ (List.Perm.swap _ _ _))));clear HM1))|((with_reducible refine iat 4 ?_);(refine alb rfl HM.out ?_;intro g4 W2 HM1;clear HM;(try clear W1);rename World=>W1;have HM:=Lib.hid ((HM1.row0 9 1).five);clear HM1))|(go_at_call 312;refine ctxl_use hT ihE HR.out hr HTk.out HM.out (by omega) (by omega) om (fun hno W2 hb=>(show _∧_ from ⟨rfl,XPost.no_ hno hb⟩)) ?_;intro l m j hR2 hg op1 np1 oc1 nc1 n1 W2 hM2;obtain ⟨hL,hF,hJ,hm⟩:=hg;have HR1:=Lib.hid hR2;clear HR hR2;have HR:=HR1;clear HR1;replace HM:=Lib.hid hM2;clear hM2)|(go_at_call 225;refine put_use _ _ HM.out om ?_;intro op1 oc1 W2 hM2;replace HM:=Lib.hid hM2;clear hM2)|refine mP ?_|(refine hal HM rfl ?_;clear HM;intro g1 W1 HM)|((with_reducible refine ibox ?_);refine bx1 (v:=.pointer _) rfl HM.out rfl rfl ?_;intro g1 W1 HM1;replace HM:=Lib.hid HM1;clear HM1))
  first|go_end0|go_ret|go_ret2
  exact XPost.ok_ HR.out (by simp only [List.append_assoc]) (HM.out.sub (.cons_cons _ (.cons_cons _ (.cons _ (.cons _ (.refl _))))))
 rw [if_neg g5] at hR2
 rw [Bool.not_eq_true] at g5
 have hno:r = .no:=hR2.symm
 clear hR2
 go_enter Tryz.func313,Tryz.ntmps313
 go_wp2_with (first|((with_reducible refine iat 2 ?_);(refine bx1 (v:=.pointer _) rfl HM.out rfl rfl ?_;intro g2 W2 HM1;clear HM;(try clear W1);rename World=>W1;have HM:=Lib.hid (HM1.perm ((List.Perm.swap _ _ _).trans (List.Perm.cons _ (List.Perm.swap _ _ _))));clear HM1))|(go_at_call 187;(with_reducible refine (xFail _).mono ?_);rintro e W2 ⟨rfl,rfl⟩;unfold faultE)|refine mP ?_|(refine hal HM rfl ?_;clear HM;intro g1 W1 HM)|((with_reducible refine ibox ?_);refine bx1 (v:=.pointer _) rfl HM.out rfl rfl ?_;intro g1 W1 HM1;replace HM:=Lib.hid HM1;clear HM1))
 exact ⟨rfl,XPost.no_ (by first|exact hno|rfl) HM.out.below⟩
end Go.Proofs.YtnghlakllgkjlaaGreatDoor
