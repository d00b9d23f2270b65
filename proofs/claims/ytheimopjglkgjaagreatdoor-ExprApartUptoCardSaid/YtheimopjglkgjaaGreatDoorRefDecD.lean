/- The reference's Parse of a number's text (printed by gen_rdparse.py). (fast) -/
import Derived.Test.YtheimopjglkgjaaGreatDoorRdcB
import Derived.Test.YtheimopjglkgjaaGreatDoorLexW
namespace Go.Proofs.YtheimopjglkgjaaGreatDoor
open Go.RowKit
set_option linter.unusedVariables false
set_option linter.unusedSimpArgs false
set_option maxRecDepth 100000
def strN (v:Value):Nat:=match v with | .string X=>X.size|_=>0
theorem baL_eq {a b:ByteArray} (h:a.data.toList=b.data.toList):a=b:=by
 rcases a with ⟨⟨a⟩⟩
 rcases b with ⟨⟨b⟩⟩
 simp at h
 rw [h]
theorem ext0 (X:ByteArray) (k:Nat):(X.extract 0 k).data.toList=X.data.toList.take k:=by
 simp
set_option maxHeartbeats 8000000 in
theorem rdParse_int (A:ByteArray) (ds:List UInt8) (w:World) (hA:A.data.toList=ds) (hd0:ds≠[]) (hd:∀ b ∈ ds,dg b=true) (hs:A.size≤1000) (fs:List UInt8) (hfe:fs=[]) :
  Calls Tryz.prog 107 #[.string A] w fun e w'=>e = .returned (decV (decT ds fs))∧Below w.heap.size w w':=by
 have hf:∀ b ∈ fs,dg b=true:=by subst hfe;intro b hb;cases hb
 have HM:=Lib.hid (Mem.start w)
 have HDs:=Lib.hid hd
 have HFs:=Lib.hid hf
 obtain ⟨bl,hbl⟩:∃ x,Lib.trimRightB fs 48=x:=⟨_,rfl⟩
 have hb3:bl.length≤fs.length:=hbl▸(trimR_sub fs).length_le
 have HBl:=Lib.hid hbl
 obtain ⟨a0,ha0⟩:∃ b,ds[0]? = some b:=⟨_,List.getElem?_eq_getElem (List.length_pos_iff.2 hd0)⟩
 have HD0:=Lib.hid ha0
 have ha1:=dg_ne (hd a0 (List.mem_of_getElem? ha0))
 have q0:((a0.toNat:Int) == 45)=false:=by
  have:¬ a0.toNat=45:=fun e=>ha1.2.1 (UInt8.toNat_inj.1 e)
  simpa using fun e:(a0.toNat:Int)=45=>this (by omega)
 have HAl:=Lib.hid hA
 have hAs:A.size=ds.length:=by rw [← hA];simp
 have hAs1:A.size≤ds.length:=by omega
 have hAs2:ds.length≤A.size:=by omega
 have HA0:=Lib.hid (show A.data.toList[0]? = some a0 by rw [hA];exact ha0)
 have HDA:=Lib.hid (fun W=>rDigits A W (by rw [hA];exact hd) (by rw [hA];exact hd0) hs)
 have HDB:=Lib.hid (show True→∀ W:World,Calls Tryz.prog 137 #[.string A] W fun e w'=>e = .returned (.bool true)∧W=w' from fun _ W=>HDA.out W)
 obtain ⟨f1,f2,f3⟩:=str_full (s:=A) (by rw [hA];exact hd0)
 obtain ⟨B,hBe⟩:∃ B:ByteArray,B=⟨#[]⟩:=⟨_,rfl⟩
 have HBt:=Lib.hid (show Lib.trimRightB B.data.toList 48=bl by rw [← hbl,hfe,hBe])
 have HAj:=Lib.hid (show ∀ i,i < A.size→∃ b,A.data.toList[i]? = some b∧((b.toNat:Int) == 46)=false from fun i hi=>by
  obtain ⟨b,hb⟩:∃ b,A.data.toList[i]? = some b:=⟨_,List.getElem?_eq_getElem (by simpa using hi)⟩
  have h2:=(dg_ne (hd b (by rw [← hA];exact List.mem_of_getElem? hb))).1
  have h3:¬ b.toNat=46:=fun e=>h2 (UInt8.toNat_inj.1 e)
  exact ⟨b,hb,by simpa using fun e:(b.toNat:Int)=46=>h3 (by omega)⟩)
 have hfl:fs.length=0:=by rw [hfe];rfl
 have hB0:B.size≤1000:=by rw [hBe];decide
 have hfl1:fs.length≤0:=by omega
 clear hA hd0 hd hf hbl ha0 ha1 hfe hAs hfl
 go_enter Tryz.func107,Tryz.ntmps107
 go_wp2_with (first|((with_reducible refine iat 13 ?_);(refine six rfl rfl (i:=0) rfl HA0.out ?_))|((with_reducible refine skip_op ?_ ?_);exact rfl)|(refine mS ?_;clear HM;intro W1 HM)|(refine hal (dst:=some 2) HM rfl ?_;clear HM;intro g2 W1 HM))
 go_loopw [7,5,6] (fun iv av bv wr=>∃ i:Nat,iv = .int .i64 i∧i≤A.size∧av = .string A∧bv = .string ⟨#[]⟩∧Hid (Mem w wr [.box g2 34 [.bool false,.int .u64 0,.int .u64 0,.int .i64 0]])) (fun iv _ _ _=>A.size - (intOf iv).toNat)
 case atStart=>exact ⟨0,rfl,Nat.zero_le _,rfl,rfl,HM⟩
 case round=>
  clear HM
  obtain ⟨i,rfl,hi,rfl,rfl,HM⟩:=hrel
  by_cases hlt:i < A.size
  ·obtain ⟨b,hb,q3⟩:=HAj.out i hlt
   have HBi:=Lib.hid hb
   have hlt3:=Lib.hid (show i + 1≤A.size from hlt)
   have d1:decide ((i:Int) < A.size)=true:=decide_eq_true (by omega)
   clear hb
   go_wp2_with (first|((with_reducible refine iat 28 ?_);(refine six rfl rfl rfl HBi.out ?_)))
   go_roundw
   case rel=>exact ⟨i + 1,by go_num,hlt3.out,rfl,rfl,HM⟩
   case measure=>have:=hlt3.out;simp [intOf];omega
  ·have d0:decide ((i:Int) < A.size)=false:=decide_eq_false (by omega)
   rw [← hBe]
   obtain ⟨e5,e6,-⟩:=str_empty (s:=B) (by rw [hBe])
   clear hBe
   by_cases hz:1 < ds.length∧ds[0]? = some 48
   ·have HR:=Lib.hid (show decT ds fs=((0,0),5) by unfold decT;rw [if_pos hz])
    obtain ⟨hz1,hz2⟩:=hz
    have hz3:a0=48:=by rw [HD0.out] at hz2;exact Option.some.inj hz2
    have d1:decide ((1:Int) < A.size)=true:=decide_eq_true (by omega)
    have d2:((a0.toNat:Int) == 48)=true:=by rw [hz3];rfl
    clear hz2 hz3 hz1
    go_wp2_with (first|(go_at_call 137;first|((with_reducible refine (HDA.out _).mono ?_);rintro e W2 ⟨rfl,rfl⟩)|((with_reducible refine (HDB.out (by trivial) _).mono ?_);rintro e W2 ⟨rfl,rfl⟩))|((with_reducible refine iat 49 ?_);(refine six rfl rfl (i:=0) rfl HA0.out ?_))|((with_reducible refine iat 70 ?_);(refine six rfl rfl (i:=j) (by first|rfl|exact hjc) HXj.out ?_))|((with_reducible refine iat 77 ?_);(refine sslh rfl rfl (j:=j) (by first|rfl|exact hjc) hjX ?_))|(go_at_call 138;(with_reducible refine (HN.out _).mono ?_);rintro e W2 ⟨p2,c2,rfl,hM2⟩;have HM1:=Lib.hid (HM.out.comp2 hM2);clear HM hM2;(try clear W1);rename World=>W1;have HM:=HM1;clear HM1;simp only [List.cons_append,List.nil_append] at HM)|(go_at_call 139;(with_reducible refine (HMk.out _ _ _ (row_sl (HM.out.get (k:=0) rfl))).mono ?_);rintro e W1 ⟨rfl,hb⟩;replace HM:=Lib.hid (HM.out.next hb);clear hb)|((with_reducible refine skip_op ?_ ?_);exact rfl)|(refine mS ?_;clear HM;intro W1 HM)|(refine hal HM rfl ?_;clear HM;intro g1 W1 HM))
    exact bodyPost_ret (res_box_tmp rfl HM.out 0 rfl rfl rfl rfl) rfl ⟨by rw [HR.out];rfl,HM.out.below⟩
   ·have q1:1 < A.size→((a0.toNat:Int) == 48)=false:=fun h1=>by
     simpa using fun e:(a0.toNat:Int)=48=>hz ⟨by omega,by rw [HD0.out];exact congrArg some (UInt8.toNat_inj.1 (by show a0.toNat=48;omega))⟩
    rcases Nat.lt_or_ge 1 A.size with hs1|hs1
    ·have d2:=q1 hs1
     have d1:decide ((1:Int) < A.size)=true:=decide_eq_true (by omega)
     clear q1
     go_wp2_with (first|(go_at_call 137;first|((with_reducible refine (HDA.out _).mono ?_);rintro e W2 ⟨rfl,rfl⟩)|((with_reducible refine (HDB.out (by trivial) _).mono ?_);rintro e W2 ⟨rfl,rfl⟩))|((with_reducible refine iat 49 ?_);(refine six rfl rfl (i:=0) rfl HA0.out ?_))|((with_reducible refine iat 70 ?_);(refine six rfl rfl (i:=j) (by first|rfl|exact hjc) HXj.out ?_))|((with_reducible refine iat 77 ?_);(refine sslh rfl rfl (j:=j) (by first|rfl|exact hjc) hjX ?_))|(go_at_call 138;(with_reducible refine (HN.out _).mono ?_);rintro e W2 ⟨p2,c2,rfl,hM2⟩;have HM1:=Lib.hid (HM.out.comp2 hM2);clear HM hM2;(try clear W1);rename World=>W1;have HM:=HM1;clear HM1;simp only [List.cons_append,List.nil_append] at HM)|(go_at_call 139;(with_reducible refine (HMk.out _ _ _ (row_sl (HM.out.get (k:=0) rfl))).mono ?_);rintro e W1 ⟨rfl,hb⟩;replace HM:=Lib.hid (HM.out.next hb);clear hb)|((with_reducible refine skip_op ?_ ?_);exact rfl)|(refine mS ?_;clear HM;intro W1 HM)|(refine hal HM rfl ?_;clear HM;intro g1 W1 HM))
     go_loopw [6] (fun xv wr=>∃ X:ByteArray,xv = .string X∧Hid (Lib.trimRightB X.data.toList 48=bl)∧X.size≤1000∧Hid (Mem w wr [.box g2 34 [.bool false,.int .u64 0,.int .u64 0,.int .i64 0]])) (fun xv _=>strN xv)
     case atStart=>exact ⟨B,rfl,HBt,by omega,HM⟩
     case round=>
      clear HM
      obtain ⟨X,rfl,HXt,hX1,HM⟩:=hrel
      rcases List.eq_nil_or_concat X.data.toList with hX0 | ⟨l,b,hX0⟩
      ·obtain ⟨e1,e2,-⟩:=str_empty hX0
       have hX:X.data.toList=bl:=by rw [← HXt.out,hX0];rfl
       clear hX0 hX1 HXt
       have hXs:X.size=bl.length:=by rw [← hX];simp
       have hcat:=fun w=>run_string_add_sum (P:=Tryz.prog) w A X (by omega)
       obtain ⟨n,hn⟩:∃ n,dval (ds++bl)=n:=⟨_,rfl⟩
       obtain ⟨m,hm⟩:∃ m,(dgt n).length=m:=⟨_,rfl⟩
       have HN:=Lib.hid (fun W=>rNumber (A++X) (ds++bl) W (by rw [ByteArray.data_append,Array.toList_append,HAl.out,hX]) (fun b hb=>by
        rcases List.mem_append.1 hb with hb|hb
        ·exact HDs.out b hb
        ·exact HFs.out b ((trimR_sub fs).mem (by rw [HBl.out];exact hb))) (by rw [ByteArray.size_append];omega))
       obtain ⟨r1,r2⟩:=decT_ref HDs.out HFs.out bl HBl.out n m hn hm hz
       simp only [hn,hm] at HN
       by_cases h18:18 < bl.length
       ·have HR:=Lib.hid (r1 (Or.inl h18))
        have g1:decide ((18:Int) < X.size)=true:=decide_eq_true (by omega)
        clear r1 r2 hn hm hX hXs h18 hz
        go_wp2_with (first|(go_at_call 137;first|((with_reducible refine (HDA.out _).mono ?_);rintro e W2 ⟨rfl,rfl⟩)|((with_reducible refine (HDB.out (by trivial) _).mono ?_);rintro e W2 ⟨rfl,rfl⟩))|((with_reducible refine iat 49 ?_);(refine six rfl rfl (i:=0) rfl HA0.out ?_))|((with_reducible refine iat 70 ?_);(refine six rfl rfl (i:=j) (by first|rfl|exact hjc) HXj.out ?_))|((with_reducible refine iat 77 ?_);(refine sslh rfl rfl (j:=j) (by first|rfl|exact hjc) hjX ?_))|(go_at_call 138;(with_reducible refine (HN.out _).mono ?_);rintro e W2 ⟨p2,c2,rfl,hM2⟩;have HM1:=Lib.hid (HM.out.comp2 hM2);clear HM hM2;(try clear W1);rename World=>W1;have HM:=HM1;clear HM1;simp only [List.cons_append,List.nil_append] at HM)|(go_at_call 139;(with_reducible refine (HMk.out _ _ _ (row_sl (HM.out.get (k:=0) rfl))).mono ?_);rintro e W1 ⟨rfl,hb⟩;replace HM:=Lib.hid (HM.out.next hb);clear hb)|((with_reducible refine skip_op ?_ ?_);exact rfl)|(refine mS ?_;clear HM;intro W1 HM)|(refine hal HM rfl ?_;clear HM;intro g1 W1 HM))
        exact bodyPost_ret (res_box_tmp rfl HM.out 1 rfl rfl rfl rfl) rfl ⟨by rw [HR.out];rfl,HM.out.below⟩
       ·have g1:decide ((18:Int) < X.size)=false:=decide_eq_false (by omega)
        by_cases h34:34 < m
        ·have HR:=Lib.hid (r1 (Or.inr h34))
         have g2:decide ((34:Int) < m)=true:=decide_eq_true (by omega)
         have g2' : decide (34 < m)=true:=decide_eq_true h34
         clear r1 r2 hn hm hX hXs h18 hz h34
         go_wp2_with (first|(go_at_call 137;first|((with_reducible refine (HDA.out _).mono ?_);rintro e W2 ⟨rfl,rfl⟩)|((with_reducible refine (HDB.out (by trivial) _).mono ?_);rintro e W2 ⟨rfl,rfl⟩))|((with_reducible refine iat 49 ?_);(refine six rfl rfl (i:=0) rfl HA0.out ?_))|((with_reducible refine iat 70 ?_);(refine six rfl rfl (i:=j) (by first|rfl|exact hjc) HXj.out ?_))|((with_reducible refine iat 77 ?_);(refine sslh rfl rfl (j:=j) (by first|rfl|exact hjc) hjX ?_))|(go_at_call 138;(with_reducible refine (HN.out _).mono ?_);rintro e W2 ⟨p2,c2,rfl,hM2⟩;have HM1:=Lib.hid (HM.out.comp2 hM2);clear HM hM2;(try clear W1);rename World=>W1;have HM:=HM1;clear HM1;simp only [List.cons_append,List.nil_append] at HM)|(go_at_call 139;(with_reducible refine (HMk.out _ _ _ (row_sl (HM.out.get (k:=0) rfl))).mono ?_);rintro e W1 ⟨rfl,hb⟩;replace HM:=Lib.hid (HM.out.next hb);clear hb)|((with_reducible refine skip_op ?_ ?_);exact rfl)|(refine mS ?_;clear HM;intro W1 HM)|(refine hal HM rfl ?_;clear HM;intro g1 W1 HM))
         exact bodyPost_ret (res_box_tmp rfl HM.out 1 rfl rfl rfl rfl) rfl ⟨by rw [HR.out];rfl,HM.out.below⟩
        ·obtain ⟨hR,hlast⟩:=r2 (fun h=>h.elim h18 h34)
         have g2:decide ((34:Int) < m)=false:=decide_eq_false (by omega)
         have g2' : decide (34 < m)=false:=decide_eq_false h34
         have HMk:=Lib.hid (fun W p c h=>rMake p c m n bl.length W hm h (by omega) (by omega) hlast)
         obtain ⟨nh,hnh⟩:∃ x,n / 18446744073709551616=x:=⟨_,rfl⟩
         obtain ⟨nl,hnl⟩:∃ x,n % 18446744073709551616=x:=⟨_,rfl⟩
         have HV:=Lib.hid (show decCs n X.size=[.bool false,.int .u64 nh,.int .u64 nl,.int .i64 X.size] by rw [← hnh,← hnl];rfl)
         have HR:=Lib.hid (show decV (decT ds fs) = .tuple #[.agg #[.bool false,.int .u64 nh,.int .u64 nl,.int .i64 X.size],.int .i64 0] by rw [hR,← hXs];unfold decV;rw [HV.out])
         rw [← hXs] at HMk
         simp only [HV.out] at HMk
         clear r1 r2 hn hm hX hXs h18 hz h34 hnh hnl hlast hR HV
         go_wp2_with (first|(go_at_call 137;first|((with_reducible refine (HDA.out _).mono ?_);rintro e W2 ⟨rfl,rfl⟩)|((with_reducible refine (HDB.out (by trivial) _).mono ?_);rintro e W2 ⟨rfl,rfl⟩))|((with_reducible refine iat 49 ?_);(refine six rfl rfl (i:=0) rfl HA0.out ?_))|((with_reducible refine iat 70 ?_);(refine six rfl rfl (i:=j) (by first|rfl|exact hjc) HXj.out ?_))|((with_reducible refine iat 77 ?_);(refine sslh rfl rfl (j:=j) (by first|rfl|exact hjc) hjX ?_))|(go_at_call 138;(with_reducible refine (HN.out _).mono ?_);rintro e W2 ⟨p2,c2,rfl,hM2⟩;have HM1:=Lib.hid (HM.out.comp2 hM2);clear HM hM2;(try clear W1);rename World=>W1;have HM:=HM1;clear HM1;simp only [List.cons_append,List.nil_append] at HM)|(go_at_call 139;(with_reducible refine (HMk.out _ _ _ (row_sl (HM.out.get (k:=0) rfl))).mono ?_);rintro e W1 ⟨rfl,hb⟩;replace HM:=Lib.hid (HM.out.next hb);clear hb)|((with_reducible refine skip_op ?_ ?_);exact rfl)|(refine mS ?_;clear HM;intro W1 HM)|(refine hal HM rfl ?_;clear HM;intro g1 W1 HM))
         exact bodyPost_ret (res_box_tmp rfl HM.out 1 rfl rfl rfl rfl) rfl ⟨by rw [HR.out];rfl,HM.out.below⟩
      ·rw [List.concat_eq_append] at hX0
       obtain ⟨e1,e2,e3⟩:=str_full (s:=X) (by rw [hX0];simp)
       have hXl : X.size = l.length + 1 := by have : X.data.toList.length = X.size := by simp
                                              rw [← this,hX0];simp
       obtain ⟨j,hj⟩:∃ j,l.length=j:=⟨_,rfl⟩
       have HXj:=Lib.hid (show X.data.toList[j]? = some b by rw [hX0,← hj];simp)
       have hjc:(X.size:Int) - 1=(j:Int):=by omega
       have hjX:j≤X.size:=by omega
       have hjX2:X.size≤j + 1:=by omega
       by_cases hb:b=48
       ·subst hb
        have q4:(((48:UInt8).toNat:Int) == 48)=true:=rfl
        have HX2:=Lib.hid (show Lib.trimRightB (X.extract 0 j).data.toList 48=bl by rw [ext0,hX0,← hj,List.take_left,← HXt.out,hX0,trimR_snoc,if_pos rfl])
        have HX3:=Lib.hid (show (X.extract 0 j).size < X.size by simp;omega)
        clear hX0 hj HXt hXl
        go_wp2_with (first|(go_at_call 137;first|((with_reducible refine (HDA.out _).mono ?_);rintro e W2 ⟨rfl,rfl⟩)|((with_reducible refine (HDB.out (by trivial) _).mono ?_);rintro e W2 ⟨rfl,rfl⟩))|((with_reducible refine iat 49 ?_);(refine six rfl rfl (i:=0) rfl HA0.out ?_))|((with_reducible refine iat 70 ?_);(refine six rfl rfl (i:=j) (by first|rfl|exact hjc) HXj.out ?_))|((with_reducible refine iat 77 ?_);(refine sslh rfl rfl (j:=j) (by first|rfl|exact hjc) hjX ?_))|(go_at_call 138;(with_reducible refine (HN.out _).mono ?_);rintro e W2 ⟨p2,c2,rfl,hM2⟩;have HM1:=Lib.hid (HM.out.comp2 hM2);clear HM hM2;(try clear W1);rename World=>W1;have HM:=HM1;clear HM1;simp only [List.cons_append,List.nil_append] at HM)|(go_at_call 139;(with_reducible refine (HMk.out _ _ _ (row_sl (HM.out.get (k:=0) rfl))).mono ?_);rintro e W1 ⟨rfl,hb⟩;replace HM:=Lib.hid (HM.out.next hb);clear hb)|((with_reducible refine skip_op ?_ ?_);exact rfl)|(refine mS ?_;clear HM;intro W1 HM)|(refine hal HM rfl ?_;clear HM;intro g1 W1 HM))
        go_roundw
        case rel=>exact ⟨X.extract 0 j,rfl,HX2,by have:=HX3.out;omega,HM⟩
        case measure=>exact HX3.out
       ·have hb48:¬ b.toNat=48:=fun e=>hb (UInt8.toNat_inj.1 e)
        have q4:((b.toNat:Int) == 48)=false:=by simpa using fun e:(b.toNat:Int)=48=>hb48 (by omega)
        have hX:X.data.toList=bl:=by rw [← HXt.out,hX0,trimR_snoc,if_neg hb]
        clear hX0 hj HXt hXl
        have hXs:X.size=bl.length:=by rw [← hX];simp
        have hcat:=fun w=>run_string_add_sum (P:=Tryz.prog) w A X (by omega)
        obtain ⟨n,hn⟩:∃ n,dval (ds++bl)=n:=⟨_,rfl⟩
        obtain ⟨m,hm⟩:∃ m,(dgt n).length=m:=⟨_,rfl⟩
        have HN:=Lib.hid (fun W=>rNumber (A++X) (ds++bl) W (by rw [ByteArray.data_append,Array.toList_append,HAl.out,hX]) (fun b hb=>by
         rcases List.mem_append.1 hb with hb|hb
         ·exact HDs.out b hb
         ·exact HFs.out b ((trimR_sub fs).mem (by rw [HBl.out];exact hb))) (by rw [ByteArray.size_append];omega))
        obtain ⟨r1,r2⟩:=decT_ref HDs.out HFs.out bl HBl.out n m hn hm hz
        simp only [hn,hm] at HN
        by_cases h18:18 < bl.length
        ·have HR:=Lib.hid (r1 (Or.inl h18))
         have g1:decide ((18:Int) < X.size)=true:=decide_eq_true (by omega)
         clear r1 r2 hn hm hX hXs h18 hz
         go_wp2_with (first|(go_at_call 137;first|((with_reducible refine (HDA.out _).mono ?_);rintro e W2 ⟨rfl,rfl⟩)|((with_reducible refine (HDB.out (by trivial) _).mono ?_);rintro e W2 ⟨rfl,rfl⟩))|((with_reducible refine iat 49 ?_);(refine six rfl rfl (i:=0) rfl HA0.out ?_))|((with_reducible refine iat 70 ?_);(refine six rfl rfl (i:=j) (by first|rfl|exact hjc) HXj.out ?_))|((with_reducible refine iat 77 ?_);(refine sslh rfl rfl (j:=j) (by first|rfl|exact hjc) hjX ?_))|(go_at_call 138;(with_reducible refine (HN.out _).mono ?_);rintro e W2 ⟨p2,c2,rfl,hM2⟩;have HM1:=Lib.hid (HM.out.comp2 hM2);clear HM hM2;(try clear W1);rename World=>W1;have HM:=HM1;clear HM1;simp only [List.cons_append,List.nil_append] at HM)|(go_at_call 139;(with_reducible refine (HMk.out _ _ _ (row_sl (HM.out.get (k:=0) rfl))).mono ?_);rintro e W1 ⟨rfl,hb⟩;replace HM:=Lib.hid (HM.out.next hb);clear hb)|((with_reducible refine skip_op ?_ ?_);exact rfl)|(refine mS ?_;clear HM;intro W1 HM)|(refine hal HM rfl ?_;clear HM;intro g1 W1 HM))
         exact bodyPost_ret (res_box_tmp rfl HM.out 1 rfl rfl rfl rfl) rfl ⟨by rw [HR.out];rfl,HM.out.below⟩
        ·have g1:decide ((18:Int) < X.size)=false:=decide_eq_false (by omega)
         by_cases h34:34 < m
         ·have HR:=Lib.hid (r1 (Or.inr h34))
          have g2:decide ((34:Int) < m)=true:=decide_eq_true (by omega)
          have g2' : decide (34 < m)=true:=decide_eq_true h34
          clear r1 r2 hn hm hX hXs h18 hz h34
          go_wp2_with (first|(go_at_call 137;first|((with_reducible refine (HDA.out _).mono ?_);rintro e W2 ⟨rfl,rfl⟩)|((with_reducible refine (HDB.out (by trivial) _).mono ?_);rintro e W2 ⟨rfl,rfl⟩))|((with_reducible refine iat 49 ?_);(refine six rfl rfl (i:=0) rfl HA0.out ?_))|((with_reducible refine iat 70 ?_);(refine six rfl rfl (i:=j) (by first|rfl|exact hjc) HXj.out ?_))|((with_reducible refine iat 77 ?_);(refine sslh rfl rfl (j:=j) (by first|rfl|exact hjc) hjX ?_))|(go_at_call 138;(with_reducible refine (HN.out _).mono ?_);rintro e W2 ⟨p2,c2,rfl,hM2⟩;have HM1:=Lib.hid (HM.out.comp2 hM2);clear HM hM2;(try clear W1);rename World=>W1;have HM:=HM1;clear HM1;simp only [List.cons_append,List.nil_append] at HM)|(go_at_call 139;(with_reducible refine (HMk.out _ _ _ (row_sl (HM.out.get (k:=0) rfl))).mono ?_);rintro e W1 ⟨rfl,hb⟩;replace HM:=Lib.hid (HM.out.next hb);clear hb)|((with_reducible refine skip_op ?_ ?_);exact rfl)|(refine mS ?_;clear HM;intro W1 HM)|(refine hal HM rfl ?_;clear HM;intro g1 W1 HM))
          exact bodyPost_ret (res_box_tmp rfl HM.out 1 rfl rfl rfl rfl) rfl ⟨by rw [HR.out];rfl,HM.out.below⟩
         ·obtain ⟨hR,hlast⟩:=r2 (fun h=>h.elim h18 h34)
          have g2:decide ((34:Int) < m)=false:=decide_eq_false (by omega)
          have g2' : decide (34 < m)=false:=decide_eq_false h34
          have HMk:=Lib.hid (fun W p c h=>rMake p c m n bl.length W hm h (by omega) (by omega) hlast)
          obtain ⟨nh,hnh⟩:∃ x,n / 18446744073709551616=x:=⟨_,rfl⟩
          obtain ⟨nl,hnl⟩:∃ x,n % 18446744073709551616=x:=⟨_,rfl⟩
          have HV:=Lib.hid (show decCs n X.size=[.bool false,.int .u64 nh,.int .u64 nl,.int .i64 X.size] by rw [← hnh,← hnl];rfl)
          have HR:=Lib.hid (show decV (decT ds fs) = .tuple #[.agg #[.bool false,.int .u64 nh,.int .u64 nl,.int .i64 X.size],.int .i64 0] by rw [hR,← hXs];unfold decV;rw [HV.out])
          rw [← hXs] at HMk
          simp only [HV.out] at HMk
          clear r1 r2 hn hm hX hXs h18 hz h34 hnh hnl hlast hR HV
          go_wp2_with (first|(go_at_call 137;first|((with_reducible refine (HDA.out _).mono ?_);rintro e W2 ⟨rfl,rfl⟩)|((with_reducible refine (HDB.out (by trivial) _).mono ?_);rintro e W2 ⟨rfl,rfl⟩))|((with_reducible refine iat 49 ?_);(refine six rfl rfl (i:=0) rfl HA0.out ?_))|((with_reducible refine iat 70 ?_);(refine six rfl rfl (i:=j) (by first|rfl|exact hjc) HXj.out ?_))|((with_reducible refine iat 77 ?_);(refine sslh rfl rfl (j:=j) (by first|rfl|exact hjc) hjX ?_))|(go_at_call 138;(with_reducible refine (HN.out _).mono ?_);rintro e W2 ⟨p2,c2,rfl,hM2⟩;have HM1:=Lib.hid (HM.out.comp2 hM2);clear HM hM2;(try clear W1);rename World=>W1;have HM:=HM1;clear HM1;simp only [List.cons_append,List.nil_append] at HM)|(go_at_call 139;(with_reducible refine (HMk.out _ _ _ (row_sl (HM.out.get (k:=0) rfl))).mono ?_);rintro e W1 ⟨rfl,hb⟩;replace HM:=Lib.hid (HM.out.next hb);clear hb)|((with_reducible refine skip_op ?_ ?_);exact rfl)|(refine mS ?_;clear HM;intro W1 HM)|(refine hal HM rfl ?_;clear HM;intro g1 W1 HM))
          exact bodyPost_ret (res_box_tmp rfl HM.out 1 rfl rfl rfl rfl) rfl ⟨by rw [HR.out];rfl,HM.out.below⟩
    ·have d1:decide ((1:Int) < A.size)=false:=decide_eq_false (by omega)
     clear q1
     go_wp2_with (first|(go_at_call 137;first|((with_reducible refine (HDA.out _).mono ?_);rintro e W2 ⟨rfl,rfl⟩)|((with_reducible refine (HDB.out (by trivial) _).mono ?_);rintro e W2 ⟨rfl,rfl⟩))|((with_reducible refine iat 49 ?_);(refine six rfl rfl (i:=0) rfl HA0.out ?_))|((with_reducible refine iat 70 ?_);(refine six rfl rfl (i:=j) (by first|rfl|exact hjc) HXj.out ?_))|((with_reducible refine iat 77 ?_);(refine sslh rfl rfl (j:=j) (by first|rfl|exact hjc) hjX ?_))|(go_at_call 138;(with_reducible refine (HN.out _).mono ?_);rintro e W2 ⟨p2,c2,rfl,hM2⟩;have HM1:=Lib.hid (HM.out.comp2 hM2);clear HM hM2;(try clear W1);rename World=>W1;have HM:=HM1;clear HM1;simp only [List.cons_append,List.nil_append] at HM)|(go_at_call 139;(with_reducible refine (HMk.out _ _ _ (row_sl (HM.out.get (k:=0) rfl))).mono ?_);rintro e W1 ⟨rfl,hb⟩;replace HM:=Lib.hid (HM.out.next hb);clear hb)|((with_reducible refine skip_op ?_ ?_);exact rfl)|(refine mS ?_;clear HM;intro W1 HM)|(refine hal HM rfl ?_;clear HM;intro g1 W1 HM))
     go_loopw [6] (fun xv wr=>∃ X:ByteArray,xv = .string X∧Hid (Lib.trimRightB X.data.toList 48=bl)∧X.size≤1000∧Hid (Mem w wr [.box g2 34 [.bool false,.int .u64 0,.int .u64 0,.int .i64 0]])) (fun xv _=>strN xv)
     case atStart=>exact ⟨B,rfl,HBt,by omega,HM⟩
     case round=>
      clear HM
      obtain ⟨X,rfl,HXt,hX1,HM⟩:=hrel
      rcases List.eq_nil_or_concat X.data.toList with hX0 | ⟨l,b,hX0⟩
      ·obtain ⟨e1,e2,-⟩:=str_empty hX0
       have hX:X.data.toList=bl:=by rw [← HXt.out,hX0];rfl
       clear hX0 hX1 HXt
       have hXs:X.size=bl.length:=by rw [← hX];simp
       have hcat:=fun w=>run_string_add_sum (P:=Tryz.prog) w A X (by omega)
       obtain ⟨n,hn⟩:∃ n,dval (ds++bl)=n:=⟨_,rfl⟩
       obtain ⟨m,hm⟩:∃ m,(dgt n).length=m:=⟨_,rfl⟩
       have HN:=Lib.hid (fun W=>rNumber (A++X) (ds++bl) W (by rw [ByteArray.data_append,Array.toList_append,HAl.out,hX]) (fun b hb=>by
        rcases List.mem_append.1 hb with hb|hb
        ·exact HDs.out b hb
        ·exact HFs.out b ((trimR_sub fs).mem (by rw [HBl.out];exact hb))) (by rw [ByteArray.size_append];omega))
       obtain ⟨r1,r2⟩:=decT_ref HDs.out HFs.out bl HBl.out n m hn hm hz
       simp only [hn,hm] at HN
       by_cases h18:18 < bl.length
       ·have HR:=Lib.hid (r1 (Or.inl h18))
        have g1:decide ((18:Int) < X.size)=true:=decide_eq_true (by omega)
        clear r1 r2 hn hm hX hXs h18 hz
        go_wp2_with (first|(go_at_call 137;first|((with_reducible refine (HDA.out _).mono ?_);rintro e W2 ⟨rfl,rfl⟩)|((with_reducible refine (HDB.out (by trivial) _).mono ?_);rintro e W2 ⟨rfl,rfl⟩))|((with_reducible refine iat 49 ?_);(refine six rfl rfl (i:=0) rfl HA0.out ?_))|((with_reducible refine iat 70 ?_);(refine six rfl rfl (i:=j) (by first|rfl|exact hjc) HXj.out ?_))|((with_reducible refine iat 77 ?_);(refine sslh rfl rfl (j:=j) (by first|rfl|exact hjc) hjX ?_))|(go_at_call 138;(with_reducible refine (HN.out _).mono ?_);rintro e W2 ⟨p2,c2,rfl,hM2⟩;have HM1:=Lib.hid (HM.out.comp2 hM2);clear HM hM2;(try clear W1);rename World=>W1;have HM:=HM1;clear HM1;simp only [List.cons_append,List.nil_append] at HM)|(go_at_call 139;(with_reducible refine (HMk.out _ _ _ (row_sl (HM.out.get (k:=0) rfl))).mono ?_);rintro e W1 ⟨rfl,hb⟩;replace HM:=Lib.hid (HM.out.next hb);clear hb)|((with_reducible refine skip_op ?_ ?_);exact rfl)|(refine mS ?_;clear HM;intro W1 HM)|(refine hal HM rfl ?_;clear HM;intro g1 W1 HM))
        exact bodyPost_ret (res_box_tmp rfl HM.out 1 rfl rfl rfl rfl) rfl ⟨by rw [HR.out];rfl,HM.out.below⟩
       ·have g1:decide ((18:Int) < X.size)=false:=decide_eq_false (by omega)
        by_cases h34:34 < m
        ·have HR:=Lib.hid (r1 (Or.inr h34))
         have g2:decide ((34:Int) < m)=true:=decide_eq_true (by omega)
         have g2' : decide (34 < m)=true:=decide_eq_true h34
         clear r1 r2 hn hm hX hXs h18 hz h34
         go_wp2_with (first|(go_at_call 137;first|((with_reducible refine (HDA.out _).mono ?_);rintro e W2 ⟨rfl,rfl⟩)|((with_reducible refine (HDB.out (by trivial) _).mono ?_);rintro e W2 ⟨rfl,rfl⟩))|((with_reducible refine iat 49 ?_);(refine six rfl rfl (i:=0) rfl HA0.out ?_))|((with_reducible refine iat 70 ?_);(refine six rfl rfl (i:=j) (by first|rfl|exact hjc) HXj.out ?_))|((with_reducible refine iat 77 ?_);(refine sslh rfl rfl (j:=j) (by first|rfl|exact hjc) hjX ?_))|(go_at_call 138;(with_reducible refine (HN.out _).mono ?_);rintro e W2 ⟨p2,c2,rfl,hM2⟩;have HM1:=Lib.hid (HM.out.comp2 hM2);clear HM hM2;(try clear W1);rename World=>W1;have HM:=HM1;clear HM1;simp only [List.cons_append,List.nil_append] at HM)|(go_at_call 139;(with_reducible refine (HMk.out _ _ _ (row_sl (HM.out.get (k:=0) rfl))).mono ?_);rintro e W1 ⟨rfl,hb⟩;replace HM:=Lib.hid (HM.out.next hb);clear hb)|((with_reducible refine skip_op ?_ ?_);exact rfl)|(refine mS ?_;clear HM;intro W1 HM)|(refine hal HM rfl ?_;clear HM;intro g1 W1 HM))
         exact bodyPost_ret (res_box_tmp rfl HM.out 1 rfl rfl rfl rfl) rfl ⟨by rw [HR.out];rfl,HM.out.below⟩
        ·obtain ⟨hR,hlast⟩:=r2 (fun h=>h.elim h18 h34)
         have g2:decide ((34:Int) < m)=false:=decide_eq_false (by omega)
         have g2' : decide (34 < m)=false:=decide_eq_false h34
         have HMk:=Lib.hid (fun W p c h=>rMake p c m n bl.length W hm h (by omega) (by omega) hlast)
         obtain ⟨nh,hnh⟩:∃ x,n / 18446744073709551616=x:=⟨_,rfl⟩
         obtain ⟨nl,hnl⟩:∃ x,n % 18446744073709551616=x:=⟨_,rfl⟩
         have HV:=Lib.hid (show decCs n X.size=[.bool false,.int .u64 nh,.int .u64 nl,.int .i64 X.size] by rw [← hnh,← hnl];rfl)
         have HR:=Lib.hid (show decV (decT ds fs) = .tuple #[.agg #[.bool false,.int .u64 nh,.int .u64 nl,.int .i64 X.size],.int .i64 0] by rw [hR,← hXs];unfold decV;rw [HV.out])
         rw [← hXs] at HMk
         simp only [HV.out] at HMk
         clear r1 r2 hn hm hX hXs h18 hz h34 hnh hnl hlast hR HV
         go_wp2_with (first|(go_at_call 137;first|((with_reducible refine (HDA.out _).mono ?_);rintro e W2 ⟨rfl,rfl⟩)|((with_reducible refine (HDB.out (by trivial) _).mono ?_);rintro e W2 ⟨rfl,rfl⟩))|((with_reducible refine iat 49 ?_);(refine six rfl rfl (i:=0) rfl HA0.out ?_))|((with_reducible refine iat 70 ?_);(refine six rfl rfl (i:=j) (by first|rfl|exact hjc) HXj.out ?_))|((with_reducible refine iat 77 ?_);(refine sslh rfl rfl (j:=j) (by first|rfl|exact hjc) hjX ?_))|(go_at_call 138;(with_reducible refine (HN.out _).mono ?_);rintro e W2 ⟨p2,c2,rfl,hM2⟩;have HM1:=Lib.hid (HM.out.comp2 hM2);clear HM hM2;(try clear W1);rename World=>W1;have HM:=HM1;clear HM1;simp only [List.cons_append,List.nil_append] at HM)|(go_at_call 139;(with_reducible refine (HMk.out _ _ _ (row_sl (HM.out.get (k:=0) rfl))).mono ?_);rintro e W1 ⟨rfl,hb⟩;replace HM:=Lib.hid (HM.out.next hb);clear hb)|((with_reducible refine skip_op ?_ ?_);exact rfl)|(refine mS ?_;clear HM;intro W1 HM)|(refine hal HM rfl ?_;clear HM;intro g1 W1 HM))
         exact bodyPost_ret (res_box_tmp rfl HM.out 1 rfl rfl rfl rfl) rfl ⟨by rw [HR.out];rfl,HM.out.below⟩
      ·rw [List.concat_eq_append] at hX0
       obtain ⟨e1,e2,e3⟩:=str_full (s:=X) (by rw [hX0];simp)
       have hXl : X.size = l.length + 1 := by have : X.data.toList.length = X.size := by simp
                                              rw [← this,hX0];simp
       obtain ⟨j,hj⟩:∃ j,l.length=j:=⟨_,rfl⟩
       have HXj:=Lib.hid (show X.data.toList[j]? = some b by rw [hX0,← hj];simp)
       have hjc:(X.size:Int) - 1=(j:Int):=by omega
       have hjX:j≤X.size:=by omega
       have hjX2:X.size≤j + 1:=by omega
       by_cases hb:b=48
       ·subst hb
        have q4:(((48:UInt8).toNat:Int) == 48)=true:=rfl
        have HX2:=Lib.hid (show Lib.trimRightB (X.extract 0 j).data.toList 48=bl by rw [ext0,hX0,← hj,List.take_left,← HXt.out,hX0,trimR_snoc,if_pos rfl])
        have HX3:=Lib.hid (show (X.extract 0 j).size < X.size by simp;omega)
        clear hX0 hj HXt hXl
        go_wp2_with (first|(go_at_call 137;first|((with_reducible refine (HDA.out _).mono ?_);rintro e W2 ⟨rfl,rfl⟩)|((with_reducible refine (HDB.out (by trivial) _).mono ?_);rintro e W2 ⟨rfl,rfl⟩))|((with_reducible refine iat 49 ?_);(refine six rfl rfl (i:=0) rfl HA0.out ?_))|((with_reducible refine iat 70 ?_);(refine six rfl rfl (i:=j) (by first|rfl|exact hjc) HXj.out ?_))|((with_reducible refine iat 77 ?_);(refine sslh rfl rfl (j:=j) (by first|rfl|exact hjc) hjX ?_))|(go_at_call 138;(with_reducible refine (HN.out _).mono ?_);rintro e W2 ⟨p2,c2,rfl,hM2⟩;have HM1:=Lib.hid (HM.out.comp2 hM2);clear HM hM2;(try clear W1);rename World=>W1;have HM:=HM1;clear HM1;simp only [List.cons_append,List.nil_append] at HM)|(go_at_call 139;(with_reducible refine (HMk.out _ _ _ (row_sl (HM.out.get (k:=0) rfl))).mono ?_);rintro e W1 ⟨rfl,hb⟩;replace HM:=Lib.hid (HM.out.next hb);clear hb)|((with_reducible refine skip_op ?_ ?_);exact rfl)|(refine mS ?_;clear HM;intro W1 HM)|(refine hal HM rfl ?_;clear HM;intro g1 W1 HM))
        go_roundw
        case rel=>exact ⟨X.extract 0 j,rfl,HX2,by have:=HX3.out;omega,HM⟩
        case measure=>exact HX3.out
       ·have hb48:¬ b.toNat=48:=fun e=>hb (UInt8.toNat_inj.1 e)
        have q4:((b.toNat:Int) == 48)=false:=by simpa using fun e:(b.toNat:Int)=48=>hb48 (by omega)
        have hX:X.data.toList=bl:=by rw [← HXt.out,hX0,trimR_snoc,if_neg hb]
        clear hX0 hj HXt hXl
        have hXs:X.size=bl.length:=by rw [← hX];simp
        have hcat:=fun w=>run_string_add_sum (P:=Tryz.prog) w A X (by omega)
        obtain ⟨n,hn⟩:∃ n,dval (ds++bl)=n:=⟨_,rfl⟩
        obtain ⟨m,hm⟩:∃ m,(dgt n).length=m:=⟨_,rfl⟩
        have HN:=Lib.hid (fun W=>rNumber (A++X) (ds++bl) W (by rw [ByteArray.data_append,Array.toList_append,HAl.out,hX]) (fun b hb=>by
         rcases List.mem_append.1 hb with hb|hb
         ·exact HDs.out b hb
         ·exact HFs.out b ((trimR_sub fs).mem (by rw [HBl.out];exact hb))) (by rw [ByteArray.size_append];omega))
        obtain ⟨r1,r2⟩:=decT_ref HDs.out HFs.out bl HBl.out n m hn hm hz
        simp only [hn,hm] at HN
        by_cases h18:18 < bl.length
        ·have HR:=Lib.hid (r1 (Or.inl h18))
         have g1:decide ((18:Int) < X.size)=true:=decide_eq_true (by omega)
         clear r1 r2 hn hm hX hXs h18 hz
         go_wp2_with (first|(go_at_call 137;first|((with_reducible refine (HDA.out _).mono ?_);rintro e W2 ⟨rfl,rfl⟩)|((with_reducible refine (HDB.out (by trivial) _).mono ?_);rintro e W2 ⟨rfl,rfl⟩))|((with_reducible refine iat 49 ?_);(refine six rfl rfl (i:=0) rfl HA0.out ?_))|((with_reducible refine iat 70 ?_);(refine six rfl rfl (i:=j) (by first|rfl|exact hjc) HXj.out ?_))|((with_reducible refine iat 77 ?_);(refine sslh rfl rfl (j:=j) (by first|rfl|exact hjc) hjX ?_))|(go_at_call 138;(with_reducible refine (HN.out _).mono ?_);rintro e W2 ⟨p2,c2,rfl,hM2⟩;have HM1:=Lib.hid (HM.out.comp2 hM2);clear HM hM2;(try clear W1);rename World=>W1;have HM:=HM1;clear HM1;simp only [List.cons_append,List.nil_append] at HM)|(go_at_call 139;(with_reducible refine (HMk.out _ _ _ (row_sl (HM.out.get (k:=0) rfl))).mono ?_);rintro e W1 ⟨rfl,hb⟩;replace HM:=Lib.hid (HM.out.next hb);clear hb)|((with_reducible refine skip_op ?_ ?_);exact rfl)|(refine mS ?_;clear HM;intro W1 HM)|(refine hal HM rfl ?_;clear HM;intro g1 W1 HM))
         exact bodyPost_ret (res_box_tmp rfl HM.out 1 rfl rfl rfl rfl) rfl ⟨by rw [HR.out];rfl,HM.out.below⟩
        ·have g1:decide ((18:Int) < X.size)=false:=decide_eq_false (by omega)
         by_cases h34:34 < m
         ·have HR:=Lib.hid (r1 (Or.inr h34))
          have g2:decide ((34:Int) < m)=true:=decide_eq_true (by omega)
          have g2' : decide (34 < m)=true:=decide_eq_true h34
          clear r1 r2 hn hm hX hXs h18 hz h34
          go_wp2_with (first|(go_at_call 137;first|((with_reducible refine (HDA.out _).mono ?_);rintro e W2 ⟨rfl,rfl⟩)|((with_reducible refine (HDB.out (by trivial) _).mono ?_);rintro e W2 ⟨rfl,rfl⟩))|((with_reducible refine iat 49 ?_);(refine six rfl rfl (i:=0) rfl HA0.out ?_))|((with_reducible refine iat 70 ?_);(refine six rfl rfl (i:=j) (by first|rfl|exact hjc) HXj.out ?_))|((with_reducible refine iat 77 ?_);(refine sslh rfl rfl (j:=j) (by first|rfl|exact hjc) hjX ?_))|(go_at_call 138;(with_reducible refine (HN.out _).mono ?_);rintro e W2 ⟨p2,c2,rfl,hM2⟩;have HM1:=Lib.hid (HM.out.comp2 hM2);clear HM hM2;(try clear W1);rename World=>W1;have HM:=HM1;clear HM1;simp only [List.cons_append,List.nil_append] at HM)|(go_at_call 139;(with_reducible refine (HMk.out _ _ _ (row_sl (HM.out.get (k:=0) rfl))).mono ?_);rintro e W1 ⟨rfl,hb⟩;replace HM:=Lib.hid (HM.out.next hb);clear hb)|((with_reducible refine skip_op ?_ ?_);exact rfl)|(refine mS ?_;clear HM;intro W1 HM)|(refine hal HM rfl ?_;clear HM;intro g1 W1 HM))
          exact bodyPost_ret (res_box_tmp rfl HM.out 1 rfl rfl rfl rfl) rfl ⟨by rw [HR.out];rfl,HM.out.below⟩
         ·obtain ⟨hR,hlast⟩:=r2 (fun h=>h.elim h18 h34)
          have g2:decide ((34:Int) < m)=false:=decide_eq_false (by omega)
          have g2' : decide (34 < m)=false:=decide_eq_false h34
          have HMk:=Lib.hid (fun W p c h=>rMake p c m n bl.length W hm h (by omega) (by omega) hlast)
          obtain ⟨nh,hnh⟩:∃ x,n / 18446744073709551616=x:=⟨_,rfl⟩
          obtain ⟨nl,hnl⟩:∃ x,n % 18446744073709551616=x:=⟨_,rfl⟩
          have HV:=Lib.hid (show decCs n X.size=[.bool false,.int .u64 nh,.int .u64 nl,.int .i64 X.size] by rw [← hnh,← hnl];rfl)
          have HR:=Lib.hid (show decV (decT ds fs) = .tuple #[.agg #[.bool false,.int .u64 nh,.int .u64 nl,.int .i64 X.size],.int .i64 0] by rw [hR,← hXs];unfold decV;rw [HV.out])
          rw [← hXs] at HMk
          simp only [HV.out] at HMk
          clear r1 r2 hn hm hX hXs h18 hz h34 hnh hnl hlast hR HV
          go_wp2_with (first|(go_at_call 137;first|((with_reducible refine (HDA.out _).mono ?_);rintro e W2 ⟨rfl,rfl⟩)|((with_reducible refine (HDB.out (by trivial) _).mono ?_);rintro e W2 ⟨rfl,rfl⟩))|((with_reducible refine iat 49 ?_);(refine six rfl rfl (i:=0) rfl HA0.out ?_))|((with_reducible refine iat 70 ?_);(refine six rfl rfl (i:=j) (by first|rfl|exact hjc) HXj.out ?_))|((with_reducible refine iat 77 ?_);(refine sslh rfl rfl (j:=j) (by first|rfl|exact hjc) hjX ?_))|(go_at_call 138;(with_reducible refine (HN.out _).mono ?_);rintro e W2 ⟨p2,c2,rfl,hM2⟩;have HM1:=Lib.hid (HM.out.comp2 hM2);clear HM hM2;(try clear W1);rename World=>W1;have HM:=HM1;clear HM1;simp only [List.cons_append,List.nil_append] at HM)|(go_at_call 139;(with_reducible refine (HMk.out _ _ _ (row_sl (HM.out.get (k:=0) rfl))).mono ?_);rintro e W1 ⟨rfl,hb⟩;replace HM:=Lib.hid (HM.out.next hb);clear hb)|((with_reducible refine skip_op ?_ ?_);exact rfl)|(refine mS ?_;clear HM;intro W1 HM)|(refine hal HM rfl ?_;clear HM;intro g1 W1 HM))
          exact bodyPost_ret (res_box_tmp rfl HM.out 1 rfl rfl rfl rfl) rfl ⟨by rw [HR.out];rfl,HM.out.below⟩
set_option maxHeartbeats 8000000 in
theorem rdParse_pt (s A B:ByteArray) (ds fs:List UInt8) (w:World) (hs:s.data.toList=ds++46 :: fs) (hA:A.data.toList=ds) (hB:B.data.toList=fs) (hd0:ds≠[]) (hd:∀ b ∈ ds,dg b=true) (hf0:fs≠[]) (hf:∀ b ∈ fs,dg b=true) (hsz:s.size≤1000) :
  Calls Tryz.prog 107 #[.string s] w fun e w'=>e = .returned (decV (decT ds fs))∧Below w.heap.size w w':=by
 have HM:=Lib.hid (Mem.start w)
 have HDs:=Lib.hid hd
 have HFs:=Lib.hid hf
 obtain ⟨bl,hbl⟩:∃ x,Lib.trimRightB fs 48=x:=⟨_,rfl⟩
 have hb3:bl.length≤fs.length:=hbl▸(trimR_sub fs).length_le
 have HBl:=Lib.hid hbl
 obtain ⟨a0,ha0⟩:∃ b,ds[0]? = some b:=⟨_,List.getElem?_eq_getElem (List.length_pos_iff.2 hd0)⟩
 have HD0:=Lib.hid ha0
 have ha1:=dg_ne (hd a0 (List.mem_of_getElem? ha0))
 have q0:((a0.toNat:Int) == 45)=false:=by
  have:¬ a0.toNat=45:=fun e=>ha1.2.1 (UInt8.toNat_inj.1 e)
  simpa using fun e:(a0.toNat:Int)=45=>this (by omega)
 have HAl:=Lib.hid hA
 have hAs:A.size=ds.length:=by rw [← hA];simp
 have hBs:B.size=fs.length:=by rw [← hB];simp
 have hAs1:A.size≤ds.length:=by omega
 have hAs2:ds.length≤A.size:=by omega
 have hBs1:B.size≤fs.length:=by omega
 have hss:s.size=ds.length + (fs.length + 1):=by
  have:s.data.toList.length=s.size:=by simp
  rw [← this,hs];simp
 have HA0:=Lib.hid (show A.data.toList[0]? = some a0 by rw [hA];exact ha0)
 have HS0:=Lib.hid (show s.data.toList[0]? = some a0 by rw [hs,List.getElem?_append_left (List.length_pos_iff.2 hd0)];exact ha0)
 have HDA:=Lib.hid (fun W=>rDigits A W (by rw [hA];exact hd) (by rw [hA];exact hd0) (by omega))
 have HDB:=Lib.hid (fun (_:True) W=>rDigits B W (by rw [hB];exact hf) (by rw [hB];exact hf0) (by omega))
 obtain ⟨f1,f2,f3⟩:=str_full (s:=s) (by rw [hs];simp)
 obtain ⟨e5,e6,e7⟩:=str_full (s:=B) (by rw [hB];exact hf0)
 have HBt:=Lib.hid (show Lib.trimRightB B.data.toList 48=bl by rw [hB,hbl])
 have HAj:=Lib.hid (show ∀ i,i < ds.length→∃ b,s.data.toList[i]? = some b∧((b.toNat:Int) == 46)=false from fun i hi=>by
  obtain ⟨b,hb⟩:∃ b,ds[i]? = some b:=⟨_,List.getElem?_eq_getElem hi⟩
  have h2:=(dg_ne (hd b (List.mem_of_getElem? hb))).1
  have h3:¬ b.toNat=46:=fun e=>h2 (UInt8.toNat_inj.1 e)
  exact ⟨b,by rw [hs,List.getElem?_append_left hi];exact hb,by simpa using fun e:(b.toNat:Int)=46=>h3 (by omega)⟩)
 have HPt:=Lib.hid (show s.data.toList[ds.length]? = some 46 by rw [hs];simp)
 have HEA:=Lib.hid (show s.extract 0 ds.length=A from baL_eq (by rw [ext0,hs,hA,List.take_left]))
 have HEB:=Lib.hid (show s.extract (ds.length + 1) s.size=B from baL_eq (by
  rw [ext_list,hs,hB,hss,List.take_of_length_le (by simp;omega)]
  rw [show ds.length + 1=(ds++[46]).length by simp,show ds++46 :: fs=(ds++[46])++fs by simp,List.drop_left]))
 have HSS:=Lib.hid hss
 have hsum:ds.length + fs.length≤1000:=by omega
 clear hA hB hs hd0 hd hf0 hf hbl ha0 ha1 hss hAs hBs
 go_enter Tryz.func107,Tryz.ntmps107
 go_wp2_with (first|((with_reducible refine iat 13 ?_);(refine six rfl rfl (i:=0) rfl HS0.out ?_))|((with_reducible refine skip_op ?_ ?_);exact rfl)|(refine mS ?_;clear HM;intro W1 HM)|(refine hal (dst:=some 2) HM rfl ?_;clear HM;intro g2 W1 HM))
 go_loopw [7,5,6] (fun iv av bv wr=>∃ i:Nat,iv = .int .i64 i∧i≤ds.length∧av = .string s∧bv = .string ⟨#[]⟩∧Hid (Mem w wr [.box g2 34 [.bool false,.int .u64 0,.int .u64 0,.int .i64 0]])) (fun iv _ _ _=>ds.length - (intOf iv).toNat)
 case atStart=>exact ⟨0,rfl,Nat.zero_le _,rfl,rfl,HM⟩
 case round=>
  clear HM
  obtain ⟨i,rfl,hi,rfl,rfl,HM⟩:=hrel
  have his:i < s.size:=by have:=HSS.out;omega
  by_cases hlt:i < ds.length
  ·obtain ⟨b,hb,q3⟩:=HAj.out i hlt
   have HBi:=Lib.hid hb
   have hlt3:=Lib.hid (show i + 1≤ds.length from hlt)
   clear hb
   go_wp2_with (first|((with_reducible refine iat 28 ?_);(refine six rfl rfl rfl HBi.out ?_)))
   go_roundw
   case rel=>exact ⟨i + 1,by go_num,hlt3.out,rfl,rfl,HM⟩
   case measure=>have:=hlt3.out;simp [intOf];omega
  ·obtain rfl:i=ds.length:=by omega
   have q3:(((46:UInt8).toNat:Int) == 46)=true:=rfl
   have hdl1:ds.length≤s.size:=by have:=HSS.out;omega
   have hdl2:ds.length + 1≤s.size:=by have:=HSS.out;omega
   clear hlt
   go_wp2_with (first|((with_reducible refine iat 28 ?_);(refine six rfl rfl rfl HPt.out ?_)))
   refine wp_region_steps2 [(true,0),(true,1),(true,2),(true,3),(true,4),(true,5),(true,6),(true,7),(true,8)] (by kernel_rfl) (by kernel_rfl) rfl (by kernel_rfl) (fun _ _ _ _ _ h=>h) HM.out _ (.cons_cons _ (List.nil_sublist _)) ?_
   intro hNE W1 HM1;replace HM:=Lib.hid HM1;clear HM1
   have HS0:=Lib.hid (HM.out.sub (.cons_cons _ (List.nil_sublist _)))
   simp only [wpSteps,List.getElem?_cons_succ,List.getElem?_cons_zero]
   (repeat (first|((with_reducible refine wpQuiet_nil ?_);(try dsimp only))|((with_reducible refine qat 32 ?_);(refine qsslh rfl rfl hdl1 ?_))|((with_reducible refine qat 36 ?_);(refine qsslf rfl rfl hdl2 ?_))|go_big_quiet_step (fail)|quiet_step (fail)))
   clear HS0 hNE
   rw [HEA.out,HEB.out]
   by_cases hz:1 < ds.length∧ds[0]? = some 48
   ·have HR:=Lib.hid (show decT ds fs=((0,0),5) by unfold decT;rw [if_pos hz])
    obtain ⟨hz1,hz2⟩:=hz
    have hz3:a0=48:=by rw [HD0.out] at hz2;exact Option.some.inj hz2
    have d1:decide ((1:Int) < A.size)=true:=decide_eq_true (by omega)
    have d2:((a0.toNat:Int) == 48)=true:=by rw [hz3];rfl
    clear hz2 hz3 hz1
    go_wp2_with (first|(go_at_call 137;first|((with_reducible refine (HDA.out _).mono ?_);rintro e W2 ⟨rfl,rfl⟩)|((with_reducible refine (HDB.out (by trivial) _).mono ?_);rintro e W2 ⟨rfl,rfl⟩))|((with_reducible refine iat 49 ?_);(refine six rfl rfl (i:=0) rfl HA0.out ?_))|((with_reducible refine iat 70 ?_);(refine six rfl rfl (i:=j) (by first|rfl|exact hjc) HXj.out ?_))|((with_reducible refine iat 77 ?_);(refine sslh rfl rfl (j:=j) (by first|rfl|exact hjc) hjX ?_))|(go_at_call 138;(with_reducible refine (HN.out _).mono ?_);rintro e W2 ⟨p2,c2,rfl,hM2⟩;have HM1:=Lib.hid (HM.out.comp2 hM2);clear HM hM2;(try clear W1);rename World=>W1;have HM:=HM1;clear HM1;simp only [List.cons_append,List.nil_append] at HM)|(go_at_call 139;(with_reducible refine (HMk.out _ _ _ (row_sl (HM.out.get (k:=0) rfl))).mono ?_);rintro e W1 ⟨rfl,hb⟩;replace HM:=Lib.hid (HM.out.next hb);clear hb)|((with_reducible refine skip_op ?_ ?_);exact rfl)|(refine mS ?_;clear HM;intro W1 HM)|(refine hal HM rfl ?_;clear HM;intro g1 W1 HM))
    exact bodyPost_ret (res_box_tmp rfl HM.out 0 rfl rfl rfl rfl) rfl ⟨by rw [HR.out];rfl,HM.out.below⟩
   ·have q1:1 < A.size→((a0.toNat:Int) == 48)=false:=fun h1=>by
     simpa using fun e:(a0.toNat:Int)=48=>hz ⟨by omega,by rw [HD0.out];exact congrArg some (UInt8.toNat_inj.1 (by show a0.toNat=48;omega))⟩
    rcases Nat.lt_or_ge 1 A.size with hs1|hs1
    ·have d2:=q1 hs1
     have d1:decide ((1:Int) < A.size)=true:=decide_eq_true (by omega)
     clear q1
     go_wp2_with (first|(go_at_call 137;first|((with_reducible refine (HDA.out _).mono ?_);rintro e W2 ⟨rfl,rfl⟩)|((with_reducible refine (HDB.out (by trivial) _).mono ?_);rintro e W2 ⟨rfl,rfl⟩))|((with_reducible refine iat 49 ?_);(refine six rfl rfl (i:=0) rfl HA0.out ?_))|((with_reducible refine iat 70 ?_);(refine six rfl rfl (i:=j) (by first|rfl|exact hjc) HXj.out ?_))|((with_reducible refine iat 77 ?_);(refine sslh rfl rfl (j:=j) (by first|rfl|exact hjc) hjX ?_))|(go_at_call 138;(with_reducible refine (HN.out _).mono ?_);rintro e W2 ⟨p2,c2,rfl,hM2⟩;have HM1:=Lib.hid (HM.out.comp2 hM2);clear HM hM2;(try clear W1);rename World=>W1;have HM:=HM1;clear HM1;simp only [List.cons_append,List.nil_append] at HM)|(go_at_call 139;(with_reducible refine (HMk.out _ _ _ (row_sl (HM.out.get (k:=0) rfl))).mono ?_);rintro e W1 ⟨rfl,hb⟩;replace HM:=Lib.hid (HM.out.next hb);clear hb)|((with_reducible refine skip_op ?_ ?_);exact rfl)|(refine mS ?_;clear HM;intro W1 HM)|(refine hal HM rfl ?_;clear HM;intro g1 W1 HM))
     go_loopw [6] (fun xv wr=>∃ X:ByteArray,xv = .string X∧Hid (Lib.trimRightB X.data.toList 48=bl)∧X.size≤1000∧Hid (Mem w wr [.box g2 34 [.bool false,.int .u64 0,.int .u64 0,.int .i64 0]])) (fun xv _=>strN xv)
     case atStart=>exact ⟨B,rfl,HBt,by omega,HM⟩
     case round=>
      clear HM
      obtain ⟨X,rfl,HXt,hX1,HM⟩:=hrel
      rcases List.eq_nil_or_concat X.data.toList with hX0 | ⟨l,b,hX0⟩
      ·obtain ⟨e1,e2,-⟩:=str_empty hX0
       have hX:X.data.toList=bl:=by rw [← HXt.out,hX0];rfl
       clear hX0 hX1 HXt
       have hXs:X.size=bl.length:=by rw [← hX];simp
       have hcat:=fun w=>run_string_add_sum (P:=Tryz.prog) w A X (by omega)
       obtain ⟨n,hn⟩:∃ n,dval (ds++bl)=n:=⟨_,rfl⟩
       obtain ⟨m,hm⟩:∃ m,(dgt n).length=m:=⟨_,rfl⟩
       have HN:=Lib.hid (fun W=>rNumber (A++X) (ds++bl) W (by rw [ByteArray.data_append,Array.toList_append,HAl.out,hX]) (fun b hb=>by
        rcases List.mem_append.1 hb with hb|hb
        ·exact HDs.out b hb
        ·exact HFs.out b ((trimR_sub fs).mem (by rw [HBl.out];exact hb))) (by rw [ByteArray.size_append];omega))
       obtain ⟨r1,r2⟩:=decT_ref HDs.out HFs.out bl HBl.out n m hn hm hz
       simp only [hn,hm] at HN
       by_cases h18:18 < bl.length
       ·have HR:=Lib.hid (r1 (Or.inl h18))
        have g1:decide ((18:Int) < X.size)=true:=decide_eq_true (by omega)
        clear r1 r2 hn hm hX hXs h18 hz
        go_wp2_with (first|(go_at_call 137;first|((with_reducible refine (HDA.out _).mono ?_);rintro e W2 ⟨rfl,rfl⟩)|((with_reducible refine (HDB.out (by trivial) _).mono ?_);rintro e W2 ⟨rfl,rfl⟩))|((with_reducible refine iat 49 ?_);(refine six rfl rfl (i:=0) rfl HA0.out ?_))|((with_reducible refine iat 70 ?_);(refine six rfl rfl (i:=j) (by first|rfl|exact hjc) HXj.out ?_))|((with_reducible refine iat 77 ?_);(refine sslh rfl rfl (j:=j) (by first|rfl|exact hjc) hjX ?_))|(go_at_call 138;(with_reducible refine (HN.out _).mono ?_);rintro e W2 ⟨p2,c2,rfl,hM2⟩;have HM1:=Lib.hid (HM.out.comp2 hM2);clear HM hM2;(try clear W1);rename World=>W1;have HM:=HM1;clear HM1;simp only [List.cons_append,List.nil_append] at HM)|(go_at_call 139;(with_reducible refine (HMk.out _ _ _ (row_sl (HM.out.get (k:=0) rfl))).mono ?_);rintro e W1 ⟨rfl,hb⟩;replace HM:=Lib.hid (HM.out.next hb);clear hb)|((with_reducible refine skip_op ?_ ?_);exact rfl)|(refine mS ?_;clear HM;intro W1 HM)|(refine hal HM rfl ?_;clear HM;intro g1 W1 HM))
        exact bodyPost_ret (res_box_tmp rfl HM.out 1 rfl rfl rfl rfl) rfl ⟨by rw [HR.out];rfl,HM.out.below⟩
       ·have g1:decide ((18:Int) < X.size)=false:=decide_eq_false (by omega)
        by_cases h34:34 < m
        ·have HR:=Lib.hid (r1 (Or.inr h34))
         have g2:decide ((34:Int) < m)=true:=decide_eq_true (by omega)
         have g2' : decide (34 < m)=true:=decide_eq_true h34
         clear r1 r2 hn hm hX hXs h18 hz h34
         go_wp2_with (first|(go_at_call 137;first|((with_reducible refine (HDA.out _).mono ?_);rintro e W2 ⟨rfl,rfl⟩)|((with_reducible refine (HDB.out (by trivial) _).mono ?_);rintro e W2 ⟨rfl,rfl⟩))|((with_reducible refine iat 49 ?_);(refine six rfl rfl (i:=0) rfl HA0.out ?_))|((with_reducible refine iat 70 ?_);(refine six rfl rfl (i:=j) (by first|rfl|exact hjc) HXj.out ?_))|((with_reducible refine iat 77 ?_);(refine sslh rfl rfl (j:=j) (by first|rfl|exact hjc) hjX ?_))|(go_at_call 138;(with_reducible refine (HN.out _).mono ?_);rintro e W2 ⟨p2,c2,rfl,hM2⟩;have HM1:=Lib.hid (HM.out.comp2 hM2);clear HM hM2;(try clear W1);rename World=>W1;have HM:=HM1;clear HM1;simp only [List.cons_append,List.nil_append] at HM)|(go_at_call 139;(with_reducible refine (HMk.out _ _ _ (row_sl (HM.out.get (k:=0) rfl))).mono ?_);rintro e W1 ⟨rfl,hb⟩;replace HM:=Lib.hid (HM.out.next hb);clear hb)|((with_reducible refine skip_op ?_ ?_);exact rfl)|(refine mS ?_;clear HM;intro W1 HM)|(refine hal HM rfl ?_;clear HM;intro g1 W1 HM))
         exact bodyPost_ret (res_box_tmp rfl HM.out 1 rfl rfl rfl rfl) rfl ⟨by rw [HR.out];rfl,HM.out.below⟩
        ·obtain ⟨hR,hlast⟩:=r2 (fun h=>h.elim h18 h34)
         have g2:decide ((34:Int) < m)=false:=decide_eq_false (by omega)
         have g2' : decide (34 < m)=false:=decide_eq_false h34
         have HMk:=Lib.hid (fun W p c h=>rMake p c m n bl.length W hm h (by omega) (by omega) hlast)
         obtain ⟨nh,hnh⟩:∃ x,n / 18446744073709551616=x:=⟨_,rfl⟩
         obtain ⟨nl,hnl⟩:∃ x,n % 18446744073709551616=x:=⟨_,rfl⟩
         have HV:=Lib.hid (show decCs n X.size=[.bool false,.int .u64 nh,.int .u64 nl,.int .i64 X.size] by rw [← hnh,← hnl];rfl)
         have HR:=Lib.hid (show decV (decT ds fs) = .tuple #[.agg #[.bool false,.int .u64 nh,.int .u64 nl,.int .i64 X.size],.int .i64 0] by rw [hR,← hXs];unfold decV;rw [HV.out])
         rw [← hXs] at HMk
         simp only [HV.out] at HMk
         clear r1 r2 hn hm hX hXs h18 hz h34 hnh hnl hlast hR HV
         go_wp2_with (first|(go_at_call 137;first|((with_reducible refine (HDA.out _).mono ?_);rintro e W2 ⟨rfl,rfl⟩)|((with_reducible refine (HDB.out (by trivial) _).mono ?_);rintro e W2 ⟨rfl,rfl⟩))|((with_reducible refine iat 49 ?_);(refine six rfl rfl (i:=0) rfl HA0.out ?_))|((with_reducible refine iat 70 ?_);(refine six rfl rfl (i:=j) (by first|rfl|exact hjc) HXj.out ?_))|((with_reducible refine iat 77 ?_);(refine sslh rfl rfl (j:=j) (by first|rfl|exact hjc) hjX ?_))|(go_at_call 138;(with_reducible refine (HN.out _).mono ?_);rintro e W2 ⟨p2,c2,rfl,hM2⟩;have HM1:=Lib.hid (HM.out.comp2 hM2);clear HM hM2;(try clear W1);rename World=>W1;have HM:=HM1;clear HM1;simp only [List.cons_append,List.nil_append] at HM)|(go_at_call 139;(with_reducible refine (HMk.out _ _ _ (row_sl (HM.out.get (k:=0) rfl))).mono ?_);rintro e W1 ⟨rfl,hb⟩;replace HM:=Lib.hid (HM.out.next hb);clear hb)|((with_reducible refine skip_op ?_ ?_);exact rfl)|(refine mS ?_;clear HM;intro W1 HM)|(refine hal HM rfl ?_;clear HM;intro g1 W1 HM))
         exact bodyPost_ret (res_box_tmp rfl HM.out 1 rfl rfl rfl rfl) rfl ⟨by rw [HR.out];rfl,HM.out.below⟩
      ·rw [List.concat_eq_append] at hX0
       obtain ⟨e1,e2,e3⟩:=str_full (s:=X) (by rw [hX0];simp)
       have hXl : X.size = l.length + 1 := by have : X.data.toList.length = X.size := by simp
                                              rw [← this,hX0];simp
       obtain ⟨j,hj⟩:∃ j,l.length=j:=⟨_,rfl⟩
       have HXj:=Lib.hid (show X.data.toList[j]? = some b by rw [hX0,← hj];simp)
       have hjc:(X.size:Int) - 1=(j:Int):=by omega
       have hjX:j≤X.size:=by omega
       have hjX2:X.size≤j + 1:=by omega
       by_cases hb:b=48
       ·subst hb
        have q4:(((48:UInt8).toNat:Int) == 48)=true:=rfl
        have HX2:=Lib.hid (show Lib.trimRightB (X.extract 0 j).data.toList 48=bl by rw [ext0,hX0,← hj,List.take_left,← HXt.out,hX0,trimR_snoc,if_pos rfl])
        have HX3:=Lib.hid (show (X.extract 0 j).size < X.size by simp;omega)
        clear hX0 hj HXt hXl
        go_wp2_with (first|(go_at_call 137;first|((with_reducible refine (HDA.out _).mono ?_);rintro e W2 ⟨rfl,rfl⟩)|((with_reducible refine (HDB.out (by trivial) _).mono ?_);rintro e W2 ⟨rfl,rfl⟩))|((with_reducible refine iat 49 ?_);(refine six rfl rfl (i:=0) rfl HA0.out ?_))|((with_reducible refine iat 70 ?_);(refine six rfl rfl (i:=j) (by first|rfl|exact hjc) HXj.out ?_))|((with_reducible refine iat 77 ?_);(refine sslh rfl rfl (j:=j) (by first|rfl|exact hjc) hjX ?_))|(go_at_call 138;(with_reducible refine (HN.out _).mono ?_);rintro e W2 ⟨p2,c2,rfl,hM2⟩;have HM1:=Lib.hid (HM.out.comp2 hM2);clear HM hM2;(try clear W1);rename World=>W1;have HM:=HM1;clear HM1;simp only [List.cons_append,List.nil_append] at HM)|(go_at_call 139;(with_reducible refine (HMk.out _ _ _ (row_sl (HM.out.get (k:=0) rfl))).mono ?_);rintro e W1 ⟨rfl,hb⟩;replace HM:=Lib.hid (HM.out.next hb);clear hb)|((with_reducible refine skip_op ?_ ?_);exact rfl)|(refine mS ?_;clear HM;intro W1 HM)|(refine hal HM rfl ?_;clear HM;intro g1 W1 HM))
        go_roundw
        case rel=>exact ⟨X.extract 0 j,rfl,HX2,by have:=HX3.out;omega,HM⟩
        case measure=>exact HX3.out
       ·have hb48:¬ b.toNat=48:=fun e=>hb (UInt8.toNat_inj.1 e)
        have q4:((b.toNat:Int) == 48)=false:=by simpa using fun e:(b.toNat:Int)=48=>hb48 (by omega)
        have hX:X.data.toList=bl:=by rw [← HXt.out,hX0,trimR_snoc,if_neg hb]
        clear hX0 hj HXt hXl
        have hXs:X.size=bl.length:=by rw [← hX];simp
        have hcat:=fun w=>run_string_add_sum (P:=Tryz.prog) w A X (by omega)
        obtain ⟨n,hn⟩:∃ n,dval (ds++bl)=n:=⟨_,rfl⟩
        obtain ⟨m,hm⟩:∃ m,(dgt n).length=m:=⟨_,rfl⟩
        have HN:=Lib.hid (fun W=>rNumber (A++X) (ds++bl) W (by rw [ByteArray.data_append,Array.toList_append,HAl.out,hX]) (fun b hb=>by
         rcases List.mem_append.1 hb with hb|hb
         ·exact HDs.out b hb
         ·exact HFs.out b ((trimR_sub fs).mem (by rw [HBl.out];exact hb))) (by rw [ByteArray.size_append];omega))
        obtain ⟨r1,r2⟩:=decT_ref HDs.out HFs.out bl HBl.out n m hn hm hz
        simp only [hn,hm] at HN
        by_cases h18:18 < bl.length
        ·have HR:=Lib.hid (r1 (Or.inl h18))
         have g1:decide ((18:Int) < X.size)=true:=decide_eq_true (by omega)
         clear r1 r2 hn hm hX hXs h18 hz
         go_wp2_with (first|(go_at_call 137;first|((with_reducible refine (HDA.out _).mono ?_);rintro e W2 ⟨rfl,rfl⟩)|((with_reducible refine (HDB.out (by trivial) _).mono ?_);rintro e W2 ⟨rfl,rfl⟩))|((with_reducible refine iat 49 ?_);(refine six rfl rfl (i:=0) rfl HA0.out ?_))|((with_reducible refine iat 70 ?_);(refine six rfl rfl (i:=j) (by first|rfl|exact hjc) HXj.out ?_))|((with_reducible refine iat 77 ?_);(refine sslh rfl rfl (j:=j) (by first|rfl|exact hjc) hjX ?_))|(go_at_call 138;(with_reducible refine (HN.out _).mono ?_);rintro e W2 ⟨p2,c2,rfl,hM2⟩;have HM1:=Lib.hid (HM.out.comp2 hM2);clear HM hM2;(try clear W1);rename World=>W1;have HM:=HM1;clear HM1;simp only [List.cons_append,List.nil_append] at HM)|(go_at_call 139;(with_reducible refine (HMk.out _ _ _ (row_sl (HM.out.get (k:=0) rfl))).mono ?_);rintro e W1 ⟨rfl,hb⟩;replace HM:=Lib.hid (HM.out.next hb);clear hb)|((with_reducible refine skip_op ?_ ?_);exact rfl)|(refine mS ?_;clear HM;intro W1 HM)|(refine hal HM rfl ?_;clear HM;intro g1 W1 HM))
         exact bodyPost_ret (res_box_tmp rfl HM.out 1 rfl rfl rfl rfl) rfl ⟨by rw [HR.out];rfl,HM.out.below⟩
        ·have g1:decide ((18:Int) < X.size)=false:=decide_eq_false (by omega)
         by_cases h34:34 < m
         ·have HR:=Lib.hid (r1 (Or.inr h34))
          have g2:decide ((34:Int) < m)=true:=decide_eq_true (by omega)
          have g2' : decide (34 < m)=true:=decide_eq_true h34
          clear r1 r2 hn hm hX hXs h18 hz h34
          go_wp2_with (first|(go_at_call 137;first|((with_reducible refine (HDA.out _).mono ?_);rintro e W2 ⟨rfl,rfl⟩)|((with_reducible refine (HDB.out (by trivial) _).mono ?_);rintro e W2 ⟨rfl,rfl⟩))|((with_reducible refine iat 49 ?_);(refine six rfl rfl (i:=0) rfl HA0.out ?_))|((with_reducible refine iat 70 ?_);(refine six rfl rfl (i:=j) (by first|rfl|exact hjc) HXj.out ?_))|((with_reducible refine iat 77 ?_);(refine sslh rfl rfl (j:=j) (by first|rfl|exact hjc) hjX ?_))|(go_at_call 138;(with_reducible refine (HN.out _).mono ?_);rintro e W2 ⟨p2,c2,rfl,hM2⟩;have HM1:=Lib.hid (HM.out.comp2 hM2);clear HM hM2;(try clear W1);rename World=>W1;have HM:=HM1;clear HM1;simp only [List.cons_append,List.nil_append] at HM)|(go_at_call 139;(with_reducible refine (HMk.out _ _ _ (row_sl (HM.out.get (k:=0) rfl))).mono ?_);rintro e W1 ⟨rfl,hb⟩;replace HM:=Lib.hid (HM.out.next hb);clear hb)|((with_reducible refine skip_op ?_ ?_);exact rfl)|(refine mS ?_;clear HM;intro W1 HM)|(refine hal HM rfl ?_;clear HM;intro g1 W1 HM))
          exact bodyPost_ret (res_box_tmp rfl HM.out 1 rfl rfl rfl rfl) rfl ⟨by rw [HR.out];rfl,HM.out.below⟩
         ·obtain ⟨hR,hlast⟩:=r2 (fun h=>h.elim h18 h34)
          have g2:decide ((34:Int) < m)=false:=decide_eq_false (by omega)
          have g2' : decide (34 < m)=false:=decide_eq_false h34
          have HMk:=Lib.hid (fun W p c h=>rMake p c m n bl.length W hm h (by omega) (by omega) hlast)
          obtain ⟨nh,hnh⟩:∃ x,n / 18446744073709551616=x:=⟨_,rfl⟩
          obtain ⟨nl,hnl⟩:∃ x,n % 18446744073709551616=x:=⟨_,rfl⟩
          have HV:=Lib.hid (show decCs n X.size=[.bool false,.int .u64 nh,.int .u64 nl,.int .i64 X.size] by rw [← hnh,← hnl];rfl)
          have HR:=Lib.hid (show decV (decT ds fs) = .tuple #[.agg #[.bool false,.int .u64 nh,.int .u64 nl,.int .i64 X.size],.int .i64 0] by rw [hR,← hXs];unfold decV;rw [HV.out])
          rw [← hXs] at HMk
          simp only [HV.out] at HMk
          clear r1 r2 hn hm hX hXs h18 hz h34 hnh hnl hlast hR HV
          go_wp2_with (first|(go_at_call 137;first|((with_reducible refine (HDA.out _).mono ?_);rintro e W2 ⟨rfl,rfl⟩)|((with_reducible refine (HDB.out (by trivial) _).mono ?_);rintro e W2 ⟨rfl,rfl⟩))|((with_reducible refine iat 49 ?_);(refine six rfl rfl (i:=0) rfl HA0.out ?_))|((with_reducible refine iat 70 ?_);(refine six rfl rfl (i:=j) (by first|rfl|exact hjc) HXj.out ?_))|((with_reducible refine iat 77 ?_);(refine sslh rfl rfl (j:=j) (by first|rfl|exact hjc) hjX ?_))|(go_at_call 138;(with_reducible refine (HN.out _).mono ?_);rintro e W2 ⟨p2,c2,rfl,hM2⟩;have HM1:=Lib.hid (HM.out.comp2 hM2);clear HM hM2;(try clear W1);rename World=>W1;have HM:=HM1;clear HM1;simp only [List.cons_append,List.nil_append] at HM)|(go_at_call 139;(with_reducible refine (HMk.out _ _ _ (row_sl (HM.out.get (k:=0) rfl))).mono ?_);rintro e W1 ⟨rfl,hb⟩;replace HM:=Lib.hid (HM.out.next hb);clear hb)|((with_reducible refine skip_op ?_ ?_);exact rfl)|(refine mS ?_;clear HM;intro W1 HM)|(refine hal HM rfl ?_;clear HM;intro g1 W1 HM))
          exact bodyPost_ret (res_box_tmp rfl HM.out 1 rfl rfl rfl rfl) rfl ⟨by rw [HR.out];rfl,HM.out.below⟩
    ·have d1:decide ((1:Int) < A.size)=false:=decide_eq_false (by omega)
     clear q1
     go_wp2_with (first|(go_at_call 137;first|((with_reducible refine (HDA.out _).mono ?_);rintro e W2 ⟨rfl,rfl⟩)|((with_reducible refine (HDB.out (by trivial) _).mono ?_);rintro e W2 ⟨rfl,rfl⟩))|((with_reducible refine iat 49 ?_);(refine six rfl rfl (i:=0) rfl HA0.out ?_))|((with_reducible refine iat 70 ?_);(refine six rfl rfl (i:=j) (by first|rfl|exact hjc) HXj.out ?_))|((with_reducible refine iat 77 ?_);(refine sslh rfl rfl (j:=j) (by first|rfl|exact hjc) hjX ?_))|(go_at_call 138;(with_reducible refine (HN.out _).mono ?_);rintro e W2 ⟨p2,c2,rfl,hM2⟩;have HM1:=Lib.hid (HM.out.comp2 hM2);clear HM hM2;(try clear W1);rename World=>W1;have HM:=HM1;clear HM1;simp only [List.cons_append,List.nil_append] at HM)|(go_at_call 139;(with_reducible refine (HMk.out _ _ _ (row_sl (HM.out.get (k:=0) rfl))).mono ?_);rintro e W1 ⟨rfl,hb⟩;replace HM:=Lib.hid (HM.out.next hb);clear hb)|((with_reducible refine skip_op ?_ ?_);exact rfl)|(refine mS ?_;clear HM;intro W1 HM)|(refine hal HM rfl ?_;clear HM;intro g1 W1 HM))
     go_loopw [6] (fun xv wr=>∃ X:ByteArray,xv = .string X∧Hid (Lib.trimRightB X.data.toList 48=bl)∧X.size≤1000∧Hid (Mem w wr [.box g2 34 [.bool false,.int .u64 0,.int .u64 0,.int .i64 0]])) (fun xv _=>strN xv)
     case atStart=>exact ⟨B,rfl,HBt,by omega,HM⟩
     case round=>
      clear HM
      obtain ⟨X,rfl,HXt,hX1,HM⟩:=hrel
      rcases List.eq_nil_or_concat X.data.toList with hX0 | ⟨l,b,hX0⟩
      ·obtain ⟨e1,e2,-⟩:=str_empty hX0
       have hX:X.data.toList=bl:=by rw [← HXt.out,hX0];rfl
       clear hX0 hX1 HXt
       have hXs:X.size=bl.length:=by rw [← hX];simp
       have hcat:=fun w=>run_string_add_sum (P:=Tryz.prog) w A X (by omega)
       obtain ⟨n,hn⟩:∃ n,dval (ds++bl)=n:=⟨_,rfl⟩
       obtain ⟨m,hm⟩:∃ m,(dgt n).length=m:=⟨_,rfl⟩
       have HN:=Lib.hid (fun W=>rNumber (A++X) (ds++bl) W (by rw [ByteArray.data_append,Array.toList_append,HAl.out,hX]) (fun b hb=>by
        rcases List.mem_append.1 hb with hb|hb
        ·exact HDs.out b hb
        ·exact HFs.out b ((trimR_sub fs).mem (by rw [HBl.out];exact hb))) (by rw [ByteArray.size_append];omega))
       obtain ⟨r1,r2⟩:=decT_ref HDs.out HFs.out bl HBl.out n m hn hm hz
       simp only [hn,hm] at HN
       by_cases h18:18 < bl.length
       ·have HR:=Lib.hid (r1 (Or.inl h18))
        have g1:decide ((18:Int) < X.size)=true:=decide_eq_true (by omega)
        clear r1 r2 hn hm hX hXs h18 hz
        go_wp2_with (first|(go_at_call 137;first|((with_reducible refine (HDA.out _).mono ?_);rintro e W2 ⟨rfl,rfl⟩)|((with_reducible refine (HDB.out (by trivial) _).mono ?_);rintro e W2 ⟨rfl,rfl⟩))|((with_reducible refine iat 49 ?_);(refine six rfl rfl (i:=0) rfl HA0.out ?_))|((with_reducible refine iat 70 ?_);(refine six rfl rfl (i:=j) (by first|rfl|exact hjc) HXj.out ?_))|((with_reducible refine iat 77 ?_);(refine sslh rfl rfl (j:=j) (by first|rfl|exact hjc) hjX ?_))|(go_at_call 138;(with_reducible refine (HN.out _).mono ?_);rintro e W2 ⟨p2,c2,rfl,hM2⟩;have HM1:=Lib.hid (HM.out.comp2 hM2);clear HM hM2;(try clear W1);rename World=>W1;have HM:=HM1;clear HM1;simp only [List.cons_append,List.nil_append] at HM)|(go_at_call 139;(with_reducible refine (HMk.out _ _ _ (row_sl (HM.out.get (k:=0) rfl))).mono ?_);rintro e W1 ⟨rfl,hb⟩;replace HM:=Lib.hid (HM.out.next hb);clear hb)|((with_reducible refine skip_op ?_ ?_);exact rfl)|(refine mS ?_;clear HM;intro W1 HM)|(refine hal HM rfl ?_;clear HM;intro g1 W1 HM))
        exact bodyPost_ret (res_box_tmp rfl HM.out 1 rfl rfl rfl rfl) rfl ⟨by rw [HR.out];rfl,HM.out.below⟩
       ·have g1:decide ((18:Int) < X.size)=false:=decide_eq_false (by omega)
        by_cases h34:34 < m
        ·have HR:=Lib.hid (r1 (Or.inr h34))
         have g2:decide ((34:Int) < m)=true:=decide_eq_true (by omega)
         have g2' : decide (34 < m)=true:=decide_eq_true h34
         clear r1 r2 hn hm hX hXs h18 hz h34
         go_wp2_with (first|(go_at_call 137;first|((with_reducible refine (HDA.out _).mono ?_);rintro e W2 ⟨rfl,rfl⟩)|((with_reducible refine (HDB.out (by trivial) _).mono ?_);rintro e W2 ⟨rfl,rfl⟩))|((with_reducible refine iat 49 ?_);(refine six rfl rfl (i:=0) rfl HA0.out ?_))|((with_reducible refine iat 70 ?_);(refine six rfl rfl (i:=j) (by first|rfl|exact hjc) HXj.out ?_))|((with_reducible refine iat 77 ?_);(refine sslh rfl rfl (j:=j) (by first|rfl|exact hjc) hjX ?_))|(go_at_call 138;(with_reducible refine (HN.out _).mono ?_);rintro e W2 ⟨p2,c2,rfl,hM2⟩;have HM1:=Lib.hid (HM.out.comp2 hM2);clear HM hM2;(try clear W1);rename World=>W1;have HM:=HM1;clear HM1;simp only [List.cons_append,List.nil_append] at HM)|(go_at_call 139;(with_reducible refine (HMk.out _ _ _ (row_sl (HM.out.get (k:=0) rfl))).mono ?_);rintro e W1 ⟨rfl,hb⟩;replace HM:=Lib.hid (HM.out.next hb);clear hb)|((with_reducible refine skip_op ?_ ?_);exact rfl)|(refine mS ?_;clear HM;intro W1 HM)|(refine hal HM rfl ?_;clear HM;intro g1 W1 HM))
         exact bodyPost_ret (res_box_tmp rfl HM.out 1 rfl rfl rfl rfl) rfl ⟨by rw [HR.out];rfl,HM.out.below⟩
        ·obtain ⟨hR,hlast⟩:=r2 (fun h=>h.elim h18 h34)
         have g2:decide ((34:Int) < m)=false:=decide_eq_false (by omega)
         have g2' : decide (34 < m)=false:=decide_eq_false h34
         have HMk:=Lib.hid (fun W p c h=>rMake p c m n bl.length W hm h (by omega) (by omega) hlast)
         obtain ⟨nh,hnh⟩:∃ x,n / 18446744073709551616=x:=⟨_,rfl⟩
         obtain ⟨nl,hnl⟩:∃ x,n % 18446744073709551616=x:=⟨_,rfl⟩
         have HV:=Lib.hid (show decCs n X.size=[.bool false,.int .u64 nh,.int .u64 nl,.int .i64 X.size] by rw [← hnh,← hnl];rfl)
         have HR:=Lib.hid (show decV (decT ds fs) = .tuple #[.agg #[.bool false,.int .u64 nh,.int .u64 nl,.int .i64 X.size],.int .i64 0] by rw [hR,← hXs];unfold decV;rw [HV.out])
         rw [← hXs] at HMk
         simp only [HV.out] at HMk
         clear r1 r2 hn hm hX hXs h18 hz h34 hnh hnl hlast hR HV
         go_wp2_with (first|(go_at_call 137;first|((with_reducible refine (HDA.out _).mono ?_);rintro e W2 ⟨rfl,rfl⟩)|((with_reducible refine (HDB.out (by trivial) _).mono ?_);rintro e W2 ⟨rfl,rfl⟩))|((with_reducible refine iat 49 ?_);(refine six rfl rfl (i:=0) rfl HA0.out ?_))|((with_reducible refine iat 70 ?_);(refine six rfl rfl (i:=j) (by first|rfl|exact hjc) HXj.out ?_))|((with_reducible refine iat 77 ?_);(refine sslh rfl rfl (j:=j) (by first|rfl|exact hjc) hjX ?_))|(go_at_call 138;(with_reducible refine (HN.out _).mono ?_);rintro e W2 ⟨p2,c2,rfl,hM2⟩;have HM1:=Lib.hid (HM.out.comp2 hM2);clear HM hM2;(try clear W1);rename World=>W1;have HM:=HM1;clear HM1;simp only [List.cons_append,List.nil_append] at HM)|(go_at_call 139;(with_reducible refine (HMk.out _ _ _ (row_sl (HM.out.get (k:=0) rfl))).mono ?_);rintro e W1 ⟨rfl,hb⟩;replace HM:=Lib.hid (HM.out.next hb);clear hb)|((with_reducible refine skip_op ?_ ?_);exact rfl)|(refine mS ?_;clear HM;intro W1 HM)|(refine hal HM rfl ?_;clear HM;intro g1 W1 HM))
         exact bodyPost_ret (res_box_tmp rfl HM.out 1 rfl rfl rfl rfl) rfl ⟨by rw [HR.out];rfl,HM.out.below⟩
      ·rw [List.concat_eq_append] at hX0
       obtain ⟨e1,e2,e3⟩:=str_full (s:=X) (by rw [hX0];simp)
       have hXl : X.size = l.length + 1 := by have : X.data.toList.length = X.size := by simp
                                              rw [← this,hX0];simp
       obtain ⟨j,hj⟩:∃ j,l.length=j:=⟨_,rfl⟩
       have HXj:=Lib.hid (show X.data.toList[j]? = some b by rw [hX0,← hj];simp)
       have hjc:(X.size:Int) - 1=(j:Int):=by omega
       have hjX:j≤X.size:=by omega
       have hjX2:X.size≤j + 1:=by omega
       by_cases hb:b=48
       ·subst hb
        have q4:(((48:UInt8).toNat:Int) == 48)=true:=rfl
        have HX2:=Lib.hid (show Lib.trimRightB (X.extract 0 j).data.toList 48=bl by rw [ext0,hX0,← hj,List.take_left,← HXt.out,hX0,trimR_snoc,if_pos rfl])
        have HX3:=Lib.hid (show (X.extract 0 j).size < X.size by simp;omega)
        clear hX0 hj HXt hXl
        go_wp2_with (first|(go_at_call 137;first|((with_reducible refine (HDA.out _).mono ?_);rintro e W2 ⟨rfl,rfl⟩)|((with_reducible refine (HDB.out (by trivial) _).mono ?_);rintro e W2 ⟨rfl,rfl⟩))|((with_reducible refine iat 49 ?_);(refine six rfl rfl (i:=0) rfl HA0.out ?_))|((with_reducible refine iat 70 ?_);(refine six rfl rfl (i:=j) (by first|rfl|exact hjc) HXj.out ?_))|((with_reducible refine iat 77 ?_);(refine sslh rfl rfl (j:=j) (by first|rfl|exact hjc) hjX ?_))|(go_at_call 138;(with_reducible refine (HN.out _).mono ?_);rintro e W2 ⟨p2,c2,rfl,hM2⟩;have HM1:=Lib.hid (HM.out.comp2 hM2);clear HM hM2;(try clear W1);rename World=>W1;have HM:=HM1;clear HM1;simp only [List.cons_append,List.nil_append] at HM)|(go_at_call 139;(with_reducible refine (HMk.out _ _ _ (row_sl (HM.out.get (k:=0) rfl))).mono ?_);rintro e W1 ⟨rfl,hb⟩;replace HM:=Lib.hid (HM.out.next hb);clear hb)|((with_reducible refine skip_op ?_ ?_);exact rfl)|(refine mS ?_;clear HM;intro W1 HM)|(refine hal HM rfl ?_;clear HM;intro g1 W1 HM))
        go_roundw
        case rel=>exact ⟨X.extract 0 j,rfl,HX2,by have:=HX3.out;omega,HM⟩
        case measure=>exact HX3.out
       ·have hb48:¬ b.toNat=48:=fun e=>hb (UInt8.toNat_inj.1 e)
        have q4:((b.toNat:Int) == 48)=false:=by simpa using fun e:(b.toNat:Int)=48=>hb48 (by omega)
        have hX:X.data.toList=bl:=by rw [← HXt.out,hX0,trimR_snoc,if_neg hb]
        clear hX0 hj HXt hXl
        have hXs:X.size=bl.length:=by rw [← hX];simp
        have hcat:=fun w=>run_string_add_sum (P:=Tryz.prog) w A X (by omega)
        obtain ⟨n,hn⟩:∃ n,dval (ds++bl)=n:=⟨_,rfl⟩
        obtain ⟨m,hm⟩:∃ m,(dgt n).length=m:=⟨_,rfl⟩
        have HN:=Lib.hid (fun W=>rNumber (A++X) (ds++bl) W (by rw [ByteArray.data_append,Array.toList_append,HAl.out,hX]) (fun b hb=>by
         rcases List.mem_append.1 hb with hb|hb
         ·exact HDs.out b hb
         ·exact HFs.out b ((trimR_sub fs).mem (by rw [HBl.out];exact hb))) (by rw [ByteArray.size_append];omega))
        obtain ⟨r1,r2⟩:=decT_ref HDs.out HFs.out bl HBl.out n m hn hm hz
        simp only [hn,hm] at HN
        by_cases h18:18 < bl.length
        ·have HR:=Lib.hid (r1 (Or.inl h18))
         have g1:decide ((18:Int) < X.size)=true:=decide_eq_true (by omega)
         clear r1 r2 hn hm hX hXs h18 hz
         go_wp2_with (first|(go_at_call 137;first|((with_reducible refine (HDA.out _).mono ?_);rintro e W2 ⟨rfl,rfl⟩)|((with_reducible refine (HDB.out (by trivial) _).mono ?_);rintro e W2 ⟨rfl,rfl⟩))|((with_reducible refine iat 49 ?_);(refine six rfl rfl (i:=0) rfl HA0.out ?_))|((with_reducible refine iat 70 ?_);(refine six rfl rfl (i:=j) (by first|rfl|exact hjc) HXj.out ?_))|((with_reducible refine iat 77 ?_);(refine sslh rfl rfl (j:=j) (by first|rfl|exact hjc) hjX ?_))|(go_at_call 138;(with_reducible refine (HN.out _).mono ?_);rintro e W2 ⟨p2,c2,rfl,hM2⟩;have HM1:=Lib.hid (HM.out.comp2 hM2);clear HM hM2;(try clear W1);rename World=>W1;have HM:=HM1;clear HM1;simp only [List.cons_append,List.nil_append] at HM)|(go_at_call 139;(with_reducible refine (HMk.out _ _ _ (row_sl (HM.out.get (k:=0) rfl))).mono ?_);rintro e W1 ⟨rfl,hb⟩;replace HM:=Lib.hid (HM.out.next hb);clear hb)|((with_reducible refine skip_op ?_ ?_);exact rfl)|(refine mS ?_;clear HM;intro W1 HM)|(refine hal HM rfl ?_;clear HM;intro g1 W1 HM))
         exact bodyPost_ret (res_box_tmp rfl HM.out 1 rfl rfl rfl rfl) rfl ⟨by rw [HR.out];rfl,HM.out.below⟩
        ·have g1:decide ((18:Int) < X.size)=false:=decide_eq_false (by omega)
         by_cases h34:34 < m
         ·have HR:=Lib.hid (r1 (Or.inr h34))
          have g2:decide ((34:Int) < m)=true:=decide_eq_true (by omega)
          have g2' : decide (34 < m)=true:=decide_eq_true h34
          clear r1 r2 hn hm hX hXs h18 hz h34
          go_wp2_with (first|(go_at_call 137;first|((with_reducible refine (HDA.out _).mono ?_);rintro e W2 ⟨rfl,rfl⟩)|((with_reducible refine (HDB.out (by trivial) _).mono ?_);rintro e W2 ⟨rfl,rfl⟩))|((with_reducible refine iat 49 ?_);(refine six rfl rfl (i:=0) rfl HA0.out ?_))|((with_reducible refine iat 70 ?_);(refine six rfl rfl (i:=j) (by first|rfl|exact hjc) HXj.out ?_))|((with_reducible refine iat 77 ?_);(refine sslh rfl rfl (j:=j) (by first|rfl|exact hjc) hjX ?_))|(go_at_call 138;(with_reducible refine (HN.out _).mono ?_);rintro e W2 ⟨p2,c2,rfl,hM2⟩;have HM1:=Lib.hid (HM.out.comp2 hM2);clear HM hM2;(try clear W1);rename World=>W1;have HM:=HM1;clear HM1;simp only [List.cons_append,List.nil_append] at HM)|(go_at_call 139;(with_reducible refine (HMk.out _ _ _ (row_sl (HM.out.get (k:=0) rfl))).mono ?_);rintro e W1 ⟨rfl,hb⟩;replace HM:=Lib.hid (HM.out.next hb);clear hb)|((with_reducible refine skip_op ?_ ?_);exact rfl)|(refine mS ?_;clear HM;intro W1 HM)|(refine hal HM rfl ?_;clear HM;intro g1 W1 HM))
          exact bodyPost_ret (res_box_tmp rfl HM.out 1 rfl rfl rfl rfl) rfl ⟨by rw [HR.out];rfl,HM.out.below⟩
         ·obtain ⟨hR,hlast⟩:=r2 (fun h=>h.elim h18 h34)
          have g2:decide ((34:Int) < m)=false:=decide_eq_false (by omega)
          have g2' : decide (34 < m)=false:=decide_eq_false h34
          have HMk:=Lib.hid (fun W p c h=>rMake p c m n bl.length W hm h (by omega) (by omega) hlast)
          obtain ⟨nh,hnh⟩:∃ x,n / 18446744073709551616=x:=⟨_,rfl⟩
          obtain ⟨nl,hnl⟩:∃ x,n % 18446744073709551616=x:=⟨_,rfl⟩
          have HV:=Lib.hid (show decCs n X.size=[.bool false,.int .u64 nh,.int .u64 nl,.int .i64 X.size] by rw [← hnh,← hnl];rfl)
          have HR:=Lib.hid (show decV (decT ds fs) = .tuple #[.agg #[.bool false,.int .u64 nh,.int .u64 nl,.int .i64 X.size],.int .i64 0] by rw [hR,← hXs];unfold decV;rw [HV.out])
          rw [← hXs] at HMk
          simp only [HV.out] at HMk
          clear r1 r2 hn hm hX hXs h18 hz h34 hnh hnl hlast hR HV
          go_wp2_with (first|(go_at_call 137;first|((with_reducible refine (HDA.out _).mono ?_);rintro e W2 ⟨rfl,rfl⟩)|((with_reducible refine (HDB.out (by trivial) _).mono ?_);rintro e W2 ⟨rfl,rfl⟩))|((with_reducible refine iat 49 ?_);(refine six rfl rfl (i:=0) rfl HA0.out ?_))|((with_reducible refine iat 70 ?_);(refine six rfl rfl (i:=j) (by first|rfl|exact hjc) HXj.out ?_))|((with_reducible refine iat 77 ?_);(refine sslh rfl rfl (j:=j) (by first|rfl|exact hjc) hjX ?_))|(go_at_call 138;(with_reducible refine (HN.out _).mono ?_);rintro e W2 ⟨p2,c2,rfl,hM2⟩;have HM1:=Lib.hid (HM.out.comp2 hM2);clear HM hM2;(try clear W1);rename World=>W1;have HM:=HM1;clear HM1;simp only [List.cons_append,List.nil_append] at HM)|(go_at_call 139;(with_reducible refine (HMk.out _ _ _ (row_sl (HM.out.get (k:=0) rfl))).mono ?_);rintro e W1 ⟨rfl,hb⟩;replace HM:=Lib.hid (HM.out.next hb);clear hb)|((with_reducible refine skip_op ?_ ?_);exact rfl)|(refine mS ?_;clear HM;intro W1 HM)|(refine hal HM rfl ?_;clear HM;intro g1 W1 HM))
          exact bodyPost_ret (res_box_tmp rfl HM.out 1 rfl rfl rfl rfl) rfl ⟨by rw [HR.out];rfl,HM.out.below⟩
end Go.Proofs.YtheimopjglkgjaaGreatDoor
