/- The walk over ExprApart. (short) -/
import Derived.Test.YtheimopjglkgjaaGreatDoorRgO
import Derived.Test.YtheimopjglkgjaaGreatDoorParA
import Derived.Test.YtheimopjglkgjaaGreatDoorSepA
namespace Go.Proofs.YtheimopjglkgjaaGreatDoor
open Go.RowKit
set_option linter.unusedVariables false
set_option linter.unusedSimpArgs false
set_option maxRecDepth 100000
theorem ap_box {α:Type} (f:α→List Value) (k:Nat) (hf:∀ x,(f x).length=k) {B g:Nat} {t:TypeId} {W:World} {av:List Value} {L:List α} (h:(Res.box g t av).holds B W) (hav:av=L.flatMap f) {i:Nat} {x:α} (hx:L[i]? = some x):Cells W ((⟨g,0,none⟩:Addr).add (i * k)) (f x):=by
 have h1:=box_cells h 0
 rw [List.drop_zero,hav] at h1
 exact h1.elem f k hf hx
theorem ap_pre {B g:Nat} {t:TypeId} {W:World} {av x y:List Value} (h:(Res.box g t av).holds B W) (hav:av=x++y):Sl W (some ⟨g,0,none⟩) x:=
 ⟨(fun e=>by cases e),(fun a e=>by
  cases e
  intro j u hj
  have h1:=box_cells h 0
  rw [List.drop_zero,hav] at h1
  exact h1 j u (by rw [List.getElem?_append_left (List.getElem?_eq_some_iff.1 hj).1];exact hj))⟩
theorem ap_fill {α:Type} (f:α→List Value) (k:Nat) (hf:∀ x,(f x).length=k) (l:List α) (z:α) (n:Nat):l.flatMap f++((List.replicate (l.length + n) (f z)).flatten).drop (l.flatMap f).length=(l++List.replicate n z).flatMap f:=by
 have h1:(List.replicate (l.length + n) (f z)).flatten=(List.replicate l.length z).flatMap f++(List.replicate n z).flatMap f:=by
  rw [← List.flatMap_append,List.replicate_append_replicate,List.flatMap_def,List.map_replicate]
 rw [h1,List.drop_append,flat_len f k hf,flat_len f k hf,List.length_replicate,Nat.sub_self,List.drop_zero,List.drop_of_length_le (by rw [flat_len f k hf,List.length_replicate];exact Nat.le_refl _),List.nil_append,List.flatMap_append]
theorem ap_has {B:Nat} {W:World} {p:Option Addr} {cap k n:Nat} {e:TypeId} {cs:List Value} (h:(Res.row p cap e k n cs).holds B W) (hn:0 < n):∃ b,p=some b:=by
 obtain ⟨g,rfl⟩:=row_some h hn
 exact ⟨_,rfl⟩
def zN0:NodeD:=⟨0,0,⟨#[]⟩,false,0,0,0,0⟩
set_option maxHeartbeats 32000000 in
theorem exprApart_walk (s:ByteArray) (p:Option Addr) (c:Nat) (ns:List NodeD) (w:World) (hN:Sl w p (ns.flatMap NodeD.cs)) (hwf:∀ (i:Nat) (n:NodeD),ns[i]? = some n→n.wf) (hl:ns.length≤1048576) (hT:U8 w) :
  Calls Tryz.prog 3 #[.string s,.slice p ns.length c] w fun e w'=>e = .returned (.bool true)∧Below w.heap.size w w':=by
 have HM:=Lib.hid (Mem.start w)
 have HN:=Lib.hid hN
 have HT:=Lib.hid hT
 obtain ⟨N,hNl⟩:∃ N,ns.length=N:=⟨_,rfl⟩
 obtain ⟨N3,hN3⟩:∃ N3,N + 3=N3:=⟨_,rfl⟩
 obtain ⟨av,hav⟩:∃ av,(ns++List.replicate 3 zN0).flatMap NodeD.cs=av:=⟨_,rfl⟩
 have zNc:zN0.cs=[.int .i64 0,.int .i64 0,.string ⟨#[]⟩,.bool false,.int .u64 0,.int .u64 0,.int .i64 0,.int .i64 0]:=rfl
 obtain ⟨fa,hfa⟩:∃ fa,(List.replicate N3 ([.int .i64 0,.int .i64 0,.string ⟨#[]⟩,.bool false,.int .u64 0,.int .u64 0,.int .i64 0,.int .i64 0]:List Value)).flatten=fa:=⟨_,rfl⟩
 have HA:=Lib.hid (show ns.flatMap NodeD.cs++fa.drop (ns.flatMap NodeD.cs).length=av by
  rw [← hfa,← hav,← ap_fill NodeD.cs 8 NodeD.cs_len ns zN0 3,zNc,hNl,hN3])
 have HFa:=Lib.hid hfa
 have HAl:=Lib.hid (show (ns.flatMap NodeD.cs).length=N * 8 by rw [flat_len NodeD.cs 8 NodeD.cs_len,hNl])
 have HA1:=Lib.hid (show ∀ u,u ∈ ns.flatMap NodeD.cs→u.oneCell' = true from fun u hu=>by
  obtain ⟨n,_,hn⟩:=List.mem_flatMap.1 hu
  simp only [NodeD.cs,List.mem_cons,List.not_mem_nil,or_false] at hn
  rcases hn with rfl|rfl|rfl|rfl|rfl|rfl|rfl|rfl <;> rfl)
 have HA2:=Lib.hid (show (ns.flatMap NodeD.cs).length≤fa.length by
  rw [HAl.out,← hfa,List.length_flatten,List.map_replicate,List.sum_replicate_nat];show N * 8≤N3 * 8;omega)
 have HAv:=Lib.hid hav.symm
 have HAz:=Lib.hid (show ∀ i,N≤i→i < N3→(ns++List.replicate 3 zN0)[i]? = some zN0 from fun i h1 h2=>by
  rw [List.getElem?_append_right (by omega),List.getElem?_replicate,if_pos (by omega)])
 obtain ⟨v,hv⟩:∃ v,checkC ns false=v:=⟨_,rfl⟩
 have HE:=Lib.hid (fun (g:Nat) (W:World) h1 h2=>eCheck_any (some ⟨g,0,none⟩) N3 ns false W h1 hwf (by omega) h2)
 have HR:=Lib.hid (fun W h1=>rCheck_any p c ns false W h1 hwf (by omega))
 rw [hv] at HE HR
 obtain ⟨⟨P,er⟩,hP⟩:∃ r,partsV ns ((N:Int) - 1)=r:=⟨_,rfl⟩
 have HPw:=Lib.hid (fun W h1=>rparts_any p c ns ((N:Int) - 1) W h1 (by omega))
 have HPp:=Lib.hid (fun (g:Nat) (W:World) h1=>parts_any (some ⟨g,0,none⟩) N3 ns ((N:Int) - 1) W h1 (by omega) (by omega))
 unfold PartsPost at HPw HPp
 simp only [hP] at HPw HPp
 have hPb:P.length≤1048576:=by have:=partsV_len ns ((N:Int) - 1);rw [hP] at this;exact Nat.le_trans this (by decide)
 have HSm:=Lib.hid (fun (g:Nat) (W:World) h1 h2=>rSame_any (some ⟨g,0,none⟩) p N3 c ns W h1 h2 (by omega))
 have HXa:=Lib.hid (fun W h=>xParse_any s W h)
 have HXw:=Lib.hid (fun W=>rParse_any s W)
 unfold NPost at HXa HXw
 have hok:=(parseF_ok s false).1
 obtain ⟨⟨l,ec⟩,hr⟩:∃ x,parseF s false=x:=⟨_,rfl⟩
 simp only [hr] at HXa HXw hok
 have HS2:=Lib.hid (fun (p q:Option Addr) (c d:Nat) W h1 h2=>rSame_any p q c d l W h1 h2 (by omega))
 rw [hNl] at HE HR HPw HPp HSm
 have hNb:N≤1048576:=by omega
 have hN3a:N + 3≤N3:=by omega
 have hN3b:N3≤N + 3:=by omega
 have HN4:=Lib.hid (show ((N:Int) + 3)=(N3:Int) by omega)
 have q0:(v != v)=false:=by simp
 have q2:((P.length:Int) != P.length)=false:=by simp
 rw [hNl]
 clear hN hT hwf hv hP hr hav zNc hfa hNl hl hN3
 go_enter Tryz.func3,Tryz.ntmps3
 go_wp2_with (first|(go_at_call 6;(with_reducible refine cB HM (xknown_any _ (U8.below HT.out HM.out.below)) ?_);clear HM;intro W1 HM)|((with_reducible refine iat 29 ?_);(refine mkcap (cs:=[.int .i64 0,.int .i64 0,.string ⟨#[]⟩,.bool false,.int .u64 0,.int .u64 0,.int .i64 0,.int .i64 0]) (n:=N3) rfl HM.out rfl rfl rfl HN4.out rfl (by omega) (by omega) ?_;intro gN W2 HM1;rw [HFa.out] at HM1;clear HM;(try clear W1);rename World=>W1;have HM:=Lib.hid HM1;clear HM1))|((with_reducible refine iat 31 ?_);(refine appin rfl HM.out 0 rfl rfl rfl (HM.out.sl HN.out) HAl.out HA1.out (by omega) HA2.out ?_;intro W2 HM1;rw [HA.out] at HM1;clear HM;(try clear W1);rename World=>W1;have HM:=Lib.hid HM1;clear HM1;simp only [List.set] at HM))|(go_at_call 7;(with_reducible refine cB HM (HE.out _ _ (ap_pre (HM.out.holds _ (List.mem_cons_self ..)) HA.out.symm) (U8.below HT.out HM.out.below)) ?_);clear HM;intro W1 HM)|(go_at_call 8;(with_reducible refine (HPp.out _ _ (ap_pre (HM.out.holds _ (List.mem_cons_self ..)) HA.out.symm)).mono ?_);rintro e W2 ⟨q1,c1,rfl,hM2⟩;have HM1:=Lib.hid (HM.out.comp2 hM2);clear HM hM2;(try clear W1);rename World=>W1;have HM:=HM1;clear HM1;simp only [List.cons_append,List.nil_append] at HM))
 go_wp2_with (first|(go_at_call 8;(with_reducible refine (HPp.out _ _ (ap_pre (HM.out.get (k:=1) rfl) HA.out.symm)).mono ?_);rintro e W2 ⟨q2,c2,rfl,hM2⟩;have HM1:=Lib.hid (HM.out.comp2 hM2);clear HM hM2;(try clear W1);rename World=>W1;have HM:=HM1;clear HM1;simp only [List.cons_append,List.nil_append] at HM))
 go_wp2_with (first|(go_at_call 9;(with_reducible refine (HPw.out _ (HM.out.sl HN.out)).mono ?_);rintro e W2 ⟨q3,c3,rfl,hM2⟩;have HM1:=Lib.hid (HM.out.comp2 hM2);clear HM hM2;(try clear W1);rename World=>W1;have HM:=HM1;clear HM1;simp only [List.cons_append,List.nil_append] at HM))
 go_loopw [13] (fun iv wr=>∃ (i:Nat) (cv:List Value),iv = .int .i64 i∧i≤P.length∧Hid (cv.length=P.length)∧Hid (Mem w wr [.row q3 c3 3 1 P.length (intL P),.row q2 c2 3 1 P.length (intL P),.row q1 c1 3 1 P.length cv,.box gN 36 av])) (fun iv _=>P.length - (intOf iv).toNat)
 case atStart=>exact ⟨0,intL P,rfl,Nat.zero_le _,Lib.hid (by rw [intL_len,Nat.mul_one]),HM⟩
 case round=>
  clear HM
  obtain ⟨i,cv,rfl,hi,HCv,HM⟩:=hrel
  by_cases hlt:i < P.length
  ·obtain ⟨b1,rfl⟩:=ap_has (HM.out.get (k:=2) rfl) (by omega)
   have d1:decide ((i:Int) < P.length)=true:=decide_eq_true (by omega)
   have hlt3:=Lib.hid (show i + 1≤P.length from hlt)
   have hcl:i * 1 < cv.length:=by rw [HCv.out];omega
   as_aux_lemma=>
   go_wp2_with (first|((with_reducible refine iat 66 ?_);(refine ixa (i:=i) rfl rfl rfl hlt ?_))|((with_reducible refine istore ?_);(refine strw (i:=i * 1) (v:=.int .i64 (-5)) rfl HM.out 2 rfl rfl rfl rfl hcl ?_);intro W1 HM1;replace HM:=Lib.hid HM1;clear HM1;simp only [List.set] at HM))
   go_roundw
   case rel=>exact ⟨i + 1,_,by go_num,hlt3.out,Lib.hid (by rw [List.length_set];exact HCv.out),HM⟩
   case measure=>have:=hlt3.out;simp [intOf];omega
  obtain rfl:i=P.length:=by omega
  have d1:decide ((P.length:Int) < P.length)=false:=by simp
  have HM2:=Lib.hid (HM.out.sub (.cons_cons _ (.cons_cons _ (.cons _ (.refl _)))))
  clear HM HCv
  have HM:=HM2
  clear HM2
  have HSl:=Lib.hid (fun (W:World) (h:Mem w W [.row q3 c3 3 1 P.length (intL P),.row q2 c2 3 1 P.length (intL P),.box gN 36 av])=>ap_pre (h.get (k:=2) rfl) HA.out.symm)
  go_wp2_with (first|(go_at_call 10;(with_reducible refine cB HM (HR.out _ (HM.out.sl HN.out)) ?_);clear HM;intro W1 HM)|(go_at_call 11;(with_reducible refine cB HM (HSm.out _ _ (HSl.out _ HM.out) (HM.out.sl HN.out)) ?_);clear HM;intro W1 HM))
  go_loopw [14] (fun iv wr=>∃ i:Nat,iv = .int .i64 i∧i≤P.length∧Hid (Mem w wr [.row q3 c3 3 1 P.length (intL P),.row q2 c2 3 1 P.length (intL P),.box gN 36 av])) (fun iv _=>P.length - (intOf iv).toNat)
  case atStart=>exact ⟨0,rfl,Nat.zero_le _,HM⟩
  case round=>
   clear HM
   obtain ⟨i,rfl,hi,HM⟩:=hrel
   by_cases hlt:i < P.length
   ·obtain ⟨b1,rfl⟩:=ap_has (HM.out.get (k:=0) rfl) (by omega)
    obtain ⟨b2,rfl⟩:=ap_has (HM.out.get (k:=1) rfl) (by omega)
    obtain ⟨pl,hpl⟩:∃ pl,P[i]? = some pl:=⟨_,List.getElem?_eq_getElem hlt⟩
    have HPi:=Lib.hid (intL_at hpl)
    have e3:decide ((i:Int) < P.length)=true:=decide_eq_true (by omega)
    have q3' : ((pl:Int) != pl)=false:=by simp
    have hlt3:=Lib.hid (show i + 1≤P.length from hlt)
    clear hpl
    as_aux_lemma=>
    go_wp2_with fail
    refine wp_region_mem (by kernel_rfl) (by kernel_rfl) HM.out ?_;intro hNE;(repeat (any_goals (first|((with_reducible refine skip_q ?_ ?_ ?_);(exact rfl);(rotate_left;(exact (hNE.elim fun p=>⟨p.W,p,rfl⟩))))|refine mQ ?_|((with_reducible refine qat 92 ?_);(refine qixa rfl rfl rfl hlt ?_))|((with_reducible refine qat 96 ?_);(refine qixa rfl rfl rfl hlt ?_))|((with_reducible refine qat 93 ?_);(refine qd1 (v:=.int .i64 (pl:Int)) rfl (fun W ⟨q,hq⟩=>hq▸row_cell (q.mem.get (k:=1) rfl) HPi.out) ?_))|((with_reducible refine qat 97 ?_);(refine qd1 (v:=.int .i64 (pl:Int)) rfl (fun W ⟨q,hq⟩=>hq▸row_cell (q.mem.get (k:=0) rfl) HPi.out) ?_))|go_big_quiet_step (fail)|quiet_step (fail))));clear hNE;refine wpQuiet_nil ?_;intro W1 HM1;replace HM:=Lib.hid HM1;clear HM1
    go_wp2_with fail
    go_roundw
    case rel=>exact ⟨i + 1,by go_num,hlt3.out,HM⟩
    case measure=>have:=hlt3.out;simp [intOf];omega
   obtain rfl:i=P.length:=by omega
   have e3:decide ((P.length:Int) < P.length)=false:=by simp
   have HM2:=Lib.hid (HM.out.sub (.cons _ (.cons _ (.refl _))))
   clear HM
   have HM:=HM2
   clear HM2
   go_wp2_with (first|((with_reducible refine iat 102 ?_);(refine sltx (m:=N3) rfl rfl (by omega) (Nat.le_refl _) ?_)))
   go_loopw [16] (fun iv wr=>∃ i:Nat,iv = .int .i64 i∧N≤i∧i≤N3∧Hid (Mem w wr [.box gN 36 av])) (fun iv _=>N3 - (intOf iv).toNat)
   case atStart=>exact ⟨N,rfl,Nat.le_refl _,by omega,HM⟩
   case round=>
    clear HM
    obtain ⟨i,rfl,hi0,hi,HM⟩:=hrel
    by_cases hlt:i < N3
    ·have E1:=Lib.hid (ap_box NodeD.cs 8 NodeD.cs_len (HM.out.holds _ (List.mem_cons_self ..)) HAv.out (HAz.out i hi0 hlt))
     have hlt3:=Lib.hid (show i + 1≤N3 from hlt)
     have hi3:=Lib.hid (show N≤i + 1 from by omega)
     have d4:decide ((i:Int) < N3)=true:=decide_eq_true (by omega)
     as_aux_lemma=>
     go_wp2_with (first|((with_reducible refine iat 113 ?_);(refine ixa rfl rfl rfl hlt ?_))|((with_reducible refine iat 114 ?_);(refine ldxW (vs:=[.int .i64 0,.int .i64 0,.string ⟨#[]⟩,.bool false,.int .u64 0,.int .u64 0,.int .i64 0,.int .i64 0]) E1.out rfl rfl ?_)))
     go_roundw
     case rel=>exact ⟨i + 1,by go_num,hi3.out,hlt3.out,HM⟩
     case measure=>have:=hlt3.out;simp [intOf];omega
    obtain rfl:i=N3:=by omega
    have d4:decide ((i:Int) < i)=false:=by simp
    go_wp2_with (first|(go_at_call 12;(with_reducible refine (HXa.out _ (U8.below HT.out (show Mem w _ [.box gN 36 av] from HM.out).below)).mono ?_);rintro e W2 ⟨q4,c4,rfl,hM2⟩;have HM1:=Lib.hid (HM.out.comp2 hM2);clear HM hM2;(try clear W1);rename World=>W1;have HM:=HM1;clear HM1;simp only [List.cons_append,List.nil_append] at HM))
    go_wp2_with (first|(go_at_call 12;(with_reducible refine (HXa.out _ (U8.below HT.out HM.out.below)).mono ?_);rintro e W2 ⟨q5,c5,rfl,hM2⟩;have HM1:=Lib.hid (HM.out.comp2 hM2);clear HM hM2;(try clear W1);rename World=>W1;have HM:=HM1;clear HM1;simp only [List.cons_append,List.nil_append] at HM))
    go_wp2_with (first|(go_at_call 13;(with_reducible refine (HXw.out _).mono ?_);rintro e W2 ⟨q6,c6,rfl,hM2⟩;have HM1:=Lib.hid (HM.out.comp2 hM2);clear HM hM2;(try clear W1);rename World=>W1;have HM:=HM1;clear HM1;simp only [List.cons_append,List.nil_append] at HM))
    go_loopw [23] (fun iv wr=>∃ (j:Nat) (cv:List Value),iv = .int .i64 j∧j≤l.length∧Hid (cv.length=l.length * 8)∧Hid (Mem w wr [.row q6 c6 36 8 l.length (l.flatMap NodeD.cs),.row q5 c5 36 8 l.length (l.flatMap NodeD.cs),.row q4 c4 36 8 l.length cv,.box gN 36 av])) (fun iv _=>l.length - (intOf iv).toNat)
    case atStart=>exact ⟨0,_,rfl,Nat.zero_le _,Lib.hid (flat_len NodeD.cs 8 NodeD.cs_len l),HM⟩
    case round=>
     clear HM
     obtain ⟨j,cv,rfl,hj,HCv,HM⟩:=hrel
     by_cases hjl:j < l.length
     ·obtain ⟨b1,rfl⟩:=ap_has (HM.out.get (k:=2) rfl) (by omega)
      have d5:decide ((j:Int) < l.length)=true:=decide_eq_true (by omega)
      have hj3:=Lib.hid (show j + 1≤l.length from hjl)
      have hcl2:j * 8 + 8≤cv.length:=by rw [HCv.out];omega
      as_aux_lemma=>
      go_wp2_with (first|((with_reducible refine iat 141 ?_);(refine ixa (i:=j) rfl rfl rfl hjl ?_))|((with_reducible refine istore ?_);(refine strA (vs:=[.int .i64 99,.int .i64 0,.string ⟨#[]⟩,.bool false,.int .u64 0,.int .u64 0,.int .i64 0,.int .i64 0]) (i:=j * 8) rfl HM.out 2 rfl rfl rfl rfl ?_ hcl2 ?_;(intro u hu;revert u hu;simp [Value.oneCell']);intro W1 HM1;replace HM:=Lib.hid HM1;clear HM1;simp only [List.set] at HM)))
      go_roundw
      case rel=>exact ⟨j + 1,_,by go_num,hj3.out,Lib.hid (by simp only [List.length_append,List.length_take,List.length_drop,List.length_cons,List.length_nil];rw [HCv.out];have:=hj3.out;omega),HM⟩
      case measure=>have:=hj3.out;simp [intOf];omega
     obtain rfl:j=l.length:=by omega
     have d5:decide ((l.length:Int) < l.length)=false:=by simp
     as_aux_lemma=>
     go_wp2_with (first|(go_at_call 11;(with_reducible refine cB HM (HS2.out _ _ _ _ _ (sl_row NodeD.cs 8 NodeD.cs_len (HM.out.get (k:=1) rfl)) (sl_row NodeD.cs 8 NodeD.cs_len (HM.out.get (k:=0) rfl))) ?_);clear HM;intro W1 HM))
     go_ret
     exact ⟨rfl,HM.out.below⟩
end Go.Proofs.YtheimopjglkgjaaGreatDoor
