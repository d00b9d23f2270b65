/- What the laws of expressions share: the same nodes; what is known first. The reference's grammar: all rules, by one induction on the fuel; read, DocParse, DocTests. -/
import Derived.Test.YtheimopjglkgjaaGreatDoorAllA
import Derived.Test.YtheimopjglkgjaaGreatDoorLexLaid
import Derived.Test.YtheimopjglkgjaaGreatDoorRgA
import Derived.Test.YtheimopjglkgjaaGreatDoorRgM
import Derived.Test.YtheimopjglkgjaaGreatDoorRlxR
import Derived.Test.YtheimopjglkgjaaGreatDoorRefCheck
namespace Go.Proofs.YtheimopjglkgjaaGreatDoor
open Go.RowKit
set_option linter.unusedVariables false
set_option linter.unusedSimpArgs false
set_option maxRecDepth 100000
theorem nodes_wf {l:List NodeD} (h:NodesOk l):∀ (i:Nat) (n:NodeD),l[i]? = some n→n.wf:=fun i n hi=>(h n (List.mem_of_getElem? hi)).wf
theorem NPost.none_ {r:List NodeD × Int} {w w' : World} {e:Int} (h:r=([],e)) (hb:Below w.heap.size w w'):NPost r w (.returned (.tuple #[.slice none 0 0,.int .i64 e])) w':=by
 subst h
 exact ⟨none,0,rfl,((Mem.start w).next hb).row0 _ _⟩
set_option maxHeartbeats 4000000 in
theorem rSame_any (p q:Option Addr) (c d:Nat) (l:List NodeD) (w:World) (h1:Sl w p (l.flatMap NodeD.cs)) (h2:Sl w q (l.flatMap NodeD.cs)) (hl:l.length≤4611686018427387904) :
  Calls Tryz.prog 11 #[.slice p l.length c,.slice q l.length d] w fun e w'=>e = .returned (.bool true)∧Below w.heap.size w w':=by
 have HM:=Lib.hid (Mem.start w)
 have H1:=Lib.hid h1
 have H2:=Lib.hid h2
 clear h1 h2
 have b0:((l.length:Int) != l.length)=false:=by simp
 go_enter Tryz.func11,Tryz.ntmps11
 go_wp2_with fail
 go_loopw [5] (fun iv wr=>∃ i:Nat,iv = .int .i64 i∧i≤l.length∧Hid (Mem w wr [])) (fun iv _=>l.length - (intOf iv).toNat)
 case atStart=>exact ⟨0,rfl,by omega,HM⟩
 case round=>
  clear HM
  obtain ⟨i,rfl,hi,HM⟩:=hrel
  by_cases hlt:i < l.length
  ·obtain ⟨b,rfl,hb⟩:=H1.out.some_at NodeD.cs_len (by decide) hlt
   obtain ⟨b',rfl,hb'⟩:=H2.out.some_at NodeD.cs_len (by decide) hlt
   obtain ⟨t,ht⟩:∃ t,l[i]? = some t:=⟨_,List.getElem?_eq_getElem hlt⟩
   obtain ⟨x0,x1,x2,x3,x4,x5,x6,x7⟩:=t
   have E1:=Lib.hid (show Cells w (b.add (i * 8)) [.int .i64 x0,.int .i64 x1,.string x2,.bool x3,.int .u64 x4,.int .u64 x5,.int .i64 x6,.int .i64 x7] from hb.elem NodeD.cs 8 NodeD.cs_len ht)
   have E2:=Lib.hid (show Cells w (b'.add (i * 8)) [.int .i64 x0,.int .i64 x1,.string x2,.bool x3,.int .u64 x4,.int .u64 x5,.int .i64 x6,.int .i64 x7] from hb'.elem NodeD.cs 8 NodeD.cs_len ht)
   have hlt3:=Lib.hid (show i + 1≤l.length from hlt)
   have d1:decide ((i:Int) < l.length)=true:=decide_eq_true (by omega)
   clear hb hb' ht
   go_wp2_with fail
   refine wp_region_mem (by kernel_rfl) (by kernel_rfl) HM.out ?_;intro hNE;(repeat (any_goals (first|((with_reducible refine skip_q ?_ ?_ ?_);(exact rfl);(rotate_left;(exact (hNE.elim fun p=>⟨p.W,p,rfl⟩))))|refine mQ ?_|((with_reducible refine qat 19 ?_);(refine qixa rfl rfl rfl hlt ?_))|((with_reducible refine qat 23 ?_);(refine qixa rfl rfl rfl hlt ?_))|((with_reducible refine qat 20 ?_);(refine qdA (vs:=[.int .i64 x0,.int .i64 x1,.string x2,.bool x3,.int .u64 x4,.int .u64 x5,.int .i64 x6,.int .i64 x7]) rfl rfl (fun W ⟨q,hq⟩=>hq▸q.mem.olds E1.out) ?_))|((with_reducible refine qat 24 ?_);(refine qdA (vs:=[.int .i64 x0,.int .i64 x1,.string x2,.bool x3,.int .u64 x4,.int .u64 x5,.int .i64 x6,.int .i64 x7]) rfl rfl (fun W ⟨q,hq⟩=>hq▸q.mem.olds E2.out) ?_))|go_big_quiet_step (fail)|quiet_step (fail))));clear hNE;refine wpQuiet_nil ?_;intro W1 HM1;replace HM:=Lib.hid HM1;clear HM1
   go_wp2
   go_roundw
   case rel=>exact ⟨i + 1,by go_num,hlt3.out,HM⟩
   case measure=>have:=hlt3.out;simp [intOf];omega
  ·obtain rfl:i=l.length:=by omega
   have d1:decide ((l.length:Int) < l.length)=false:=by simp
   go_wp2
   go_ret
   exact ⟨rfl,HM.out.below⟩
theorem known_parse:parseF ⟨#[97,32,43,32,98,32,42,32,99]⟩ false=([nTx 7 0 ⟨#[97]⟩,nTx 7 0 ⟨#[98]⟩,nTx 7 0 ⟨#[99]⟩,nOp 11 2,nOp 9 2],0):=by kernel_rfl
set_option maxHeartbeats 4000000 in
theorem xknown_any (w:World) (hT:U8 w):Calls Tryz.prog 6 #[] w fun e w'=>e = .returned (.bool true)∧Below w.heap.size w w':=by
 have HM:=Lib.hid (Mem.start w)
 have HT:=Lib.hid hT
 have HA:=Lib.hid (fun W h=>xParse_any ⟨#[97,32,43,32,98,32,42,32,99]⟩ W h)
 unfold NPost at HA
 rw [known_parse] at HA
 have q1:((nTx 7 0 ⟨#[97]⟩).text.toList == [97])=true:=by rw [ByteArray.toList_eq];rfl
 have q2:((nTx 7 0 ⟨#[99]⟩).text.toList == [99])=true:=by rw [ByteArray.toList_eq];rfl
 clear hT
 go_enter Tryz.func6,Tryz.ntmps6
 go_wp2_with (first|(go_at_call 12;(with_reducible refine (HA.out _ (U8.below HT.out HM.out.below)).mono ?_);rintro e W2 ⟨p,oc,rfl,hM2⟩;have HM1:=Lib.hid (HM.out.comp2 hM2);clear HM hM2;(try clear W1);rename World=>W1;have HM:=HM1;clear HM1;simp only [List.cons_append,List.nil_append] at HM;obtain ⟨g3,rfl⟩:=row_some (HM.out.get (k:=0) rfl) (by decide))|((with_reducible refine iat 16 ?_);(refine ixa rfl rfl (i:=3) rfl (by decide) ?_))|((with_reducible refine iat 23 ?_);(refine ixa rfl rfl (i:=4) rfl (by decide) ?_))|((with_reducible refine iat 30 ?_);(refine ixa rfl rfl (i:=0) rfl (by decide) ?_))|((with_reducible refine iat 37 ?_);(refine ixa rfl rfl (i:=2) rfl (by decide) ?_))|(refine ldr1 HM.out 0 rfl rfl rfl ?_)|((with_reducible refine skip_op ?_ ?_);exact rfl)|refine mP ?_)
 go_ret
 exact ⟨rfl,HM.out.below⟩
theorem rc_zero (T:List TokD) (f:FuncId) (N:NT):RC T f N 0:=fun _ _ _ _ _ _ hne=>absurd rfl hne
theorem ac_zero (T:List TokD) (f:FuncId) (lv:Int) (N:NT):AC T f lv N 0:=fun _ _ _ _ _ _ hne=>absurd rfl hne
structure RMain (T:List TokD) (g:Nat):Prop where
 expr:RC T 53 .expr g
 row0:AC T 115 0 .or g
 row1:AC T 115 1 .and g
 row3:AC T 115 3 .sum g
 row4:AC T 115 4 .prod g
 cmp:RC T 113 .cmp g
 sgn:RC T 114 .sgn g
 sing:RC T 147 .sing g
 grp:RC T 83 .grp g
 list:RC T 84 .tests g
 one:RC T 112 .test g
theorem rMain {T:List TokD} (hT:TksOk T) (hK:KndOk T):∀ f g,g≤f→RMain T g:=by
 intro f
 induction f with
 | zero=>
  intro g hg
  obtain rfl:g=0:=by omega
  exact ⟨rc_zero _ _ _,ac_zero _ _ _ _,ac_zero _ _ _ _,ac_zero _ _ _ _,ac_zero _ _ _ _,rc_zero _ _ _,rc_zero _ _ _,rc_zero _ _ _,rc_zero _ _ _,rc_zero _ _ _,rc_zero _ _ _⟩
 | succ f ih=>
  intro g hg
  by_cases h:g≤f
  ·exact ih g h
  ·obtain rfl:g=f + 1:=by omega
   exact ⟨rExpr hT f (fun g h=>(ih g h).expr) (fun g h=>rAt0 g (ih g h).row0),rRow0 hT f (fun g h=>rAt1 g (ih g h).row1),rRow1 hT f (fun g h=>rAt2 g (ih g h).cmp),rRow3 hT f (fun g h=>rAt4 g (ih g h).row4),rRow4 hT f (fun g h=>rAt5 g (ih g h).sgn),rCmp hT f (fun g h=>rAt3 g (ih g h).row3) (fun g h=>(ih g h).grp),rSigned hT f (fun g h=>(ih g h).sgn) (fun g h=>(ih g h).sing),rSingle hK hT f (fun g h=>(ih g h).expr),rGroup hT f (fun g h=>(ih g h).list),rList hT f (fun g h=>(ih g h).one),rOne hK hT f (fun g h=>rAt3 g (ih g h).row3)⟩
theorem rTopE {T:List TokD} (hT:TksOk T) (hK:KndOk T) (W:World) (tp:Option Addr) (tc:Nat) (HT:Sl W tp (T.flatMap TokD.cs)):Calls Tryz.prog 53 #[.slice tp T.length tc,.int .i64 0] W (GPostA (topG T false) W):=
 ((rMain hT hK _ _ (Nat.le_refl _)).expr W tp tc 0 HT (Nat.zero_le _) (topG_out T false)).mono fun e w' h=>h.toA
theorem rTopT {T:List TokD} (hT:TksOk T) (hK:KndOk T) (W:World) (tp:Option Addr) (tc:Nat) (HT:Sl W tp (T.flatMap TokD.cs)):Calls Tryz.prog 52 #[.slice tp T.length tc] W (GPostA (topG T true) W):=
 rTests hT _ (fun g h=>(rMain hT hK _ g h).grp) (fun g h=>(rMain hT hK _ g h).list) W tp tc HT (topG_out T true)
set_option maxHeartbeats 16000000 in
theorem rread_any (s:ByteArray) (tests:Bool) (w:World):Calls Tryz.prog 31 #[.string s,.bool tests] w (NPost (parseF s tests) w):=by
 have HM:=Lib.hid (Mem.start w)
 have HA:=Lib.hid (fun W=>rlexRead_any s W)
 unfold LexPost at HA
 have hTk:=lexF_tks s
 have hKn:=lexF_knd s
 have HP:=Lib.hid (show parseF s tests=if (lexF s).2=0 then topF (lexF s).1 tests else ([],(lexF s).2) from rfl)
 obtain ⟨⟨T,er⟩,hr⟩:∃ x,lexF s=x:=⟨_,rfl⟩
 simp only [hr] at HA hTk hKn HP
 clear hr
 obtain ⟨v,hv⟩:∃ v,parseF s tests=v:=⟨_,rfl⟩
 rw [hv] at HP ⊢
 clear hv
 by_cases h0:er=0
 ·subst h0
  have HP0:=HP.out
  rw [if_pos rfl] at HP0
  clear HP
  unfold topF at HP0
  have hne:=topG_out T tests
  have hok:=fun l n j (h:topG T tests = .ok l n j)=>topG_ok hTk h
  cases tests with
  | true=>
   have HTop:=Lib.hid (fun (W1:World) (tp:Option Addr) (tc:Nat) (h:Sl W1 tp (T.flatMap TokD.cs))=>(show Calls Tryz.prog 52 #[.slice tp T.length tc] W1 (GPostA (topG T true) W1) from rTopT hTk hKn W1 tp tc h))
   unfold GPostA at HTop
   cases hg:topG T true with
   | out=>exact absurd hg hne
   | no=>
    simp only [hg] at HTop HP0
    have HV:=Lib.hid HP0
    have q1:((-1:Int) != (T.length:Int))=true:=by first|(simp;done)|(simp;omega)
    clear HP0 hne hok hg
    go_enter Tryz.func31,Tryz.ntmps31
    go_wp2_with (first|(go_at_call 51;(with_reducible refine (HA.out _).mono ?_);rintro e W2 ⟨tp,tc,rfl,hM2⟩;have HM1:=Lib.hid (HM.out.comp2 hM2);clear HM hM2;(try clear W1);rename World=>W1;have HM:=HM1;clear HM1;simp only [List.cons_append,List.nil_append] at HM)|((with_reducible refine iat 18 ?_);(refine bs0 rfl HM.out ?_;intro g18 W1 HM1;replace HM:=Lib.hid HM1;clear HM1))|(go_at_call 52;(with_reducible refine (HTop.out _ _ _ (row_sl (HM.out.get (k:=1) rfl))).mono ?_);rintro e W2 ⟨p,c,l,j,rfl,hM2,hl,rfl⟩;have HM1:=Lib.hid (HM.out.comp2 hM2);clear HM hM2;(try clear W1);rename World=>W1;have HM:=HM1;clear HM1;simp only [List.cons_append,List.nil_append] at HM)|((with_reducible refine skip_op ?_ ?_);exact rfl)|((with_reducible refine ibuildSlice ?_);refine bs0 rfl HM.out ?_;intro g1 W1 HM1;replace HM:=Lib.hid HM1;clear HM1))
    first|go_ret2|go_ret
    exact NPost.none_ HV.out HM.out.below
   | ok l n j=>
    obtain ⟨hj1,hl1,hno⟩:=hok l n j hg
    simp only [hg] at HTop HP0
    have hT1:=hTk.len
    by_cases hj:j=T.length
    ·subst hj
     rw [if_pos rfl] at HP0
     have HC:=Lib.hid (fun (W1:World) (p:Option Addr) (c:Nat) (h:Sl W1 p (l.flatMap NodeD.cs))=>rCheck_any p c l true W1 h (nodes_wf hno) (by omega))
     have q1:((T.length:Int) != (T.length:Int))=false:=by simp
     have d1:decide ((T.length:Int) < 0)=false:=decide_eq_false (by omega)
     by_cases hc:checkC l true=0
     ·rw [if_pos hc] at HP0
      rw [hc] at HC
      have HV:=Lib.hid HP0
      clear HP0 hne hok hg hno hc
      go_enter Tryz.func31,Tryz.ntmps31
      go_wp2_with (first|(go_at_call 51;(with_reducible refine (HA.out _).mono ?_);rintro e W2 ⟨tp,tc,rfl,hM2⟩;have HM1:=Lib.hid (HM.out.comp2 hM2);clear HM hM2;(try clear W1);rename World=>W1;have HM:=HM1;clear HM1;simp only [List.cons_append,List.nil_append] at HM)|((with_reducible refine iat 18 ?_);(refine bs0 rfl HM.out ?_;intro g18 W1 HM1;replace HM:=Lib.hid HM1;clear HM1))|(go_at_call 52;(with_reducible refine (HTop.out _ _ _ (row_sl (HM.out.get (k:=1) rfl))).mono ?_);rintro e W2 ⟨p,c,l1,j1,rfl,hM2,rfl,rfl⟩;have HM1:=Lib.hid (HM.out.comp2 hM2);clear HM hM2;(try clear W1);rename World=>W1;have HM:=HM1;clear HM1;simp only [List.cons_append,List.nil_append] at HM)|(go_at_call 10;(with_reducible refine (HC.out _ _ _ (row_sl (HM.out.get (k:=0) rfl))).mono ?_);rintro e W1 ⟨rfl,hb⟩;replace HM:=Lib.hid (HM.out.next hb);clear hb)|((with_reducible refine skip_op ?_ ?_);exact rfl)|((with_reducible refine ibuildSlice ?_);refine bs0 rfl HM.out ?_;intro g1 W1 HM1;replace HM:=Lib.hid HM1;clear HM1))
      first|go_ret2|go_ret
      rw [HV.out]
      exact ⟨_,_,rfl,HM.out.sub (.cons_cons _ (List.nil_sublist _))⟩
     ·rw [if_neg hc] at HP0
      obtain ⟨cc,hcc⟩:∃ cc,checkC l true=cc:=⟨_,rfl⟩
      rw [hcc] at HC HP0 hc
      have q2:(cc != 0)=true:=by simpa using hc
      have HV:=Lib.hid HP0
      clear HP0 hne hok hg hno hc hcc
      go_enter Tryz.func31,Tryz.ntmps31
      go_wp2_with (first|(go_at_call 51;(with_reducible refine (HA.out _).mono ?_);rintro e W2 ⟨tp,tc,rfl,hM2⟩;have HM1:=Lib.hid (HM.out.comp2 hM2);clear HM hM2;(try clear W1);rename World=>W1;have HM:=HM1;clear HM1;simp only [List.cons_append,List.nil_append] at HM)|((with_reducible refine iat 18 ?_);(refine bs0 rfl HM.out ?_;intro g18 W1 HM1;replace HM:=Lib.hid HM1;clear HM1))|(go_at_call 52;(with_reducible refine (HTop.out _ _ _ (row_sl (HM.out.get (k:=1) rfl))).mono ?_);rintro e W2 ⟨p,c,l1,j1,rfl,hM2,rfl,rfl⟩;have HM1:=Lib.hid (HM.out.comp2 hM2);clear HM hM2;(try clear W1);rename World=>W1;have HM:=HM1;clear HM1;simp only [List.cons_append,List.nil_append] at HM)|(go_at_call 10;(with_reducible refine (HC.out _ _ _ (row_sl (HM.out.get (k:=0) rfl))).mono ?_);rintro e W1 ⟨rfl,hb⟩;replace HM:=Lib.hid (HM.out.next hb);clear hb)|((with_reducible refine skip_op ?_ ?_);exact rfl)|((with_reducible refine ibuildSlice ?_);refine bs0 rfl HM.out ?_;intro g1 W1 HM1;replace HM:=Lib.hid HM1;clear HM1))
      first|go_ret2|go_ret
      exact NPost.none_ HV.out HM.out.below
    ·rw [if_neg hj] at HP0
     have HV:=Lib.hid HP0
     have q1:((j:Int) != (T.length:Int))=true:=by first|(simp;done)|(simp;omega)
     clear HP0 hne hok hg hno
     go_enter Tryz.func31,Tryz.ntmps31
     go_wp2_with (first|(go_at_call 51;(with_reducible refine (HA.out _).mono ?_);rintro e W2 ⟨tp,tc,rfl,hM2⟩;have HM1:=Lib.hid (HM.out.comp2 hM2);clear HM hM2;(try clear W1);rename World=>W1;have HM:=HM1;clear HM1;simp only [List.cons_append,List.nil_append] at HM)|((with_reducible refine iat 18 ?_);(refine bs0 rfl HM.out ?_;intro g18 W1 HM1;replace HM:=Lib.hid HM1;clear HM1))|(go_at_call 52;(with_reducible refine (HTop.out _ _ _ (row_sl (HM.out.get (k:=1) rfl))).mono ?_);rintro e W2 ⟨p,c,l1,j1,rfl,hM2,rfl,rfl⟩;have HM1:=Lib.hid (HM.out.comp2 hM2);clear HM hM2;(try clear W1);rename World=>W1;have HM:=HM1;clear HM1;simp only [List.cons_append,List.nil_append] at HM)|((with_reducible refine skip_op ?_ ?_);exact rfl)|((with_reducible refine ibuildSlice ?_);refine bs0 rfl HM.out ?_;intro g1 W1 HM1;replace HM:=Lib.hid HM1;clear HM1))
     first|go_ret2|go_ret
     exact NPost.none_ HV.out HM.out.below
  | false=>
   have HTop:=Lib.hid (fun (W1:World) (tp:Option Addr) (tc:Nat) (h:Sl W1 tp (T.flatMap TokD.cs))=>(show Calls Tryz.prog 53 #[.slice tp T.length tc,.int .i64 0] W1 (GPostA (topG T false) W1) from rTopE hTk hKn W1 tp tc h))
   unfold GPostA at HTop
   cases hg:topG T false with
   | out=>exact absurd hg hne
   | no=>
    simp only [hg] at HTop HP0
    have HV:=Lib.hid HP0
    have q1:((-1:Int) != (T.length:Int))=true:=by first|(simp;done)|(simp;omega)
    clear HP0 hne hok hg
    go_enter Tryz.func31,Tryz.ntmps31
    go_wp2_with (first|(go_at_call 51;(with_reducible refine (HA.out _).mono ?_);rintro e W2 ⟨tp,tc,rfl,hM2⟩;have HM1:=Lib.hid (HM.out.comp2 hM2);clear HM hM2;(try clear W1);rename World=>W1;have HM:=HM1;clear HM1;simp only [List.cons_append,List.nil_append] at HM)|((with_reducible refine iat 18 ?_);(refine bs0 rfl HM.out ?_;intro g18 W1 HM1;replace HM:=Lib.hid HM1;clear HM1))|(go_at_call 53;(with_reducible refine (HTop.out _ _ _ (row_sl (HM.out.get (k:=1) rfl))).mono ?_);rintro e W2 ⟨p,c,l,j,rfl,hM2,hl,rfl⟩;have HM1:=Lib.hid (HM.out.comp2 hM2);clear HM hM2;(try clear W1);rename World=>W1;have HM:=HM1;clear HM1;simp only [List.cons_append,List.nil_append] at HM)|((with_reducible refine skip_op ?_ ?_);exact rfl)|((with_reducible refine ibuildSlice ?_);refine bs0 rfl HM.out ?_;intro g1 W1 HM1;replace HM:=Lib.hid HM1;clear HM1))
    first|go_ret2|go_ret
    exact NPost.none_ HV.out HM.out.below
   | ok l n j=>
    obtain ⟨hj1,hl1,hno⟩:=hok l n j hg
    simp only [hg] at HTop HP0
    have hT1:=hTk.len
    by_cases hj:j=T.length
    ·subst hj
     rw [if_pos rfl] at HP0
     have HC:=Lib.hid (fun (W1:World) (p:Option Addr) (c:Nat) (h:Sl W1 p (l.flatMap NodeD.cs))=>rCheck_any p c l false W1 h (nodes_wf hno) (by omega))
     have q1:((T.length:Int) != (T.length:Int))=false:=by simp
     have d1:decide ((T.length:Int) < 0)=false:=decide_eq_false (by omega)
     by_cases hc:checkC l false=0
     ·rw [if_pos hc] at HP0
      rw [hc] at HC
      have HV:=Lib.hid HP0
      clear HP0 hne hok hg hno hc
      go_enter Tryz.func31,Tryz.ntmps31
      go_wp2_with (first|(go_at_call 51;(with_reducible refine (HA.out _).mono ?_);rintro e W2 ⟨tp,tc,rfl,hM2⟩;have HM1:=Lib.hid (HM.out.comp2 hM2);clear HM hM2;(try clear W1);rename World=>W1;have HM:=HM1;clear HM1;simp only [List.cons_append,List.nil_append] at HM)|((with_reducible refine iat 18 ?_);(refine bs0 rfl HM.out ?_;intro g18 W1 HM1;replace HM:=Lib.hid HM1;clear HM1))|(go_at_call 53;(with_reducible refine (HTop.out _ _ _ (row_sl (HM.out.get (k:=1) rfl))).mono ?_);rintro e W2 ⟨p,c,l1,j1,rfl,hM2,rfl,rfl⟩;have HM1:=Lib.hid (HM.out.comp2 hM2);clear HM hM2;(try clear W1);rename World=>W1;have HM:=HM1;clear HM1;simp only [List.cons_append,List.nil_append] at HM)|(go_at_call 10;(with_reducible refine (HC.out _ _ _ (row_sl (HM.out.get (k:=0) rfl))).mono ?_);rintro e W1 ⟨rfl,hb⟩;replace HM:=Lib.hid (HM.out.next hb);clear hb)|((with_reducible refine skip_op ?_ ?_);exact rfl)|((with_reducible refine ibuildSlice ?_);refine bs0 rfl HM.out ?_;intro g1 W1 HM1;replace HM:=Lib.hid HM1;clear HM1))
      first|go_ret2|go_ret
      rw [HV.out]
      exact ⟨_,_,rfl,HM.out.sub (.cons_cons _ (List.nil_sublist _))⟩
     ·rw [if_neg hc] at HP0
      obtain ⟨cc,hcc⟩:∃ cc,checkC l false=cc:=⟨_,rfl⟩
      rw [hcc] at HC HP0 hc
      have q2:(cc != 0)=true:=by simpa using hc
      have HV:=Lib.hid HP0
      clear HP0 hne hok hg hno hc hcc
      go_enter Tryz.func31,Tryz.ntmps31
      go_wp2_with (first|(go_at_call 51;(with_reducible refine (HA.out _).mono ?_);rintro e W2 ⟨tp,tc,rfl,hM2⟩;have HM1:=Lib.hid (HM.out.comp2 hM2);clear HM hM2;(try clear W1);rename World=>W1;have HM:=HM1;clear HM1;simp only [List.cons_append,List.nil_append] at HM)|((with_reducible refine iat 18 ?_);(refine bs0 rfl HM.out ?_;intro g18 W1 HM1;replace HM:=Lib.hid HM1;clear HM1))|(go_at_call 53;(with_reducible refine (HTop.out _ _ _ (row_sl (HM.out.get (k:=1) rfl))).mono ?_);rintro e W2 ⟨p,c,l1,j1,rfl,hM2,rfl,rfl⟩;have HM1:=Lib.hid (HM.out.comp2 hM2);clear HM hM2;(try clear W1);rename World=>W1;have HM:=HM1;clear HM1;simp only [List.cons_append,List.nil_append] at HM)|(go_at_call 10;(with_reducible refine (HC.out _ _ _ (row_sl (HM.out.get (k:=0) rfl))).mono ?_);rintro e W1 ⟨rfl,hb⟩;replace HM:=Lib.hid (HM.out.next hb);clear hb)|((with_reducible refine skip_op ?_ ?_);exact rfl)|((with_reducible refine ibuildSlice ?_);refine bs0 rfl HM.out ?_;intro g1 W1 HM1;replace HM:=Lib.hid HM1;clear HM1))
      first|go_ret2|go_ret
      exact NPost.none_ HV.out HM.out.below
    ·rw [if_neg hj] at HP0
     have HV:=Lib.hid HP0
     have q1:((j:Int) != (T.length:Int))=true:=by first|(simp;done)|(simp;omega)
     clear HP0 hne hok hg hno
     go_enter Tryz.func31,Tryz.ntmps31
     go_wp2_with (first|(go_at_call 51;(with_reducible refine (HA.out _).mono ?_);rintro e W2 ⟨tp,tc,rfl,hM2⟩;have HM1:=Lib.hid (HM.out.comp2 hM2);clear HM hM2;(try clear W1);rename World=>W1;have HM:=HM1;clear HM1;simp only [List.cons_append,List.nil_append] at HM)|((with_reducible refine iat 18 ?_);(refine bs0 rfl HM.out ?_;intro g18 W1 HM1;replace HM:=Lib.hid HM1;clear HM1))|(go_at_call 53;(with_reducible refine (HTop.out _ _ _ (row_sl (HM.out.get (k:=1) rfl))).mono ?_);rintro e W2 ⟨p,c,l1,j1,rfl,hM2,rfl,rfl⟩;have HM1:=Lib.hid (HM.out.comp2 hM2);clear HM hM2;(try clear W1);rename World=>W1;have HM:=HM1;clear HM1;simp only [List.cons_append,List.nil_append] at HM)|((with_reducible refine skip_op ?_ ?_);exact rfl)|((with_reducible refine ibuildSlice ?_);refine bs0 rfl HM.out ?_;intro g1 W1 HM1;replace HM:=Lib.hid HM1;clear HM1))
     first|go_ret2|go_ret
     exact NPost.none_ HV.out HM.out.below
 ·have HP0:=HP.out
  rw [if_neg h0] at HP0
  have HV:=Lib.hid HP0
  have q1:(er != 0)=true:=by simpa using h0
  clear HP HP0 h0
  go_enter Tryz.func31,Tryz.ntmps31
  go_wp2_with (first|(go_at_call 51;(with_reducible refine (HA.out _).mono ?_);rintro e W2 ⟨tp,tc,rfl,hM2⟩;have HM1:=Lib.hid (HM.out.comp2 hM2);clear HM hM2;(try clear W1);rename World=>W1;have HM:=HM1;clear HM1;simp only [List.cons_append,List.nil_append] at HM)|((with_reducible refine skip_op ?_ ?_);exact rfl)|((with_reducible refine ibuildSlice ?_);refine bs0 rfl HM.out ?_;intro g1 W1 HM1;replace HM:=Lib.hid HM1;clear HM1))
  first|go_ret2|go_ret
  exact NPost.none_ HV.out HM.out.below
theorem rParse_any (s:ByteArray) (w:World):Calls Tryz.prog 13 #[.string s] w (NPost (parseF s false) w):=by
 have HA:=Lib.hid (rread_any s false w)
 unfold NPost at HA
 go_enter Tryz.func13,Tryz.ntmps13
 go_wp2_with (go_at_call 31;(with_reducible refine HA.out.mono ?_);rintro e W2 ⟨p,oc,rfl,hM⟩;have HM:=Lib.hid hM;clear hM)
 go_ret2
 exact ⟨p,oc,rfl,HM.out⟩
end Go.Proofs.YtheimopjglkgjaaGreatDoor
