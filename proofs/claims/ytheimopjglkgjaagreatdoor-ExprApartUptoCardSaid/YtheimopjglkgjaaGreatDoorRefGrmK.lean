/- The reference's tests, its single test. (fast) -/
import Derived.Test.YtheimopjglkgjaaGreatDoorRgG
import Derived.Test.YtheimopjglkgjaaGreatDoorRefGrmJ
import Derived.Test.YtheimopjglkgjaaGreatDoorTokB
import Derived.Test.YtheimopjglkgjaaGreatDoorExprEmb
namespace Go.Proofs.YtheimopjglkgjaaGreatDoor
open Go.RowKit
set_option linter.unusedVariables false
set_option linter.unusedSimpArgs false
set_option maxRecDepth 100000
theorem Mem.boxrow {w0 W:World} {L:List Res} (h:Mem w0 W L) {k:Nat} {g j n:Nat} {e:TypeId} {cs:List Value} (hk:L[k]? = some (.box g e cs)) (hl:cs.length=n * j) (hn:n≤maxLen):Mem w0 W (L.set k (.row (some ⟨g,0,none⟩) n e j n cs)):=h.turn0 hk (box_row (h.get hk) hl hn) (fun g e=>e)
def GPostA (r:PR) (w:World) (e:Ending) (w' : World):Prop:=∃ (p:Option Addr) (c:Nat) (l:List NodeD) (j:Int),e = .returned (.tuple #[.slice p l.length c,.int .i64 j])∧Mem w w' [.row p c 36 8 l.length (l.flatMap NodeD.cs)]∧match r with
 | .out=>False
 | .no=>l.length≤2∧j = -1
 | .ok l' _ j'=>l=l'∧j=j'
theorem GPost.toA {r:PR} {w w' : World} {e:Ending} (h:GPost r w e w'):GPostA r w e w':=by
 obtain ⟨p,c,l,j,rfl,hM,hm⟩:=h
 refine ⟨p,c,l,j,rfl,hM,?_⟩
 cases r with
 | out=>exact hm
 | no=>exact ⟨by have:=hm.1;omega,hm.2⟩
 | ok l' n j'=>exact hm
theorem GPostA.noL {r:PR} {w w' : World} {l:List NodeD} {p:Option Addr} {c:Nat} (h:r = .no) (hl:l.length≤2) (hM:Mem w w' [.row p c 36 8 l.length (l.flatMap NodeD.cs)]):GPostA r w (.returned (.tuple #[.slice p l.length c,.int .i64 (-1)])) w':=by
 subst h
 exact ⟨p,c,l,-1,rfl,hM,hl,rfl⟩
set_option maxHeartbeats 8000000 in
theorem rTests {T:List TokD} (hT:TksOk T) (fuel:Nat) (ihG:∀ g,g≤fuel→RC T 83 .grp g) (ihL:∀ g,g≤fuel→RC T 84 .tests g) (W:World) (tp:Option Addr) (tc:Nat) (HT:Sl W tp (T.flatMap TokD.cs)) (hne:G T (fuel + 1) .unary 0≠.out) :
  Calls Tryz.prog 52 #[.slice tp T.length tc] W (GPostA (G T (fuel + 1) .unary 0) W):=by
 obtain ⟨r,hr⟩:∃ r,G T (fuel + 1) .unary 0=r:=⟨_,rfl⟩
 rw [hr] at hne ⊢
 have hr0:=hr
 have hr:r≠.out:=hne
 have HM:=Lib.hid (Mem.start W)
 have HTk:=Lib.hid HT
 have hT1:=hT.len
 simp only [G] at hr0
 clear hne HT
 by_cases h1:T.length=1∧isT T 0 [45]=true
 ·rw [if_pos h1] at hr0
  have HR:=Lib.hid hr0
  have HB:=Lib.hid h1.2
  have q1:((T.length:Int) == 1)=true:=by simp [h1.1]
  clear hr0 h1
  go_enter Tryz.func52,Tryz.ntmps52
  go_wp2_with (first|(go_at_call 82;(with_reducible refine (is_yes HB.out (HM.out.sl HTk.out) (by omega) rfl (by decide)).mono ?_);rintro e W2 ⟨rfl,rfl⟩)|((with_reducible refine skip_op ?_ ?_);exact rfl)|((with_reducible refine ibuildSlice ?_);(first|refine bs0 rfl HM.out ?_|refine bs1A rfl HM.out rfl rfl rfl ?_);intro g1 W1 HM1;replace HM:=Lib.hid HM1;clear HM1))
  go_ret2
  have HM2:=HM.out.boxrow (k:=0) (j:=8) (n:=1) rfl rfl (by decide)
  exact (GPost.okn (l:=[nOp 29 0]) HR.out rfl rfl HM2).toA
 ·rw [if_neg h1] at hr0
  have HR:=Lib.hid hr0
  clear hr0
  by_cases h2:T.length=1
  ·have q1:((T.length:Int) == 1)=true:=by simp [h2]
   have HB:=Lib.hid (show isT T 0 [45]=false by
    cases hb:isT T 0 [45] with
    | false=>rfl
    | true=>exact absurd ⟨h2,hb⟩ h1)
   clear h1 h2
   go_enter Tryz.func52,Tryz.ntmps52
   go_wp2_with (first|(go_at_call 82;first|((with_reducible refine (is_no HB.out (HM.out.sl HTk.out) (by omega) rfl (by decide)).mono ?_);rintro e W2 ⟨rfl,rfl⟩)|(refine is_use HR.out (HM.out.sl HTk.out) (i:=0) (by omega) rfl (by decide) ?_ ?_;all_goals (intro hb hR2;(try have hlt:=isT_lt hb);clear hb;have HR1:=Lib.hid hR2;clear HR hR2;have HR:=HR1;clear HR1)))|fail|(go_at_call 83;refine RC.use (ihG fuel (Nat.le_refl _)) HR.out hr (HM.out.sl HTk.out) (by omega) (by omega) (by simp) (fun hno p c l W2 hl hM2=>?_) (fun l m j hR2 hG p c W2 hM2=>?_);all_goals first|(have hg:=hG.lenc 0 rfl rfl rfl;clear hG;obtain ⟨hL,hF,hJ⟩:=hg;have HR1:=Lib.hid hR2;clear HR hR2;have HR:=HR1;clear HR1;have HM1:=Lib.hid (HM.out.comp2 hM2);clear HM hM2;(try clear W1);rename World=>W1;have HM:=HM1;clear HM1;simp only [List.cons_append,List.nil_append] at HM)|(have HNo:=Lib.hid hno;clear hno HR;have HM1:=Lib.hid (HM.out.comp2 hM2);clear HM hM2;(try clear W1);rename World=>W1;have HM:=HM1;clear HM1;simp only [List.cons_append,List.nil_append] at HM))|(go_at_call 84;refine RC.use (ihL fuel (Nat.le_refl _)) ((bind_ok _).trans HR.out) hr (HM.out.sl HTk.out) (by omega) (by omega) (by simp) (fun hno p c l W2 hl hM2=>?_) (fun l m j hR2 hG p c W2 hM2=>?_);all_goals first|(have hg:=hG.lenc 2 rfl rfl rfl;clear hG;obtain ⟨hL,hF,hJ⟩:=hg;have HR1:=Lib.hid hR2;clear HR hR2;have HR:=HR1;clear HR1;have HM1:=Lib.hid (HM.out.comp2 hM2);clear HM hM2;(try clear W1);rename World=>W1;have HM:=HM1;clear HM1;simp only [List.cons_append,List.nil_append] at HM)|(have HNo:=Lib.hid hno;clear hno HR;have HM1:=Lib.hid (HM.out.comp2 hM2);clear HM hM2;(try clear W1);rename World=>W1;have HM:=HM1;clear HM1;simp only [List.cons_append,List.nil_append] at HM))|((with_reducible refine iat 22 ?_);(refine bs0 rfl HM.out ?_;intro g22 W1 HM1;replace HM:=Lib.hid HM1;clear HM1))|((with_reducible refine iat 24 ?_);(refine apN (l:=[]) rfl HM.out 0 rfl rfl rfl rfl (by first|rfl|simp only [List.length_append,List.nil_append,List.length_nil,List.length_cons,Nat.zero_add]) rfl (row_sl (HM.out.get (k:=1) rfl)) om om (by decide) ?_;intro p24 c24 W1 HM1;replace HM:=Lib.hid HM1;clear HM1;simp only [List.set,List.nil_append] at HM))|((with_reducible refine iat 27 ?_);(have h5:Sl _ _ ([nOp 37 1].flatMap NodeD.cs):=row_sl (box_row (n:=1) (k:=8) (HM.out.get (k:=0) rfl) rfl (by decide));refine apN (la:=[nOp 37 1]) rfl HM.out 1 rfl rfl rfl rfl (by first|rfl|simp only [List.length_append,List.nil_append,List.length_nil,List.length_cons,Nat.zero_add]) rfl h5 om (by simp) (by decide) ?_;intro p27 c27 W2 HM1;clear h5;clear HM;(try clear W1);rename World=>W1;have HM:=Lib.hid HM1;clear HM1;simp only [List.set,List.nil_append] at HM))|((with_reducible refine skip_op ?_ ?_);exact rfl)|((with_reducible refine ibuildSlice ?_);(first|refine bs0 rfl HM.out ?_|refine bs1A rfl HM.out rfl rfl rfl ?_);intro g1 W1 HM1;replace HM:=Lib.hid HM1;clear HM1))
   all_goals go_ret2
   all_goals (first|exact (GPost.okn HR.out (by first|rfl|(simp only [List.length_append,List.length_cons,List.length_nil];omega)) (by first|rfl|omega) (HM.out.sub (.cons _ (.cons_cons _ (List.nil_sublist _))))).toA|exact (GPost.okn HR.out (by rfl) (by first|rfl|omega) (HM.out.sub (.cons_cons _ (List.nil_sublist _)))).toA|exact GPostA.noL HNo.out om (HM.out.sub (.cons_cons _ (List.nil_sublist _)))|exact GPostA.noL HNo.out om (HM.out.sub (.cons _ (.cons_cons _ (List.nil_sublist _)))))
  ·have q1:((T.length:Int) == 1)=false:=by simp;omega
   clear h1 h2
   go_enter Tryz.func52,Tryz.ntmps52
   go_wp2_with (first|(go_at_call 82;refine is_use HR.out (HM.out.sl HTk.out) (i:=0) (by omega) rfl (by decide) ?_ ?_;all_goals (intro hb hR2;(try have hlt:=isT_lt hb);clear hb;have HR1:=Lib.hid hR2;clear HR hR2;have HR:=HR1;clear HR1))|(go_at_call 83;refine RC.use (ihG fuel (Nat.le_refl _)) HR.out hr (HM.out.sl HTk.out) (by omega) (by omega) (by simp) (fun hno p c l W2 hl hM2=>?_) (fun l m j hR2 hG p c W2 hM2=>?_);all_goals first|(have hg:=hG.lenc 0 rfl rfl rfl;clear hG;obtain ⟨hL,hF,hJ⟩:=hg;have HR1:=Lib.hid hR2;clear HR hR2;have HR:=HR1;clear HR1;have HM1:=Lib.hid (HM.out.comp2 hM2);clear HM hM2;(try clear W1);rename World=>W1;have HM:=HM1;clear HM1;simp only [List.cons_append,List.nil_append] at HM)|(have HNo:=Lib.hid hno;clear hno HR;have HM1:=Lib.hid (HM.out.comp2 hM2);clear HM hM2;(try clear W1);rename World=>W1;have HM:=HM1;clear HM1;simp only [List.cons_append,List.nil_append] at HM))|(go_at_call 84;refine RC.use (ihL fuel (Nat.le_refl _)) ((bind_ok _).trans HR.out) hr (HM.out.sl HTk.out) (by omega) (by omega) (by simp) (fun hno p c l W2 hl hM2=>?_) (fun l m j hR2 hG p c W2 hM2=>?_);all_goals first|(have hg:=hG.lenc 2 rfl rfl rfl;clear hG;obtain ⟨hL,hF,hJ⟩:=hg;have HR1:=Lib.hid hR2;clear HR hR2;have HR:=HR1;clear HR1;have HM1:=Lib.hid (HM.out.comp2 hM2);clear HM hM2;(try clear W1);rename World=>W1;have HM:=HM1;clear HM1;simp only [List.cons_append,List.nil_append] at HM)|(have HNo:=Lib.hid hno;clear hno HR;have HM1:=Lib.hid (HM.out.comp2 hM2);clear HM hM2;(try clear W1);rename World=>W1;have HM:=HM1;clear HM1;simp only [List.cons_append,List.nil_append] at HM))|((with_reducible refine iat 22 ?_);(refine bs0 rfl HM.out ?_;intro g22 W1 HM1;replace HM:=Lib.hid HM1;clear HM1))|((with_reducible refine iat 24 ?_);(refine apN (l:=[]) rfl HM.out 0 rfl rfl rfl rfl (by first|rfl|simp only [List.length_append,List.nil_append,List.length_nil,List.length_cons,Nat.zero_add]) rfl (row_sl (HM.out.get (k:=1) rfl)) om om (by decide) ?_;intro p24 c24 W1 HM1;replace HM:=Lib.hid HM1;clear HM1;simp only [List.set,List.nil_append] at HM))|((with_reducible refine iat 27 ?_);(have h5:Sl _ _ ([nOp 37 1].flatMap NodeD.cs):=row_sl (box_row (n:=1) (k:=8) (HM.out.get (k:=0) rfl) rfl (by decide));refine apN (la:=[nOp 37 1]) rfl HM.out 1 rfl rfl rfl rfl (by first|rfl|simp only [List.length_append,List.nil_append,List.length_nil,List.length_cons,Nat.zero_add]) rfl h5 om (by simp) (by decide) ?_;intro p27 c27 W2 HM1;clear h5;clear HM;(try clear W1);rename World=>W1;have HM:=Lib.hid HM1;clear HM1;simp only [List.set,List.nil_append] at HM))|((with_reducible refine skip_op ?_ ?_);exact rfl)|((with_reducible refine ibuildSlice ?_);(first|refine bs0 rfl HM.out ?_|refine bs1A rfl HM.out rfl rfl rfl ?_);intro g1 W1 HM1;replace HM:=Lib.hid HM1;clear HM1))
   all_goals go_ret2
   all_goals (first|exact (GPost.okn HR.out (by first|rfl|(simp only [List.length_append,List.length_cons,List.length_nil];omega)) (by first|rfl|omega) (HM.out.sub (.cons _ (.cons_cons _ (List.nil_sublist _))))).toA|exact (GPost.okn HR.out (by rfl) (by first|rfl|omega) (HM.out.sub (.cons_cons _ (List.nil_sublist _)))).toA|exact GPostA.noL HNo.out om (HM.out.sub (.cons_cons _ (List.nil_sublist _)))|exact GPostA.noL HNo.out om (HM.out.sub (.cons _ (.cons_cons _ (List.nil_sublist _)))))
theorem any4 (T:List TokD) (i:Nat):anyF T i [⟨#[60]⟩,⟨#[60,61]⟩,⟨#[62]⟩,⟨#[62,61]⟩] 0=if 15≤relT T i then relT T i - 15 else -1:=by
 have e:∀ s,isT T i s=((sgT T i).toList == s):=fun _=>rfl
 unfold relT relL
 simp only [anyF,e,ByteArray.toList_eq]
 generalize (sgT T i).data.toList=l
 by_cases h1:(l == [61])=true
 ·rw [beq_iff_eq] at h1;subst h1;decide
 by_cases h2:(l == [33,61])=true
 ·rw [beq_iff_eq] at h2;subst h2;decide
 by_cases h3:(l == [60])=true
 ·simp [h1,h2,h3]
 by_cases h4:(l == [60,61])=true
 ·simp [h1,h2,h3,h4]
 by_cases h5:(l == [62])=true
 ·simp [h1,h2,h3,h4,h5]
 by_cases h6:(l == [62,61])=true
 ·simp [h1,h2,h3,h4,h5,h6]
 simp [h1,h2,h3,h4,h5,h6]
theorem any1_4 {T:List TokD} {W:World} {tp lp:Option Addr} {tc lc i:Nat} {v:Int} (hv:(if 15≤relT T i then relT T i - 15 else -1)=v) (HT:Sl W tp (T.flatMap TokD.cs)) (HL:Sl W lp (([⟨#[60]⟩,⟨#[60,61]⟩,⟨#[62]⟩,⟨#[62,61]⟩]:List ByteArray).flatMap strC)) :
  Calls Tryz.prog 144 #[.slice tp T.length tc,.int .i64 i,.slice lp 4 lc] W fun e w'=>e = .returned (.int .i64 v)∧W=w':=by
 have h:=rAny1 T tp lp tc lc i [⟨#[60]⟩,⟨#[60,61]⟩,⟨#[62]⟩,⟨#[62,61]⟩] W HT HL (by
  intro x hx
  simp only [List.mem_cons,List.not_mem_nil,or_false] at hx
  rcases hx with rfl|rfl|rfl|rfl <;> (rw [ByteArray.toList_eq];decide)) (by decide)
 rw [any4,hv] at h
 exact h
theorem tok_sg {T:List TokD} {W:World} {tp:Option Addr} {i:Nat} {s:List UInt8} (h:isT T i s=true) (hs:s≠[]) (HT:Sl W tp (T.flatMap TokD.cs)):∃ (b:Addr) (k:Int) (n1 n2:Nat) (sc dy at_:Int),tp=some b∧Cells W (b.add (i * 8)) [.int .i64 k,.string (sgT T i),.bool false,.int .u64 n1,.int .u64 n2,.int .i64 sc,.int .i64 dy,.int .i64 at_]:=by
 obtain ⟨t,ht,h5,-⟩:=isT_tok h hs
 obtain ⟨b,hb,hc⟩:=tokAt HT ht
 have e:sgT T i=t.text:=by
  unfold sgT
  rw [ht]
  exact if_pos h5
 rw [e]
 exact ⟨b,_,_,_,_,_,_,hb,hc⟩
theorem ends_use {T:List TokD} {W:World} {b:Addr} {lp:Option Addr} {tc lc i:Nat} {r A B:PR} {K:Ending→World→Prop} {d:Int} (HR:(if (isT T i [93] || isT T i [41])=true then A else B)=r) (HT:Sl W (some b) (T.flatMap TokD.cs)) (HL:Sl W lp (([⟨#[93]⟩,⟨#[41]⟩]:List ByteArray).flatMap strC)) (hd:d=(i:Int))
  (hyes:∀ (y:Int),0≤y→(∀ W0:World,Sl W0 (some b) (T.flatMap TokD.cs)→∃ (k:Int) (n1 n2:Nat) (sc dy at_:Int),Cells W0 (b.add (i * 8)) [.int .i64 k,.string (sgT T i),.bool false,.int .u64 n1,.int .u64 n2,.int .i64 sc,.int .i64 dy,.int .i64 at_])→i < T.length→A=r→K (.returned (.int .i64 y)) W) (hno:B=r→K (.returned (.int .i64 (-1))) W) :
  Calls Tryz.prog 144 #[.slice (some b) T.length tc,.int .i64 d,.slice lp 2 lc] W K:=by
 subst hd
 refine (any1_2 (x:=⟨#[93]⟩) (y:=⟨#[41]⟩) (s:=[93]) (s2:=[41]) rfl HT HL rfl (by decide) rfl (by decide)).mono fun e W' ⟨he,hw⟩=>?_
 subst he hw
 have key:∀ (s:List UInt8) (y:Int),s≠[]→isT T i s=true→0≤y→A=r→K (.returned (.int .i64 y)) W:=fun s y hs h hy hA=>by
  refine hyes y hy (fun W0 H0=>?_) (isT_end h hs) hA
  obtain ⟨b',k,n1,n2,sc,dy,at_,e,hc⟩:=tok_sg h hs H0
  cases e
  exact ⟨k,n1,n2,sc,dy,at_,hc⟩
 cases h1:isT T i [93] with
 | true=>rw [h1] at HR;exact key [93] 0 (by decide) h1 (by decide) HR
 | false=>
  cases h2:isT T i [41] with
  | true=>rw [h1,h2] at HR;exact key [41] 1 (by decide) h2 (by decide) HR
  | false=>rw [h1,h2] at HR;exact hno HR
set_option maxHeartbeats 16000000 in
theorem rOne {T:List TokD} (hK:KndOk T) (hT:TksOk T) (fuel:Nat) (ihA:∀ g,g≤fuel→AC T 85 3 .sum g):RC T 112 .test (fuel + 1):=by
 intro W tp tc i HT hi hne
 obtain ⟨r,hr⟩:∃ r,G T (fuel + 1) .test i=r:=⟨_,rfl⟩
 rw [hr] at hne ⊢
 have HR:=Lib.hid hr
 clear hr
 have hr:r≠.out:=hne
 have HM:=Lib.hid (Mem.start W)
 have HTk:=Lib.hid HT
 have hT1:=hT.len
 clear hne HT
 simp only [G] at HR
 have HR0:=HR.out
 clear HR
 by_cases h15:15≤relT T i
 ·rw [if_pos h15] at HR0
  have hle:=relL_le (sgT T i).toList
  have hlt:=relT_lt (T:=T) (i:=i) (by omega)
  obtain ⟨y,hy⟩:∃ y,relT T i=15 + y:=⟨relT T i - 15,by omega⟩
  have hy0:0≤y:=by omega
  have hy3:y≤3:=by have:relT T i≤18:=hle.2;omega
  rw [show relT T i + 16=31 + y by omega] at HR0
  have HR:=Lib.hid HR0
  have HV:=Lib.hid (show (if 15≤relT T i then relT T i - 15 else -1)=y by rw [if_pos h15];omega)
  have d18:decide (0≤y)=true:=decide_eq_true hy0
  clear HR0 hle h15 hy
  go_enter Tryz.func112,Tryz.ntmps112
  go_wp2_with (first|((with_reducible refine iat 17 ?_);(refine bsS [⟨#[60]⟩,⟨#[60,61]⟩,⟨#[62]⟩,⟨#[62,61]⟩] rfl HM.out (by first|rfl|simp [Act.eval]) rfl (by decide) ?_;intro g17 W1 HM1;replace HM:=Lib.hid HM1;clear HM1))|(go_at_call 144;first|((with_reducible refine (any1_4 HV.out (HM.out.sl HTk.out) (row_sl (box_row (n:=4) (k:=1) (HM.out.get (k:=0) rfl) rfl (by decide)))).mono ?_);rintro e W2 ⟨rfl,rfl⟩))|(go_at_call 85;refine AC.use (ihA fuel (Nat.le_refl _)) HR.out hr (HM.out.sl HTk.out) (by omega) (by omega) (by simp) (fun hno p c l W2 hl hM2=>?_) (fun l m j hR2 hG p c W2 hM2=>?_);all_goals first|(have hg:=hG.lenc 0 rfl rfl rfl;clear hG;obtain ⟨hL,hF,hJ⟩:=hg;have HR1:=Lib.hid hR2;clear HR hR2;have HR:=HR1;clear HR1;have HM1:=Lib.hid (HM.out.comp2 hM2);clear HM hM2;(try clear W1);rename World=>W1;have HM:=HM1;clear HM1;simp only [List.cons_append,List.nil_append] at HM)|(have HNo:=Lib.hid hno;clear hno HR;have HM1:=Lib.hid (HM.out.comp2 hM2);clear HM hM2;(try clear W1);rename World=>W1;have HM:=HM1;clear HM1;simp only [List.cons_append,List.nil_append] at HM))|((with_reducible refine iat 30 ?_);(refine bs0 rfl HM.out ?_;intro g30 W1 HM1;replace HM:=Lib.hid HM1;clear HM1))|((with_reducible refine iat 32 ?_);(refine apN (l:=[]) rfl HM.out 0 rfl rfl rfl rfl (by first|rfl|simp only [List.length_append,List.nil_append,List.length_nil,List.length_cons,Nat.zero_add]) rfl (row_sl (HM.out.get (k:=1) rfl)) om om (by decide) ?_;intro p32 c32 W1 HM1;replace HM:=Lib.hid HM1;clear HM1;simp only [List.set,List.nil_append] at HM))|((with_reducible refine iat 37 ?_);(have h5:Sl _ _ ([nOp (31 + y) 1].flatMap NodeD.cs):=row_sl (box_row (n:=1) (k:=8) (HM.out.get (k:=0) rfl) rfl (by decide));refine apN (la:=[nOp (31 + y) 1]) rfl HM.out 1 rfl rfl rfl rfl (by first|rfl|simp only [List.length_append,List.nil_append,List.length_nil,List.length_cons,Nat.zero_add]) rfl h5 om (by simp) (by decide) ?_;intro p37 c37 W2 HM1;clear h5;clear HM;(try clear W1);rename World=>W1;have HM:=Lib.hid HM1;clear HM1;simp only [List.set,List.nil_append] at HM))|((with_reducible refine skip_op ?_ ?_);exact rfl)|refine mP ?_|((with_reducible refine ibuildSlice ?_);(first|refine bs0 rfl HM.out ?_|refine bs1A rfl HM.out rfl rfl rfl ?_);intro g1 W1 HM1;replace HM:=Lib.hid HM1;clear HM1))
  all_goals go_ret2
  all_goals (first|exact GPost.okn HR.out (by first|rfl|(simp only [List.length_append,List.length_cons,List.length_nil];omega)) (by first|rfl|omega) (HM.out.sub (.cons _ (.cons_cons _ (List.nil_sublist _))))|exact GPost.no_ HNo.out HM.out.below|exact GPost.no_ HR.out.symm HM.out.below)
 ·rw [if_neg h15] at HR0
  have HV:=Lib.hid (show (if 15≤relT T i then relT T i - 15 else -1) = -1 from if_neg h15)
  clear h15
  cases hbr:(isT T i [91] || isT T i [40]) with
  | false=>
   rw [hbr] at HR0
   have HR:=Lib.hid (show _=r from HR0)
   have HV2:=Lib.hid (show (if isT T i [91]=true then (0:Int) else if isT T i [40]=true then 1 else -1) = -1 by
    rw [Bool.or_eq_false_iff] at hbr
    rw [hbr.1,hbr.2]
    rfl)
   clear HR0 hbr
   go_enter Tryz.func112,Tryz.ntmps112
   go_wp2_with (first|((with_reducible refine iat 17 ?_);(refine bsS [⟨#[60]⟩,⟨#[60,61]⟩,⟨#[62]⟩,⟨#[62,61]⟩] rfl HM.out (by first|rfl|simp [Act.eval]) rfl (by decide) ?_;intro g17 W1 HM1;replace HM:=Lib.hid HM1;clear HM1))|((with_reducible refine iat 41 ?_);(refine bsS [⟨#[91]⟩,⟨#[40]⟩] rfl HM.out (by first|rfl|simp [Act.eval]) rfl (by decide) ?_;intro g41 W1 HM1;replace HM:=Lib.hid HM1;clear HM1))|(go_at_call 144;first|((with_reducible refine (any1_4 HV.out (HM.out.sl HTk.out) (row_sl (box_row (n:=4) (k:=1) (HM.out.get (k:=0) rfl) rfl (by decide)))).mono ?_);rintro e W2 ⟨rfl,rfl⟩)|((with_reducible refine (any1_2 (x:=⟨#[91]⟩) (y:=⟨#[40]⟩) HV2.out (HM.out.sl HTk.out) (row_sl (box_row (n:=2) (k:=1) (HM.out.get (k:=0) rfl) rfl (by decide))) rfl (by decide) rfl (by decide)).mono ?_);rintro e W2 ⟨rfl,rfl⟩))|(go_at_call 145;(with_reducible refine (rIvl hK hT _ _ _ _ (HM.out.sl HTk.out) hi).mono ?_);rw [HI.out];rintro e W1 ⟨rfl,hb⟩;replace HM:=Lib.hid (HM.out.next hb);clear hb)|(go_at_call 85;refine AC.use (ihA fuel (Nat.le_refl _)) HR.out hr (HM.out.sl HTk.out) (by omega) (by omega) (by simp) (fun hno p c l W2 hl hM2=>?_) (fun l m j hR2 hG p c W2 hM2=>?_);all_goals first|(have hg:=hG.lenc 0 rfl rfl rfl;clear hG;obtain ⟨hL,hF,hJ⟩:=hg;have HR1:=Lib.hid hR2;clear HR hR2;have HR:=HR1;clear HR1;have HM1:=Lib.hid (HM.out.comp2 hM2);clear HM hM2;(try clear W1);rename World=>W1;have HM:=HM1;clear HM1;simp only [List.cons_append,List.nil_append] at HM)|(have HNo:=Lib.hid hno;clear hno HR;have HM1:=Lib.hid (HM.out.comp2 hM2);clear HM hM2;(try clear W1);rename World=>W1;have HM:=HM1;clear HM1;simp only [List.cons_append,List.nil_append] at HM))|((with_reducible refine iat 109 ?_);(refine bs0 rfl HM.out ?_;intro g109 W1 HM1;replace HM:=Lib.hid HM1;clear HM1))|((with_reducible refine iat 111 ?_);(refine apN (l:=[]) rfl HM.out 0 rfl rfl rfl rfl (by first|rfl|simp only [List.length_append,List.nil_append,List.length_nil,List.length_cons,Nat.zero_add]) rfl (row_sl (HM.out.get (k:=1) rfl)) om om (by decide) ?_;intro p111 c111 W1 HM1;replace HM:=Lib.hid HM1;clear HM1;simp only [List.set,List.nil_append] at HM))|((with_reducible refine iat 114 ?_);(have h5:Sl _ _ ([nOp 30 1].flatMap NodeD.cs):=row_sl (box_row (n:=1) (k:=8) (HM.out.get (k:=0) rfl) rfl (by decide));refine apN (la:=[nOp 30 1]) rfl HM.out 1 rfl rfl rfl rfl (by first|rfl|simp only [List.length_append,List.nil_append,List.length_nil,List.length_cons,Nat.zero_add]) rfl h5 om (by simp) (by decide) ?_;intro p114 c114 W2 HM1;clear h5;clear HM;(try clear W1);rename World=>W1;have HM:=Lib.hid HM1;clear HM1;simp only [List.set,List.nil_append] at HM))|((with_reducible refine skip_op ?_ ?_);exact rfl)|refine mP ?_|((with_reducible refine ibuildSlice ?_);(first|refine bs0 rfl HM.out ?_|refine bs1A rfl HM.out rfl rfl rfl ?_);intro g1 W1 HM1;replace HM:=Lib.hid HM1;clear HM1))
   all_goals go_ret2
   all_goals (first|exact GPost.okn HR.out (by first|rfl|(simp only [List.length_append,List.length_cons,List.length_nil];omega)) (by first|rfl|omega) (HM.out.sub (.cons _ (.cons_cons _ (List.nil_sublist _))))|exact GPost.no_ HNo.out HM.out.below|exact GPost.no_ HR.out.symm HM.out.below)
  | true=>
   rw [hbr] at HR0
   have hlti:i < T.length:=by
    rw [Bool.or_eq_true] at hbr
    rcases hbr with h|h <;> exact isT_end h (by decide)
   obtain ⟨b,k1,n1,n2,sc1,dy1,at1,rfl,hE1⟩:∃ (b:Addr) (k:Int) (n1 n2:Nat) (sc dy at_:Int),tp=some b∧Cells W (b.add (i * 8)) [.int .i64 k,.string (sgT T i),.bool false,.int .u64 n1,.int .u64 n2,.int .i64 sc,.int .i64 dy,.int .i64 at_]:=by
    rw [Bool.or_eq_true] at hbr
    rcases hbr with h|h <;> exact tok_sg h (by decide) HTk.out
   have HE1:=Lib.hid hE1
   obtain ⟨v2,hv2⟩:∃ v,(if isT T i [91]=true then (0:Int) else if isT T i [40]=true then 1 else -1)=v:=⟨_,rfl⟩
   have hv20:0≤v2:=by
    rw [← hv2]
    rw [Bool.or_eq_true] at hbr
    split
    ·decide
    ·rename_i h
     rcases hbr with h' | h'
     ·exact absurd h' h
     ·rw [if_pos h'];decide
   have HV2:=Lib.hid hv2
   have d42:decide (0≤v2)=true:=decide_eq_true hv20
   clear hE1 hbr hv2
   cases hiv:ivl T i with
   | false=>
    rw [hiv] at HR0
    have HR:=Lib.hid (show _=r from HR0)
    have HI:=Lib.hid hiv
    clear HR0 hiv
    go_enter Tryz.func112,Tryz.ntmps112
    go_wp2_with (first|((with_reducible refine iat 17 ?_);(refine bsS [⟨#[60]⟩,⟨#[60,61]⟩,⟨#[62]⟩,⟨#[62,61]⟩] rfl HM.out (by first|rfl|simp [Act.eval]) rfl (by decide) ?_;intro g17 W1 HM1;replace HM:=Lib.hid HM1;clear HM1))|((with_reducible refine iat 41 ?_);(refine bsS [⟨#[91]⟩,⟨#[40]⟩] rfl HM.out (by first|rfl|simp [Act.eval]) rfl (by decide) ?_;intro g41 W1 HM1;replace HM:=Lib.hid HM1;clear HM1))|(go_at_call 144;first|((with_reducible refine (any1_4 HV.out (HM.out.sl HTk.out) (row_sl (box_row (n:=4) (k:=1) (HM.out.get (k:=0) rfl) rfl (by decide)))).mono ?_);rintro e W2 ⟨rfl,rfl⟩)|((with_reducible refine (any1_2 (x:=⟨#[91]⟩) (y:=⟨#[40]⟩) HV2.out (HM.out.sl HTk.out) (row_sl (box_row (n:=2) (k:=1) (HM.out.get (k:=0) rfl) rfl (by decide))) rfl (by decide) rfl (by decide)).mono ?_);rintro e W2 ⟨rfl,rfl⟩))|(go_at_call 145;(with_reducible refine (rIvl hK hT _ _ _ _ (HM.out.sl HTk.out) hi).mono ?_);rw [HI.out];rintro e W1 ⟨rfl,hb⟩;replace HM:=Lib.hid (HM.out.next hb);clear hb)|(go_at_call 85;refine AC.use (ihA fuel (Nat.le_refl _)) HR.out hr (HM.out.sl HTk.out) (by omega) (by omega) (by simp) (fun hno p c l W2 hl hM2=>?_) (fun l m j hR2 hG p c W2 hM2=>?_);all_goals first|(have hg:=hG.lenc 0 rfl rfl rfl;clear hG;obtain ⟨hL,hF,hJ⟩:=hg;have HR1:=Lib.hid hR2;clear HR hR2;have HR:=HR1;clear HR1;have HM1:=Lib.hid (HM.out.comp2 hM2);clear HM hM2;(try clear W1);rename World=>W1;have HM:=HM1;clear HM1;simp only [List.cons_append,List.nil_append] at HM)|(have HNo:=Lib.hid hno;clear hno HR;have HM1:=Lib.hid (HM.out.comp2 hM2);clear HM hM2;(try clear W1);rename World=>W1;have HM:=HM1;clear HM1;simp only [List.cons_append,List.nil_append] at HM))|((with_reducible refine iat 109 ?_);(refine bs0 rfl HM.out ?_;intro g109 W1 HM1;replace HM:=Lib.hid HM1;clear HM1))|((with_reducible refine iat 111 ?_);(refine apN (l:=[]) rfl HM.out 0 rfl rfl rfl rfl (by first|rfl|simp only [List.length_append,List.nil_append,List.length_nil,List.length_cons,Nat.zero_add]) rfl (row_sl (HM.out.get (k:=1) rfl)) om om (by decide) ?_;intro p111 c111 W1 HM1;replace HM:=Lib.hid HM1;clear HM1;simp only [List.set,List.nil_append] at HM))|((with_reducible refine iat 114 ?_);(have h5:Sl _ _ ([nOp 30 1].flatMap NodeD.cs):=row_sl (box_row (n:=1) (k:=8) (HM.out.get (k:=0) rfl) rfl (by decide));refine apN (la:=[nOp 30 1]) rfl HM.out 1 rfl rfl rfl rfl (by first|rfl|simp only [List.length_append,List.nil_append,List.length_nil,List.length_cons,Nat.zero_add]) rfl h5 om (by simp) (by decide) ?_;intro p114 c114 W2 HM1;clear h5;clear HM;(try clear W1);rename World=>W1;have HM:=Lib.hid HM1;clear HM1;simp only [List.set,List.nil_append] at HM))|((with_reducible refine skip_op ?_ ?_);exact rfl)|refine mP ?_|((with_reducible refine ibuildSlice ?_);(first|refine bs0 rfl HM.out ?_|refine bs1A rfl HM.out rfl rfl rfl ?_);intro g1 W1 HM1;replace HM:=Lib.hid HM1;clear HM1))
    all_goals go_ret2
    all_goals (first|exact GPost.okn HR.out (by first|rfl|(simp only [List.length_append,List.length_cons,List.length_nil];omega)) (by first|rfl|omega) (HM.out.sub (.cons _ (.cons_cons _ (List.nil_sublist _))))|exact GPost.no_ HNo.out HM.out.below|exact GPost.no_ HR.out.symm HM.out.below)
   | true=>
    rw [hiv] at HR0
    have HR:=Lib.hid (show _=r from HR0)
    have HI:=Lib.hid hiv
    have hadd:∀ (k:Nat) (W:World),(Op.stringOp .add (sgT T i) (sgT T k)).run Tryz.prog W = .ok (.string (sgT T i++sgT T k)) W:=fun k W=>run_string_add_sum (P:=Tryz.prog) W _ _ (by have:=sgT_size hT i;have:=sgT_size hT k;omega)
    clear HR0 hiv
    go_enter Tryz.func112,Tryz.ntmps112
    go_wp2_with (first|((with_reducible refine iat 17 ?_);(refine bsS [⟨#[60]⟩,⟨#[60,61]⟩,⟨#[62]⟩,⟨#[62,61]⟩] rfl HM.out (by first|rfl|simp [Act.eval]) rfl (by decide) ?_;intro g17 W1 HM1;replace HM:=Lib.hid HM1;clear HM1))|((with_reducible refine iat 41 ?_);(refine bsS [⟨#[91]⟩,⟨#[40]⟩] rfl HM.out (by first|rfl|simp [Act.eval]) rfl (by decide) ?_;intro g41 W1 HM1;replace HM:=Lib.hid HM1;clear HM1))|(go_at_call 144;first|((with_reducible refine (any1_4 HV.out (HM.out.sl HTk.out) (row_sl (box_row (n:=4) (k:=1) (HM.out.get (k:=0) rfl) rfl (by decide)))).mono ?_);rintro e W2 ⟨rfl,rfl⟩)|((with_reducible refine (any1_2 (x:=⟨#[91]⟩) (y:=⟨#[40]⟩) HV2.out (HM.out.sl HTk.out) (row_sl (box_row (n:=2) (k:=1) (HM.out.get (k:=0) rfl) rfl (by decide))) rfl (by decide) rfl (by decide)).mono ?_);rintro e W2 ⟨rfl,rfl⟩)|(refine ends_use HR.out (HM.out.sl HTk.out) (row_sl (box_row (n:=2) (k:=1) (HM.out.get (k:=0) rfl) rfl (by decide))) (by omega) (fun y hy hE0 hltk hR2=>?_) (fun hR2=>?_);all_goals first|(obtain ⟨k5,n15,n25,sc5,dy5,at5,hE⟩:=hE0 _ HTk.out;have HE2:=Lib.hid hE;clear hE hE0;have d77:decide (y < 0)=false:=decide_eq_false (by omega);have HR1:=Lib.hid hR2;clear HR hR2;have HR:=HR1;clear HR1)|have HR1:=Lib.hid hR2;clear HR hR2;have HR:=HR1;clear HR1))|(go_at_call 145;(with_reducible refine (rIvl hK hT _ _ _ _ (HM.out.sl HTk.out) hi).mono ?_);rw [HI.out];rintro e W1 ⟨rfl,hb⟩;replace HM:=Lib.hid (HM.out.next hb);clear hb)|(go_at_call 85;refine AC.use (ihA fuel (Nat.le_refl _)) HR.out hr (HM.out.sl HTk.out) (by omega) (by omega) (by simp) (fun hno p c l W2 hl hM2=>?_) (fun l m j hR2 hG p c W2 hM2=>?_);all_goals first|(have hg:=hG.lenc 0 rfl rfl rfl;clear hG;obtain ⟨hL,hF,hJ⟩:=hg;have HR1:=Lib.hid hR2;clear HR hR2;have HR:=HR1;clear HR1;have HM1:=Lib.hid (HM.out.comp2 hM2);clear HM hM2;(try clear W1);rename World=>W1;have HM:=HM1;clear HM1;simp only [List.cons_append,List.nil_append] at HM)|(have HNo:=Lib.hid hno;clear hno HR;have HM1:=Lib.hid (HM.out.comp2 hM2);clear HM hM2;(try clear W1);rename World=>W1;have HM:=HM1;clear HM1;simp only [List.cons_append,List.nil_append] at HM))|(go_at_call 82;refine is_use HR.out (HM.out.sl HTk.out) (by omega) rfl (by decide) ?_ ?_;all_goals (intro hb hR2;(try have hlt:=isT_lt hb);clear hb;have HR1:=Lib.hid hR2;clear HR hR2;have HR:=HR1;clear HR1))|((with_reducible refine iat 76 ?_);(refine bsS [⟨#[93]⟩,⟨#[41]⟩] rfl HM.out (by first|rfl|simp [Act.eval]) rfl (by decide) ?_;intro g76 W1 HM1;replace HM:=Lib.hid HM1;clear HM1))|((with_reducible refine skip_op ?_ ?_);exact rfl)|refine mP ?_|((with_reducible refine ibuildSlice ?_);(first|refine bs0 rfl HM.out ?_|refine bs1A rfl HM.out rfl rfl rfl ?_);intro g1 W1 HM1;replace HM:=Lib.hid HM1;clear HM1))
    all_goals first
     |(go_ret2;first|exact GPost.no_ HNo.out HM.out.below|exact GPost.no_ HR.out.symm HM.out.below)
     | skip
    refine wp_region_tree (.t 1 (.t 3 (.t 5 (.t 6 (.t 7 (.t 8 (.t 9 (.t 10 (.t 11 (.t 12 (.t 13 (.t 14 (.t 15 (.t 16 (.t 19 (.t 20 (.f 0 (.f 2 (.f 4 (.a 17 (.a 18 (.t 21 (.t 22 .done)))) 17 (.a 4 (.a 18 (.t 21 (.t 22 .done))))) 17 (.a 2 (.a 4 (.a 18 (.t 21 (.t 22 .done)))))) 17 (.a 0 (.a 2 (.a 4 (.a 18 (.t 21 (.t 22 .done))))))))))))))))))))))) (by kernel_rfl) (by kernel_rfl) rfl (by kernel_rfl) (fun _ _ _ _ _ h=>h) HM.out _ (.cons _ (.cons_cons _ (.cons_cons _ (List.nil_sublist _)))) ?_
    intro hNE W1 HM1;replace HM:=Lib.hid HM1;clear HM1
    have HS0:=Lib.hid (HM.out.sub (.cons _ (.cons_cons _ (.cons_cons _ (List.nil_sublist _)))))
    simp only [wpPl,wpSteps,List.getElem?_cons_succ,List.getElem?_cons_zero]
    (repeat (first|((with_reducible refine wpQuiet_nil ?_);(try dsimp only))|refine mQ ?_|((with_reducible refine qat 87 ?_);(refine qixa rfl rfl rfl hlti ?_))|((with_reducible refine qat 92 ?_);(refine qixa rfl rfl rfl hltk ?_))|((with_reducible refine qat 89 ?_);(refine qdxf HE1.out rfl rfl rfl ?_))|((with_reducible refine qat 94 ?_);(refine qdxf HE2.out rfl rfl rfl ?_))|go_big_quiet_step (fail)|quiet_step (fail)))
    refine ⟨?_,?_⟩
    ·go_wp2_with (first|((with_reducible refine iat 80 ?_);(refine bs0 rfl HM.out ?_;intro g80 W1 HM1;replace HM:=Lib.hid HM1;clear HM1))|((with_reducible refine ibuildSlice ?_);refine bs0 rfl HM.out ?_;intro g1 W1 HM1;replace HM:=Lib.hid HM1;clear HM1))
     refine ⟨⟨⟨_,HM.out.sub msub⟩,rfl⟩,?_⟩
     (try dsimp only)
     refine ⟨?_,?_⟩
     ·go_wp2_with (first|(first|((with_reducible refine iat 82 ?_);(refine apN (l:=[]) rfl HM.out 0 rfl rfl rfl rfl (by first|rfl|simp only [List.length_append,List.nil_append,List.length_nil,List.length_cons,Nat.zero_add]) rfl (row_sl (HM.out.get (k:=3) rfl)) om om (by decide) ?_;intro p82 c82 W1 HM1;replace HM:=Lib.hid HM1;clear HM1;simp only [List.set,List.nil_append] at HM))|((with_reducible refine iat 82 ?_);(refine apN (l:=[]) rfl HM.out 0 rfl rfl rfl rfl (by first|rfl|simp only [List.length_append,List.nil_append,List.length_nil,List.length_cons,Nat.zero_add]) rfl (row_sl (HM.out.get (k:=4) rfl)) om om (by decide) ?_;intro p82 c82 W1 HM1;replace HM:=Lib.hid HM1;clear HM1;simp only [List.set,List.nil_append] at HM))|((with_reducible refine iat 82 ?_);(refine apN (l:=[]) rfl HM.out 1 rfl rfl rfl rfl (by first|rfl|simp only [List.length_append,List.nil_append,List.length_nil,List.length_cons,Nat.zero_add]) rfl (row_sl (HM.out.get (k:=4) rfl)) om om (by decide) ?_;intro p82 c82 W1 HM1;replace HM:=Lib.hid HM1;clear HM1;simp only [List.set,List.nil_append] at HM))))
      refine ⟨⟨⟨_,HM.out.sub msub⟩,rfl⟩,?_⟩
      (try dsimp only)
      refine ⟨?_,?_⟩
      ·go_wp2_with (first|(first|((with_reducible refine iat 84 ?_);(refine apN rfl HM.out 0 rfl rfl rfl rfl (by first|rfl|simp only [List.length_append,List.nil_append,List.length_nil,List.length_cons,Nat.zero_add]) rfl (row_sl (HM.out.get (k:=2) rfl)) om om (by decide) ?_;intro p84 c84 W1 HM1;replace HM:=Lib.hid HM1;clear HM1;simp only [List.set,List.nil_append] at HM))|((with_reducible refine iat 84 ?_);(refine apN rfl HM.out 0 rfl rfl rfl rfl (by first|rfl|simp only [List.length_append,List.nil_append,List.length_nil,List.length_cons,Nat.zero_add]) rfl (row_sl (HM.out.get (k:=3) rfl)) om om (by decide) ?_;intro p84 c84 W1 HM1;replace HM:=Lib.hid HM1;clear HM1;simp only [List.set,List.nil_append] at HM))|((with_reducible refine iat 84 ?_);(refine apN rfl HM.out 1 rfl rfl rfl rfl (by first|rfl|simp only [List.length_append,List.nil_append,List.length_nil,List.length_cons,Nat.zero_add]) rfl (row_sl (HM.out.get (k:=3) rfl)) om om (by decide) ?_;intro p84 c84 W1 HM1;replace HM:=Lib.hid HM1;clear HM1;simp only [List.set,List.nil_append] at HM))))
       refine ⟨⟨⟨_,HM.out.sub msub⟩,rfl⟩,?_⟩
       (try dsimp only)
       go_wp2_with (first|(refine hbs1A HM rfl rfl rfl rfl ?_;clear HM;intro g1 W1 HM))
       refine ⟨⟨⟨_,HM.out.sub msub⟩,rfl⟩,?_⟩
       (try dsimp only)
       go_wp2_with (first|(first|((with_reducible refine iat 98 ?_);(have h5:Sl _ _ ([nTx 35 2 (sgT T i++sgT T _)].flatMap NodeD.cs):=row_sl (box_row (n:=1) (k:=8) (HM.out.get (k:=0) rfl) rfl (by decide));refine apN (la:=[nTx 35 2 (sgT T i++sgT T _)]) rfl HM.out 1 rfl rfl rfl rfl (by first|rfl|simp only [List.length_append,List.nil_append,List.length_nil,List.length_cons,Nat.zero_add]) rfl h5 om (by simp) (by decide) ?_;intro p98 c98 W2 HM1;clear h5;clear HM;(try clear W1);rename World=>W1;have HM:=Lib.hid HM1;clear HM1;simp only [List.set,List.nil_append] at HM))|((with_reducible refine iat 98 ?_);(have h5:Sl _ _ ([nTx 35 2 (sgT T i++sgT T _)].flatMap NodeD.cs):=row_sl (box_row (n:=1) (k:=8) (HM.out.get (k:=1) rfl) rfl (by decide));refine apN (la:=[nTx 35 2 (sgT T i++sgT T _)]) rfl HM.out 0 rfl rfl rfl rfl (by first|rfl|simp only [List.length_append,List.nil_append,List.length_nil,List.length_cons,Nat.zero_add]) rfl h5 om (by simp) (by decide) ?_;intro p98 c98 W2 HM1;clear h5;clear HM;(try clear W1);rename World=>W1;have HM:=Lib.hid HM1;clear HM1;simp only [List.set,List.nil_append] at HM))))
       refine ⟨⟨⟨_,HM.out.sub msub⟩,rfl⟩,?_⟩
       (try dsimp only)
       (repeat (first|((with_reducible refine wpQuiet_nil ?_);(try dsimp only))|go_big_quiet_step (fail)|quiet_step (fail)))
       clear HS0 hNE
       go_wp2_with fail
       go_ret2
       exact GPost.okn HR.out (by first|rfl|(simp only [List.length_append,List.length_cons,List.length_nil];omega)) (by first|rfl|omega) (HM.out.sub (by first|exact (.cons _ (.cons_cons _ (List.nil_sublist _)))|exact (.cons_cons _ (List.nil_sublist _))))
      ·go_wp2_with (first|(refine hbs1A HM rfl rfl rfl rfl ?_;clear HM;intro g1 W1 HM))
       refine ⟨⟨⟨_,HM.out.sub msub⟩,rfl⟩,?_⟩
       (try dsimp only)
       go_wp2_with (first|(first|((with_reducible refine iat 84 ?_);(refine apN rfl HM.out 0 rfl rfl rfl rfl (by first|rfl|simp only [List.length_append,List.nil_append,List.length_nil,List.length_cons,Nat.zero_add]) rfl (row_sl (HM.out.get (k:=2) rfl)) om om (by decide) ?_;intro p84 c84 W1 HM1;replace HM:=Lib.hid HM1;clear HM1;simp only [List.set,List.nil_append] at HM))|((with_reducible refine iat 84 ?_);(refine apN rfl HM.out 0 rfl rfl rfl rfl (by first|rfl|simp only [List.length_append,List.nil_append,List.length_nil,List.length_cons,Nat.zero_add]) rfl (row_sl (HM.out.get (k:=3) rfl)) om om (by decide) ?_;intro p84 c84 W1 HM1;replace HM:=Lib.hid HM1;clear HM1;simp only [List.set,List.nil_append] at HM))|((with_reducible refine iat 84 ?_);(refine apN rfl HM.out 1 rfl rfl rfl rfl (by first|rfl|simp only [List.length_append,List.nil_append,List.length_nil,List.length_cons,Nat.zero_add]) rfl (row_sl (HM.out.get (k:=3) rfl)) om om (by decide) ?_;intro p84 c84 W1 HM1;replace HM:=Lib.hid HM1;clear HM1;simp only [List.set,List.nil_append] at HM))))
       refine ⟨⟨⟨_,HM.out.sub msub⟩,rfl⟩,?_⟩
       (try dsimp only)
       go_wp2_with (first|(first|((with_reducible refine iat 98 ?_);(have h5:Sl _ _ ([nTx 35 2 (sgT T i++sgT T _)].flatMap NodeD.cs):=row_sl (box_row (n:=1) (k:=8) (HM.out.get (k:=0) rfl) rfl (by decide));refine apN (la:=[nTx 35 2 (sgT T i++sgT T _)]) rfl HM.out 1 rfl rfl rfl rfl (by first|rfl|simp only [List.length_append,List.nil_append,List.length_nil,List.length_cons,Nat.zero_add]) rfl h5 om (by simp) (by decide) ?_;intro p98 c98 W2 HM1;clear h5;clear HM;(try clear W1);rename World=>W1;have HM:=Lib.hid HM1;clear HM1;simp only [List.set,List.nil_append] at HM))|((with_reducible refine iat 98 ?_);(have h5:Sl _ _ ([nTx 35 2 (sgT T i++sgT T _)].flatMap NodeD.cs):=row_sl (box_row (n:=1) (k:=8) (HM.out.get (k:=1) rfl) rfl (by decide));refine apN (la:=[nTx 35 2 (sgT T i++sgT T _)]) rfl HM.out 0 rfl rfl rfl rfl (by first|rfl|simp only [List.length_append,List.nil_append,List.length_nil,List.length_cons,Nat.zero_add]) rfl h5 om (by simp) (by decide) ?_;intro p98 c98 W2 HM1;clear h5;clear HM;(try clear W1);rename World=>W1;have HM:=Lib.hid HM1;clear HM1;simp only [List.set,List.nil_append] at HM))))
       refine ⟨⟨⟨_,HM.out.sub msub⟩,rfl⟩,?_⟩
       (try dsimp only)
       (repeat (first|((with_reducible refine wpQuiet_nil ?_);(try dsimp only))|go_big_quiet_step (fail)|quiet_step (fail)))
       clear HS0 hNE
       go_wp2_with fail
       go_ret2
       exact GPost.okn HR.out (by first|rfl|(simp only [List.length_append,List.length_cons,List.length_nil];omega)) (by first|rfl|omega) (HM.out.sub (by first|exact (.cons _ (.cons_cons _ (List.nil_sublist _)))|exact (.cons_cons _ (List.nil_sublist _))))
     ·go_wp2_with (first|(refine hbs1A HM rfl rfl rfl rfl ?_;clear HM;intro g1 W1 HM))
      refine ⟨⟨⟨_,HM.out.sub msub⟩,rfl⟩,?_⟩
      (try dsimp only)
      go_wp2_with (first|(first|((with_reducible refine iat 82 ?_);(refine apN (l:=[]) rfl HM.out 0 rfl rfl rfl rfl (by first|rfl|simp only [List.length_append,List.nil_append,List.length_nil,List.length_cons,Nat.zero_add]) rfl (row_sl (HM.out.get (k:=3) rfl)) om om (by decide) ?_;intro p82 c82 W1 HM1;replace HM:=Lib.hid HM1;clear HM1;simp only [List.set,List.nil_append] at HM))|((with_reducible refine iat 82 ?_);(refine apN (l:=[]) rfl HM.out 0 rfl rfl rfl rfl (by first|rfl|simp only [List.length_append,List.nil_append,List.length_nil,List.length_cons,Nat.zero_add]) rfl (row_sl (HM.out.get (k:=4) rfl)) om om (by decide) ?_;intro p82 c82 W1 HM1;replace HM:=Lib.hid HM1;clear HM1;simp only [List.set,List.nil_append] at HM))|((with_reducible refine iat 82 ?_);(refine apN (l:=[]) rfl HM.out 1 rfl rfl rfl rfl (by first|rfl|simp only [List.length_append,List.nil_append,List.length_nil,List.length_cons,Nat.zero_add]) rfl (row_sl (HM.out.get (k:=4) rfl)) om om (by decide) ?_;intro p82 c82 W1 HM1;replace HM:=Lib.hid HM1;clear HM1;simp only [List.set,List.nil_append] at HM))))
      refine ⟨⟨⟨_,HM.out.sub msub⟩,rfl⟩,?_⟩
      (try dsimp only)
      go_wp2_with (first|(first|((with_reducible refine iat 84 ?_);(refine apN rfl HM.out 0 rfl rfl rfl rfl (by first|rfl|simp only [List.length_append,List.nil_append,List.length_nil,List.length_cons,Nat.zero_add]) rfl (row_sl (HM.out.get (k:=2) rfl)) om om (by decide) ?_;intro p84 c84 W1 HM1;replace HM:=Lib.hid HM1;clear HM1;simp only [List.set,List.nil_append] at HM))|((with_reducible refine iat 84 ?_);(refine apN rfl HM.out 0 rfl rfl rfl rfl (by first|rfl|simp only [List.length_append,List.nil_append,List.length_nil,List.length_cons,Nat.zero_add]) rfl (row_sl (HM.out.get (k:=3) rfl)) om om (by decide) ?_;intro p84 c84 W1 HM1;replace HM:=Lib.hid HM1;clear HM1;simp only [List.set,List.nil_append] at HM))|((with_reducible refine iat 84 ?_);(refine apN rfl HM.out 1 rfl rfl rfl rfl (by first|rfl|simp only [List.length_append,List.nil_append,List.length_nil,List.length_cons,Nat.zero_add]) rfl (row_sl (HM.out.get (k:=3) rfl)) om om (by decide) ?_;intro p84 c84 W1 HM1;replace HM:=Lib.hid HM1;clear HM1;simp only [List.set,List.nil_append] at HM))))
      refine ⟨⟨⟨_,HM.out.sub msub⟩,rfl⟩,?_⟩
      (try dsimp only)
      go_wp2_with (first|(first|((with_reducible refine iat 98 ?_);(have h5:Sl _ _ ([nTx 35 2 (sgT T i++sgT T _)].flatMap NodeD.cs):=row_sl (box_row (n:=1) (k:=8) (HM.out.get (k:=0) rfl) rfl (by decide));refine apN (la:=[nTx 35 2 (sgT T i++sgT T _)]) rfl HM.out 1 rfl rfl rfl rfl (by first|rfl|simp only [List.length_append,List.nil_append,List.length_nil,List.length_cons,Nat.zero_add]) rfl h5 om (by simp) (by decide) ?_;intro p98 c98 W2 HM1;clear h5;clear HM;(try clear W1);rename World=>W1;have HM:=Lib.hid HM1;clear HM1;simp only [List.set,List.nil_append] at HM))|((with_reducible refine iat 98 ?_);(have h5:Sl _ _ ([nTx 35 2 (sgT T i++sgT T _)].flatMap NodeD.cs):=row_sl (box_row (n:=1) (k:=8) (HM.out.get (k:=1) rfl) rfl (by decide));refine apN (la:=[nTx 35 2 (sgT T i++sgT T _)]) rfl HM.out 0 rfl rfl rfl rfl (by first|rfl|simp only [List.length_append,List.nil_append,List.length_nil,List.length_cons,Nat.zero_add]) rfl h5 om (by simp) (by decide) ?_;intro p98 c98 W2 HM1;clear h5;clear HM;(try clear W1);rename World=>W1;have HM:=Lib.hid HM1;clear HM1;simp only [List.set,List.nil_append] at HM))))
      refine ⟨⟨⟨_,HM.out.sub msub⟩,rfl⟩,?_⟩
      (try dsimp only)
      (repeat (first|((with_reducible refine wpQuiet_nil ?_);(try dsimp only))|go_big_quiet_step (fail)|quiet_step (fail)))
      clear HS0 hNE
      go_wp2_with fail
      go_ret2
      exact GPost.okn HR.out (by first|rfl|(simp only [List.length_append,List.length_cons,List.length_nil];omega)) (by first|rfl|omega) (HM.out.sub (by first|exact (.cons _ (.cons_cons _ (List.nil_sublist _)))|exact (.cons_cons _ (List.nil_sublist _))))
    ·go_wp2_with (first|(refine hbs1A HM rfl rfl rfl rfl ?_;clear HM;intro g1 W1 HM))
     refine ⟨⟨⟨_,HM.out.sub msub⟩,rfl⟩,?_⟩
     (try dsimp only)
     go_wp2_with (first|((with_reducible refine iat 80 ?_);(refine bs0 rfl HM.out ?_;intro g80 W1 HM1;replace HM:=Lib.hid HM1;clear HM1))|((with_reducible refine ibuildSlice ?_);refine bs0 rfl HM.out ?_;intro g1 W1 HM1;replace HM:=Lib.hid HM1;clear HM1))
     refine ⟨⟨⟨_,HM.out.sub msub⟩,rfl⟩,?_⟩
     (try dsimp only)
     go_wp2_with (first|(first|((with_reducible refine iat 82 ?_);(refine apN (l:=[]) rfl HM.out 0 rfl rfl rfl rfl (by first|rfl|simp only [List.length_append,List.nil_append,List.length_nil,List.length_cons,Nat.zero_add]) rfl (row_sl (HM.out.get (k:=3) rfl)) om om (by decide) ?_;intro p82 c82 W1 HM1;replace HM:=Lib.hid HM1;clear HM1;simp only [List.set,List.nil_append] at HM))|((with_reducible refine iat 82 ?_);(refine apN (l:=[]) rfl HM.out 0 rfl rfl rfl rfl (by first|rfl|simp only [List.length_append,List.nil_append,List.length_nil,List.length_cons,Nat.zero_add]) rfl (row_sl (HM.out.get (k:=4) rfl)) om om (by decide) ?_;intro p82 c82 W1 HM1;replace HM:=Lib.hid HM1;clear HM1;simp only [List.set,List.nil_append] at HM))|((with_reducible refine iat 82 ?_);(refine apN (l:=[]) rfl HM.out 1 rfl rfl rfl rfl (by first|rfl|simp only [List.length_append,List.nil_append,List.length_nil,List.length_cons,Nat.zero_add]) rfl (row_sl (HM.out.get (k:=4) rfl)) om om (by decide) ?_;intro p82 c82 W1 HM1;replace HM:=Lib.hid HM1;clear HM1;simp only [List.set,List.nil_append] at HM))))
     refine ⟨⟨⟨_,HM.out.sub msub⟩,rfl⟩,?_⟩
     (try dsimp only)
     go_wp2_with (first|(first|((with_reducible refine iat 84 ?_);(refine apN rfl HM.out 0 rfl rfl rfl rfl (by first|rfl|simp only [List.length_append,List.nil_append,List.length_nil,List.length_cons,Nat.zero_add]) rfl (row_sl (HM.out.get (k:=2) rfl)) om om (by decide) ?_;intro p84 c84 W1 HM1;replace HM:=Lib.hid HM1;clear HM1;simp only [List.set,List.nil_append] at HM))|((with_reducible refine iat 84 ?_);(refine apN rfl HM.out 0 rfl rfl rfl rfl (by first|rfl|simp only [List.length_append,List.nil_append,List.length_nil,List.length_cons,Nat.zero_add]) rfl (row_sl (HM.out.get (k:=3) rfl)) om om (by decide) ?_;intro p84 c84 W1 HM1;replace HM:=Lib.hid HM1;clear HM1;simp only [List.set,List.nil_append] at HM))|((with_reducible refine iat 84 ?_);(refine apN rfl HM.out 1 rfl rfl rfl rfl (by first|rfl|simp only [List.length_append,List.nil_append,List.length_nil,List.length_cons,Nat.zero_add]) rfl (row_sl (HM.out.get (k:=3) rfl)) om om (by decide) ?_;intro p84 c84 W1 HM1;replace HM:=Lib.hid HM1;clear HM1;simp only [List.set,List.nil_append] at HM))))
     refine ⟨⟨⟨_,HM.out.sub msub⟩,rfl⟩,?_⟩
     (try dsimp only)
     go_wp2_with (first|(first|((with_reducible refine iat 98 ?_);(have h5:Sl _ _ ([nTx 35 2 (sgT T i++sgT T _)].flatMap NodeD.cs):=row_sl (box_row (n:=1) (k:=8) (HM.out.get (k:=0) rfl) rfl (by decide));refine apN (la:=[nTx 35 2 (sgT T i++sgT T _)]) rfl HM.out 1 rfl rfl rfl rfl (by first|rfl|simp only [List.length_append,List.nil_append,List.length_nil,List.length_cons,Nat.zero_add]) rfl h5 om (by simp) (by decide) ?_;intro p98 c98 W2 HM1;clear h5;clear HM;(try clear W1);rename World=>W1;have HM:=Lib.hid HM1;clear HM1;simp only [List.set,List.nil_append] at HM))|((with_reducible refine iat 98 ?_);(have h5:Sl _ _ ([nTx 35 2 (sgT T i++sgT T _)].flatMap NodeD.cs):=row_sl (box_row (n:=1) (k:=8) (HM.out.get (k:=1) rfl) rfl (by decide));refine apN (la:=[nTx 35 2 (sgT T i++sgT T _)]) rfl HM.out 0 rfl rfl rfl rfl (by first|rfl|simp only [List.length_append,List.nil_append,List.length_nil,List.length_cons,Nat.zero_add]) rfl h5 om (by simp) (by decide) ?_;intro p98 c98 W2 HM1;clear h5;clear HM;(try clear W1);rename World=>W1;have HM:=Lib.hid HM1;clear HM1;simp only [List.set,List.nil_append] at HM))))
     refine ⟨⟨⟨_,HM.out.sub msub⟩,rfl⟩,?_⟩
     (try dsimp only)
     (repeat (first|((with_reducible refine wpQuiet_nil ?_);(try dsimp only))|go_big_quiet_step (fail)|quiet_step (fail)))
     clear HS0 hNE
     go_wp2_with fail
     go_ret2
     exact GPost.okn HR.out (by first|rfl|(simp only [List.length_append,List.length_cons,List.length_nil];omega)) (by first|rfl|omega) (HM.out.sub (by first|exact (.cons _ (.cons_cons _ (List.nil_sublist _)))|exact (.cons_cons _ (List.nil_sublist _))))
end Go.Proofs.YtheimopjglkgjaaGreatDoor
