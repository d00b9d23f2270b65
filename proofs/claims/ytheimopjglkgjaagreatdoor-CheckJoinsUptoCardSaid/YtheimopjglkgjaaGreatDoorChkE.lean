/- run of check's machine. named of check: the map of the names. Expr and Tests of check. Tests of check. known of the laws. -/
import Derived.Test.YtheimopjglkgjaaGreatDoorChkS
import Derived.Test.YtheimopjglkgjaaGreatDoorChkA
import Derived.Test.YtheimopjglkgjaaGreatDoorExprCheck
import Derived.Test.YtheimopjglkgjaaGreatDoorSepA
namespace Go.Proofs.YtheimopjglkgjaaGreatDoor
open Go.RowKit
set_option linter.unusedVariables false
set_option linter.unusedSimpArgs false
set_option maxRecDepth 100000

theorem step_any (w0 W:World) (gc gm cap:Nat) (sq:Option Addr) (T:List Res) (l:List SymD) (st:List ThT) (ds:List ThD) (n:NodeD)
  (HM0:Mem w0 W (.box gc 73 [.map (some gm),.slice sq st.length cap] :: .row sq cap 76 3 st.length (st.flatMap ThT.cs) :: .map gm (mapEs (symE l)) (symE l).length :: T))
  (hO:StOk T st ds) (hF:∀ d,d ∈ ds→ThForm d) (hk:kidsB n.op n.kids=true) (hkl:n.kids≤st.length) (hz:sizeT ds≤300) :
  Calls Tryz.prog 54 #[.pointer (some ⟨gc,0,none⟩),.agg n.cs.toArray] W (StepPost w0 gc gm T l (nextT l ds n) (stepT l ds n).2):=by
 have hop:=kidsB_op hk
 by_cases h1:n.op < 30
 ·exact step_E w0 W gc gm cap sq T l st ds n h1 HM0 hO hF hk hkl hz
 by_cases h2:n.op≤35
 ·exact step_T w0 W gc gm cap sq T l st ds n ⟨by omega,h2⟩ HM0 hO hF hk hkl hz
 ·exact step_S w0 W gc gm cap sq T l st ds n (by omega) HM0 hO hF hk hkl hz

/-- What run leaves: beside what was there (T), a thing and its tests; or an error. -/
def RunPost (w0:World) (T:List Res) (r:ThD × Int) (e:Ending) (w' : World):Prop:=
 if r.2=0 then ∃ x R,e = .returned (.tuple #[.agg (ThT.cs x).toArray,.int .i64 0])∧Mem w0 w' (R++T)∧StIn (R++T) x r.1
 else e = .returned (.tuple #[.agg #[.int .i64 0,.int .i64 0,.slice none 0 0],.int .i64 r.2])∧Mem w0 w' T
theorem run_err {w0:World} {T:List Res} {r:ThD × Int} {w' : World} {x:Int} {e:Ending} (h:x=r.2) (hx:x≠0) (he:e = .returned (.tuple #[.agg #[.int .i64 0,.int .i64 0,.slice none 0 0],.int .i64 x])) (hb:Mem w0 w' T):RunPost w0 T r e w':=by
 unfold RunPost
 rw [if_neg (by rw [← h];exact hx),← h]
 exact ⟨he,hb⟩
theorem run_fine {w0:World} {T R:List Res} {r:ThD × Int} {d:ThD} {x:ThT} {w' : World} {e:Ending} (h:r=(d,0)) (he:e = .returned (.tuple #[.agg (ThT.cs x).toArray,.int .i64 0])) (hb:Mem w0 w' (R++T)) (hi:StIn (R++T) x d):RunPost w0 T r e w':=by
 subst h
 unfold RunPost
 rw [if_pos rfl]
 exact ⟨x,R,he,hb,hi⟩
theorem StIn.lose {R T:List Res} {g:Nat} {t:TypeId} {cs:List Value} {x:ThT} {d:ThD} (h:StIn (R++.box g t cs :: T) x d):StIn (R++T) x d:=by
 refine ⟨h.1,h.2.1,h.2.2.imp (fun hm=>?_) id⟩
 rcases List.mem_append.1 hm with hm|hm
 ·exact List.mem_append.2 (Or.inl hm)
 ·rcases List.mem_cons.1 hm with hm|hm
  ·cases hm
  ·exact List.mem_append.2 (Or.inr hm)

theorem run_front {w0 W:World} {A B C D E:Res} {R1 R T:List Res} (h:Mem w0 W (A :: B :: C :: (R1++D :: (R++E :: T)))):Mem w0 W (E :: A :: B :: C :: ((R1++D :: R)++T)):=by
 have e:A :: B :: C :: (R1++D :: (R++E :: T))=(A :: B :: C :: (R1++D :: R))++E :: T:=by simp
 rw [e] at h
 exact h.perm List.perm_middle
set_option maxHeartbeats 8000000 in
theorem run_any (w0 W:World) (gc gm:Nat) (T:List Res) (l:List SymD) (p:Option Addr) (c:Nat) (ns:List NodeD) (tests:Bool)
  (HM0:Mem w0 W (.box gc 73 [.map (some gm),.slice none 0 0] :: .map gm (mapEs (symE l)) (symE l).length :: T))
  (hN:Sl w0 p (ns.flatMap NodeD.cs)) (hl:∀ s,s ∈ l→s.t.form) (hc:checkC ns tests=0) :
  Calls Tryz.prog 33 #[.pointer (some ⟨gc,0,none⟩),.slice p ns.length c] W (RunPost w0 T (runT l ns [])):=by
 obtain ⟨hn300,hrun⟩:=checkC_ok hc
 obtain ⟨r,hr⟩:∃ r,runT l ns []=r:=⟨_,rfl⟩
 rw [hr]
 have HR:=Lib.hid (show runT l (ns.drop 0) []=r from hr)
 have HC:=Lib.hid (show ∃ cst deep,cst.length=([]:List ThD).length∧runC ns tests (ns.drop 0) 0 cst deep=0 from ⟨[],0,rfl,hrun⟩)
 have HN:=Lib.hid hN
 have HF:=Lib.hid hl
 have HM:=Lib.hid ((HM0.row0 76 3).perm (List.perm_middle (l₁:=[_]) (l₂:=.map gm (mapEs (symE l)) (symE l).length :: T)).symm)
 clear hr hN hl hrun hc HM0
 go_enter Tryz.func33,Tryz.ntmps33
 go_wp2_with (first|((with_reducible refine inilCheck ?_);(refine lnil rfl ?_))|((with_reducible refine iload ?_);first|refine ldb1 HM.out 0 rfl rfl rfl ?_|refine ldbW HM.out 0 rfl rfl rfl ?_|(refine ldbS HM.out 0 rfl rfl rfl ?_;simp only [List.take,List.drop]))|((with_reducible refine istore ?_);(first|(refine stbW rfl HM.out 0 rfl rfl rfl rfl rfl rfl ?_;intro W1 HM1;replace HM:=Lib.hid HM1;clear HM1;simp only [List.set] at HM)|(refine stbS rfl HM.out 0 rfl rfl rfl rfl rfl rfl ?_;intro W1 HM1;replace HM:=Lib.hid HM1;clear HM1;simp only [lss,Nat.reduceAdd] at HM)))|((with_reducible refine ialloc (d:=some 4) ?_);refine alb rfl HM.out ?_;intro g4 W1 HM1;replace HM:=Lib.hid HM1;clear HM1)|((with_reducible refine ialloc ?_);refine alb rfl HM.out ?_;intro g1 W1 HM1;replace HM:=Lib.hid HM1;clear HM1))
 go_loopw [11] (fun iv wr=>∃ (i:Nat) (sq:Option Addr) (cap:Nat) (st:List ThT) (ds:List ThD) (R:List Res),iv = .int .i64 i∧i≤ns.length∧Hid (runT l (ns.drop i) ds=r)∧Hid (∃ cst deep,cst.length=ds.length∧runC ns tests (ns.drop i) i cst deep=0)∧Hid (sizeT ds≤i)∧Hid (∀ d,d ∈ ds→ThForm d)∧Hid (StOk (R++.box g4 76 [.int .i64 0,.int .i64 0,.slice none 0 0] :: T) st ds)∧Hid (Mem w0 wr (.box gc 73 [.map (some gm),.slice sq st.length cap] :: .row sq cap 76 3 st.length (st.flatMap ThT.cs) :: .map gm (mapEs (symE l)) (symE l).length :: (R++.box g4 76 [.int .i64 0,.int .i64 0,.slice none 0 0] :: T)))) (fun iv _=>ns.length - (intOf iv).toNat)
 case atStart=>exact ⟨0,none,0,[],[],[],rfl,by omega,HR,HC,Lib.hid (Nat.zero_le _),Lib.hid (fun d hd=>by cases hd),Lib.hid trivial,Lib.hid (HM.out.perm (List.perm_middle (l₁:=[_,_,_])).symm)⟩
 case round=>
  clear HM
  obtain ⟨i,sq,cap,st,ds,R,rfl,hi,HI,HC,HZ,HD,HO,HM⟩:=hrel
  by_cases hlt:i < ns.length
  ·obtain ⟨b,rfl,hb⟩:=HN.out.some_at NodeD.cs_len (by decide) hlt
   obtain ⟨n,hn⟩:∃ n,ns[i]? = some n:=⟨_,List.getElem?_eq_getElem hlt⟩
   have E1:=Lib.hid (hb.elem NodeD.cs 8 NodeD.cs_len hn)
   have HI2:=Lib.hid (show (if (stepT l ds n).2=0 then runT l (ns.drop (i + 1)) (nextT l ds n) else (⟨⟨0,0⟩,[]⟩,(stepT l ds n).2))=r by rw [← HI.out,drop_atC hn];rfl)
   obtain ⟨cst,deep,hcl,hcr⟩:=HC.out
   rw [drop_atC hn] at hcr
   obtain ⟨hk,hkl,cst',deep',hcl',hcr'⟩:=runC_next hcr
   have HC2:=Lib.hid (show ∃ cst deep,cst.length=(nextT l ds n).length∧runC ns tests (ns.drop (i + 1)) (i + 1) cst deep=0 from ⟨cst',deep',by rw [hcl',nextT_len,hcl],hcr'⟩)
   have hsl:=HO.out.len
   have HZ2:=Lib.hid (show sizeT (nextT l ds n)≤i + 1 from Nat.le_trans (nextT_size l ds n) (Nat.succ_le_succ HZ.out))
   have HD2:=Lib.hid (nextT_form HF.out ds n HD.out)
   obtain ⟨se,hse⟩:∃ se,(stepT l ds n).2=se:=⟨_,rfl⟩
   rw [hse] at HI2
   have HSt:=Lib.hid (fun V T' (h:Mem w0 V (.box gc 73 [.map (some gm),.slice sq st.length cap] :: .row sq cap 76 3 st.length (st.flatMap ThT.cs) :: .map gm (mapEs (symE l)) (symE l).length :: T')) (h2:StOk T' st ds)=>hse▸step_any w0 V gc gm cap sq T' l st ds n h h2 HD.out hk (by rw [hcl] at hkl;rw [hsl];exact hkl) (Nat.le_trans HZ.out (by omega)))
   have d1:decide ((i:Int) < ns.length)=true:=decide_eq_true (by omega)
   have hlt3:=Lib.hid (show i + 1≤ns.length from hlt)
   clear hb hn HI HC hcl hcr hk hkl hcl' hcr' hse HZ HD
   by_cases h0:se=0
   ·subst h0
    have HB:=Lib.hid (show runT l (ns.drop (i + 1)) (nextT l ds n)=r by rw [← HI2.out];rfl)
    clear HI2
    go_wp2_with (first|((with_reducible refine iat 13 ?_);(refine ixa rfl rfl rfl hlt ?_))|((with_reducible refine iat 14 ?_);(refine ldxW (HM.out.olds E1.out) rfl rfl ?_))|((with_reducible refine inilCheck ?_);(refine lnil rfl ?_))|((with_reducible refine iload ?_);first|refine ldb1 HM.out 0 rfl rfl rfl ?_|refine ldbW HM.out 0 rfl rfl rfl ?_|(refine ldbS HM.out 0 rfl rfl rfl ?_;simp only [List.take,List.drop]))|((with_reducible refine istore ?_);(first|(refine stbW rfl HM.out 0 rfl rfl rfl rfl rfl rfl ?_;intro W1 HM1;replace HM:=Lib.hid HM1;clear HM1;simp only [List.set] at HM)|(refine stbS rfl HM.out 0 rfl rfl rfl rfl rfl rfl ?_;intro W1 HM1;replace HM:=Lib.hid HM1;clear HM1;simp only [lss,Nat.reduceAdd] at HM)))|((with_reducible refine ialloc (d:=some 7) ?_);refine alb rfl HM.out ?_;intro g7 W1 HM1;replace HM:=Lib.hid HM1;clear HM1)|((with_reducible refine ialloc ?_);refine alb rfl HM.out ?_;intro g1 W1 HM1;replace HM:=Lib.hid HM1;clear HM1)|(go_at_call 54;(with_reducible refine (HSt.out _ (.box g7 36 n.cs :: (R++.box g4 76 [.int .i64 0,.int .i64 0,.slice none 0 0] :: T)) (HM.out.perm (List.perm_middle (l₁:=[_,_,_])).symm) (HO.out.mono (fun r hr=>List.mem_cons_of_mem _ hr))).mono ?_);rintro e W2 ⟨rfl,sq1,cap1,st1,R1,hM2,hO2⟩;have HM1:=Lib.hid (hM2);have HO1:=Lib.hid hO2;clear hM2 hO2 HM HO;(try clear W1);rename World=>W1;have HM:=HM1;have HO:=HO1;clear HM1 HO1))
    go_roundw
    case rel=>
     have e:R1++.box g7 36 n.cs :: (R++.box g4 76 [.int .i64 0,.int .i64 0,.slice none 0 0] :: T)=(R1++.box g7 36 n.cs :: R)++.box g4 76 [.int .i64 0,.int .i64 0,.slice none 0 0] :: T:=by simp
     exact ⟨i + 1,sq1,cap1,st1,nextT l ds n,R1++.box g7 36 n.cs :: R,by go_num,hlt3.out,HB,HC2,HZ2,HD2,by rw [← e];exact HO,by rw [← e];exact HM⟩
    case measure=>have:=hlt3.out;simp [intOf];omega
   ·have HB:=Lib.hid (show se=r.2 by rw [← HI2.out,if_neg h0])
    have b0:(se != 0)=true:=by simpa using h0
    have H0:=Lib.hid h0
    clear HI2 h0
    go_wp2_with (first|((with_reducible refine iat 13 ?_);(refine ixa rfl rfl rfl hlt ?_))|((with_reducible refine iat 14 ?_);(refine ldxW (HM.out.olds E1.out) rfl rfl ?_))|((with_reducible refine inilCheck ?_);(refine lnil rfl ?_))|((with_reducible refine iload ?_);first|refine ldb1 HM.out 0 rfl rfl rfl ?_|refine ldbW HM.out 0 rfl rfl rfl ?_|(refine ldbS HM.out 0 rfl rfl rfl ?_;simp only [List.take,List.drop]))|((with_reducible refine istore ?_);(first|(refine stbW rfl HM.out 0 rfl rfl rfl rfl rfl rfl ?_;intro W1 HM1;replace HM:=Lib.hid HM1;clear HM1;simp only [List.set] at HM)|(refine stbS rfl HM.out 0 rfl rfl rfl rfl rfl rfl ?_;intro W1 HM1;replace HM:=Lib.hid HM1;clear HM1;simp only [lss,Nat.reduceAdd] at HM)))|((with_reducible refine ialloc (d:=some 7) ?_);refine alb rfl HM.out ?_;intro g7 W1 HM1;replace HM:=Lib.hid HM1;clear HM1)|((with_reducible refine ialloc ?_);refine alb rfl HM.out ?_;intro g1 W1 HM1;replace HM:=Lib.hid HM1;clear HM1)|(go_at_call 54;(with_reducible refine (HSt.out _ (.box g7 36 n.cs :: (R++.box g4 76 [.int .i64 0,.int .i64 0,.slice none 0 0] :: T)) (HM.out.perm (List.perm_middle (l₁:=[_,_,_])).symm) (HO.out.mono (fun r hr=>List.mem_cons_of_mem _ hr))).mono ?_);rintro e W2 ⟨rfl,sq1,cap1,st1,R1,hM2,hO2⟩;have HM1:=Lib.hid (run_front hM2);have HO1:=Lib.hid hO2;clear hM2 hO2 HM HO;(try clear W1);rename World=>W1;have HM:=HM1;have HO:=HO1;clear HM1 HO1))
    exact bodyPost_ret (res_box_tmp rfl HM.out 0 rfl rfl rfl rfl) rfl (run_err HB.out H0.out rfl (HM.out.sub (.cons _ (.cons _ (.cons _ (.cons _ (List.sublist_append_right _ _)))))))
  ·obtain rfl:i=ns.length:=by omega
   have d1:decide ((ns.length:Int) < ns.length)=false:=by simp
   obtain ⟨cst,deep,hcl,hcr⟩:=HC.out
   rw [List.drop_of_length_le (Nat.le_refl _)] at hcr
   obtain ⟨d,rfl⟩:=one_of (hcl▸runC_end hcr)
   obtain ⟨x,rfl⟩:=one_of (HO.out.len)
   have HB:=Lib.hid (show r=(d,0) by rw [← HI.out,List.drop_of_length_le (Nat.le_refl _)];rfl)
   have HS:=Lib.hid (StIn.lose HO.out.1)
   have HM1:=Lib.hid (HM.out.perm (List.perm_middle (l₁:=_ :: _ :: _ :: R)))
   clear HM HC hcl hcr HI HO HZ HD
   have HM:=HM1
   clear HM1
   obtain ⟨g,rfl⟩:=row_some (HM.out.get (k:=2) rfl) (by simp)
   obtain ⟨⟨xk,xo⟩,xq,xn,xc⟩:=x
   go_wp2_with (first|((with_reducible refine iat 27 ?_);(refine ixa rfl rfl (i:=0) rfl (by decide) ?_))|((with_reducible refine iat 28 ?_);(refine ldxW (vs:=[.int .i64 xk,.int .i64 xo,.slice xq xn xc]) (row_el ThT.cs 3 ThT.cs_len (l:=[⟨⟨xk,xo⟩,xq,xn,xc⟩]) (i:=0) (HM.out.get (k:=2) rfl) rfl) rfl rfl ?_))|((with_reducible refine inilCheck ?_);(refine lnil rfl ?_))|((with_reducible refine iload ?_);first|refine ldb1 HM.out 0 rfl rfl rfl ?_|refine ldb1 HM.out 1 rfl rfl rfl ?_|refine ldbW HM.out 0 rfl rfl rfl ?_|refine ldbW HM.out 1 rfl rfl rfl ?_|((first|refine ldbS HM.out 0 rfl rfl rfl ?_|refine ldbS HM.out 1 rfl rfl rfl ?_);simp only [List.take,List.drop]))|((with_reducible refine istore ?_);(first|((first|refine stbW rfl HM.out 0 rfl rfl rfl rfl rfl rfl ?_|refine stbW rfl HM.out 1 rfl rfl rfl rfl rfl rfl ?_);intro W1 HM1;replace HM:=Lib.hid HM1;clear HM1;simp only [List.set] at HM)|((first|refine stbS rfl HM.out 0 rfl rfl rfl rfl rfl rfl ?_|refine stbS rfl HM.out 1 rfl rfl rfl rfl rfl rfl ?_);intro W1 HM1;replace HM:=Lib.hid HM1;clear HM1;simp only [lss,Nat.reduceAdd] at HM)))|((with_reducible refine ialloc (d:=some 7) ?_);refine alb rfl HM.out ?_;intro g7 W1 HM1;replace HM:=Lib.hid HM1;clear HM1)|((with_reducible refine ialloc ?_);refine alb rfl HM.out ?_;intro g1 W1 HM1;replace HM:=Lib.hid HM1;clear HM1))
   exact bodyPost_ret (res_box_tmp rfl HM.out 0 rfl rfl rfl rfl) rfl (run_fine (x:=⟨⟨xk,xo⟩,xq,xn,xc⟩) (R:=_ :: _ :: _ :: R) HB.out rfl (HM.out.sub (.cons _ (.refl _))) (HS.out.mono (fun r hr=>List.mem_cons_of_mem _ (List.mem_cons_of_mem _ (List.mem_cons_of_mem _ hr)))))
end Go.Proofs.YtheimopjglkgjaaGreatDoor

namespace Go.Proofs.YtheimopjglkgjaaGreatDoor
open Go.RowKit
set_option linter.unusedVariables false
set_option linter.unusedSimpArgs false
set_option maxRecDepth 100000

def namesGo:List SymD→List SymD→Int
 | _,[]=>0
 | seen,s :: l=>if (lookT s.name seen).isSome || !nameB s.name || !formB s.t.k s.t.o then 2 else namesGo (seen++[s]) l
def namesF (l:List SymD):Int:=if 100 < l.length then 6 else namesGo [] l
theorem namesGo_cons (seen:List SymD) (s:SymD) (l:List SymD):namesGo seen (s :: l)=if (lookT s.name seen).isSome || !nameB s.name || !formB s.t.k s.t.o then 2 else namesGo (seen++[s]) l:=rfl
def NamedPost (l:List SymD) (r:Int) (w:World) (e:Ending) (w' : World):Prop:=
 if r=0 then ∃ g,e = .returned (.tuple #[.map (some g),.int .i64 0])∧Mem w w' [.map g (mapEs (symE l)) (symE l).length] else e = .returned (.tuple #[.map none,.int .i64 r])∧Below w.heap.size w w'
theorem symE_push (l:List SymD) (s:SymD):symE (l++[s])=symE l++[(s.name,s.t.val)]:=by unfold symE;simp
theorem named_err {l:List SymD} {r:Int} {w w' : World} {x:Int} (h:x=r) (hx:x≠0) (hb:Below w.heap.size w w'):NamedPost l r w (.returned (.tuple #[.map none,.int .i64 x])) w':=by
 subst h
 unfold NamedPost
 rw [if_neg hx]
 exact ⟨rfl,hb⟩

set_option maxHeartbeats 4000000 in
theorem named_any (p:Option Addr) (c:Nat) (l:List SymD) (w:World) (hS:Sl w p (l.flatMap SymD.cs)) (hl:l.length≤4611686018427387904) :
  Calls Tryz.prog 32 #[.slice p l.length c] w (NamedPost l (namesF l) w):=by
 have HM:=Lib.hid (Mem.start w)
 by_cases hlong:100 < l.length
 ·have HR:=Lib.hid (show (6:Int)=namesF l by unfold namesF;rw [if_pos hlong])
  have hlong' : (100:Int) < (l.length:Int):=by omega
  clear hlong
  go_enter Tryz.func32,Tryz.ntmps32
  go_wp2_with fail
  go_ret2
  exact named_err HR.out (by decide) HM.out.below
 have hshort:(l.length:Int)≤100:=by omega
 obtain ⟨r,hr⟩:∃ r,namesF l=r:=⟨_,rfl⟩
 rw [hr]
 have HR:=Lib.hid (show namesGo (l.take 0) (l.drop 0)=r by rw [← hr];unfold namesF;rw [if_neg hlong];rfl)
 have HS:=Lib.hid hS
 clear hr hS hlong
 go_enter Tryz.func32,Tryz.ntmps32
 go_wp2_with (first|(refine mkm rfl HM.out ?_;intro gm W1 HM1;replace HM:=Lib.hid HM1;clear HM1))
 go_loopw [15] (fun iv wr=>∃ i:Nat,iv = .int .i64 i∧i≤l.length∧Hid (namesGo (l.take i) (l.drop i)=r)∧Hid (Mem w wr [.map gm (mapEs (symE (l.take i))) (symE (l.take i)).length])) (fun iv _=>l.length - (intOf iv).toNat)
 case atStart=>exact ⟨0,rfl,by omega,HR,HM⟩
 case round=>
  clear HM
  obtain ⟨i,rfl,hi,HI,HM⟩:=hrel
  by_cases hlt:i < l.length
  ·obtain ⟨b,rfl,hb⟩:=HS.out.some_at SymD.cs_len (by decide) hlt
   obtain ⟨s,hs⟩:∃ s,l[i]? = some s:=⟨_,List.getElem?_eq_getElem hlt⟩
   obtain ⟨sn,tk,tz⟩:=s
   have E1:=Lib.hid (show Cells w (b.add (i * 3)) [.string sn,.int .i64 tk,.int .i64 tz] from hb.elem SymD.cs 3 SymD.cs_len hs)
   have HI2:=Lib.hid (show (if (lookT sn (l.take i)).isSome || !nameB sn || !formB tk tz then 2 else namesGo (l.take i++[⟨sn,tk,tz⟩]) (l.drop (i + 1)))=r by rw [← namesGo_cons (l.take i) ⟨sn,tk,tz⟩,← HI.out,drop_atC hs])
   have HT:=Lib.hid (show l.take (i + 1)=l.take i++[⟨sn,tk,tz⟩] by rw [List.take_add_one,hs];rfl)
   have hlt3:=Lib.hid (show i + 1≤l.length from hlt)
   have d1:decide ((i:Int) < l.length)=true:=decide_eq_true (by omega)
   obtain ⟨q,hq⟩:∃ q,lookT sn (l.take i)=q:=⟨_,rfl⟩
   have HV:=Lib.hid (show findL sn (symE (l.take i))=q.map TyD.val by rw [find_look,hq])
   rw [hq] at HI2
   obtain ⟨nb,hnb⟩:∃ nb,nameB sn=nb:=⟨_,rfl⟩
   obtain ⟨fb,hfb⟩:∃ fb,formB tk tz=fb:=⟨_,rfl⟩
   have HN:=Lib.hid (fun W=>hnb▸name_any sn W)
   have HF:=Lib.hid (fun W=>hfb▸kForm_any tk tz W)
   rw [hnb,hfb] at HI2
   clear hb hs HI hq hnb hfb
   cases q with
   | some t=>
    have HB:=Lib.hid (show (2:Int)=r by rw [← HI2.out];rfl)
    clear HI2
    go_wp2_with (first|((with_reducible refine iat 17 ?_);(refine ixa rfl rfl rfl hlt ?_))|((with_reducible refine iat 18 ?_);(refine ldxW (HM.out.olds E1.out) rfl rfl ?_))|((with_reducible refine iat 23 ?_);(refine lkm (l:=symE (l.take i)) HM.out 1 rfl rfl rfl ?_;rw [HV.out];simp only [Option.map_none,Option.map_some,Option.getD_none,Option.getD_some,Option.isSome_none,Option.isSome_some,TyD.val]))|((with_reducible refine igd ?_);(with_reducible refine skip_op ?_ ?_);(exact rfl))|((with_reducible refine iload ?_);first|refine ldb1 HM.out 0 rfl rfl rfl ?_|refine ldb1 HM.out 1 rfl rfl rfl ?_|refine ldb1 HM.out 2 rfl rfl rfl ?_|refine ldbW HM.out 0 rfl rfl rfl ?_|refine ldbW HM.out 1 rfl rfl rfl ?_|refine ldbW HM.out 2 rfl rfl rfl ?_|((first|refine ldbS HM.out 0 rfl rfl rfl ?_|refine ldbS HM.out 1 rfl rfl rfl ?_|refine ldbS HM.out 2 rfl rfl rfl ?_);simp only [List.take,List.drop]))|((with_reducible refine istore ?_);(first|((first|refine stbW rfl HM.out 0 rfl rfl rfl rfl rfl rfl ?_|refine stbW rfl HM.out 1 rfl rfl rfl rfl rfl rfl ?_|refine stbW rfl HM.out 2 rfl rfl rfl rfl rfl rfl ?_);intro W1 HM1;replace HM:=Lib.hid HM1;clear HM1;simp only [List.set] at HM)|((first|refine stbS rfl HM.out 0 rfl rfl rfl rfl rfl rfl ?_|refine stbS rfl HM.out 1 rfl rfl rfl rfl rfl rfl ?_|refine stbS rfl HM.out 2 rfl rfl rfl rfl rfl rfl ?_);intro W1 HM1;replace HM:=Lib.hid HM1;clear HM1;simp only [lss,Nat.reduceAdd] at HM)))|((with_reducible refine ialloc (d:=some 6) ?_);refine alb rfl HM.out ?_;intro g6 W1 HM1;replace HM:=Lib.hid HM1;clear HM1)|((with_reducible refine ialloc (d:=some 7) ?_);refine alb rfl HM.out ?_;intro g7 W1 HM1;replace HM:=Lib.hid HM1;clear HM1))
    go_ret2
    exact named_err HB.out (by decide) HM.out.below
   | none=>
    cases nb
    ·have HB:=Lib.hid (show (2:Int)=r by rw [← HI2.out];rfl)
     clear HI2
     go_wp2_with (first|((with_reducible refine iat 17 ?_);(refine ixa rfl rfl rfl hlt ?_))|((with_reducible refine iat 18 ?_);(refine ldxW (HM.out.olds E1.out) rfl rfl ?_))|((with_reducible refine iat 23 ?_);(refine lkm (l:=symE (l.take i)) HM.out 1 rfl rfl rfl ?_;rw [HV.out];simp only [Option.map_none,Option.map_some,Option.getD_none,Option.getD_some,Option.isSome_none,Option.isSome_some,TyD.val]))|((with_reducible refine igd ?_);(with_reducible refine skip_op ?_ ?_);(exact rfl))|((with_reducible refine iload ?_);first|refine ldb1 HM.out 0 rfl rfl rfl ?_|refine ldb1 HM.out 1 rfl rfl rfl ?_|refine ldb1 HM.out 2 rfl rfl rfl ?_|refine ldbW HM.out 0 rfl rfl rfl ?_|refine ldbW HM.out 1 rfl rfl rfl ?_|refine ldbW HM.out 2 rfl rfl rfl ?_|((first|refine ldbS HM.out 0 rfl rfl rfl ?_|refine ldbS HM.out 1 rfl rfl rfl ?_|refine ldbS HM.out 2 rfl rfl rfl ?_);simp only [List.take,List.drop]))|((with_reducible refine istore ?_);(first|((first|refine stbW rfl HM.out 0 rfl rfl rfl rfl rfl rfl ?_|refine stbW rfl HM.out 1 rfl rfl rfl rfl rfl rfl ?_|refine stbW rfl HM.out 2 rfl rfl rfl rfl rfl rfl ?_);intro W1 HM1;replace HM:=Lib.hid HM1;clear HM1;simp only [List.set] at HM)|((first|refine stbS rfl HM.out 0 rfl rfl rfl rfl rfl rfl ?_|refine stbS rfl HM.out 1 rfl rfl rfl rfl rfl rfl ?_|refine stbS rfl HM.out 2 rfl rfl rfl rfl rfl rfl ?_);intro W1 HM1;replace HM:=Lib.hid HM1;clear HM1;simp only [lss,Nat.reduceAdd] at HM)))|((with_reducible refine ialloc (d:=some 6) ?_);refine alb rfl HM.out ?_;intro g6 W1 HM1;replace HM:=Lib.hid HM1;clear HM1)|((with_reducible refine ialloc (d:=some 7) ?_);refine alb rfl HM.out ?_;intro g7 W1 HM1;replace HM:=Lib.hid HM1;clear HM1)|(go_at_call 39;(with_reducible refine (HN.out _).mono ?_);rintro e W2 ⟨rfl,rfl⟩))
     go_ret2
     exact named_err HB.out (by decide) HM.out.below
    ·cases fb
     ·have HB:=Lib.hid (show (2:Int)=r by rw [← HI2.out];rfl)
      clear HI2
      go_wp2_with (first|((with_reducible refine iat 17 ?_);(refine ixa rfl rfl rfl hlt ?_))|((with_reducible refine iat 18 ?_);(refine ldxW (HM.out.olds E1.out) rfl rfl ?_))|((with_reducible refine iat 23 ?_);(refine lkm (l:=symE (l.take i)) HM.out 1 rfl rfl rfl ?_;rw [HV.out];simp only [Option.map_none,Option.map_some,Option.getD_none,Option.getD_some,Option.isSome_none,Option.isSome_some,TyD.val]))|((with_reducible refine igd ?_);(with_reducible refine skip_op ?_ ?_);(exact rfl))|((with_reducible refine iload ?_);first|refine ldb1 HM.out 0 rfl rfl rfl ?_|refine ldb1 HM.out 1 rfl rfl rfl ?_|refine ldb1 HM.out 2 rfl rfl rfl ?_|refine ldbW HM.out 0 rfl rfl rfl ?_|refine ldbW HM.out 1 rfl rfl rfl ?_|refine ldbW HM.out 2 rfl rfl rfl ?_|((first|refine ldbS HM.out 0 rfl rfl rfl ?_|refine ldbS HM.out 1 rfl rfl rfl ?_|refine ldbS HM.out 2 rfl rfl rfl ?_);simp only [List.take,List.drop]))|((with_reducible refine istore ?_);(first|((first|refine stbW rfl HM.out 0 rfl rfl rfl rfl rfl rfl ?_|refine stbW rfl HM.out 1 rfl rfl rfl rfl rfl rfl ?_|refine stbW rfl HM.out 2 rfl rfl rfl rfl rfl rfl ?_);intro W1 HM1;replace HM:=Lib.hid HM1;clear HM1;simp only [List.set] at HM)|((first|refine stbS rfl HM.out 0 rfl rfl rfl rfl rfl rfl ?_|refine stbS rfl HM.out 1 rfl rfl rfl rfl rfl rfl ?_|refine stbS rfl HM.out 2 rfl rfl rfl rfl rfl rfl ?_);intro W1 HM1;replace HM:=Lib.hid HM1;clear HM1;simp only [lss,Nat.reduceAdd] at HM)))|((with_reducible refine ialloc (d:=some 6) ?_);refine alb rfl HM.out ?_;intro g6 W1 HM1;replace HM:=Lib.hid HM1;clear HM1)|((with_reducible refine ialloc (d:=some 7) ?_);refine alb rfl HM.out ?_;intro g7 W1 HM1;replace HM:=Lib.hid HM1;clear HM1)|(go_at_call 39;(with_reducible refine (HN.out _).mono ?_);rintro e W2 ⟨rfl,rfl⟩)|(go_at_call 34;(with_reducible refine (HF.out _).mono ?_);rintro e W1 ⟨rfl,hb⟩;replace HM:=Lib.hid (HM.out.next hb);clear hb))
      go_ret2
      exact named_err HB.out (by decide) HM.out.below
     ·have HB:=Lib.hid (show namesGo (l.take i++[⟨sn,tk,tz⟩]) (l.drop (i + 1))=r by rw [← HI2.out];rfl)
      clear HI2
      go_wp2_with (first|((with_reducible refine iat 17 ?_);(refine ixa rfl rfl rfl hlt ?_))|((with_reducible refine iat 18 ?_);(refine ldxW (HM.out.olds E1.out) rfl rfl ?_))|((with_reducible refine iat 23 ?_);(refine lkm (l:=symE (l.take i)) HM.out 1 rfl rfl rfl ?_;rw [HV.out];simp only [Option.map_none,Option.map_some,Option.getD_none,Option.getD_some,Option.isSome_none,Option.isSome_some,TyD.val]))|((with_reducible refine igd ?_);(with_reducible refine skip_op ?_ ?_);(exact rfl))|((with_reducible refine iload ?_);first|refine ldb1 HM.out 0 rfl rfl rfl ?_|refine ldb1 HM.out 1 rfl rfl rfl ?_|refine ldb1 HM.out 2 rfl rfl rfl ?_|refine ldbW HM.out 0 rfl rfl rfl ?_|refine ldbW HM.out 1 rfl rfl rfl ?_|refine ldbW HM.out 2 rfl rfl rfl ?_|((first|refine ldbS HM.out 0 rfl rfl rfl ?_|refine ldbS HM.out 1 rfl rfl rfl ?_|refine ldbS HM.out 2 rfl rfl rfl ?_);simp only [List.take,List.drop]))|((with_reducible refine istore ?_);(first|((first|refine stbW rfl HM.out 0 rfl rfl rfl rfl rfl rfl ?_|refine stbW rfl HM.out 1 rfl rfl rfl rfl rfl rfl ?_|refine stbW rfl HM.out 2 rfl rfl rfl rfl rfl rfl ?_);intro W1 HM1;replace HM:=Lib.hid HM1;clear HM1;simp only [List.set] at HM)|((first|refine stbS rfl HM.out 0 rfl rfl rfl rfl rfl rfl ?_|refine stbS rfl HM.out 1 rfl rfl rfl rfl rfl rfl ?_|refine stbS rfl HM.out 2 rfl rfl rfl rfl rfl rfl ?_);intro W1 HM1;replace HM:=Lib.hid HM1;clear HM1;simp only [lss,Nat.reduceAdd] at HM)))|((with_reducible refine ialloc (d:=some 6) ?_);refine alb rfl HM.out ?_;intro g6 W1 HM1;replace HM:=Lib.hid HM1;clear HM1)|((with_reducible refine ialloc (d:=some 7) ?_);refine alb rfl HM.out ?_;intro g7 W1 HM1;replace HM:=Lib.hid HM1;clear HM1)|(go_at_call 39;(with_reducible refine (HN.out _).mono ?_);rintro e W2 ⟨rfl,rfl⟩)|(go_at_call 34;(with_reducible refine (HF.out _).mono ?_);rintro e W1 ⟨rfl,hb⟩;replace HM:=Lib.hid (HM.out.next hb);clear hb)|((with_reducible refine imapUpdate ?_);(refine upm (l:=symE (l.take i)) rfl HM.out 2 rfl rfl rfl rfl HV.out ?_;intro W1 HM1;replace HM:=Lib.hid HM1;clear HM1;simp only [List.set] at HM)))
      go_roundw
      case rel=>exact ⟨i + 1,by go_num,hlt3.out,by rw [HT.out];exact HB,by
       rw [HT.out,symE_push,List.length_append]
       exact Lib.hid (HM.out.sub (.cons _ (.cons _ (.refl _))))⟩
      case measure=>have:=hlt3.out;simp [intOf];omega
  ·obtain rfl:i=l.length:=by omega
   have hr:r=0:=by rw [← HI.out,List.drop_of_length_le (Nat.le_refl _)];rfl
   subst hr
   have HT:=Lib.hid (show l.take l.length=l from List.take_length)
   have d1:decide ((l.length:Int) < l.length)=false:=by simp
   go_wp2
   go_ret2
   unfold NamedPost
   rw [if_pos rfl]
   exact ⟨gm,rfl,by have h:=HM.out;rw [HT.out] at h;exact h⟩
end Go.Proofs.YtheimopjglkgjaaGreatDoor

namespace Go.Proofs.YtheimopjglkgjaaGreatDoor
open Go.RowKit
set_option linter.unusedVariables false
set_option linter.unusedSimpArgs false
set_option maxRecDepth 100000

theorem namesGo_form:∀ (l seen:List SymD),namesGo seen l=0→∀ s,s ∈ l→s.t.form
 | [],_,_,s,hs=>by cases hs
 | x :: l,seen,h,s,hs=>by
  rw [namesGo_cons] at h
  split at h
  ·cases h
  ·rename_i hc
   rcases List.mem_cons.1 hs with rfl|hs
   ·simp only [Bool.or_eq_true,Bool.not_eq_true',not_or,Bool.not_eq_false] at hc
    exact hc.2
   ·exact namesGo_form l _ h s hs
theorem namesF_form {l:List SymD} (h:namesF l=0):∀ s,s ∈ l→s.t.form:=by
 unfold namesF at h
 split at h
 ·cases h
 ·exact namesGo_form l [] h
def exprF (ns:List NodeD) (l:List SymD):TyD × Int:=
 if checkC ns false≠0 then (⟨0,0⟩,checkC ns false) else if namesF l≠0 then (⟨0,0⟩,namesF l) else ((runT l ns []).1.t,(runT l ns []).2)
def testsF (ns:List NodeD) (t:TyD) (l:List SymD):Int:=
 if checkC ns true≠0 then checkC ns true else if namesF l≠0 then namesF l else if formB t.k t.o=false then 2 else if (runT l ns []).2≠0 then (runT l ns []).2 else if asksB t (runT l ns []).1.qs then 0 else 9
theorem named_ok (p:Option Addr) (c:Nat) (l:List SymD) (w:World) (hS:Sl w p (l.flatMap SymD.cs)) (hl:l.length≤4611686018427387904) (h:namesF l=0) :
  Calls Tryz.prog 32 #[.slice p l.length c] w fun e w'=>∃ g,e = .returned (.tuple #[.map (some g),.int .i64 0])∧Mem w w' [.map g (mapEs (symE l)) (symE l).length]:=by
 have h1:=named_any p c l w hS hl
 rw [h] at h1
 exact h1
theorem named_no (p:Option Addr) (c:Nat) (l:List SymD) (w:World) (hS:Sl w p (l.flatMap SymD.cs)) (hl:l.length≤4611686018427387904) (h:namesF l≠0) :
  Calls Tryz.prog 32 #[.slice p l.length c] w fun e w'=>e = .returned (.tuple #[.map none,.int .i64 (namesF l)])∧Below w.heap.size w w':=by
 refine (named_any p c l w hS hl).mono fun e w' hp=>?_
 unfold NamedPost at hp
 rw [if_neg h] at hp
 exact hp
theorem run_ok (w0 W:World) (gc gm:Nat) (T:List Res) (l:List SymD) (p:Option Addr) (c:Nat) (ns:List NodeD) (tests:Bool)
  (HM0:Mem w0 W (.box gc 73 [.map (some gm),.slice none 0 0] :: .map gm (mapEs (symE l)) (symE l).length :: T))
  (hN:Sl w0 p (ns.flatMap NodeD.cs)) (hl:∀ s,s ∈ l→s.t.form) (hc:checkC ns tests=0) (tk tz:Int) (qs:List AskD) (hr:runT l ns []=(⟨⟨tk,tz⟩,qs⟩,0)) :
  Calls Tryz.prog 33 #[.pointer (some ⟨gc,0,none⟩),.slice p ns.length c] W fun e w'=>∃ (xq:Option Addr) (xc:Nat) (R:List Res),e = .returned (.tuple #[.agg #[.int .i64 tk,.int .i64 tz,.slice xq qs.length xc],.int .i64 0])∧Mem w0 w' (R++T)∧StIn (R++T) ⟨⟨tk,tz⟩,xq,qs.length,xc⟩ ⟨⟨tk,tz⟩,qs⟩:=by
 refine (run_any w0 W gc gm T l p c ns tests HM0 hN hl hc).mono fun e w' hp=>?_
 rw [hr] at hp
 unfold RunPost at hp
 rw [if_pos rfl] at hp
 obtain ⟨⟨⟨xk,xo⟩,xq,xn,xc⟩,R,he,hM,hi⟩:=hp
 obtain rfl:xn=qs.length:=hi.2.1
 have h1:(⟨xk,xo⟩:TyD)=⟨tk,tz⟩:=hi.1
 cases h1
 exact ⟨xq,xc,R,he,hM,hi⟩
theorem run_no (w0 W:World) (gc gm:Nat) (T:List Res) (l:List SymD) (p:Option Addr) (c:Nat) (ns:List NodeD) (tests:Bool)
  (HM0:Mem w0 W (.box gc 73 [.map (some gm),.slice none 0 0] :: .map gm (mapEs (symE l)) (symE l).length :: T))
  (hN:Sl w0 p (ns.flatMap NodeD.cs)) (hl:∀ s,s ∈ l→s.t.form) (hc:checkC ns tests=0) (re:Int) (hr:(runT l ns []).2=re) (h0:re≠0) :
  Calls Tryz.prog 33 #[.pointer (some ⟨gc,0,none⟩),.slice p ns.length c] W fun e w'=>e = .returned (.tuple #[.agg #[.int .i64 0,.int .i64 0,.slice none 0 0],.int .i64 re])∧Mem w0 w' T:=by
 refine (run_any w0 W gc gm T l p c ns tests HM0 hN hl hc).mono fun e w' hp=>?_
 unfold RunPost at hp
 rw [hr,if_neg h0] at hp
 exact hp
theorem runT_err {l:List SymD}:∀ {ns:List NodeD} {ds:List ThD},(runT l ns ds).2≠0→(runT l ns ds).1.t=⟨0,0⟩
 | [],ds,h=>absurd rfl h
 | n :: ns,ds,h=>by
  unfold runT at h ⊢
  split
  ·rename_i h0
   rw [if_pos h0] at h
   exact runT_err h
  ·rfl
theorem mem_front {R:List Res} {a r:Res} (h:r ∈ R++[a]):r ∈ a :: (R++[]):=by
 rcases List.mem_append.1 h with h|h
 ·exact List.mem_cons_of_mem _ (List.mem_append.2 (Or.inl h))
 ·rw [List.mem_singleton.1 h];exact List.mem_cons_self ..

set_option maxHeartbeats 4000000 in
theorem cExpr_any (p:Option Addr) (c:Nat) (ns:List NodeD) (q:Option Addr) (c2:Nat) (l:List SymD) (w:World) (hN:Sl w p (ns.flatMap NodeD.cs)) (hwf:∀ (i:Nat) (n:NodeD),ns[i]? = some n→n.wf) (hl:ns.length≤4611686018427387904) (hL:Sl w q (l.flatMap SymD.cs)) (hl2:l.length≤4611686018427387904) (hT:U8 w) :
  Calls Tryz.prog 15 #[.slice p ns.length c,.slice q l.length c2] w fun e w'=>e = .returned (resV (exprF ns l))∧Below w.heap.size w w':=by
 have HM:=Lib.hid (Mem.start w)
 obtain ⟨ce,hce⟩:∃ ce,checkC ns false=ce:=⟨_,rfl⟩
 obtain ⟨ne,hne⟩:∃ ne,namesF l=ne:=⟨_,rfl⟩
 obtain ⟨⟨⟨⟨tk,tz⟩,qs⟩,re⟩,hre⟩:∃ r,runT l ns []=r:=⟨_,rfl⟩
 have HN:=Lib.hid hN
 have HL:=Lib.hid hL
 have HT:=Lib.hid hT
 have HCk:=Lib.hid (fun W (h:Sl W p (ns.flatMap NodeD.cs)) (h2:U8 W)=>hce▸eCheck_any p c ns false W h hwf hl h2)
 by_cases h1:ce=0
 ·subst h1
  by_cases h2:ne=0
  ·subst h2
   have HNm:=Lib.hid (fun W (h:Sl W q (l.flatMap SymD.cs))=>named_ok q c2 l W h hl2 hne)
   have hfm:=namesF_form hne
   by_cases h3:re=0
   ·subst h3
    have HB:=Lib.hid (show exprF ns l=(⟨tk,tz⟩,0) by unfold exprF;rw [if_neg (by rw [hce];simp),if_neg (by rw [hne];simp),hre])
    have HRn:=Lib.hid (fun W gc gm T (h:Mem w W (.box gc 73 [.map (some gm),.slice none 0 0] :: .map gm (mapEs (symE l)) (symE l).length :: T))=>run_ok w W gc gm T l p c ns false h hN hfm hce tk tz qs hre)
    clear hN hL hT hce hne hre hwf hfm
    go_enter Tryz.func15,Tryz.ntmps15
    go_wp2_with (first|(go_at_call 7;(with_reducible refine (HCk.out _ (HM.out.sl HN.out) (U8.below HT.out HM.out.below)).mono ?_);rintro e W1 ⟨rfl,hb⟩;replace HM:=Lib.hid (HM.out.next hb);clear hb)|(go_at_call 32;(with_reducible refine (HNm.out _ (HM.out.sl HL.out)).mono ?_);rintro e W2 ⟨gm,rfl,hM2⟩;have HM1:=Lib.hid (HM.out.comp hM2);clear HM hM2;simp only [List.cons_append,List.nil_append] at HM1;(try clear W1);rename World=>W1;have HM:=HM1;clear HM1)|(go_at_call 33;(with_reducible refine (HRn.out _ _ _ _ HM.out).mono ?_);rintro e W2 ⟨xq,xc,R,rfl,hM2,-⟩;have HM1:=Lib.hid (hM2.perm List.perm_middle);clear HM hM2;(try clear W1);rename World=>W1;have HM:=HM1;clear HM1)|((with_reducible refine iload ?_);first|refine ldbW HM.out 0 rfl rfl rfl ?_|refine ldbW HM.out 1 rfl rfl rfl ?_|refine ldbW HM.out 2 rfl rfl rfl ?_|((first|refine ldbS HM.out 0 rfl rfl rfl ?_|refine ldbS HM.out 1 rfl rfl rfl ?_|refine ldbS HM.out 2 rfl rfl rfl ?_);simp only [List.take,List.drop]))|((with_reducible refine istore ?_);(first|((first|refine stbW rfl HM.out 0 rfl rfl rfl rfl rfl rfl ?_|refine stbW rfl HM.out 1 rfl rfl rfl rfl rfl rfl ?_|refine stbW rfl HM.out 2 rfl rfl rfl rfl rfl rfl ?_);intro W1 HM1;replace HM:=Lib.hid HM1;clear HM1;simp only [List.set] at HM)|((first|refine stbS rfl HM.out 0 rfl rfl rfl rfl rfl rfl ?_|refine stbS rfl HM.out 1 rfl rfl rfl rfl rfl rfl ?_|refine stbS rfl HM.out 2 rfl rfl rfl rfl rfl rfl ?_);intro W1 HM1;replace HM:=Lib.hid HM1;clear HM1;simp only [lss,Nat.reduceAdd] at HM)))|((with_reducible refine ialloc (d:=some 4) ?_);refine alb rfl HM.out ?_;intro g4 W1 HM1;replace HM:=Lib.hid HM1;clear HM1)|((with_reducible refine ibox (d:=some 28) ?_);refine bxA rfl HM.out rfl ?_;intro g28 W1 HM1;replace HM:=Lib.hid HM1;clear HM1)|((with_reducible refine ialloc (d:=some 10) ?_);refine alb rfl HM.out ?_;intro g10 W1 HM1;replace HM:=Lib.hid HM1;clear HM1))
    exact bodyPost_ret (res_box_tmp rfl HM.out 1 rfl rfl rfl rfl) rfl ⟨by rw [resV_of HB.out];rfl,HM.out.below⟩
   ·have HB:=Lib.hid (show exprF ns l=(⟨0,0⟩,re) by unfold exprF;rw [if_neg (by rw [hce];simp),if_neg (by rw [hne];simp),runT_err (by rw [hre];exact h3),hre])
    have HRn:=Lib.hid (fun W gc gm T (h:Mem w W (.box gc 73 [.map (some gm),.slice none 0 0] :: .map gm (mapEs (symE l)) (symE l).length :: T))=>run_no w W gc gm T l p c ns false h hN hfm hce re (by rw [hre]) h3)
    clear hN hL hT hce hne hre hwf hfm h3
    go_enter Tryz.func15,Tryz.ntmps15
    go_wp2_with (first|(go_at_call 7;(with_reducible refine (HCk.out _ (HM.out.sl HN.out) (U8.below HT.out HM.out.below)).mono ?_);rintro e W1 ⟨rfl,hb⟩;replace HM:=Lib.hid (HM.out.next hb);clear hb)|(go_at_call 32;(with_reducible refine (HNm.out _ (HM.out.sl HL.out)).mono ?_);rintro e W2 ⟨gm,rfl,hM2⟩;have HM1:=Lib.hid (HM.out.comp hM2);clear HM hM2;simp only [List.cons_append,List.nil_append] at HM1;(try clear W1);rename World=>W1;have HM:=HM1;clear HM1)|(go_at_call 33;(with_reducible refine (HRn.out _ _ _ _ HM.out).mono ?_);rintro e W2 ⟨rfl,hM2⟩;have HM1:=Lib.hid hM2;clear HM hM2;(try clear W1);rename World=>W1;have HM:=HM1;clear HM1)|((with_reducible refine iload ?_);first|refine ldbW HM.out 0 rfl rfl rfl ?_|refine ldbW HM.out 1 rfl rfl rfl ?_|refine ldbW HM.out 2 rfl rfl rfl ?_|((first|refine ldbS HM.out 0 rfl rfl rfl ?_|refine ldbS HM.out 1 rfl rfl rfl ?_|refine ldbS HM.out 2 rfl rfl rfl ?_);simp only [List.take,List.drop]))|((with_reducible refine istore ?_);(first|((first|refine stbW rfl HM.out 0 rfl rfl rfl rfl rfl rfl ?_|refine stbW rfl HM.out 1 rfl rfl rfl rfl rfl rfl ?_|refine stbW rfl HM.out 2 rfl rfl rfl rfl rfl rfl ?_);intro W1 HM1;replace HM:=Lib.hid HM1;clear HM1;simp only [List.set] at HM)|((first|refine stbS rfl HM.out 0 rfl rfl rfl rfl rfl rfl ?_|refine stbS rfl HM.out 1 rfl rfl rfl rfl rfl rfl ?_|refine stbS rfl HM.out 2 rfl rfl rfl rfl rfl rfl ?_);intro W1 HM1;replace HM:=Lib.hid HM1;clear HM1;simp only [lss,Nat.reduceAdd] at HM)))|((with_reducible refine ialloc (d:=some 4) ?_);refine alb rfl HM.out ?_;intro g4 W1 HM1;replace HM:=Lib.hid HM1;clear HM1)|((with_reducible refine ibox (d:=some 28) ?_);refine bxA rfl HM.out rfl ?_;intro g28 W1 HM1;replace HM:=Lib.hid HM1;clear HM1)|((with_reducible refine ialloc (d:=some 10) ?_);refine alb rfl HM.out ?_;intro g10 W1 HM1;replace HM:=Lib.hid HM1;clear HM1))
    exact bodyPost_ret (res_box_tmp rfl HM.out 1 rfl rfl rfl rfl) rfl ⟨by rw [resV_of HB.out];rfl,HM.out.below⟩
  ·have HB:=Lib.hid (show exprF ns l=(⟨0,0⟩,ne) by unfold exprF;rw [if_neg (by rw [hce];simp),if_pos (by rw [hne];exact h2),hne])
   have HNm:=Lib.hid (fun W (h:Sl W q (l.flatMap SymD.cs))=>hne▸named_no q c2 l W h hl2 (by rw [hne];exact h2))
   have b1:(ne != 0)=true:=by simpa using h2
   clear hN hL hT hce hne hre hwf h2
   go_enter Tryz.func15,Tryz.ntmps15
   go_wp2_with (first|(go_at_call 7;(with_reducible refine (HCk.out _ (HM.out.sl HN.out) (U8.below HT.out HM.out.below)).mono ?_);rintro e W1 ⟨rfl,hb⟩;replace HM:=Lib.hid (HM.out.next hb);clear hb)|(go_at_call 32;(with_reducible refine (HNm.out _ (HM.out.sl HL.out)).mono ?_);rintro e W1 ⟨rfl,hb⟩;replace HM:=Lib.hid (HM.out.next hb);clear hb)|((with_reducible refine iload ?_);first|refine ldbW HM.out 0 rfl rfl rfl ?_|refine ldbW HM.out 1 rfl rfl rfl ?_|refine ldbW HM.out 2 rfl rfl rfl ?_|((first|refine ldbS HM.out 0 rfl rfl rfl ?_|refine ldbS HM.out 1 rfl rfl rfl ?_|refine ldbS HM.out 2 rfl rfl rfl ?_);simp only [List.take,List.drop]))|((with_reducible refine istore ?_);(first|((first|refine stbW rfl HM.out 0 rfl rfl rfl rfl rfl rfl ?_|refine stbW rfl HM.out 1 rfl rfl rfl rfl rfl rfl ?_|refine stbW rfl HM.out 2 rfl rfl rfl rfl rfl rfl ?_);intro W1 HM1;replace HM:=Lib.hid HM1;clear HM1;simp only [List.set] at HM)|((first|refine stbS rfl HM.out 0 rfl rfl rfl rfl rfl rfl ?_|refine stbS rfl HM.out 1 rfl rfl rfl rfl rfl rfl ?_|refine stbS rfl HM.out 2 rfl rfl rfl rfl rfl rfl ?_);intro W1 HM1;replace HM:=Lib.hid HM1;clear HM1;simp only [lss,Nat.reduceAdd] at HM)))|((with_reducible refine ialloc (d:=some 4) ?_);refine alb rfl HM.out ?_;intro g4 W1 HM1;replace HM:=Lib.hid HM1;clear HM1)|((with_reducible refine ibox (d:=some 28) ?_);refine bxA rfl HM.out rfl ?_;intro g28 W1 HM1;replace HM:=Lib.hid HM1;clear HM1)|((with_reducible refine ialloc (d:=some 10) ?_);refine alb rfl HM.out ?_;intro g10 W1 HM1;replace HM:=Lib.hid HM1;clear HM1))
   exact bodyPost_ret (res_box_tmp rfl HM.out 0 rfl rfl rfl rfl) rfl ⟨by rw [resV_of HB.out];rfl,HM.out.below⟩
 ·have HB:=Lib.hid (show exprF ns l=(⟨0,0⟩,ce) by unfold exprF;rw [if_pos (by rw [hce];exact h1),hce])
  have b1:(ce != 0)=true:=by simpa using h1
  clear hN hL hT hce hne hre hwf h1
  go_enter Tryz.func15,Tryz.ntmps15
  go_wp2_with (first|(go_at_call 7;(with_reducible refine (HCk.out _ (HM.out.sl HN.out) (U8.below HT.out HM.out.below)).mono ?_);rintro e W1 ⟨rfl,hb⟩;replace HM:=Lib.hid (HM.out.next hb);clear hb)|((with_reducible refine iload ?_);first|refine ldbW HM.out 0 rfl rfl rfl ?_|refine ldbW HM.out 1 rfl rfl rfl ?_|refine ldbW HM.out 2 rfl rfl rfl ?_|((first|refine ldbS HM.out 0 rfl rfl rfl ?_|refine ldbS HM.out 1 rfl rfl rfl ?_|refine ldbS HM.out 2 rfl rfl rfl ?_);simp only [List.take,List.drop]))|((with_reducible refine istore ?_);(first|((first|refine stbW rfl HM.out 0 rfl rfl rfl rfl rfl rfl ?_|refine stbW rfl HM.out 1 rfl rfl rfl rfl rfl rfl ?_|refine stbW rfl HM.out 2 rfl rfl rfl rfl rfl rfl ?_);intro W1 HM1;replace HM:=Lib.hid HM1;clear HM1;simp only [List.set] at HM)|((first|refine stbS rfl HM.out 0 rfl rfl rfl rfl rfl rfl ?_|refine stbS rfl HM.out 1 rfl rfl rfl rfl rfl rfl ?_|refine stbS rfl HM.out 2 rfl rfl rfl rfl rfl rfl ?_);intro W1 HM1;replace HM:=Lib.hid HM1;clear HM1;simp only [lss,Nat.reduceAdd] at HM)))|((with_reducible refine ialloc (d:=some 4) ?_);refine alb rfl HM.out ?_;intro g4 W1 HM1;replace HM:=Lib.hid HM1;clear HM1)|((with_reducible refine ibox (d:=some 28) ?_);refine bxA rfl HM.out rfl ?_;intro g28 W1 HM1;replace HM:=Lib.hid HM1;clear HM1)|((with_reducible refine ialloc (d:=some 10) ?_);refine alb rfl HM.out ?_;intro g10 W1 HM1;replace HM:=Lib.hid HM1;clear HM1))
  exact bodyPost_ret (res_box_tmp rfl HM.out 0 rfl rfl rfl rfl) rfl ⟨by rw [resV_of HB.out];rfl,HM.out.below⟩
end Go.Proofs.YtheimopjglkgjaaGreatDoor

namespace Go.Proofs.YtheimopjglkgjaaGreatDoor
open Go.RowKit
set_option linter.unusedVariables false
set_option linter.unusedSimpArgs false
set_option maxRecDepth 100000

set_option maxHeartbeats 4000000 in
theorem cTests_any (p:Option Addr) (c:Nat) (ns:List NodeD) (fk fo:Int) (q:Option Addr) (c2:Nat) (l:List SymD) (w:World) (hN:Sl w p (ns.flatMap NodeD.cs)) (hwf:∀ (i:Nat) (n:NodeD),ns[i]? = some n→n.wf) (hl:ns.length≤4611686018427387904) (hL:Sl w q (l.flatMap SymD.cs)) (hl2:l.length≤4611686018427387904) (hT:U8 w) :
  Calls Tryz.prog 19 #[.slice p ns.length c,.agg #[.int .i64 fk,.int .i64 fo],.slice q l.length c2] w fun e w'=>e = .returned (.int .i64 (testsF ns ⟨fk,fo⟩ l))∧Below w.heap.size w w':=by
 have HM:=Lib.hid (Mem.start w)
 obtain ⟨ce,hce⟩:∃ ce,checkC ns true=ce:=⟨_,rfl⟩
 obtain ⟨ne,hne⟩:∃ ne,namesF l=ne:=⟨_,rfl⟩
 obtain ⟨fb,hfb⟩:∃ fb,formB fk fo=fb:=⟨_,rfl⟩
 obtain ⟨⟨⟨⟨tk,tz⟩,qs⟩,re⟩,hre⟩:∃ r,runT l ns []=r:=⟨_,rfl⟩
 have HN:=Lib.hid hN
 have HL:=Lib.hid hL
 have HT:=Lib.hid hT
 have HCk:=Lib.hid (fun W (h:Sl W p (ns.flatMap NodeD.cs)) (h2:U8 W)=>hce▸eCheck_any p c ns true W h hwf hl h2)
 have HFm:=Lib.hid (fun W=>hfb▸kForm_any fk fo W)
 by_cases h1:ce=0
 ·subst h1
  by_cases h2:ne=0
  ·subst h2
   have HNm:=Lib.hid (fun W (h:Sl W q (l.flatMap SymD.cs))=>named_ok q c2 l W h hl2 hne)
   have hfm:=namesF_form hne
   cases fb with
   | false=>
    have HB:=Lib.hid (show testsF ns ⟨fk,fo⟩ l=2 by unfold testsF;rw [if_neg (by rw [hce];simp),if_neg (by rw [hne];simp),if_pos hfb])
    clear hN hL hT hce hne hre hwf hfm hfb
    go_enter Tryz.func19,Tryz.ntmps19
    go_wp2_with (first|(go_at_call 7;(with_reducible refine (HCk.out _ (HM.out.sl HN.out) (U8.below HT.out HM.out.below)).mono ?_);rintro e W1 ⟨rfl,hb⟩;replace HM:=Lib.hid (HM.out.next hb);clear hb)|(go_at_call 34;(with_reducible refine (HFm.out _).mono ?_);rintro e W1 ⟨rfl,hb⟩;replace HM:=Lib.hid (HM.out.next hb);clear hb)|(go_at_call 32;(with_reducible refine (HNm.out _ (HM.out.sl HL.out)).mono ?_);rintro e W2 ⟨gm,rfl,hM2⟩;have HM1:=Lib.hid (HM.out.comp hM2);clear HM hM2;simp only [List.cons_append,List.nil_append] at HM1;(try clear W1);rename World=>W1;have HM:=HM1;clear HM1)|((with_reducible refine iload ?_);first|refine ldbW HM.out 0 rfl rfl rfl ?_|refine ldbW HM.out 1 rfl rfl rfl ?_|refine ldbW HM.out 2 rfl rfl rfl ?_|((first|refine ldbS HM.out 0 rfl rfl rfl ?_|refine ldbS HM.out 1 rfl rfl rfl ?_|refine ldbS HM.out 2 rfl rfl rfl ?_);simp only [List.take,List.drop]))|((with_reducible refine istore ?_);(first|((first|refine stbW rfl HM.out 0 rfl rfl rfl rfl rfl rfl ?_|refine stbW rfl HM.out 1 rfl rfl rfl rfl rfl rfl ?_|refine stbW rfl HM.out 2 rfl rfl rfl rfl rfl rfl ?_);intro W1 HM1;replace HM:=Lib.hid HM1;clear HM1;simp only [List.set] at HM)|((first|refine stbS rfl HM.out 0 rfl rfl rfl rfl rfl rfl ?_|refine stbS rfl HM.out 1 rfl rfl rfl rfl rfl rfl ?_|refine stbS rfl HM.out 2 rfl rfl rfl rfl rfl rfl ?_);intro W1 HM1;replace HM:=Lib.hid HM1;clear HM1;simp only [lss,Nat.reduceAdd] at HM)))|((with_reducible refine ibox (d:=some 4) ?_);refine bxA rfl HM.out rfl ?_;intro g4 W1 HM1;replace HM:=Lib.hid HM1;clear HM1)|((with_reducible refine ibox (d:=some 32) ?_);refine bxA rfl HM.out rfl ?_;intro g32 W1 HM1;replace HM:=Lib.hid HM1;clear HM1)|((with_reducible refine ialloc (d:=some 11) ?_);refine alb rfl HM.out ?_;intro g11 W1 HM1;replace HM:=Lib.hid HM1;clear HM1))
    go_ret
    exact ⟨by rw [HB.out];rfl,HM.out.below⟩
   | true=>
    by_cases h3:re=0
    ·subst h3
     obtain ⟨m,hm⟩:∃ m,asksB ⟨fk,fo⟩ qs=m:=⟨_,rfl⟩
     have HB:=Lib.hid (show testsF ns ⟨fk,fo⟩ l=if m then 0 else 9 by unfold testsF;rw [if_neg (by rw [hce];simp),if_neg (by rw [hne];simp),if_neg (by rw [hfb];simp),hre];show (if asksB ⟨fk,fo⟩ qs=true then (0:Int) else 9)=_;rw [hm])
     have HRn:=Lib.hid (fun W gc gm T (h:Mem w W (.box gc 73 [.map (some gm),.slice none 0 0] :: .map gm (mapEs (symE l)) (symE l).length :: T))=>run_ok w W gc gm T l p c ns true h hN hfm hce tk tz qs hre)
     obtain ⟨hqf,hql⟩:(∀ a,a ∈ qs→a.t.form)∧qs.length≤301:=by
      have h4:=runT_good hfm (checkC_ok hce).1 (checkC_ok hce).2
      rw [hre] at h4
      exact h4
     have HFt:=Lib.hid (fun W (xq:Option Addr) (xc:Nat) (h:Sl W xq (qs.flatMap AskD.cs))=>hm▸fits_any tk tz xq xc qs ⟨fk,fo⟩ W h hqf hfb (by omega))
     clear hN hL hT hce hne hre hwf hfm hfb hm hqf hql
     cases m
     all_goals
      go_enter Tryz.func19,Tryz.ntmps19
      go_wp2_with (first|(go_at_call 7;(with_reducible refine (HCk.out _ (HM.out.sl HN.out) (U8.below HT.out HM.out.below)).mono ?_);rintro e W1 ⟨rfl,hb⟩;replace HM:=Lib.hid (HM.out.next hb);clear hb)|(go_at_call 34;(with_reducible refine (HFm.out _).mono ?_);rintro e W1 ⟨rfl,hb⟩;replace HM:=Lib.hid (HM.out.next hb);clear hb)|(go_at_call 32;(with_reducible refine (HNm.out _ (HM.out.sl HL.out)).mono ?_);rintro e W2 ⟨gm,rfl,hM2⟩;have HM1:=Lib.hid (HM.out.comp hM2);clear HM hM2;simp only [List.cons_append,List.nil_append] at HM1;(try clear W1);rename World=>W1;have HM:=HM1;clear HM1)|(go_at_call 33;(with_reducible refine (HRn.out _ _ _ _ HM.out).mono ?_);rintro e W2 ⟨xq,xc,R,rfl,hM2,hin⟩;have HIn:=Lib.hid hin;clear hin;have HM1:=Lib.hid (hM2.perm List.perm_middle);clear HM hM2;(try clear W1);rename World=>W1;have HM:=HM1;clear HM1)|(go_at_call 36;(with_reducible refine (HFt.out _ _ _ (HIn.out.sl (fun r hr=>HM.out.holds r (List.mem_cons_of_mem _ (mem_front hr))))).mono ?_);rintro e W1 ⟨rfl,hb⟩;replace HM:=Lib.hid (HM.out.next hb);clear hb)|((with_reducible refine iload ?_);first|refine ldbW HM.out 0 rfl rfl rfl ?_|refine ldbW HM.out 1 rfl rfl rfl ?_|refine ldbW HM.out 2 rfl rfl rfl ?_|((first|refine ldbS HM.out 0 rfl rfl rfl ?_|refine ldbS HM.out 1 rfl rfl rfl ?_|refine ldbS HM.out 2 rfl rfl rfl ?_);simp only [List.take,List.drop]))|((with_reducible refine istore ?_);(first|((first|refine stbW rfl HM.out 0 rfl rfl rfl rfl rfl rfl ?_|refine stbW rfl HM.out 1 rfl rfl rfl rfl rfl rfl ?_|refine stbW rfl HM.out 2 rfl rfl rfl rfl rfl rfl ?_);intro W1 HM1;replace HM:=Lib.hid HM1;clear HM1;simp only [List.set] at HM)|((first|refine stbS rfl HM.out 0 rfl rfl rfl rfl rfl rfl ?_|refine stbS rfl HM.out 1 rfl rfl rfl rfl rfl rfl ?_|refine stbS rfl HM.out 2 rfl rfl rfl rfl rfl rfl ?_);intro W1 HM1;replace HM:=Lib.hid HM1;clear HM1;simp only [lss,Nat.reduceAdd] at HM)))|((with_reducible refine ibox (d:=some 4) ?_);refine bxA rfl HM.out rfl ?_;intro g4 W1 HM1;replace HM:=Lib.hid HM1;clear HM1)|((with_reducible refine ibox (d:=some 32) ?_);refine bxA rfl HM.out rfl ?_;intro g32 W1 HM1;replace HM:=Lib.hid HM1;clear HM1)|((with_reducible refine ialloc (d:=some 11) ?_);refine alb rfl HM.out ?_;intro g11 W1 HM1;replace HM:=Lib.hid HM1;clear HM1))
      go_ret
      exact ⟨by rw [HB.out];rfl,HM.out.below⟩
    ·have HB:=Lib.hid (show testsF ns ⟨fk,fo⟩ l=re by unfold testsF;rw [if_neg (by rw [hce];simp),if_neg (by rw [hne];simp),if_neg (by rw [hfb];simp),hre];exact if_pos h3)
     have HRn:=Lib.hid (fun W gc gm T (h:Mem w W (.box gc 73 [.map (some gm),.slice none 0 0] :: .map gm (mapEs (symE l)) (symE l).length :: T))=>run_no w W gc gm T l p c ns true h hN hfm hce re (by rw [hre]) h3)
     have b1:(re != 0)=true:=by simpa using h3
     clear hN hL hT hce hne hre hwf hfm hfb h3
     go_enter Tryz.func19,Tryz.ntmps19
     go_wp2_with (first|(go_at_call 7;(with_reducible refine (HCk.out _ (HM.out.sl HN.out) (U8.below HT.out HM.out.below)).mono ?_);rintro e W1 ⟨rfl,hb⟩;replace HM:=Lib.hid (HM.out.next hb);clear hb)|(go_at_call 34;(with_reducible refine (HFm.out _).mono ?_);rintro e W1 ⟨rfl,hb⟩;replace HM:=Lib.hid (HM.out.next hb);clear hb)|(go_at_call 32;(with_reducible refine (HNm.out _ (HM.out.sl HL.out)).mono ?_);rintro e W2 ⟨gm,rfl,hM2⟩;have HM1:=Lib.hid (HM.out.comp hM2);clear HM hM2;simp only [List.cons_append,List.nil_append] at HM1;(try clear W1);rename World=>W1;have HM:=HM1;clear HM1)|(go_at_call 33;(with_reducible refine (HRn.out _ _ _ _ HM.out).mono ?_);rintro e W2 ⟨rfl,hM2⟩;have HM1:=Lib.hid hM2;clear HM hM2;(try clear W1);rename World=>W1;have HM:=HM1;clear HM1)|((with_reducible refine iload ?_);first|refine ldbW HM.out 0 rfl rfl rfl ?_|refine ldbW HM.out 1 rfl rfl rfl ?_|refine ldbW HM.out 2 rfl rfl rfl ?_|((first|refine ldbS HM.out 0 rfl rfl rfl ?_|refine ldbS HM.out 1 rfl rfl rfl ?_|refine ldbS HM.out 2 rfl rfl rfl ?_);simp only [List.take,List.drop]))|((with_reducible refine istore ?_);(first|((first|refine stbW rfl HM.out 0 rfl rfl rfl rfl rfl rfl ?_|refine stbW rfl HM.out 1 rfl rfl rfl rfl rfl rfl ?_|refine stbW rfl HM.out 2 rfl rfl rfl rfl rfl rfl ?_);intro W1 HM1;replace HM:=Lib.hid HM1;clear HM1;simp only [List.set] at HM)|((first|refine stbS rfl HM.out 0 rfl rfl rfl rfl rfl rfl ?_|refine stbS rfl HM.out 1 rfl rfl rfl rfl rfl rfl ?_|refine stbS rfl HM.out 2 rfl rfl rfl rfl rfl rfl ?_);intro W1 HM1;replace HM:=Lib.hid HM1;clear HM1;simp only [lss,Nat.reduceAdd] at HM)))|((with_reducible refine ibox (d:=some 4) ?_);refine bxA rfl HM.out rfl ?_;intro g4 W1 HM1;replace HM:=Lib.hid HM1;clear HM1)|((with_reducible refine ibox (d:=some 32) ?_);refine bxA rfl HM.out rfl ?_;intro g32 W1 HM1;replace HM:=Lib.hid HM1;clear HM1)|((with_reducible refine ialloc (d:=some 11) ?_);refine alb rfl HM.out ?_;intro g11 W1 HM1;replace HM:=Lib.hid HM1;clear HM1))
     go_ret
     exact ⟨by rw [HB.out];rfl,HM.out.below⟩
  ·have HB:=Lib.hid (show testsF ns ⟨fk,fo⟩ l=ne by unfold testsF;rw [if_neg (by rw [hce];simp),if_pos (by rw [hne];exact h2),hne])
   have HNm:=Lib.hid (fun W (h:Sl W q (l.flatMap SymD.cs))=>hne▸named_no q c2 l W h hl2 (by rw [hne];exact h2))
   have b1:(ne != 0)=true:=by simpa using h2
   clear hN hL hT hce hne hre hwf h2 hfb
   go_enter Tryz.func19,Tryz.ntmps19
   go_wp2_with (first|(go_at_call 7;(with_reducible refine (HCk.out _ (HM.out.sl HN.out) (U8.below HT.out HM.out.below)).mono ?_);rintro e W1 ⟨rfl,hb⟩;replace HM:=Lib.hid (HM.out.next hb);clear hb)|(go_at_call 32;(with_reducible refine (HNm.out _ (HM.out.sl HL.out)).mono ?_);rintro e W1 ⟨rfl,hb⟩;replace HM:=Lib.hid (HM.out.next hb);clear hb)|((with_reducible refine iload ?_);first|refine ldbW HM.out 0 rfl rfl rfl ?_|refine ldbW HM.out 1 rfl rfl rfl ?_|refine ldbW HM.out 2 rfl rfl rfl ?_|((first|refine ldbS HM.out 0 rfl rfl rfl ?_|refine ldbS HM.out 1 rfl rfl rfl ?_|refine ldbS HM.out 2 rfl rfl rfl ?_);simp only [List.take,List.drop]))|((with_reducible refine istore ?_);(first|((first|refine stbW rfl HM.out 0 rfl rfl rfl rfl rfl rfl ?_|refine stbW rfl HM.out 1 rfl rfl rfl rfl rfl rfl ?_|refine stbW rfl HM.out 2 rfl rfl rfl rfl rfl rfl ?_);intro W1 HM1;replace HM:=Lib.hid HM1;clear HM1;simp only [List.set] at HM)|((first|refine stbS rfl HM.out 0 rfl rfl rfl rfl rfl rfl ?_|refine stbS rfl HM.out 1 rfl rfl rfl rfl rfl rfl ?_|refine stbS rfl HM.out 2 rfl rfl rfl rfl rfl rfl ?_);intro W1 HM1;replace HM:=Lib.hid HM1;clear HM1;simp only [lss,Nat.reduceAdd] at HM)))|((with_reducible refine ibox (d:=some 4) ?_);refine bxA rfl HM.out rfl ?_;intro g4 W1 HM1;replace HM:=Lib.hid HM1;clear HM1)|((with_reducible refine ibox (d:=some 32) ?_);refine bxA rfl HM.out rfl ?_;intro g32 W1 HM1;replace HM:=Lib.hid HM1;clear HM1)|((with_reducible refine ialloc (d:=some 11) ?_);refine alb rfl HM.out ?_;intro g11 W1 HM1;replace HM:=Lib.hid HM1;clear HM1))
   go_ret
   exact ⟨by rw [HB.out];rfl,HM.out.below⟩
 ·have HB:=Lib.hid (show testsF ns ⟨fk,fo⟩ l=ce by unfold testsF;rw [if_pos (by rw [hce];exact h1),hce])
  have b1:(ce != 0)=true:=by simpa using h1
  clear hN hL hT hce hne hre hwf h1 hfb
  go_enter Tryz.func19,Tryz.ntmps19
  go_wp2_with (first|(go_at_call 7;(with_reducible refine (HCk.out _ (HM.out.sl HN.out) (U8.below HT.out HM.out.below)).mono ?_);rintro e W1 ⟨rfl,hb⟩;replace HM:=Lib.hid (HM.out.next hb);clear hb)|((with_reducible refine iload ?_);first|refine ldbW HM.out 0 rfl rfl rfl ?_|refine ldbW HM.out 1 rfl rfl rfl ?_|refine ldbW HM.out 2 rfl rfl rfl ?_|((first|refine ldbS HM.out 0 rfl rfl rfl ?_|refine ldbS HM.out 1 rfl rfl rfl ?_|refine ldbS HM.out 2 rfl rfl rfl ?_);simp only [List.take,List.drop]))|((with_reducible refine istore ?_);(first|((first|refine stbW rfl HM.out 0 rfl rfl rfl rfl rfl rfl ?_|refine stbW rfl HM.out 1 rfl rfl rfl rfl rfl rfl ?_|refine stbW rfl HM.out 2 rfl rfl rfl rfl rfl rfl ?_);intro W1 HM1;replace HM:=Lib.hid HM1;clear HM1;simp only [List.set] at HM)|((first|refine stbS rfl HM.out 0 rfl rfl rfl rfl rfl rfl ?_|refine stbS rfl HM.out 1 rfl rfl rfl rfl rfl rfl ?_|refine stbS rfl HM.out 2 rfl rfl rfl rfl rfl rfl ?_);intro W1 HM1;replace HM:=Lib.hid HM1;clear HM1;simp only [lss,Nat.reduceAdd] at HM)))|((with_reducible refine ibox (d:=some 4) ?_);refine bxA rfl HM.out rfl ?_;intro g4 W1 HM1;replace HM:=Lib.hid HM1;clear HM1)|((with_reducible refine ibox (d:=some 32) ?_);refine bxA rfl HM.out rfl ?_;intro g32 W1 HM1;replace HM:=Lib.hid HM1;clear HM1)|((with_reducible refine ialloc (d:=some 11) ?_);refine alb rfl HM.out ?_;intro g11 W1 HM1;replace HM:=Lib.hid HM1;clear HM1))
  go_ret
  exact ⟨by rw [HB.out];rfl,HM.out.below⟩
end Go.Proofs.YtheimopjglkgjaaGreatDoor

namespace Go.Proofs.YtheimopjglkgjaaGreatDoor
open Go.RowKit
set_option linter.unusedVariables false
set_option linter.unusedSimpArgs false
set_option maxRecDepth 100000

def kOne:NodeD:=⟨4,0,⟨#[]⟩,false,0,1,0,0⟩
def kList:NodeD:=⟨26,2,⟨#[]⟩,false,0,0,0,0⟩
def kText:NodeD:=⟨5,0,⟨#[]⟩,false,0,0,0,0⟩
def kAdd:NodeD:=⟨9,2,⟨#[]⟩,false,0,0,0,0⟩
theorem k_small (n:NodeD) (h:n=kOne∨n=kList∨n=kText∨n=kAdd):n.wf:=by
 rcases h with rfl|rfl|rfl|rfl <;> exact ⟨by decide,by decide,by decide,by decide⟩
theorem known_list:exprF [kOne,kOne,kList] []=(⟨5,2⟩,0):=by kernel_rfl
theorem known_add:exprF [kOne,kText,kAdd] []=(⟨0,0⟩,9):=by kernel_rfl
theorem expr_three (a b c:NodeD) (ha:a=kOne∨a=kList∨a=kText∨a=kAdd) (hb:b=kOne∨b=kList∨b=kText∨b=kAdd) (hc:c=kOne∨c=kList∨c=kText∨c=kAdd) {k o e:Int} (hr:exprF [a,b,c] []=(⟨k,o⟩,e)) (g:Nat) (W:World) (h:Cells W ⟨g,0,none⟩ (a.cs++b.cs++c.cs)) (hT:U8 W) :
  Calls Tryz.prog 15 #[.slice (some ⟨g,0,none⟩) 3 3,.slice none 0 0] W fun e' w'=>e' = .returned (.tuple #[.agg #[.int .i64 k,.int .i64 o],.int .i64 e])∧Below W.heap.size W w':=by
 have h1:=cExpr_any (some ⟨g,0,none⟩) 3 [a,b,c] none 0 [] W ⟨(fun e=>by cases e),(fun a' e=>by cases e;exact h)⟩ (fun i n hn=>by
  have hm:=List.mem_of_getElem? hn
  simp only [List.mem_cons,List.not_mem_nil,or_false] at hm
  rcases hm with rfl|rfl|rfl
  ·exact k_small _ ha
  ·exact k_small _ hb
  ·exact k_small _ hc) (by simp) ⟨(fun _=>rfl),(fun a e=>by cases e)⟩ (by simp) hT
 rw [hr] at h1
 exact h1

set_option maxHeartbeats 4000000 in
theorem known_any (w:World) (hT:U8 w) :
  Calls Tryz.prog 14 #[] w fun e w'=>e = .returned (.bool true)∧Below w.heap.size w w':=by
 have HM:=Lib.hid (Mem.start w)
 have HT:=Lib.hid hT
 have H1:=Lib.hid (expr_three kOne kOne kList (Or.inl rfl) (Or.inl rfl) (Or.inr (Or.inl rfl)) known_list)
 have H2:=Lib.hid (expr_three kOne kText kAdd (Or.inl rfl) (Or.inr (Or.inr (Or.inl rfl))) (Or.inr (Or.inr (Or.inr rfl))) known_add)
 clear hT
 go_enter Tryz.func14,Tryz.ntmps14
 go_wp2_with (first|(refine bs3 rfl HM.out rfl rfl rfl rfl rfl rfl rfl ?_;intro g1 W1 HM1;replace HM:=Lib.hid HM1;clear HM1)|(go_at_call 15;first|((with_reducible refine (H1.out _ _ (box_cells (HM.out.get (k:=0) rfl) 0) (U8.below HT.out HM.out.below)).mono ?_);rintro e W1 ⟨rfl,hb⟩;replace HM:=Lib.hid (HM.out.next hb);clear hb)|((with_reducible refine (H2.out _ _ (box_cells (HM.out.get (k:=0) rfl) 0) (U8.below HT.out HM.out.below)).mono ?_);rintro e W1 ⟨rfl,hb⟩;replace HM:=Lib.hid (HM.out.next hb);clear hb))|((with_reducible refine igd ?_);(with_reducible refine skip_op ?_ ?_);(exact rfl))|((with_reducible refine iload ?_);first|refine ldbW HM.out 0 rfl rfl rfl ?_|refine ldbW HM.out 1 rfl rfl rfl ?_|refine ldbW HM.out 2 rfl rfl rfl ?_|refine ldbW HM.out 3 rfl rfl rfl ?_|refine ldbW HM.out 4 rfl rfl rfl ?_|((first|refine ldbS HM.out 0 rfl rfl rfl ?_|refine ldbS HM.out 1 rfl rfl rfl ?_|refine ldbS HM.out 2 rfl rfl rfl ?_|refine ldbS HM.out 3 rfl rfl rfl ?_|refine ldbS HM.out 4 rfl rfl rfl ?_);simp only [List.take,List.drop]))|((with_reducible refine istore ?_);(first|((first|refine stbW rfl HM.out 0 rfl rfl rfl rfl rfl rfl ?_|refine stbW rfl HM.out 1 rfl rfl rfl rfl rfl rfl ?_|refine stbW rfl HM.out 2 rfl rfl rfl rfl rfl rfl ?_|refine stbW rfl HM.out 3 rfl rfl rfl rfl rfl rfl ?_|refine stbW rfl HM.out 4 rfl rfl rfl rfl rfl rfl ?_);intro W1 HM1;replace HM:=Lib.hid HM1;clear HM1;simp only [List.set] at HM)|((first|refine stbS rfl HM.out 0 rfl rfl rfl rfl rfl rfl ?_|refine stbS rfl HM.out 1 rfl rfl rfl rfl rfl rfl ?_|refine stbS rfl HM.out 2 rfl rfl rfl rfl rfl rfl ?_|refine stbS rfl HM.out 3 rfl rfl rfl rfl rfl rfl ?_|refine stbS rfl HM.out 4 rfl rfl rfl rfl rfl rfl ?_);intro W1 HM1;replace HM:=Lib.hid HM1;clear HM1;simp only [lss,Nat.reduceAdd] at HM)))|((with_reducible refine ialloc (d:=some 1) ?_);refine alb rfl HM.out ?_;intro g1 W1 HM1;replace HM:=Lib.hid HM1;clear HM1)|((with_reducible refine ialloc (d:=some 2) ?_);refine alb rfl HM.out ?_;intro g2 W1 HM1;replace HM:=Lib.hid HM1;clear HM1)|((with_reducible refine ialloc (d:=some 4) ?_);refine alb rfl HM.out ?_;intro g4 W1 HM1;replace HM:=Lib.hid HM1;clear HM1))
 go_ret
 exact ⟨rfl,HM.out.below⟩
end Go.Proofs.YtheimopjglkgjaaGreatDoor
