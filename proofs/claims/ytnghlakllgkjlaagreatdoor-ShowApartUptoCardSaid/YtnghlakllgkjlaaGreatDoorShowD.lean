/- Show: Print at every list of nodes. (short) -/
import Derived.Test.YtnghlakllgkjlaaGreatDoorShowC
import Derived.Test.YtnghlakllgkjlaaGreatDoorExprCheck
namespace Go.Proofs.YtnghlakllgkjlaaGreatDoor
open Go.RowKit
set_option linter.unusedVariables false
set_option linter.unusedSimpArgs false
set_option maxRecDepth 100000
theorem ret_txt {t:Tx} {e:Int} {x:Tx × Int} (h:x=(t,e)):Ending.returned (.tuple #[.string ⟨t.toArray⟩,.int .i64 e]) = .returned (.tuple #[.string ⟨x.1.toArray⟩,.int .i64 x.2]):=by subst h;rfl
theorem map_snd_take (st:List (Tx × Int)) (k:Nat) (s:Tx) (o:Int):(st.take k++[(s,o)]).map (·.2)=(st.map (·.2)).take k++[o]:=by rw [List.map_append,List.map_take];rfl
set_option maxHeartbeats 16000000 in
theorem shPrint_any (p:Option Addr) (c:Nat) (ns:List NodeD) (tests:Bool) (w:World) (hN:Sl w p (ns.flatMap NodeD.cs)) (hwf:∀ (i:Nat) (n:NodeD),ns[i]? = some n→n.wf) (hl:ns.length≤4611686018427387904) (hU:U8 w) (hP:PowT w) :
  Calls Tryz.prog 17 #[.slice p ns.length c,.bool tests] w fun e w'=>e = .returned (.tuple #[.string ⟨(printF ns tests).1.toArray⟩,.int .i64 (printF ns tests).2])∧RowKit.Below w.heap.size w w':=by
 have HM:=Lib.hid (Mem.start w)
 have HC:=Lib.hid (fun W h1 h2=>eCheck_any p c ns tests W h1 hwf hl h2)
 have HN:=Lib.hid hN
 have HU:=Lib.hid hU
 have HP:=Lib.hid hP
 have HW:=Lib.hid hwf
 by_cases hck:checkC ns tests=0
 ·obtain ⟨hfit,h300⟩:=fit_check hck
  obtain ⟨R,hR⟩:∃ R,showF ns []=R:=⟨_,rfl⟩
  have HF:=Lib.hid (show Fit (ns.drop 0) (([]:List (Tx × Int)).map (·.2)) from hfit)
  have HR:=Lib.hid (show showF (ns.drop 0) []=R from hR)
  have HX:=Lib.hid (show printF ns tests=outF R by unfold printF;rw [if_pos hck,hR])
  rw [hck] at HC
  have HM1:=Lib.hid (HM.out.row0 77 2)
  clear HM hfit hR hck hN hwf hU hP
  have HM:=HM1
  clear HM1
  go_enter Tryz.func17,Tryz.ntmps17
  go_wp2_with (first|(go_at_call 34;(with_reducible refine cB HM (HC.out _ HN.out HU.out) ?_);clear HM;intro W1 HM))
  go_loopw [20,7] (fun iv sv wr=>∃ (i:Nat) (q:Option Addr) (cap:Nat) (st:List (Tx × Int)),iv = .int .i64 i∧i≤ns.length∧sv = .slice q st.length cap∧st.length≤i∧Hid (showF (ns.drop i) st=R)∧Hid (Fit (ns.drop i) (st.map (·.2)))∧Hid (∀ x ∈ st,x.1.length≤1000)∧Hid (Mem w wr [.row q cap 77 2 st.length (st.flatMap pcC)])) (fun iv _ _=>ns.length - (intOf iv).toNat)
  case atStart=>exact ⟨0,none,0,[],rfl,by omega,rfl,by simp,HR,HF,Lib.hid (fun x hx=>by cases hx),HM⟩
  case round=>
   clear HM HR HF
   obtain ⟨i,q,cap,st,rfl,hi,rfl,hsl,HI,HF,HB,HM⟩:=hrel
   by_cases hlt:i < ns.length
   ·obtain ⟨b,rfl,hb⟩:=HN.out.some_at NodeD.cs_len (by decide) hlt
    obtain ⟨n,hn⟩:∃ n,ns[i]? = some n:=⟨_,List.getElem?_eq_getElem hlt⟩
    have E1:=Lib.hid (hb.elem NodeD.cs 8 NodeD.cs_len hn)
    have hF:=HF.out
    have hI:=HI.out
    rw [drop_atC hn] at hF hI
    obtain ⟨f1,f2,f3,f4,f5⟩:=hF
    rw [List.length_map] at f3 f4 f5
    have hk0:0≤n.kids:=kidsB_nonneg f2
    obtain ⟨m,hm⟩:∃ m:Nat,n.kids=m:=⟨n.kids.toNat,by omega⟩
    have hml:m≤st.length:=by omega
    have hIe:(if 1000 < (pushF n st).length then none else showF (ns.drop (i + 1)) (st.take (st.length - n.kids.toNat)++[(pushF n st,n.op)]))=R:=hI
    unfold pushF at hIe
    rw [show n.kids.toNat=m by omega] at f4 f5 hIe
    have hpl:(st.drop (st.length - m)).length=m:=by simp;omega
    have hcm:st.length - m + m=st.length:=by omega
    have hcap:=(row_cap (HM.out.get (k:=0) rfl)).1
    have hmx:=(row_cap (HM.out.get (k:=0) rfl)).2.1
    unfold maxLen at hmx
    have HWn:=HW.out i n hn
    have HBn:=HB.out
    have HT:=Lib.hid (fun W (q2:Option Addr) (hB:RowKit.Below w.heap.size w W) (hS:Sl W q2 ((st.drop (st.length - m)).flatMap pcC))=>(show Calls Tryz.prog 35 #[.agg #[.int .i64 n.op,.int .i64 m,.string n.text,.bool n.neg,.int .u64 n.hi,.int .u64 n.lo,.int .i64 n.sc,.int .i64 n.day],.slice q2 m (cap - (st.length - m))] W fun e w'=>e = .returned (.string ⟨(tellF n (barsF n.op 0 (st.drop (st.length - m)))).toArray⟩)∧RowKit.Below W.heap.size W w' from by
     have h:=shTell_any n q2 (cap - (st.length - m)) (st.drop (st.length - m)) W (U8.below HU.out hB) (tab_below hB HP.out) hS f1 f2 (by rw [hpl,hm]) (fun x hx=>HBn x (List.mem_of_mem_drop hx)) (by rw [hpl];omega) (fun e=>by
      obtain ⟨x,hx⟩:=f4 e
      exact ⟨x,by rw [List.map_drop];exact hx⟩) HWn
     rw [hpl] at h
     unfold NodeD.cs at h
     rw [hm] at h
     exact h))
    obtain ⟨s,hs⟩:∃ s,tellF n (barsF n.op 0 (st.drop (st.length - m)))=s:=⟨_,rfl⟩
    rw [hs] at HT hIe
    have E1:=Lib.hid (show Cells w (b.add (i * 8)) [.int .i64 n.op,.int .i64 m,.string n.text,.bool n.neg,.int .u64 n.hi,.int .u64 n.lo,.int .i64 n.sc,.int .i64 n.day] by have h:=E1.out;unfold NodeD.cs at h;rw [hm] at h;exact h)
    have d1:decide ((i:Int) < ns.length)=true:=decide_eq_true (by omega)
    have HI2:=Lib.hid hIe
    have HF5:=Lib.hid f5
    have HLv:=Lib.hid (fun W=>shLevel_any n.op W)
    have HSl:=Lib.hid (fun W B q2 (hq:(if cap=st.length - m then q else q.map (·.add ((st.length - m) * 2)))=q2) (h:(Res.row q cap 77 2 st.length (st.flatMap pcC)).holds B W)=>hq▸sl_from pcC 2 pcC_len h (m:=st.length - m) (by omega))
    clear hI f1 f2 f3 f4 f5 hk0 hIe hs HI HF hb hn HWn HBn hpl
    generalize st.length - m=cut at *
    have hfl:=Lib.hid (show (st.flatMap pcC).take (cut * 2)++[.string ⟨s.toArray⟩,.int .i64 (lvlF n.op)]=(st.take cut++[(s,n.op)]).flatMap pcC by
     rw [flat_take pcC 2 pcC_len,List.flatMap_append]
     rfl)
    have hll:=Lib.hid (show (st.take cut++[(s,n.op)]).length=cut + 1 by rw [List.length_append,List.length_take];simp;omega)
    obtain ⟨op,kids,text,neg,hi',lo,sc,day⟩:=n
    dsimp only at *
    clear hm
    go_wp2_with (first|refine mP ?_|(refine mS ?_;clear HM;intro W1 HM)|(refine mL ?_;clear HM;intro g1 W1 HM)|(refine hal (dst:=some 9) HM rfl ?_;clear HM;intro g9 W1 HM)|((with_reducible refine iat 22 ?_);(refine ixa rfl rfl rfl hlt ?_))|((with_reducible refine iat 23 ?_);(refine ldxW (HM.out.olds E1.out) rfl rfl ?_)))
    refine wp_region_steps [(true,0),(true,1),(true,2),(false,3),(false,4),(false,5)] (by kernel_rfl) (by kernel_rfl) rfl (by kernel_rfl) (fun _ _ _ _ _ h=>h) HM.out _ (.cons_cons _ (.cons_cons _ .slnil)) ?_;intro hNE W1 HM1;replace HM:=Lib.hid HM1;clear HM1;have HS0:=Lib.hid (HM.out.sub (.cons_cons _ (.cons_cons _ .slnil)));simp only [wpSteps,List.getElem?_cons_succ,List.getElem?_cons_zero];(repeat (first|((with_reducible refine wpQuiet_nil ?_);(try dsimp only))|((with_reducible refine skip_q ?_ ?_ ?_);(exact rfl);(rotate_left;(exact (hNE.elim fun p=>⟨p.W,p,rfl⟩))))|refine mQ ?_|refine mQ ?_|go_big_quiet_step (fail)|quiet_step (fail)))
    go_wp2_with (first|(refine slf rfl rfl (m:=cut) (l:=m) (by omega) (by omega) hcap (by omega) ?_;intro q2 hq2;have HQ2:=Lib.hid hq2;clear hq2))
    refine ⟨⟨⟨_,HM.out.sub (.cons_cons _ (.cons_cons _ .slnil))⟩,rfl⟩,?_⟩;(try dsimp only);(try (clear HS0;have HS0:=Lib.hid (HM.out.sub (.cons_cons _ (.cons_cons _ .slnil)))));(repeat (first|((with_reducible refine wpQuiet_nil ?_);(try dsimp only))|((with_reducible refine skip_q ?_ ?_ ?_);(exact rfl);(rotate_left;(exact (hNE.elim fun p=>⟨p.W,p,rfl⟩))))|refine mQ ?_|refine mQ ?_|go_big_quiet_step (fail)|quiet_step (fail)))
    go_wp2_with (first|(go_at_call 35;(with_reducible refine cB HM (HT.out _ q2 HM.out.below (HSl.out _ _ _ HQ2.out (HM.out.get (k:=1) rfl))) ?_);clear HM;intro W1 HM))
    refine ⟨⟨⟨_,HM.out.sub (.cons_cons _ (.cons_cons _ .slnil))⟩,rfl⟩,?_⟩;(try dsimp only);(try (clear HS0;have HS0:=Lib.hid (HM.out.sub (.cons_cons _ (.cons_cons _ .slnil)))));(repeat (first|((with_reducible refine wpQuiet_nil ?_);(try dsimp only))|((with_reducible refine skip_q ?_ ?_ ?_);(exact rfl);(rotate_left;(exact (hNE.elim fun p=>⟨p.W,p,rfl⟩))))|refine mQ ?_|refine mQ ?_|go_big_quiet_step (fail)|quiet_step (fail)))
    go_wp2_with (first|refine mP ?_|(refine mS ?_;clear HM;intro W1 HM)|(refine mL ?_;clear HM;intro g1 W1 HM)|(refine hal HM rfl ?_;clear HM;intro g1 W1 HM))
    refine ⟨⟨⟨_,HM.out.sub (.cons_cons _ (.cons_cons _ .slnil))⟩,rfl⟩,?_⟩;(try dsimp only);(try (clear HS0;have HS0:=Lib.hid (HM.out.sub (.cons_cons _ (.cons_cons _ .slnil)))));(repeat (first|((with_reducible refine wpQuiet_nil ?_);(try dsimp only))|((with_reducible refine skip_q ?_ ?_ ?_);(exact rfl);(rotate_left;(exact (hNE.elim fun p=>⟨p.W,p,rfl⟩))))|refine mQ ?_|refine mQ ?_|go_big_quiet_step (fail)|quiet_step (fail)))
    clear HS0 hNE
    by_cases hs1:1000 < s.length
    ·have d2:decide (1000 < s.length)=true:=decide_eq_true (by omega)
     have HE:=Lib.hid (show printF ns tests=([],6) by rw [HX.out,← HI2.out,if_pos hs1];rfl)
     go_wp2_with (first|refine mP ?_|(refine mS ?_;clear HM;intro W1 HM)|(refine mL ?_;clear HM;intro g1 W1 HM)|(refine hal HM rfl ?_;clear HM;intro g1 W1 HM))
     go_ret2
     exact ⟨ret_txt HE.out,HM.out.below⟩
    ·have d2:decide (1000 < s.length)=false:=decide_eq_false (by omega)
     have HI3:=Lib.hid (show showF (ns.drop (i + 1)) (st.take cut++[(s,op)])=R by rw [← HI2.out,if_neg hs1])
     have HB3:=Lib.hid (show ∀ x ∈ st.take cut++[(s,op)],x.1.length≤1000 from fun x hx=>by
      rcases List.mem_append.1 hx with hx|hx
      ·exact HB.out x (List.mem_of_mem_take hx)
      ·rw [List.mem_singleton.1 hx];show s.length≤1000;omega)
     go_wp2_with (first|refine mP ?_|(refine mS ?_;clear HM;intro W1 HM)|(refine mL ?_;clear HM;intro g1 W1 HM)|(refine hal HM rfl ?_;clear HM;intro g1 W1 HM))
     refine wp_region_steps [(true,0),(true,1),(true,2),(true,3),(true,4),(true,5),(false,6),(true,7),(false,8),(false,9),(false,10)] (by kernel_rfl) (by kernel_rfl) rfl (by kernel_rfl) (fun _ _ _ _ _ h=>h) HM.out _ (.cons_cons _ (.cons _ .slnil)) ?_;intro hNE W1 HM1;replace HM:=Lib.hid HM1;clear HM1;have HS0:=Lib.hid (HM.out.sub (.cons_cons _ (.cons _ .slnil)));simp only [wpSteps,List.getElem?_cons_succ,List.getElem?_cons_zero];(repeat (first|((with_reducible refine wpQuiet_nil ?_);(try dsimp only))|((with_reducible refine skip_q ?_ ?_ ?_);(exact rfl);(rotate_left;(exact (hNE.elim fun p=>⟨p.W,p,rfl⟩))))|refine mQ ?_|refine mQ ?_|(refine qslt rfl rfl (m:=cut) (by omega) (by omega) ?_)|go_big_quiet_step (fail)|quiet_step (fail)))
     go_wp2_with (first|(go_at_call 36;with_reducible refine cQ (HLv.out _) ?_))
     refine ⟨⟨⟨_,HM.out.sub (.cons_cons _ (.cons _ .slnil))⟩,rfl⟩,?_⟩;(try dsimp only);(try (clear HS0;have HS0:=Lib.hid (HM.out.sub (.cons_cons _ (.cons _ .slnil)))));(repeat (first|((with_reducible refine wpQuiet_nil ?_);(try dsimp only))|((with_reducible refine skip_q ?_ ?_ ?_);(exact rfl);(rotate_left;(exact (hNE.elim fun p=>⟨p.W,p,rfl⟩))))|refine mQ ?_|refine mQ ?_|go_big_quiet_step (fail)|quiet_step (fail)))
     go_wp2_with (first|refine mP ?_|(refine mS ?_;clear HM;intro W1 HM)|(refine mL ?_;clear HM;intro g1 W1 HM)|(refine hal HM rfl ?_;clear HM;intro g1 W1 HM))
     refine ⟨⟨⟨_,HM.out.sub (.cons _ (.cons_cons _ (.cons _ .slnil)))⟩,rfl⟩,?_⟩;(try dsimp only);(try (clear HS0;have HS0:=Lib.hid (HM.out.sub (.cons _ (.cons_cons _ (.cons _ .slnil))))));(repeat (first|((with_reducible refine wpQuiet_nil ?_);(try dsimp only))|((with_reducible refine skip_q ?_ ?_ ?_);(exact rfl);(rotate_left;(exact (hNE.elim fun p=>⟨p.W,p,rfl⟩))))|refine mQ ?_|refine mQ ?_|go_big_quiet_step (fail)|quiet_step (fail)))
     go_wp2_with (first|refine mP ?_|(refine mS ?_;clear HM;intro W1 HM)|(refine mL ?_;clear HM;intro g1 W1 HM)|(refine hal HM rfl ?_;clear HM;intro g1 W1 HM)|(refine apb rfl HM.out 2 0 rfl rfl rfl rfl rfl rfl (by omega) (by omega) (by omega) ?_;intro p1 cap1 W1 HM1;replace HM:=Lib.hid HM1;clear HM1;simp only [List.set] at HM))
     refine ⟨⟨⟨_,HM.out.sub (.cons _ (.cons_cons _ (.cons _ .slnil)))⟩,rfl⟩,?_⟩;(try dsimp only);(try (clear HS0;have HS0:=Lib.hid (HM.out.sub (.cons _ (.cons_cons _ (.cons _ .slnil))))));(repeat (first|((with_reducible refine wpQuiet_nil ?_);(try dsimp only))|((with_reducible refine skip_q ?_ ?_ ?_);(exact rfl);(rotate_left;(exact (hNE.elim fun p=>⟨p.W,p,rfl⟩))))|refine mQ ?_|refine mQ ?_|go_big_quiet_step (fail)|quiet_step (fail)))
     go_wp2_with (first|refine mP ?_|(refine mS ?_;clear HM;intro W1 HM)|(refine mL ?_;clear HM;intro g1 W1 HM)|(refine hal HM rfl ?_;clear HM;intro g1 W1 HM))
     refine ⟨⟨⟨_,HM.out.sub (.cons _ (.cons_cons _ (.cons _ .slnil)))⟩,rfl⟩,?_⟩;(try dsimp only);(try (clear HS0;have HS0:=Lib.hid (HM.out.sub (.cons _ (.cons_cons _ (.cons _ .slnil))))));(repeat (first|((with_reducible refine wpQuiet_nil ?_);(try dsimp only))|((with_reducible refine skip_q ?_ ?_ ?_);(exact rfl);(rotate_left;(exact (hNE.elim fun p=>⟨p.W,p,rfl⟩))))|refine mQ ?_|refine mQ ?_|go_big_quiet_step (fail)|quiet_step (fail)))
     clear HS0 hNE
     go_wp2_with (first|refine mP ?_|(refine mS ?_;clear HM;intro W1 HM)|(refine mL ?_;clear HM;intro g1 W1 HM)|(refine hal HM rfl ?_;clear HM;intro g1 W1 HM))
     rw [hfl.out] at HM
     go_roundw
     case rel=>exact ⟨i + 1,p1,cap1,_,by go_num,by omega,by rw [hll.out],by rw [hll.out];omega,HI3,Lib.hid (by rw [map_snd_take];exact HF5.out),HB3,Lib.hid (by rw [hll.out];exact HM.out.sub (.cons _ (.cons _ (.cons_cons _ (.slnil)))))⟩
     case measure=>simp [intOf];omega
   ·obtain rfl:i=ns.length:=by omega
    have d1:decide ((ns.length:Int) < ns.length)=false:=by simp
    have hF:=HF.out
    have hI:=HI.out
    rw [List.drop_of_length_le (Nat.le_refl _)] at hF hI
    have h1:(st.map (·.2)).length=1:=hF
    rw [List.length_map] at h1
    obtain ⟨x,rfl⟩:=len_one h1
    have HE:=Lib.hid (show printF ns tests=(x.1,0) by rw [HX.out,← hI];rfl)
    obtain ⟨g,rfl⟩:=row_some (HM.out.get (k:=0) rfl) (by simp)
    clear hF hI h1
    go_wp2_with (first|((with_reducible refine iat 49 ?_);(refine ixa rfl rfl rfl (i:=0) (by simp) ?_))|((with_reducible refine iat 51 ?_);(refine ldx1 (v:=.string ⟨x.1.toArray⟩) (row_cell (i:=0) (HM.out.get (k:=0) rfl) rfl) rfl ?_)))
    go_ret2
    exact ⟨ret_txt HE.out,HM.out.below⟩
 ·have HR:=Lib.hid (show printF ns tests=([],checkC ns tests) by unfold printF;rw [if_neg hck])
  have q1:(checkC ns tests != 0)=true:=by simpa using hck
  generalize checkC ns tests=r at *
  clear hN hwf hU hP
  go_enter Tryz.func17,Tryz.ntmps17
  go_wp2_with (first|(go_at_call 34;(with_reducible refine cB HM (HC.out _ HN.out HU.out) ?_);clear HM;intro W1 HM))
  go_ret2
  exact ⟨ret_txt HR.out,HM.out.below⟩
end Go.Proofs.YtnghlakllgkjlaaGreatDoor
