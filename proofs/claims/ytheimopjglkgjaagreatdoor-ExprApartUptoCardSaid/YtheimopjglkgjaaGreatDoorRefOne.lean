/- The reference's one: the token at a place. (fast) -/
import Derived.Test.YtheimopjglkgjaaGreatDoorRefDecD
import Derived.Test.YtheimopjglkgjaaGreatDoorSepMac2
import Derived.Test.YtheimopjglkgjaaGreatDoorRlxA
import Derived.Test.YtheimopjglkgjaaGreatDoorTokD
namespace Go.Proofs.YtheimopjglkgjaaGreatDoor
open Go.RowKit
set_option linter.unusedVariables false
set_option linter.unusedSimpArgs false
set_option maxRecDepth 100000
theorem res_box_tmp_tmp {P:Program} {W w0:World} {L:List Res} {fn:Func} {d u v:Tmp} {ty:TypeId} {n:Nat} [hA:AggT P ty n] (h:fn.results=#[.cell d ty,.tmp u,.tmp v]) {tmps:Array Value} (HM:Mem w0 W L) (k:Nat) {g:Nat} {t:TypeId} {cs:List Value} (hk:L[k]? = some (.box g t cs)) (hd:tmps.getD d undef = .pointer (some ⟨g,0,none⟩)) (hn:cs.length=n) {x y:Value} (hu:tmps.getD u undef=x) (hv:tmps.getD v undef=y) :
  (results fn tmps).run P W = .ok (.tuple #[.agg cs.toArray,x,y]) W:=by
 have hd' : tmps[d]?.getD undef = .pointer (some ⟨g,0,none⟩):=by simpa using hd
 have hu' : tmps[u]?.getD undef=x:=by simpa using hu
 have hv' : tmps[v]?.getD undef=y:=by simpa using hv
 simp [results,h,hd',hu',hv',asAddr,run_load_agg hA hn (box_cells (HM.get hk) 0)]
theorem rdParse_at (s:ByteArray) (i:Nat) {c:UInt8} (w:World) (hc:s.data.toList[i]? = some c) (hd:dg c=true) (hs:s.size≤1000) :
  Calls Tryz.prog 107 #[.string (s.extract i (numE s.data.toList i))] w fun e w'=>e = .returned (decV (decT (numD s.data.toList i) (numF s.data.toList i)))∧Below w.heap.size w w':=by
 obtain ⟨h1,h2,h3,h4,h5,h6⟩:=num_parts hc hd
 have hlen:s.data.toList.length=s.size:=by simp
 obtain ⟨S,hS⟩:∃ S,s.extract i (numE s.data.toList i)=S:=⟨_,rfl⟩
 have hSl:=ext_list s i (numE s.data.toList i)
 rw [hS,h6] at hSl
 rw [hS]
 obtain ⟨ds,hds⟩:∃ x,numD s.data.toList i=x:=⟨_,rfl⟩
 obtain ⟨fs,hfs⟩:∃ x,numF s.data.toList i=x:=⟨_,rfl⟩
 rw [hds,hfs] at hSl
 rw [hds] at h3 h4
 rw [hfs] at h5
 rw [hds,hfs]
 have hSz:S.size=S.data.toList.length:=by simp
 have hSz2:S.size≤1000:=by
  have h7:=ext_list s i (numE s.data.toList i)
  rw [hS] at h7
  rw [hSz,h7,List.length_take,List.length_drop]
  omega
 by_cases hf:fs=[]
 ·rw [if_pos hf,List.append_nil] at hSl
  exact rdParse_int S ds w hSl h3 h4 hSz2 fs hf
 ·rw [if_neg hf] at hSl
  exact rdParse_pt S ⟨ds.toArray⟩ ⟨fs.toArray⟩ ds fs w hSl (by simp) (by simp) h3 h4 hf h5 hSz2
def RPost (x:TokD × Nat × Int) (e:Ending):Prop:=
 if x.2.2=5 then ∃ (t:TokD) (k:Int),e = .returned (.tuple #[.agg t.cs.toArray,.int .i64 k,.int .i64 5]) else e = .returned (.tuple #[.agg x.1.cs.toArray,.int .i64 x.2.1,.int .i64 x.2.2])
theorem RPost.of {t:TokD} {k:Nat} {er:Int} {e:Ending} (h:e = .returned (.tuple #[.agg t.cs.toArray,.int .i64 k,.int .i64 er])):RPost (t,k,er) e:=by
 unfold RPost
 split
 ·rename_i h5
  rw [show er=5 from h5] at h
  exact ⟨t,k,h⟩
 ·exact h
theorem RPost.bad {t t' : TokD} {k:Nat} {k' : Int} {e:Ending} (h:e = .returned (.tuple #[.agg t.cs.toArray,.int .i64 k',.int .i64 5])):RPost (t',k,5) e:=by
 unfold RPost
 rw [if_pos rfl]
 exact ⟨t,k',h⟩
set_option maxHeartbeats 8000000 in
theorem rone_num (s:ByteArray) (i:Nat) {c:UInt8} (w:World) (hc:s.data.toList[i]? = some c) (hd:dg c=true) (hs:s.size≤1000) :
  Calls Tryz.prog 81 #[.string s,.int .i64 i] w fun e w'=>RPost (oneF s i) e∧Below w.heap.size w w':=by
 have HM:=Lib.hid (Mem.start w)
 have HC:=Lib.hid hc
 have hlen:s.data.toList.length=s.size:=by simp
 have hil:i < s.size:=by rw [← hlen];exact (List.getElem?_eq_some_iff.1 hc).1
 have HDg:=Lib.hid (fun W=>hd▸rDg c W)
 obtain ⟨h1,h2,-⟩:=num_parts hc hd
 have HNu:=Lib.hid (fun W=>rlNumber s i W (by omega) hs)
 have HP:=Lib.hid (fun W=>rdParse_at s i W hc hd hs)
 obtain ⟨E,hE⟩:∃ x,numE s.data.toList i=x:=⟨_,rfl⟩
 obtain ⟨⟨⟨n,sc⟩,er⟩,hx⟩:∃ x,decT (numD s.data.toList i) (numF s.data.toList i)=x:=⟨_,rfl⟩
 have ho:oneF s i=(⟨1,⟨#[]⟩,n,sc,0,i⟩,E,er):=by
  unfold oneF
  rw [hc]
  simp only
  rw [if_pos hd,hx,hE]
 obtain ⟨nh,hnh⟩:∃ x,n / 18446744073709551616=x:=⟨_,rfl⟩
 obtain ⟨nl,hnl⟩:∃ x,n % 18446744073709551616=x:=⟨_,rfl⟩
 have HT:=Lib.hid (show (⟨1,⟨#[]⟩,n,sc,0,i⟩:TokD).cs=[.int .i64 1,.string ⟨#[]⟩,.bool false,.int .u64 nh,.int .u64 nl,.int .i64 sc,.int .i64 0,.int .i64 i] by rw [← hnh,← hnl];rfl)
 rw [hE] at HNu
 rw [hE,hx] at HP
 simp only [show decV ((n,sc),er) = .tuple #[.agg #[.bool false,.int .u64 nh,.int .u64 nl,.int .i64 sc],.int .i64 er] by rw [← hnh,← hnl];rfl] at HP
 have hiE:i≤E:=by omega
 have hEs:E≤s.size:=by omega
 rw [ho]
 clear hc hd h1 h2 hE hx ho hnh hnl hlen
 go_enter Tryz.func81,Tryz.ntmps81
 go_wp2_with (first|((with_reducible refine iat 26 ?_);(refine six rfl rfl rfl HC.out ?_))|((with_reducible refine iat 37 ?_);(refine ssls rfl rfl rfl rfl rfl hiE hEs ?_))|(go_at_call 70;(with_reducible refine (HDg.out _).mono ?_);rintro e W2 ⟨rfl,rfl⟩)|(go_at_call 106;(with_reducible refine (HNu.out _).mono ?_);refine cB1 HM ?_;clear HM;intro W1 HM)|(go_at_call 107;(with_reducible refine (HP.out _).mono ?_);refine cB1 HM ?_;clear HM;intro W1 HM)|refine mP ?_|(refine mS ?_;clear HM;intro W1 HM)|(refine hal (dst:=some 4) HM rfl ?_;clear HM;intro g4 W1 HM)|(refine hal (dst:=some 7) HM rfl ?_;clear HM;intro g7 W1 HM)|(refine hal (dst:=some 10) HM rfl ?_;clear HM;intro g10 W1 HM))
 refine wp_region_steps2 [(true,0),(true,1),(false,2),(true,3),(false,4)] (by kernel_rfl) (by kernel_rfl) rfl (by kernel_rfl) (fun _ _ _ _ _ h=>h) HM.out _ (.cons_cons _ (.cons _ (.cons_cons _ (List.nil_sublist _)))) ?_
 intro hNE W1 HM1;replace HM:=Lib.hid HM1;clear HM1
 have HS0:=Lib.hid (HM.out.sub (.cons_cons _ (.cons _ (.cons_cons _ (List.nil_sublist _)))))
 simp only [wpSteps,List.getElem?_cons_succ,List.getElem?_cons_zero]
 (repeat (first|((with_reducible refine wpQuiet_nil ?_);(try dsimp only))|refine mQ ?_|go_big_quiet_step (fail)|quiet_step (fail)))
 go_wp2_with (first|(refine mS ?_;clear HM;intro W1 HM))
 refine ⟨⟨⟨_,HM.out.sub msub⟩,rfl⟩,?_⟩
 (try dsimp only)
 (repeat (first|((with_reducible refine wpQuiet_nil ?_);(try dsimp only))|go_big_quiet_step (fail)|quiet_step (fail)))
 go_wp2_with (first|(refine mS ?_;clear HM;intro W1 HM))
 refine ⟨⟨⟨_,HM.out.sub msub⟩,rfl⟩,?_⟩
 (try dsimp only)
 clear HS0 hNE
 go_wp2_with (first|refine mP ?_|(refine mS ?_;clear HM;intro W1 HM)|(refine hal HM rfl ?_;clear HM;intro g1 W1 HM))
 exact bodyPost_ret (res_box_tmp_tmp rfl HM.out 2 rfl rfl rfl rfl rfl) rfl ⟨RPost.of (by rw [HT.out];rfl),HM.out.below⟩
set_option maxHeartbeats 8000000 in
theorem rone_str (s:ByteArray) (i:Nat) {c:UInt8} (w:World) (hc:s.data.toList[i]? = some c) (h34:c=34) (hs:s.size≤1000) :
  Calls Tryz.prog 81 #[.string s,.int .i64 i] w fun e w'=>RPost (oneF s i) e∧Below w.heap.size w w':=by
 subst h34
 have HM:=Lib.hid (Mem.start w)
 have HC:=Lib.hid hc
 have hlen:s.data.toList.length=s.size:=by simp
 have hil:i < s.size:=by rw [← hlen];exact (List.getElem?_eq_some_iff.1 hc).1
 have HDg:=Lib.hid (show ∀ W:World,Calls Tryz.prog 70 #[.int .u8 34] W fun e w'=>e = .returned (.bool false)∧W=w' from fun W=>rDg 34 W)
 have HTx:=Lib.hid (fun W=>rlText s i W (by omega) hs)
 cases hx:textF s i with
 | none=>
  have ho:oneF s i=(⟨0,⟨#[]⟩,0,0,0,i⟩,i,5):=by
   unfold oneF
   rw [hc]
   simp only
   rw [if_neg (by decide),if_pos trivial,hx]
  rw [hx] at HTx
  have HTy:=Lib.hid (show ∀ W:World,Calls Tryz.prog 108 #[.string s,.int .i64 i] W fun e w'=>∃ (t:ByteArray) (k:Int),e = .returned (.tuple #[.string t,.int .i64 k,.bool false])∧Below W.heap.size W w' from fun W=>(HTx.out W).mono fun e w' ⟨⟨t,k,h1⟩,h2⟩=>⟨t,k,h1,h2⟩)
  have HT:=Lib.hid (show (⟨0,⟨#[]⟩,0,0,0,i⟩:TokD).cs=[.int .i64 0,.string ⟨#[]⟩,.bool false,.int .u64 0,.int .u64 0,.int .i64 0,.int .i64 0,.int .i64 i] by simp [TokD.cs])
  rw [ho]
  clear hc hx ho hlen HTx
  go_enter Tryz.func81,Tryz.ntmps81
  go_wp2_with (first|((with_reducible refine iat 26 ?_);(refine six rfl rfl rfl HC.out ?_))|(go_at_call 70;(with_reducible refine (HDg.out _).mono ?_);rintro e W2 ⟨rfl,rfl⟩)|(go_at_call 108;(with_reducible refine (HTy.out _).mono ?_);rintro e W2 ⟨t,k,rfl,hb⟩;have HM1:=HM.out.next hb;clear hb;clear HM;(try clear W1);rename World=>W1;have HM:=Lib.hid HM1;clear HM1)|refine mP ?_|(refine mS ?_;clear HM;intro W1 HM)|(refine hal (dst:=some 4) HM rfl ?_;clear HM;intro g4 W1 HM)|(refine hal (dst:=some 7) HM rfl ?_;clear HM;intro g7 W1 HM)|(refine hal HM rfl ?_;clear HM;intro g1 W1 HM))
  exact bodyPost_ret (res_box_tmp_tmp rfl HM.out 1 rfl rfl rfl rfl rfl) rfl ⟨RPost.bad (by rw [HT.out];rfl),HM.out.below⟩
 | some r=>
  obtain ⟨t,k⟩:=r
  have ho:oneF s i=(⟨2,t,0,0,0,i⟩,k,0):=by
   unfold oneF
   rw [hc]
   simp only
   rw [if_neg (by decide),if_pos trivial,hx]
  rw [hx] at HTx
  have HTy:=Lib.hid (show ∀ W:World,Calls Tryz.prog 108 #[.string s,.int .i64 i] W fun e w'=>e = .returned (.tuple #[.string t,.int .i64 k,.bool true])∧Below W.heap.size W w' from fun W=>HTx.out W)
  have HT:=Lib.hid (show (⟨2,t,0,0,0,i⟩:TokD).cs=[.int .i64 2,.string t,.bool false,.int .u64 0,.int .u64 0,.int .i64 0,.int .i64 0,.int .i64 i] by simp [TokD.cs])
  rw [ho]
  clear hc hx ho hlen HTx
  go_enter Tryz.func81,Tryz.ntmps81
  go_wp2_with (first|((with_reducible refine iat 26 ?_);(refine six rfl rfl rfl HC.out ?_))|(go_at_call 70;(with_reducible refine (HDg.out _).mono ?_);rintro e W2 ⟨rfl,rfl⟩)|(go_at_call 108;(with_reducible refine (HTy.out _).mono ?_);refine cB1 HM ?_;clear HM;intro W1 HM)|refine mP ?_|(refine mS ?_;clear HM;intro W1 HM)|(refine hal (dst:=some 4) HM rfl ?_;clear HM;intro g4 W1 HM)|(refine hal (dst:=some 7) HM rfl ?_;clear HM;intro g7 W1 HM)|(refine hal HM rfl ?_;clear HM;intro g1 W1 HM))
  exact bodyPost_ret (res_box_tmp_tmp rfl HM.out 1 rfl rfl rfl rfl rfl) rfl ⟨RPost.of (by rw [HT.out];rfl),HM.out.below⟩
set_option maxHeartbeats 8000000 in
theorem rone_date (s:ByteArray) (i:Nat) {c:UInt8} (w:World) (hc:s.data.toList[i]? = some c) (h64:c=64) (hs:s.size≤1000) :
  Calls Tryz.prog 81 #[.string s,.int .i64 i] w fun e w'=>RPost (oneF s i) e∧Below w.heap.size w w':=by
 subst h64
 have HM:=Lib.hid (Mem.start w)
 have HC:=Lib.hid hc
 have hlen:s.data.toList.length=s.size:=by simp
 have hil:i < s.size:=by rw [← hlen];exact (List.getElem?_eq_some_iff.1 hc).1
 have HDg:=Lib.hid (show ∀ W:World,Calls Tryz.prog 70 #[.int .u8 64] W fun e w'=>e = .returned (.bool false)∧W=w' from fun W=>rDg 64 W)
 have HTx:=Lib.hid (fun W=>rlText s (i + 1) W (by omega) hs)
 have hcast:((i + 1:Nat):Int)=(i:Int) + 1:=by omega
 cases hx:textF s (i + 1) with
 | none=>
  have ho:oneF s i=(⟨0,⟨#[]⟩,0,0,0,i⟩,i,5):=by
   unfold oneF
   rw [hc]
   simp only
   rw [if_neg (by decide),if_neg (by decide),if_pos trivial,hx]
  rw [hx] at HTx
  have HTy:=Lib.hid (show ∀ W:World,Calls Tryz.prog 108 #[.string s,.int .i64 ((i:Int) + 1)] W fun e w'=>∃ (t:ByteArray) (k:Int),e = .returned (.tuple #[.string t,.int .i64 k,.bool false])∧Below W.heap.size W w' from fun W=>hcast▸(HTx.out W).mono fun e w' ⟨⟨t,k,h1⟩,h2⟩=>⟨t,k,h1,h2⟩)
  have HT:=Lib.hid (show (⟨0,⟨#[]⟩,0,0,0,i⟩:TokD).cs=[.int .i64 0,.string ⟨#[]⟩,.bool false,.int .u64 0,.int .u64 0,.int .i64 0,.int .i64 0,.int .i64 i] by simp [TokD.cs])
  rw [ho]
  clear hc hx ho hlen HTx hcast
  go_enter Tryz.func81,Tryz.ntmps81
  go_wp2_with (first|((with_reducible refine iat 26 ?_);(refine six rfl rfl rfl HC.out ?_))|(go_at_call 70;(with_reducible refine (HDg.out _).mono ?_);rintro e W2 ⟨rfl,rfl⟩)|(go_at_call 108;(with_reducible refine (HTy.out _).mono ?_);rintro e W2 ⟨t,k,rfl,hb⟩;have HM1:=HM.out.next hb;clear hb;clear HM;(try clear W1);rename World=>W1;have HM:=Lib.hid HM1;clear HM1)|refine mP ?_|(refine mS ?_;clear HM;intro W1 HM)|(refine hal (dst:=some 4) HM rfl ?_;clear HM;intro g4 W1 HM)|(refine hal (dst:=some 7) HM rfl ?_;clear HM;intro g7 W1 HM)|(refine hal HM rfl ?_;clear HM;intro g1 W1 HM))
  exact bodyPost_ret (res_box_tmp_tmp rfl HM.out 1 rfl rfl rfl rfl rfl) rfl ⟨RPost.bad (by rw [HT.out];rfl),HM.out.below⟩
 | some r=>
  obtain ⟨t,k⟩:=r
  have ho:oneF s i=(⟨3,⟨#[]⟩,0,0,Cal.parseV t.data.toList,i⟩,k,Cal.parseE t.data.toList):=by
   unfold oneF
   rw [hc]
   simp only
   rw [if_neg (by decide),if_neg (by decide),if_pos trivial,hx]
  rw [hx] at HTx
  have HTy:=Lib.hid (show ∀ W:World,Calls Tryz.prog 108 #[.string s,.int .i64 ((i:Int) + 1)] W fun e w'=>e = .returned (.tuple #[.string t,.int .i64 k,.bool true])∧Below W.heap.size W w' from fun W=>hcast▸HTx.out W)
  obtain ⟨pv,hpv⟩:∃ x,Cal.parseV t.data.toList=x:=⟨_,rfl⟩
  obtain ⟨pe,hpe⟩:∃ x,Cal.parseE t.data.toList=x:=⟨_,rfl⟩
  have HPa:=Lib.hid (fun W=>rparse_any t W)
  rw [hpv,hpe] at HPa ho
  have HT:=Lib.hid (show (⟨3,⟨#[]⟩,0,0,pv,i⟩:TokD).cs=[.int .i64 3,.string ⟨#[]⟩,.bool false,.int .u64 0,.int .u64 0,.int .i64 0,.int .i64 pv,.int .i64 i] by simp [TokD.cs])
  rw [ho]
  clear hc hx ho hlen HTx hcast hpv hpe
  go_enter Tryz.func81,Tryz.ntmps81
  go_wp2_with (first|((with_reducible refine iat 26 ?_);(refine six rfl rfl rfl HC.out ?_))|(go_at_call 70;(with_reducible refine (HDg.out _).mono ?_);rintro e W2 ⟨rfl,rfl⟩)|(go_at_call 108;(with_reducible refine (HTy.out _).mono ?_);refine cB1 HM ?_;clear HM;intro W1 HM)|(go_at_call 109;(with_reducible refine (HPa.out _).mono ?_);rintro e W2 ⟨rfl,rfl⟩)|refine mP ?_|(refine mS ?_;clear HM;intro W1 HM)|(refine hal (dst:=some 4) HM rfl ?_;clear HM;intro g4 W1 HM)|(refine hal (dst:=some 7) HM rfl ?_;clear HM;intro g7 W1 HM)|(refine hal HM rfl ?_;clear HM;intro g1 W1 HM))
  exact bodyPost_ret (res_box_tmp_tmp rfl HM.out 1 rfl rfl rfl rfl rfl) rfl ⟨RPost.of (by rw [HT.out];rfl),HM.out.below⟩
set_option maxHeartbeats 8000000 in
theorem rone_name (s:ByteArray) (i:Nat) {c:UInt8} (w:World) (hc:s.data.toList[i]? = some c) (hd:dg c=false) (h34:c≠34) (h64:c≠64) (hl:lt1 c=true) (hs:s.size≤1000) :
  Calls Tryz.prog 81 #[.string s,.int .i64 i] w fun e w'=>RPost (oneF s i) e∧Below w.heap.size w w':=by
 have HM:=Lib.hid (Mem.start w)
 have HC:=Lib.hid hc
 have hlen:s.data.toList.length=s.size:=by simp
 have hil:i < s.size:=by rw [← hlen];exact (List.getElem?_eq_some_iff.1 hc).1
 have HDg:=Lib.hid (fun W=>hd▸rDg c W)
 have HLt:=Lib.hid (fun W=>hl▸rLt c W)
 have q34:((c.toNat:Int) == 34)=false:=byte_eq (b:=34) h34
 have q64:((c.toNat:Int) == 64)=false:=byte_eq (b:=64) h64
 have HWd0:=Lib.hid (fun W=>rlWord s i W (by omega) hs)
 obtain ⟨E,hE⟩:∃ x,spanE wdB s.data.toList i=x:=⟨_,rfl⟩
 have hle:=spanE_le (p:=wdB) (l:=s.data.toList) (i:=i) (by omega)
 rw [hE,hlen] at hle
 rw [hE] at HWd0
 obtain ⟨hiE,hEs⟩:=hle
 obtain ⟨x,hx⟩:∃ x,s.extract i E=x:=⟨_,rfl⟩
 have HX:=Lib.hid hx
 obtain ⟨wb,hwb⟩:∃ b,wordB x.toList=b:=⟨_,rfl⟩
 have HWd:=Lib.hid (fun W=>hwb▸rword_any x W)
 have ho:oneF s i=if 64 < E - i then (⟨0,⟨#[]⟩,0,0,0,i⟩,i,5) else (⟨if wb then 5 else 4,x,0,0,0,i⟩,E,0):=by
  unfold oneF
  rw [hc]
  simp only
  rw [if_neg (by rw [hd];simp),if_neg h34,if_neg h64,if_pos hl,hE,hx,hwb]
 rw [ho]
 have HT:=Lib.hid (show ∀ k:Int,(⟨k,x,0,0,0,i⟩:TokD).cs=[.int .i64 k,.string x,.bool false,.int .u64 0,.int .u64 0,.int .i64 0,.int .i64 0,.int .i64 i] from fun k=>by simp [TokD.cs])
 clear hc hd h34 h64 hl ho hE hx hwb hlen
 rcases Nat.lt_or_ge 64 (E - i) with h|h <;> cases wb
 all_goals
  first
  |(have g1:decide ((64:Int) < (E:Int) - i)=true:=decide_eq_true (by omega))
  |(have g1:decide ((64:Int) < (E:Int) - i)=false:=decide_eq_false (by omega))
  first
  | rw [if_pos h]
  | rw [if_neg (Nat.not_lt.2 h)]
  go_enter Tryz.func81,Tryz.ntmps81
  go_wp2_with (first|((with_reducible refine iat 26 ?_);(refine six rfl rfl rfl HC.out ?_))|(go_at_call 70;(with_reducible refine (HDg.out _).mono ?_);rintro e W2 ⟨rfl,rfl⟩)|(go_at_call 68;(with_reducible refine (HLt.out _).mono ?_);rintro e W2 ⟨rfl,rfl⟩)|(go_at_call 110;(with_reducible refine (HWd0.out _).mono ?_);refine cB1 HM ?_;clear HM;intro W1 HM)|refine mP ?_|(refine mS ?_;clear HM;intro W1 HM)|(refine hal (dst:=some 4) HM rfl ?_;clear HM;intro g4 W1 HM)|(refine hal (dst:=some 7) HM rfl ?_;clear HM;intro g7 W1 HM)|(refine hal HM rfl ?_;clear HM;intro g1 W1 HM))
  refine wp_region_steps2 [(true,0),(true,1),(true,2),(true,3),(true,4),(false,5),(true,6),(false,7)] (by kernel_rfl) (by kernel_rfl) rfl (by kernel_rfl) (fun _ _ _ _ _ h=>h) HM.out _ (.cons _ (.cons_cons _ .slnil)) ?_
  intro hNE W1 HM1;replace HM:=Lib.hid HM1;clear HM1
  have HS0:=Lib.hid (HM.out.sub (.cons _ (.cons_cons _ .slnil)))
  simp only [wpSteps,List.getElem?_cons_succ,List.getElem?_cons_zero]
  (repeat (first|((with_reducible refine wpQuiet_nil ?_);(try dsimp only))|((with_reducible refine qat 99 ?_);(refine qssls rfl rfl rfl rfl rfl hiE hEs ?_))|go_big_quiet_step (fail)|quiet_step (fail)))
  go_wp2_with (first|(refine mS ?_;clear HM;intro W1 HM))
  refine ⟨⟨⟨_,HM.out.sub msub⟩,rfl⟩,?_⟩
  (try dsimp only)
  (repeat (first|((with_reducible refine wpQuiet_nil ?_);(try dsimp only))|go_big_quiet_step (fail)|quiet_step (fail)))
  go_wp2_with (first|(refine mS ?_;clear HM;intro W1 HM))
  refine ⟨⟨⟨_,HM.out.sub msub⟩,rfl⟩,?_⟩
  (try dsimp only)
  clear HS0 hNE
  rw [HX.out] at HM
  go_wp2_with (first|(go_at_call 69;(with_reducible refine (HWd.out _).mono ?_);rintro e W2 ⟨rfl,rfl⟩)|refine mP ?_|(refine mS ?_;clear HM;intro W1 HM)|(refine hal HM rfl ?_;clear HM;intro g1 W1 HM))
  exact bodyPost_ret (res_box_tmp_tmp rfl HM.out 1 rfl rfl rfl rfl rfl) rfl ⟨by first|exact RPost.of (by simp only [HT.out];rfl)|exact RPost.bad (t:=⟨4,x,0,0,0,i⟩) (by simp only [HT.out];rfl)|exact RPost.bad (t:=⟨5,x,0,0,0,i⟩) (by simp only [HT.out];rfl),HM.out.below⟩
set_option maxHeartbeats 8000000 in
theorem rone_sign (s:ByteArray) (i:Nat) {c:UInt8} (w:World) (hc:s.data.toList[i]? = some c) (hd:dg c=false) (h34:c≠34) (h64:c≠64) (hl:lt1 c=false) (hs:s.size≤1000) :
  Calls Tryz.prog 81 #[.string s,.int .i64 i] w fun e w'=>RPost (oneF s i) e∧Below w.heap.size w w':=by
 have HM:=Lib.hid (Mem.start w)
 have HC:=Lib.hid hc
 have hlen:s.data.toList.length=s.size:=by simp
 have hil:i < s.size:=by rw [← hlen];exact (List.getElem?_eq_some_iff.1 hc).1
 have HDg:=Lib.hid (fun W=>hd▸rDg c W)
 have HLt:=Lib.hid (fun W=>hl▸rLt c W)
 have q34:((c.toNat:Int) == 34)=false:=byte_eq (b:=34) h34
 have q64:((c.toNat:Int) == 64)=false:=byte_eq (b:=64) h64
 have HSg:=Lib.hid (fun W=>rlSign s i W hc hs)
 have ho:oneF s i=if signN s.data.toList i=0 then (⟨0,⟨#[]⟩,0,0,0,i⟩,i,5) else (⟨6,s.extract i (i + signN s.data.toList i),0,0,0,i⟩,i + signN s.data.toList i,0):=by
  unfold oneF
  rw [hc]
  simp only
  rw [if_neg (by rw [hd];simp),if_neg h34,if_neg h64,if_neg (by rw [hl];simp)]
 have hbd:=signN_le (l:=s.data.toList) (i:=i) (by omega)
 rw [hlen] at hbd
 obtain ⟨n,hn⟩:∃ n,signN s.data.toList i=n:=⟨_,rfl⟩
 rw [hn] at ho HSg hbd
 rw [ho]
 by_cases h0:n=0
 ·subst h0
  rw [if_pos rfl]
  have HT:=Lib.hid (show (⟨0,⟨#[]⟩,0,0,0,i⟩:TokD).cs=[.int .i64 0,.string ⟨#[]⟩,.bool false,.int .u64 0,.int .u64 0,.int .i64 0,.int .i64 0,.int .i64 i] by simp [TokD.cs])
  have HSy:=Lib.hid (show ∀ W:World,Calls Tryz.prog 111 #[.string s,.int .i64 i] W fun e w'=>e = .returned (.int .i64 (-1))∧Below W.heap.size W w' from fun W=>HSg.out W)
  clear hc hd h34 h64 hl ho hn hlen HSg hbd
  go_enter Tryz.func81,Tryz.ntmps81
  go_wp2_with (first|((with_reducible refine iat 26 ?_);(refine six rfl rfl rfl HC.out ?_))|(go_at_call 70;(with_reducible refine (HDg.out _).mono ?_);rintro e W2 ⟨rfl,rfl⟩)|(go_at_call 68;(with_reducible refine (HLt.out _).mono ?_);rintro e W2 ⟨rfl,rfl⟩)|(go_at_call 111;(with_reducible refine (HSy.out _).mono ?_);refine cB1 HM ?_;clear HM;intro W1 HM)|refine mP ?_|(refine mS ?_;clear HM;intro W1 HM)|(refine hal (dst:=some 4) HM rfl ?_;clear HM;intro g4 W1 HM)|(refine hal (dst:=some 7) HM rfl ?_;clear HM;intro g7 W1 HM)|(refine hal HM rfl ?_;clear HM;intro g1 W1 HM))
  exact bodyPost_ret (res_box_tmp_tmp rfl HM.out 1 rfl rfl rfl rfl rfl) rfl ⟨RPost.bad (by rw [HT.out];rfl),HM.out.below⟩
 ·rw [if_neg h0]
  obtain ⟨E,hE⟩:∃ E,i + n=E:=⟨_,rfl⟩
  have HSy:=Lib.hid (show ∀ W:World,Calls Tryz.prog 111 #[.string s,.int .i64 i] W fun e w'=>e = .returned (.int .i64 (E:Nat))∧Below W.heap.size W w' from fun W=>by
   have h:=HSg.out W
   rwa [show rsV i n=((E:Nat):Int) by rw [← hE];unfold rsV;rw [if_neg h0]] at h)
  rw [hE]
  obtain ⟨x,hx⟩:∃ x,s.extract i E=x:=⟨_,rfl⟩
  have HX:=Lib.hid hx
  rw [hx]
  have hiE:i≤E:=by omega
  have hEs:E≤s.size:=by omega
  have HT:=Lib.hid (show (⟨6,x,0,0,0,i⟩:TokD).cs=[.int .i64 6,.string x,.bool false,.int .u64 0,.int .u64 0,.int .i64 0,.int .i64 0,.int .i64 i] by simp [TokD.cs])
  clear hc hd h34 h64 hl ho hn hlen HSg hE hx hbd h0
  go_enter Tryz.func81,Tryz.ntmps81
  go_wp2_with (first|((with_reducible refine iat 26 ?_);(refine six rfl rfl rfl HC.out ?_))|(go_at_call 70;(with_reducible refine (HDg.out _).mono ?_);rintro e W2 ⟨rfl,rfl⟩)|(go_at_call 68;(with_reducible refine (HLt.out _).mono ?_);rintro e W2 ⟨rfl,rfl⟩)|(go_at_call 111;(with_reducible refine (HSy.out _).mono ?_);refine cB1 HM ?_;clear HM;intro W1 HM)|refine mP ?_|(refine mS ?_;clear HM;intro W1 HM)|(refine hal (dst:=some 4) HM rfl ?_;clear HM;intro g4 W1 HM)|(refine hal (dst:=some 7) HM rfl ?_;clear HM;intro g7 W1 HM)|(refine hal HM rfl ?_;clear HM;intro g1 W1 HM))
  refine wp_region_steps2 [(true,0),(true,1),(true,2),(true,3),(true,4),(false,5),(true,6),(false,7)] (by kernel_rfl) (by kernel_rfl) rfl (by kernel_rfl) (fun _ _ _ _ _ h=>h) HM.out _ (.cons _ (.cons_cons _ .slnil)) ?_
  intro hNE W1 HM1;replace HM:=Lib.hid HM1;clear HM1
  have HS0:=Lib.hid (HM.out.sub (.cons _ (.cons_cons _ .slnil)))
  simp only [wpSteps,List.getElem?_cons_succ,List.getElem?_cons_zero]
  (repeat (first|((with_reducible refine wpQuiet_nil ?_);(try dsimp only))|((with_reducible refine qat 122 ?_);(refine qssls rfl rfl rfl rfl rfl hiE hEs ?_))|go_big_quiet_step (fail)|quiet_step (fail)))
  go_wp2_with (first|(refine mS ?_;clear HM;intro W1 HM))
  refine ⟨⟨⟨_,HM.out.sub msub⟩,rfl⟩,?_⟩
  (try dsimp only)
  (repeat (first|((with_reducible refine wpQuiet_nil ?_);(try dsimp only))|go_big_quiet_step (fail)|quiet_step (fail)))
  go_wp2_with (first|(refine mS ?_;clear HM;intro W1 HM))
  refine ⟨⟨⟨_,HM.out.sub msub⟩,rfl⟩,?_⟩
  (try dsimp only)
  clear HS0 hNE
  rw [HX.out] at HM
  go_wp2_with (first|refine mP ?_|(refine mS ?_;clear HM;intro W1 HM)|(refine hal HM rfl ?_;clear HM;intro g1 W1 HM))
  exact bodyPost_ret (res_box_tmp_tmp rfl HM.out 1 rfl rfl rfl rfl rfl) rfl ⟨RPost.of (by rw [HT.out];rfl),HM.out.below⟩
theorem rone_any (s:ByteArray) (i:Nat) {c:UInt8} (w:World) (hc:s.data.toList[i]? = some c) (hs:s.size≤1000) :
  Calls Tryz.prog 81 #[.string s,.int .i64 i] w fun e w'=>RPost (oneF s i) e∧Below w.heap.size w w':=by
 cases hd:dg c with
 | true=>exact rone_num s i w hc hd hs
 | false=>
  by_cases h34:c=34
  ·exact rone_str s i w hc h34 hs
  ·by_cases h64:c=64
   ·exact rone_date s i w hc h64 hs
   ·cases hl:lt1 c with
    | true=>exact rone_name s i w hc hd h34 h64 hl hs
    | false=>exact rone_sign s i w hc hd h34 h64 hl hs
end Go.Proofs.YtheimopjglkgjaaGreatDoor
