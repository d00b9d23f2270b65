/- The walks over Unquote, of the package and of the reference. The walk over the reference's Unquote: what stands between the quotes. A scope with two labels, 0 and 1, between which the run jumps: what holds at each jump, and a measure that every way from a label to a label makes less. The walk over Unquote: what stands between the quotes; two labels. Unquote whole, of both, and the walk over tarifflaw04.CharsQuotes. -/
import Derived.Test.YtnghlakllgkjlaaGreatDoorReplA
import Derived.ScopeJumps
import Derived.WalkMore
import Derived.Outline
import Derived.Test.YtnghlakllgkjlaaGreatDoorCharsA
namespace Go.Proofs.YtnghlakllgkjlaaGreatDoor
open Go.RowKit
set_option linter.unusedVariables false
set_option maxRecDepth 100000
def qform (l:List UInt8):Option (List UInt8):=if 2≤l.length∧l[0]? = some 34∧l[l.length - 1]? = some 34 then some ((l.drop 1).take (l.length - 2)) else none
def unquoteV (s:ByteArray):Value:=match chars s.data.toList with
 | some _=>match (qform s.data.toList).bind unq with
  | some r=>.tuple #[.string ⟨r.toArray⟩,.int .i64 0]
  | none=>.tuple #[.string ⟨#[]⟩,.int .i64 5]
 | none=>.tuple #[.string ⟨#[]⟩,.int .i64 2]
theorem unquoteV_no {s:ByteArray} (h:chars s.data.toList=none):unquoteV s = .tuple #[.string ⟨#[]⟩,.int .i64 2]:=by unfold unquoteV;rw [h]
theorem unquoteV_form {s:ByteArray} {cs:List Nat} (h:chars s.data.toList=some cs) (h2:qform s.data.toList=none):unquoteV s = .tuple #[.string ⟨#[]⟩,.int .i64 5]:=by unfold unquoteV;rw [h,h2];rfl
theorem unquoteV_bad {s:ByteArray} {cs:List Nat} {l:List UInt8} (h:chars s.data.toList=some cs) (h2:qform s.data.toList=some l) (h3:unq l=none):unquoteV s = .tuple #[.string ⟨#[]⟩,.int .i64 5]:=by
 unfold unquoteV;rw [h,h2];show (match unq l with|some r=>_|none=>_)=_;rw [h3]
theorem unquoteV_ok {s:ByteArray} {cs:List Nat} {l r:List UInt8} (h:chars s.data.toList=some cs) (h2:qform s.data.toList=some l) (h3:unq l=some r):unquoteV s = .tuple #[.string ⟨r.toArray⟩,.int .i64 0]:=by
 unfold unquoteV;rw [h,h2];show (match unq l with|some r=>_|none=>_)=_;rw [h3]
def UQ (t:List UInt8) (i:Nat) (done:List UInt8):Prop:=done.length≤i∧i≤t.length∧unq t=(unq (t.drop i)).map (done++·)
theorem UQ.start (t:List UInt8):UQ t 0 []:=⟨by simp,by omega,by simp⟩
theorem drop_at {t:List UInt8} {i:Nat} {c:UInt8} (h:t[i]? = some c):t.drop i=c :: t.drop (i + 1):=by
 obtain ⟨h1,h2⟩:=List.getElem?_eq_some_iff.1 h
 rw [List.drop_eq_getElem_cons h1,h2]
theorem UQ.stop {t done:List UInt8} {i:Nat} {c:UInt8} (h:UQ t i done) (hc:t[i]? = some c) (hs:stopB c=true):unq t=none:=by
 rw [h.2.2,drop_at hc,unq_stop hs];rfl
theorem UQ.plain {t done:List UInt8} {i:Nat} {c:UInt8} (h:UQ t i done) (hc:t[i]? = some c) (hs:stopB c=false) (hn:c≠92):UQ t (i + 1) (done++[c]):=by
 refine ⟨by have:=h.1;simp;omega,(List.getElem?_eq_some_iff.1 hc).1,?_⟩
 rw [h.2.2,drop_at hc,unq_plain hs hn,Option.map_map]
 exact congrArg (fun f=>Option.map f _) (funext fun l=>by simp)
theorem UQ.last {t done:List UInt8} {i:Nat} (h:UQ t i done) (hc:t[i]? = some 92) (he:i + 1=t.length):unq t=none:=by
 rw [h.2.2,drop_at hc,List.drop_of_length_le (by omega),unq_end];rfl
theorem UQ.bad {t done:List UInt8} {i:Nat} {d:UInt8} (h:UQ t i done) (hc:t[i]? = some 92) (hd:t[i + 1]? = some d) (he:escD d=none):unq t=none:=by
 rw [h.2.2,drop_at hc,drop_at hd,unq_esc_none he];rfl
theorem UQ.esc {t done:List UInt8} {i:Nat} {d b:UInt8} (h:UQ t i done) (hc:t[i]? = some 92) (hd:t[i + 1]? = some d) (he:escD d=some b):UQ t (i + 2) (done++[b]):=by
 refine ⟨by have:=h.1;simp;omega,(List.getElem?_eq_some_iff.1 hd).1,?_⟩
 rw [h.2.2,drop_at hc,drop_at hd,unq_esc he,Option.map_map]
 exact congrArg (fun f=>Option.map f _) (funext fun l=>by simp)
theorem UQ.done {t done:List UInt8} {i:Nat} (h:UQ t i done) (he:t.length≤i):unq t=some done:=by
 rw [h.2.2,List.drop_of_length_le he,unq_nil];simp
theorem qform_short {s:ByteArray} (h:s.size < 2):qform s.data.toList=none:=if_neg (fun x=>by have:=x.1;rw [size_list] at this;omega)
theorem qform_head {s:ByteArray} (h:0 < s.size) (hc:s[0].toNat≠34):qform s.data.toList=none:=if_neg (fun x=>by
 have:=x.2.1
 rw [b_at h] at this
 simp only [Option.some.injEq] at this
 exact hc (by rw [this];rfl))
theorem qform_tail {s:ByteArray} (h:s.size - 1 < s.size) (hc:s[s.size - 1].toNat≠34):qform s.data.toList=none:=if_neg (fun x=>by
 have:=x.2.2
 rw [size_list,b_at h] at this
 simp only [Option.some.injEq] at this
 exact hc (by rw [this];rfl))
theorem qform_in {s:ByteArray} (h2:2≤s.size) (hc:s[0].toNat=34) (hd:s[s.size - 1].toNat=34):qform s.data.toList=some (s.extract 1 (s.size - 1)).data.toList:=by
 have e:(s.extract 1 (s.size - 1)).data.toList=(s.data.toList.drop 1).take (s.data.toList.length - 2):=by
  rw [ByteArray.data_extract,Array.toList_extract,size_list]
  rfl
 rw [e]
 refine if_pos ⟨by rw [size_list];exact h2,?_,?_⟩
 ·rw [b_at (by omega)];congr 1;exact UInt8.toNat_inj.1 hc
 ·rw [size_list,b_at (by omega)];congr 1;exact UInt8.toNat_inj.1 hd
def unqV (l:List UInt8):Value:=match unq l with
 | some r=>.tuple #[.string ⟨r.toArray⟩,.int .i64 0]
 | none=>.tuple #[.string ⟨#[]⟩,.int .i64 5]
theorem unqV_none {l:List UInt8} (h:unq l=none):unqV l = .tuple #[.string ⟨#[]⟩,.int .i64 5]:=by unfold unqV;rw [h]
theorem unqV_some {l r:List UInt8} (h:unq l=some r):unqV l = .tuple #[.string ⟨r.toArray⟩,.int .i64 0]:=by unfold unqV;rw [h]
theorem stop_cases {c:UInt8} (h:stopB c=true):c.toNat=34∨c.toNat=9∨c.toNat=10∨c.toNat=13:=by
 unfold stopB at h
 simp only [Bool.or_eq_true,beq_iff_eq] at h
 rcases h with ((h|h)|h)|h <;> subst h <;> simp
theorem stop_no {c:UInt8} (h:stopB c=false):c.toNat≠34∧c.toNat≠9∧c.toNat≠10∧c.toNat≠13:=by
 unfold stopB at h
 simp only [Bool.or_eq_false_iff,beq_eq_false_iff_ne,ne_eq] at h
 obtain ⟨⟨⟨a1,a2⟩,a3⟩,a4⟩:=h
 exact ⟨fun e=>a1 (UInt8.toNat_inj.1 e),fun e=>a2 (UInt8.toNat_inj.1 e),fun e=>a3 (UInt8.toNat_inj.1 e),fun e=>a4 (UInt8.toNat_inj.1 e)⟩
theorem esc_cases (d:UInt8):(d.toNat=34∧escD d=some d)∨(d.toNat=92∧escD d=some d)∨(d.toNat=110∧escD d=some 10)∨(d.toNat=114∧escD d=some 13)∨(d.toNat=116∧escD d=some 9)∨
  ((d.toNat≠34∧d.toNat≠92∧d.toNat≠110∧d.toNat≠114∧d.toNat≠116)∧escD d=none):=by
 by_cases h1:d=34
 ·subst h1;exact .inl ⟨rfl,rfl⟩
 by_cases h2:d=92
 ·subst h2;exact .inr (.inl ⟨rfl,rfl⟩)
 by_cases h3:d=110
 ·subst h3;exact .inr (.inr (.inl ⟨rfl,rfl⟩))
 by_cases h4:d=114
 ·subst h4;exact .inr (.inr (.inr (.inl ⟨rfl,rfl⟩)))
 by_cases h5:d=116
 ·subst h5;exact .inr (.inr (.inr (.inr (.inl ⟨rfl,rfl⟩))))
 refine .inr (.inr (.inr (.inr (.inr ⟨⟨fun e=>h1 (UInt8.toNat_inj.1 e),fun e=>h2 (UInt8.toNat_inj.1 e),fun e=>h3 (UInt8.toNat_inj.1 e),fun e=>h4 (UInt8.toNat_inj.1 e),fun e=>h5 (UInt8.toNat_inj.1 e)⟩,?_⟩))))
 unfold escD
 simp [h1,h2,h3,h4,h5]
def twoJumps (J K:Act→World→Prop) (Q:Exit→Act→World→Prop):Exit→Act→World→Prop
 | .goto l,a,w=>(l=0∧J a w)∨(l=1∧K a w)
 | e,a,w=>Q e a w
theorem wp_two_labels {P:Program} {a:Act} {w:World} {Q:Exit→Act→World→Prop} {c r0 r1:Code} (J K:Act→World→Prop) (mJ mK:Act→World→Nat) (h0:findLabel c 0=some r0) (h1:findLabel c 1=some r1)
  (first:c.wp P (twoJumps J K Q) a w)
  (p0:∀ a w,J a w→r0.wp P (twoJumps (fun x y=>J x y∧mJ x y < mJ a w) (fun x y=>K x y∧mK x y < mJ a w) Q) a w)
  (p1:∀ a w,K a w→r1.wp P (twoJumps (fun x y=>J x y∧mJ x y < mK a w) (fun x y=>K x y∧mK x y < mK a w) Q) a w):(Code.scope c).wp P Q a w:=by
 intro b k cs
 have g0:gotoIn 0 (.inScope c :: k)=some (.code r0 :: .inScope c :: k):=by simp [gotoIn,h0]
 have g1:gotoIn 1 (.inScope c :: k)=some (.code r1 :: .inScope c :: k):=by simp [gotoIn,h1]
 have both:∀ (n:Nat) (a:Act) (w:World),
   (mJ a w=n→J a w→∃ e x y,Q e x y∧Arrives P (lone (b.at a (.code r0 :: .inScope c :: k)) cs w) b k cs e x y)∧
   (mK a w=n→K a w→∃ e x y,Q e x y∧Arrives P (lone (b.at a (.code r1 :: .inScope c :: k)) cs w) b k cs e x y):=by
  intro n
  induction n using Nat.strongRecOn with
  | _ n ih=>
   have fin:∀ (r:Code) (a:Act) (w:World),r.wp P (twoJumps (fun x y=>J x y∧mJ x y < n) (fun x y=>K x y∧mK x y < n) Q) a w→
     ∃ e x y,Q e x y∧Arrives P (lone (b.at a (.code r :: .inScope c :: k)) cs w) b k cs e x y:=by
    intro r a w hw
    obtain ⟨e,a₁,w₁,hq,harr⟩:=hw b (.inScope c :: k) cs
    cases e with
    | normal=>exact ⟨.normal,a₁,w₁,hq,Steps.trans harr (.one step_inScope)⟩
    | exit id=>exact ⟨.exit id,a₁,w₁,hq,fun k' hk=>harr k' (by simp [exitTo,hk])⟩
    | goto l=>
     rcases hq with ⟨rfl,hJ,hlt⟩ | ⟨rfl,hK,hlt⟩
     ·obtain ⟨e₂,a₂,w₂,hq₂,harr₂⟩:=(ih _ hlt a₁ w₁).1 rfl hJ
      exact ⟨e₂,a₂,w₂,hq₂,.of_steps (harr _ g0) harr₂⟩
     ·obtain ⟨e₂,a₂,w₂,hq₂,harr₂⟩:=(ih _ hlt a₁ w₁).2 rfl hK
      exact ⟨e₂,a₂,w₂,hq₂,.of_steps (harr _ g1) harr₂⟩
    | ret=>exact ⟨_,a₁,w₁,hq,harr⟩
    | panic ch=>exact ⟨_,a₁,w₁,hq,harr⟩
    | outgrown=>exact ⟨_,a₁,w₁,hq,harr⟩
   exact fun a w=>⟨fun hn hJ=>fin r0 a w (hn▸p0 a w hJ),fun hn hK=>fin r1 a w (hn▸p1 a w hK)⟩
 obtain ⟨e,a₁,w₁,hq,harr⟩:=first b (.inScope c :: k) cs
 cases e with
 | normal=>exact ⟨.normal,a₁,w₁,hq,.head step_scope (Steps.trans harr (.one step_inScope))⟩
 | exit id=>exact ⟨.exit id,a₁,w₁,hq,fun k' hk=>.head step_scope (harr k' (by simp [exitTo,hk]))⟩
 | goto l=>
  rcases hq with ⟨rfl,hJ⟩ | ⟨rfl,hK⟩
  ·obtain ⟨e₂,a₂,w₂,hq₂,harr₂⟩:=(both _ a₁ w₁).1 rfl hJ
   exact ⟨e₂,a₂,w₂,hq₂,.of_steps (.head step_scope (harr _ g0)) harr₂⟩
  ·obtain ⟨e₂,a₂,w₂,hq₂,harr₂⟩:=(both _ a₁ w₁).2 rfl hK
   exact ⟨e₂,a₂,w₂,hq₂,.of_steps (.head step_scope (harr _ g1)) harr₂⟩
 | ret=>exact ⟨_,a₁,w₁,hq,.of_steps (.one step_scope) harr⟩
 | panic ch=>exact ⟨_,a₁,w₁,hq,.of_steps (.one step_scope) harr⟩
 | outgrown=>exact ⟨_,a₁,w₁,hq,.of_steps (.one step_scope) harr⟩
theorem wp_behind_skip {P:Program} {x:Code} {Q:Exit→Act→World→Prop} {a:Act} {w:World} (h:x.wp P Q a w):(Code.seq .skip x).wp P Q a w:=wp_seq (wp_skip h)
theorem wp_two_labels_in {P:Program} {a:Act} {w:World} {Q:Exit→Act→World→Prop} {c x0 x1:Code} (J K:Act→World→Prop) (mJ mK:Act→World→Nat) (h0:findLabel c 0=some (Code.seq .skip x0)) (h1:findLabel c 1=some (Code.seq .skip x1))
  (first:(∀ a w,J a w→x0.wp P (twoJumps J K Q) a w)→c.wp P (twoJumps J K Q) a w)
  (p0:∀ a w,J a w→x0.wp P (twoJumps (fun x y=>J x y∧mJ x y < mJ a w) (fun x y=>K x y∧mK x y < mJ a w) Q) a w)
  (p1:∀ a w,K a w→x1.wp P (twoJumps (fun x y=>J x y∧mJ x y < mK a w) (fun x y=>K x y∧mK x y < mK a w) Q) a w):(Code.scope c).wp P Q a w:=
 wp_two_labels J K mJ mK h0 h1 (first fun a w hJ=>by
  intro b k cs
  obtain ⟨e,x,y,hq,harr⟩:=p0 a w hJ b k cs
  refine ⟨e,x,y,?_,harr⟩
  cases e with
  | goto l=>
   rcases hq with ⟨h,hj,_⟩ | ⟨h,hj,_⟩
   ·exact .inl ⟨h,hj⟩
   ·exact .inr ⟨h,hj⟩
  | normal=>exact hq
  | exit id=>exact hq
  | ret=>exact hq
  | panic ch=>exact hq
  | outgrown=>exact hq)
  (fun a w h=>wp_behind_skip (p0 a w h)) (fun a w h=>wp_behind_skip (p1 a w h))
def UFrame (t:ByteArray) (v:Value) (i:Int) (a:Act):Prop:=∃ u1 u2 u3 u6 u7 u8 u9 u10 u11 u12 u13 u14 u15 u16 u17 u18 u19 u20 u21 u22 u23 u24 u25 u26 u27 u28 u29 u30 u31 u32 u33 u34 u35 u36 u37 u38 u39 u40 u41 u42 u43 u44 u45 u46 u47 u48 u49 u50 u51 u52 u53 u54 u55 u56 u57 u58 u59 u60 u61 u62 u63 u64 u65 u66 u67 u68 u69 u70 u71 u72 u73 u74 u75 u76 u77 u78 u79 u80 u81 u82 u83 u84 u85 u86 u87 u88 u89 u90 u91:Value,a = { tmps:=#[.string t,u1,u2,u3,v,.int .i64 i,u6,u7,u8,u9,u10,u11,u12,u13,u14,u15,u16,u17,u18,u19,u20,u21,u22,u23,u24,u25,u26,u27,u28,u29,u30,u31,u32,u33,u34,u35,u36,u37,u38,u39,u40,u41,u42,u43,u44,u45,u46,u47,u48,u49,u50,u51,u52,u53,u54,u55,u56,u57,u58,u59,u60,u61,u62,u63,u64,u65,u66,u67,u68,u69,u70,u71,u72,u73,u74,u75,u76,u77,u78,u79,u80,u81,u82,u83,u84,u85,u86,u87,u88,u89,u90,u91],defers:=[]}
def UAt (t:ByteArray) (B:Nat) (w0:World) (i:Nat) (l:List UInt8) (a:Act) (w:World):Prop:=
 i≤t.size∧UQ t.data.toList i l∧l.length≤i∧∃ v,UFrame t v i a∧w.ownsRow B 5 1 v l.length (l.map b8)∧Below B w0 w
set_option maxHeartbeats 4000000 in
theorem unq_in (s:ByteArray) (w:World) (hT:U8 w) (hs:s.size≤1099511627776) {cs:List Nat} (hc:chars s.data.toList=some cs) (h:2≤s.size) (h0:s[0].toNat=34) (h1:s[s.size - 1].toNat=34) :
  Calls Tryz.prog 111 #[.string s] w fun e w'=>e = .returned (unqV (s.extract 1 (s.size - 1)).data.toList)∧Below w.heap.size w w':=by
 obtain ⟨i0,hi,hz0,hz1,hz2⟩:=info_parts u_info
 have HC:=Lib.hid (valid_any s w (by omega) hT)
 have HT:=Lib.hid (text_of_some hc)
 have b0:((s[0].toNat:Int) != 34)=false:=by rw [h0];rfl
 have b1:((s[s.size - 1].toNat:Int) != 34)=false:=by rw [h1];rfl
 have d0:decide ((s.size:Int) < 2)=false:=decide_eq_false (by omega)
 have hp:0 < s.size:=by omega
 have e1:((s.size:Int) - 1).toNat=s.size - 1:=by omega
 have e2:0≤(s.size:Int) - 1:=by omega
 obtain ⟨t,ht⟩:∃ t,s.extract 1 (s.size - 1)=t:=⟨_,rfl⟩
 have hts:t.size=s.size - 2:=by rw [← ht,ByteArray.size_extract];omega
 have htb:t.size≤1099511627776:=by omega
 have HTt:=Lib.hid (show unqV (s.extract 1 (s.size - 1)).data.toList=unqV t.data.toList by rw [ht])
 have Ht:=Lib.hid ht
 have Hts:=Lib.hid hts
 clear hc h0 h1 ht hts
 go_enter Tryz.func111,Tryz.ntmps111
 go_wp2
 refine wp_two_labels_in (fun a w'=>∃ i l,UAt t w.heap.size w i l a w') (fun a w'=>∃ i l,UAt t w.heap.size w i l a w'∧t.data.toList[i]? = some 92) (fun a _=>2 * (t.size - (intOf (a.tmps.getD 5 undef)).toNat) + 1) (fun a _=>2 * (t.size - (intOf (a.tmps.getD 5 undef)).toNat)) rfl rfl ?_ ?_ ?_
 ·intro H
  have HH:=Lib.hid H
  clear H
  go_wp2_with fail
  refine HC.out.mono ?_
  rintro e w1 ⟨rfl,hb⟩
  rw [HT.out]
  have HB1:=Lib.hid hb
  have ht:=Ht.out
  clear hb
  obtain ⟨w2,hmk,hown,hgr⟩:=run_make_own (P:=Tryz.prog) w1 w.heap.size 53 5 i0 (.int .u8 0) 1 Tryz.underlying53 hi hz0 hz1 .i64 .i64 t.size (by rw [hz2];omega) (by unfold maxLen;omega) HB1.out.size
  have hb2:Below w.heap.size w w2:=HB1.out.grown hgr HB1.out.size (fun _ h=>by cases h)
  have HOwn:=Lib.hid hown
  have HB2:=Lib.hid hb2
  clear hown hgr hb2
  go_wp2
  go_step3
  rename_i hK
  exact hK _ _ (HH.out _ _ ⟨0,[],by omega,UQ.start _,by simp,_,⟨_,_,_,_,_,_,_,_,_,_,_,_,_,_,_,_,_,_,_,_,_,_,_,_,_,_,_,_,_,_,_,_,_,_,_,_,_,_,_,_,_,_,_,_,_,_,_,_,_,_,_,_,_,_,_,_,_,_,_,_,_,_,_,_,_,_,_,_,_,_,_,_,_,_,_,_,_,_,_,_,_,_,_,_,_,_,_,_,_,rfl⟩,HOwn.out,HB2.out⟩)
 ·rintro a wr ⟨i,l,hi0,hU,hll,v,⟨u1,u2,u3,u6,u7,u8,u9,u10,u11,u12,u13,u14,u15,u16,u17,u18,u19,u20,u21,u22,u23,u24,u25,u26,u27,u28,u29,u30,u31,u32,u33,u34,u35,u36,u37,u38,u39,u40,u41,u42,u43,u44,u45,u46,u47,u48,u49,u50,u51,u52,u53,u54,u55,u56,u57,u58,u59,u60,u61,u62,u63,u64,u65,u66,u67,u68,u69,u70,u71,u72,u73,u74,u75,u76,u77,u78,u79,u80,u81,u82,u83,u84,u85,u86,u87,u88,u89,u90,u91,rfl⟩,hO,hB⟩
  have HU:=Lib.hid hU
  have HO:=Lib.hid hO
  have HB:=Lib.hid hB
  have hszs:=hB.size
  have K3:=Lib.hid (show l.length + 1≤maxLen by unfold maxLen;omega)
  have K4:=Lib.hid (show (l.length + 1) * 1≤140737488355328 by omega)
  have K5:=Lib.hid (show ∀ o,w.heap.size≤(wr.alloc o).heap.size from fun o=>by simp;omega)
  clear hU hO hB HC HT b0 b1 d0 e1 e2
  by_cases hlt:i < t.size
  ·have hbx:=t[i].toNat_lt
   have bne:((i:Int) == (t.size:Int))=false:=beq_eq_false_iff_ne.2 (by omega)
   cases hst:stopB t[i] with
   | true=>
    have HN:=Lib.hid (unqV_none (HU.out.stop (b_at hlt) hst))
    have hx:=stop_cases hst
    clear hst
    rcases hx with hx|hx|hx|hx
    ·have dc34:(((t[i].toNat:Nat):Int) == 34)=true:=beq_iff_eq.2 (by omega)
     have dc9:(((t[i].toNat:Nat):Int) == 9)=false:=beq_eq_false_iff_ne.2 (by omega)
     have dc10:(((t[i].toNat:Nat):Int) == 10)=false:=beq_eq_false_iff_ne.2 (by omega)
     have dc13:(((t[i].toNat:Nat):Int) == 13)=false:=beq_eq_false_iff_ne.2 (by omega)
     clear hx
     go_wp2
     simp only [twoJumps]
     go_ret2
     exact ⟨(congrArg Ending.returned (HTt.out.trans HN.out)).symm,HB.out⟩
    ·have dc34:(((t[i].toNat:Nat):Int) == 34)=false:=beq_eq_false_iff_ne.2 (by omega)
     have dc9:(((t[i].toNat:Nat):Int) == 9)=true:=beq_iff_eq.2 (by omega)
     have dc10:(((t[i].toNat:Nat):Int) == 10)=false:=beq_eq_false_iff_ne.2 (by omega)
     have dc13:(((t[i].toNat:Nat):Int) == 13)=false:=beq_eq_false_iff_ne.2 (by omega)
     clear hx
     go_wp2
     simp only [twoJumps]
     go_ret2
     exact ⟨(congrArg Ending.returned (HTt.out.trans HN.out)).symm,HB.out⟩
    ·have dc34:(((t[i].toNat:Nat):Int) == 34)=false:=beq_eq_false_iff_ne.2 (by omega)
     have dc9:(((t[i].toNat:Nat):Int) == 9)=false:=beq_eq_false_iff_ne.2 (by omega)
     have dc10:(((t[i].toNat:Nat):Int) == 10)=true:=beq_iff_eq.2 (by omega)
     have dc13:(((t[i].toNat:Nat):Int) == 13)=false:=beq_eq_false_iff_ne.2 (by omega)
     clear hx
     go_wp2
     simp only [twoJumps]
     go_ret2
     exact ⟨(congrArg Ending.returned (HTt.out.trans HN.out)).symm,HB.out⟩
    ·have dc34:(((t[i].toNat:Nat):Int) == 34)=false:=beq_eq_false_iff_ne.2 (by omega)
     have dc9:(((t[i].toNat:Nat):Int) == 9)=false:=beq_eq_false_iff_ne.2 (by omega)
     have dc10:(((t[i].toNat:Nat):Int) == 10)=false:=beq_eq_false_iff_ne.2 (by omega)
     have dc13:(((t[i].toNat:Nat):Int) == 13)=true:=beq_iff_eq.2 (by omega)
     clear hx
     go_wp2
     simp only [twoJumps]
     go_ret2
     exact ⟨(congrArg Ending.returned (HTt.out.trans HN.out)).symm,HB.out⟩
   | false=>
    have hx:=stop_no hst
    obtain ⟨x1,x2,x3,x4⟩:=hx
    have dc34:(((t[i].toNat:Nat):Int) == 34)=false:=beq_eq_false_iff_ne.2 (by omega)
    have dc9:(((t[i].toNat:Nat):Int) == 9)=false:=beq_eq_false_iff_ne.2 (by omega)
    have dc10:(((t[i].toNat:Nat):Int) == 10)=false:=beq_eq_false_iff_ne.2 (by omega)
    have dc13:(((t[i].toNat:Nat):Int) == 13)=false:=beq_eq_false_iff_ne.2 (by omega)
    clear x1 x2 x3 x4
    by_cases h92:t[i]=92
    ·have hc92:t.data.toList[i]? = some 92:=by rw [b_at hlt,h92]
     have h92n:t[i].toNat=92:=by rw [h92];rfl
     have d92:(((t[i].toNat:Nat):Int) == 92)=true:=beq_iff_eq.2 (by omega)
     have HC92:=Lib.hid hc92
     clear h92 h92n hst hc92
     go_wp2
     go_step3
     exact Or.inr ⟨rfl,⟨i,l,⟨hi0,HU.out,hll,_,⟨_,_,_,_,_,_,_,_,_,_,_,_,_,_,_,_,_,_,_,_,_,_,_,_,_,_,_,_,_,_,_,_,_,_,_,_,_,_,_,_,_,_,_,_,_,_,_,_,_,_,_,_,_,_,_,_,_,_,_,_,_,_,_,_,_,_,_,_,_,_,_,_,_,_,_,_,_,_,_,_,_,_,_,_,_,_,_,_,_,rfl⟩,HO.out,HB.out⟩,HC92.out⟩,by simp [intOf]⟩
    ·have HU2:=Lib.hid (HU.out.plain (b_at hlt) hst h92)
     have h92n:t[i].toNat≠92:=fun e=>h92 (UInt8.toNat_inj.1 e)
     have d92:(((t[i].toNat:Nat):Int) == 92)=false:=beq_eq_false_iff_ne.2 (by omega)
     clear h92 h92n hst
     go_wp2_with (at_builtin;refine wpList_append_own _ rfl _ _ 53 rfl w.heap.size 5 i0 (.int .u8 0) 1 1 Tryz.underlying53 hi hz0 hz1 hz2 rfl (by decide) _ _ _ rfl (HO.out.alloc _) ⟨wr.heap.size,0,none⟩ 1 1 [.int .u8 t[i].toNat] rfl rfl (lit_cells _ _ _) (by intro u hu;simp at hu;subst hu;rfl) K3.out K4.out (K5.out _) ?_;intro v' w1 hown1 hgrow1 hnil1)
     have hb1:=below_own (HB.out.alloc hszs _) (K5.out _) (HO.out.alloc _) hgrow1
     have HOwn:=Lib.hid (show w1.ownsRow w.heap.size 5 1 v' (l++[t[i]]).length ((l++[t[i]]).map b8) by
      rw [List.length_append,List.map_append]
      exact hown1)
     have HB2:=Lib.hid hb1
     clear hown1 hgrow1 hnil1 hb1
     go_wp2
     go_step3
     exact Or.inl ⟨rfl,⟨i + 1,l++[t[i]],⟨by omega,HU2.out,by first|exact hll|(rw [List.length_append];simp;omega),_,by first|exact ⟨_,_,_,_,_,_,_,_,_,_,_,_,_,_,_,_,_,_,_,_,_,_,_,_,_,_,_,_,_,_,_,_,_,_,_,_,_,_,_,_,_,_,_,_,_,_,_,_,_,_,_,_,_,_,_,_,_,_,_,_,_,_,_,_,_,_,_,_,_,_,_,_,_,_,_,_,_,_,_,_,_,_,_,_,_,_,_,_,_,rfl⟩|(rw [show ((i + 1:Nat):Int)=(i:Int) + 1 from by omega];exact ⟨_,_,_,_,_,_,_,_,_,_,_,_,_,_,_,_,_,_,_,_,_,_,_,_,_,_,_,_,_,_,_,_,_,_,_,_,_,_,_,_,_,_,_,_,_,_,_,_,_,_,_,_,_,_,_,_,_,_,_,_,_,_,_,_,_,_,_,_,_,_,_,_,_,_,_,_,_,_,_,_,_,_,_,_,_,_,_,_,_,rfl⟩),HOwn.out,HB2.out⟩⟩,by simp [intOf];omega⟩
  ·have HN:=Lib.hid (unqV_some (HU.out.done (by rw [size_list];omega)))
   have beq:((i:Int) == (t.size:Int))=true:=beq_iff_eq.2 (by omega)
   have hstr:=own_str (P:=Tryz.prog) (src:=53) (dst:=9) Tryz.underlying53 Tryz.underlying5 Tryz.underlying9 HO.out
   go_wp2
   simp only [twoJumps]
   go_ret2
   exact ⟨(congrArg Ending.returned (HTt.out.trans HN.out)).symm,HB.out⟩
 ·rintro a wr ⟨i,l,⟨hi0,hU,hll,v,⟨u1,u2,u3,u6,u7,u8,u9,u10,u11,u12,u13,u14,u15,u16,u17,u18,u19,u20,u21,u22,u23,u24,u25,u26,u27,u28,u29,u30,u31,u32,u33,u34,u35,u36,u37,u38,u39,u40,u41,u42,u43,u44,u45,u46,u47,u48,u49,u50,u51,u52,u53,u54,u55,u56,u57,u58,u59,u60,u61,u62,u63,u64,u65,u66,u67,u68,u69,u70,u71,u72,u73,u74,u75,u76,u77,u78,u79,u80,u81,u82,u83,u84,u85,u86,u87,u88,u89,u90,u91,rfl⟩,hO,hB⟩,hc92⟩
  have hlt:i < t.size:=by rw [← size_list];exact (List.getElem?_eq_some_iff.1 hc92).1
  have HU:=Lib.hid hU
  have HO:=Lib.hid hO
  have HB:=Lib.hid hB
  have hszs:=hB.size
  have K3:=Lib.hid (show l.length + 1≤maxLen by unfold maxLen;omega)
  have K4:=Lib.hid (show (l.length + 1) * 1≤140737488355328 by omega)
  have K5:=Lib.hid (show ∀ o,w.heap.size≤(wr.alloc o).heap.size from fun o=>by simp;omega)
  clear hU hO hB HC HT b0 b1 d0 e1 e2
  by_cases hlast:i + 1=t.size
  ·have HN:=Lib.hid (unqV_none (HU.out.last hc92 (by rw [size_list];exact hlast)))
   have beq:((i:Int) + 1 == (t.size:Int))=true:=beq_iff_eq.2 (by omega)
   clear hlast hc92
   go_wp2
   simp only [twoJumps]
   go_ret2
   exact ⟨(congrArg Ending.returned (HTt.out.trans HN.out)).symm,HB.out⟩
  ·have hlt1:i + 1 < t.size:=by omega
   have bne:((i:Int) + 1 == (t.size:Int))=false:=beq_eq_false_iff_ne.2 (by omega)
   have hdx:=t[i + 1].toNat_lt
   clear hlast
   rcases esc_cases t[i + 1] with ⟨hd,he⟩ | ⟨hd,he⟩ | ⟨hd,he⟩ | ⟨hd,he⟩ | ⟨hd,he⟩ | ⟨⟨y1,y2,y3,y4,y5⟩,he⟩
   ·have HU2:=Lib.hid (HU.out.esc hc92 (b_at hlt1) he)
    have de34:(((t[i + 1].toNat:Nat):Int) == 34)=true:=beq_iff_eq.2 (by omega)
    have de92:(((t[i + 1].toNat:Nat):Int) == 92)=false:=beq_eq_false_iff_ne.2 (by omega)
    have de110:(((t[i + 1].toNat:Nat):Int) == 110)=false:=beq_eq_false_iff_ne.2 (by omega)
    have de114:(((t[i + 1].toNat:Nat):Int) == 114)=false:=beq_eq_false_iff_ne.2 (by omega)
    have de116:(((t[i + 1].toNat:Nat):Int) == 116)=false:=beq_eq_false_iff_ne.2 (by omega)
    clear hc92 hd he
    go_wp2_with (at_builtin;refine wpList_append_own _ rfl _ _ 53 rfl w.heap.size 5 i0 (.int .u8 0) 1 1 Tryz.underlying53 hi hz0 hz1 hz2 rfl (by decide) _ _ _ rfl (HO.out.alloc _) ⟨wr.heap.size,0,none⟩ 1 1 [.int .u8 t[i + 1].toNat] rfl rfl (lit_cells _ _ _) (by intro u hu;simp at hu;subst hu;rfl) K3.out K4.out (K5.out _) ?_;intro v' w1 hown1 hgrow1 hnil1)
    have hb1:=below_own (HB.out.alloc hszs _) (K5.out _) (HO.out.alloc _) hgrow1
    have HOwn:=Lib.hid (show w1.ownsRow w.heap.size 5 1 v' (l++[t[i + 1]]).length ((l++[t[i + 1]]).map b8) by
     rw [List.length_append,List.map_append]
     exact hown1)
    have HB2:=Lib.hid hb1
    clear hown1 hgrow1 hnil1 hb1
    go_wp2
    go_step3
    exact Or.inl ⟨rfl,⟨i + 2,l++[t[i + 1]],⟨by omega,HU2.out,by first|exact hll|(rw [List.length_append];simp;omega),_,by first|exact ⟨_,_,_,_,_,_,_,_,_,_,_,_,_,_,_,_,_,_,_,_,_,_,_,_,_,_,_,_,_,_,_,_,_,_,_,_,_,_,_,_,_,_,_,_,_,_,_,_,_,_,_,_,_,_,_,_,_,_,_,_,_,_,_,_,_,_,_,_,_,_,_,_,_,_,_,_,_,_,_,_,_,_,_,_,_,_,_,_,_,rfl⟩|(rw [show ((i + 2:Nat):Int)=(i:Int) + 2 from by omega];exact ⟨_,_,_,_,_,_,_,_,_,_,_,_,_,_,_,_,_,_,_,_,_,_,_,_,_,_,_,_,_,_,_,_,_,_,_,_,_,_,_,_,_,_,_,_,_,_,_,_,_,_,_,_,_,_,_,_,_,_,_,_,_,_,_,_,_,_,_,_,_,_,_,_,_,_,_,_,_,_,_,_,_,_,_,_,_,_,_,_,_,rfl⟩),HOwn.out,HB2.out⟩⟩,by simp [intOf];omega⟩
   ·have HU2:=Lib.hid (HU.out.esc hc92 (b_at hlt1) he)
    have de34:(((t[i + 1].toNat:Nat):Int) == 34)=false:=beq_eq_false_iff_ne.2 (by omega)
    have de92:(((t[i + 1].toNat:Nat):Int) == 92)=true:=beq_iff_eq.2 (by omega)
    have de110:(((t[i + 1].toNat:Nat):Int) == 110)=false:=beq_eq_false_iff_ne.2 (by omega)
    have de114:(((t[i + 1].toNat:Nat):Int) == 114)=false:=beq_eq_false_iff_ne.2 (by omega)
    have de116:(((t[i + 1].toNat:Nat):Int) == 116)=false:=beq_eq_false_iff_ne.2 (by omega)
    clear hc92 hd he
    go_wp2_with (at_builtin;refine wpList_append_own _ rfl _ _ 53 rfl w.heap.size 5 i0 (.int .u8 0) 1 1 Tryz.underlying53 hi hz0 hz1 hz2 rfl (by decide) _ _ _ rfl (HO.out.alloc _) ⟨wr.heap.size,0,none⟩ 1 1 [.int .u8 t[i + 1].toNat] rfl rfl (lit_cells _ _ _) (by intro u hu;simp at hu;subst hu;rfl) K3.out K4.out (K5.out _) ?_;intro v' w1 hown1 hgrow1 hnil1)
    have hb1:=below_own (HB.out.alloc hszs _) (K5.out _) (HO.out.alloc _) hgrow1
    have HOwn:=Lib.hid (show w1.ownsRow w.heap.size 5 1 v' (l++[t[i + 1]]).length ((l++[t[i + 1]]).map b8) by
     rw [List.length_append,List.map_append]
     exact hown1)
    have HB2:=Lib.hid hb1
    clear hown1 hgrow1 hnil1 hb1
    go_wp2
    go_step3
    exact Or.inl ⟨rfl,⟨i + 2,l++[t[i + 1]],⟨by omega,HU2.out,by first|exact hll|(rw [List.length_append];simp;omega),_,by first|exact ⟨_,_,_,_,_,_,_,_,_,_,_,_,_,_,_,_,_,_,_,_,_,_,_,_,_,_,_,_,_,_,_,_,_,_,_,_,_,_,_,_,_,_,_,_,_,_,_,_,_,_,_,_,_,_,_,_,_,_,_,_,_,_,_,_,_,_,_,_,_,_,_,_,_,_,_,_,_,_,_,_,_,_,_,_,_,_,_,_,_,rfl⟩|(rw [show ((i + 2:Nat):Int)=(i:Int) + 2 from by omega];exact ⟨_,_,_,_,_,_,_,_,_,_,_,_,_,_,_,_,_,_,_,_,_,_,_,_,_,_,_,_,_,_,_,_,_,_,_,_,_,_,_,_,_,_,_,_,_,_,_,_,_,_,_,_,_,_,_,_,_,_,_,_,_,_,_,_,_,_,_,_,_,_,_,_,_,_,_,_,_,_,_,_,_,_,_,_,_,_,_,_,_,rfl⟩),HOwn.out,HB2.out⟩⟩,by simp [intOf];omega⟩
   ·have HU2:=Lib.hid (HU.out.esc hc92 (b_at hlt1) he)
    have de34:(((t[i + 1].toNat:Nat):Int) == 34)=false:=beq_eq_false_iff_ne.2 (by omega)
    have de92:(((t[i + 1].toNat:Nat):Int) == 92)=false:=beq_eq_false_iff_ne.2 (by omega)
    have de110:(((t[i + 1].toNat:Nat):Int) == 110)=true:=beq_iff_eq.2 (by omega)
    have de114:(((t[i + 1].toNat:Nat):Int) == 114)=false:=beq_eq_false_iff_ne.2 (by omega)
    have de116:(((t[i + 1].toNat:Nat):Int) == 116)=false:=beq_eq_false_iff_ne.2 (by omega)
    clear hc92 hd he
    go_wp2_with (at_builtin;refine wpList_append_own _ rfl _ _ 53 rfl w.heap.size 5 i0 (.int .u8 0) 1 1 Tryz.underlying53 hi hz0 hz1 hz2 rfl (by decide) _ _ _ rfl (HO.out.alloc _) ⟨wr.heap.size,0,none⟩ 1 1 [.int .u8 10] rfl rfl (lit_cells _ _ _) (by intro u hu;simp at hu;subst hu;rfl) K3.out K4.out (K5.out _) ?_;intro v' w1 hown1 hgrow1 hnil1)
    have hb1:=below_own (HB.out.alloc hszs _) (K5.out _) (HO.out.alloc _) hgrow1
    have HOwn:=Lib.hid (show w1.ownsRow w.heap.size 5 1 v' (l++[10]).length ((l++[10]).map b8) by
     rw [List.length_append,List.map_append]
     exact hown1)
    have HB2:=Lib.hid hb1
    clear hown1 hgrow1 hnil1 hb1
    go_wp2
    go_step3
    exact Or.inl ⟨rfl,⟨i + 2,l++[10],⟨by omega,HU2.out,by first|exact hll|(rw [List.length_append];simp;omega),_,by first|exact ⟨_,_,_,_,_,_,_,_,_,_,_,_,_,_,_,_,_,_,_,_,_,_,_,_,_,_,_,_,_,_,_,_,_,_,_,_,_,_,_,_,_,_,_,_,_,_,_,_,_,_,_,_,_,_,_,_,_,_,_,_,_,_,_,_,_,_,_,_,_,_,_,_,_,_,_,_,_,_,_,_,_,_,_,_,_,_,_,_,_,rfl⟩|(rw [show ((i + 2:Nat):Int)=(i:Int) + 2 from by omega];exact ⟨_,_,_,_,_,_,_,_,_,_,_,_,_,_,_,_,_,_,_,_,_,_,_,_,_,_,_,_,_,_,_,_,_,_,_,_,_,_,_,_,_,_,_,_,_,_,_,_,_,_,_,_,_,_,_,_,_,_,_,_,_,_,_,_,_,_,_,_,_,_,_,_,_,_,_,_,_,_,_,_,_,_,_,_,_,_,_,_,_,rfl⟩),HOwn.out,HB2.out⟩⟩,by simp [intOf];omega⟩
   ·have HU2:=Lib.hid (HU.out.esc hc92 (b_at hlt1) he)
    have de34:(((t[i + 1].toNat:Nat):Int) == 34)=false:=beq_eq_false_iff_ne.2 (by omega)
    have de92:(((t[i + 1].toNat:Nat):Int) == 92)=false:=beq_eq_false_iff_ne.2 (by omega)
    have de110:(((t[i + 1].toNat:Nat):Int) == 110)=false:=beq_eq_false_iff_ne.2 (by omega)
    have de114:(((t[i + 1].toNat:Nat):Int) == 114)=true:=beq_iff_eq.2 (by omega)
    have de116:(((t[i + 1].toNat:Nat):Int) == 116)=false:=beq_eq_false_iff_ne.2 (by omega)
    clear hc92 hd he
    go_wp2_with (at_builtin;refine wpList_append_own _ rfl _ _ 53 rfl w.heap.size 5 i0 (.int .u8 0) 1 1 Tryz.underlying53 hi hz0 hz1 hz2 rfl (by decide) _ _ _ rfl (HO.out.alloc _) ⟨wr.heap.size,0,none⟩ 1 1 [.int .u8 13] rfl rfl (lit_cells _ _ _) (by intro u hu;simp at hu;subst hu;rfl) K3.out K4.out (K5.out _) ?_;intro v' w1 hown1 hgrow1 hnil1)
    have hb1:=below_own (HB.out.alloc hszs _) (K5.out _) (HO.out.alloc _) hgrow1
    have HOwn:=Lib.hid (show w1.ownsRow w.heap.size 5 1 v' (l++[13]).length ((l++[13]).map b8) by
     rw [List.length_append,List.map_append]
     exact hown1)
    have HB2:=Lib.hid hb1
    clear hown1 hgrow1 hnil1 hb1
    go_wp2
    go_step3
    exact Or.inl ⟨rfl,⟨i + 2,l++[13],⟨by omega,HU2.out,by first|exact hll|(rw [List.length_append];simp;omega),_,by first|exact ⟨_,_,_,_,_,_,_,_,_,_,_,_,_,_,_,_,_,_,_,_,_,_,_,_,_,_,_,_,_,_,_,_,_,_,_,_,_,_,_,_,_,_,_,_,_,_,_,_,_,_,_,_,_,_,_,_,_,_,_,_,_,_,_,_,_,_,_,_,_,_,_,_,_,_,_,_,_,_,_,_,_,_,_,_,_,_,_,_,_,rfl⟩|(rw [show ((i + 2:Nat):Int)=(i:Int) + 2 from by omega];exact ⟨_,_,_,_,_,_,_,_,_,_,_,_,_,_,_,_,_,_,_,_,_,_,_,_,_,_,_,_,_,_,_,_,_,_,_,_,_,_,_,_,_,_,_,_,_,_,_,_,_,_,_,_,_,_,_,_,_,_,_,_,_,_,_,_,_,_,_,_,_,_,_,_,_,_,_,_,_,_,_,_,_,_,_,_,_,_,_,_,_,rfl⟩),HOwn.out,HB2.out⟩⟩,by simp [intOf];omega⟩
   ·have HU2:=Lib.hid (HU.out.esc hc92 (b_at hlt1) he)
    have de34:(((t[i + 1].toNat:Nat):Int) == 34)=false:=beq_eq_false_iff_ne.2 (by omega)
    have de92:(((t[i + 1].toNat:Nat):Int) == 92)=false:=beq_eq_false_iff_ne.2 (by omega)
    have de110:(((t[i + 1].toNat:Nat):Int) == 110)=false:=beq_eq_false_iff_ne.2 (by omega)
    have de114:(((t[i + 1].toNat:Nat):Int) == 114)=false:=beq_eq_false_iff_ne.2 (by omega)
    have de116:(((t[i + 1].toNat:Nat):Int) == 116)=true:=beq_iff_eq.2 (by omega)
    clear hc92 hd he
    go_wp2_with (at_builtin;refine wpList_append_own _ rfl _ _ 53 rfl w.heap.size 5 i0 (.int .u8 0) 1 1 Tryz.underlying53 hi hz0 hz1 hz2 rfl (by decide) _ _ _ rfl (HO.out.alloc _) ⟨wr.heap.size,0,none⟩ 1 1 [.int .u8 9] rfl rfl (lit_cells _ _ _) (by intro u hu;simp at hu;subst hu;rfl) K3.out K4.out (K5.out _) ?_;intro v' w1 hown1 hgrow1 hnil1)
    have hb1:=below_own (HB.out.alloc hszs _) (K5.out _) (HO.out.alloc _) hgrow1
    have HOwn:=Lib.hid (show w1.ownsRow w.heap.size 5 1 v' (l++[9]).length ((l++[9]).map b8) by
     rw [List.length_append,List.map_append]
     exact hown1)
    have HB2:=Lib.hid hb1
    clear hown1 hgrow1 hnil1 hb1
    go_wp2
    go_step3
    exact Or.inl ⟨rfl,⟨i + 2,l++[9],⟨by omega,HU2.out,by first|exact hll|(rw [List.length_append];simp;omega),_,by first|exact ⟨_,_,_,_,_,_,_,_,_,_,_,_,_,_,_,_,_,_,_,_,_,_,_,_,_,_,_,_,_,_,_,_,_,_,_,_,_,_,_,_,_,_,_,_,_,_,_,_,_,_,_,_,_,_,_,_,_,_,_,_,_,_,_,_,_,_,_,_,_,_,_,_,_,_,_,_,_,_,_,_,_,_,_,_,_,_,_,_,_,rfl⟩|(rw [show ((i + 2:Nat):Int)=(i:Int) + 2 from by omega];exact ⟨_,_,_,_,_,_,_,_,_,_,_,_,_,_,_,_,_,_,_,_,_,_,_,_,_,_,_,_,_,_,_,_,_,_,_,_,_,_,_,_,_,_,_,_,_,_,_,_,_,_,_,_,_,_,_,_,_,_,_,_,_,_,_,_,_,_,_,_,_,_,_,_,_,_,_,_,_,_,_,_,_,_,_,_,_,_,_,_,_,rfl⟩),HOwn.out,HB2.out⟩⟩,by simp [intOf];omega⟩
   ·have HN:=Lib.hid (unqV_none (HU.out.bad hc92 (b_at hlt1) he))
    have de34:(((t[i + 1].toNat:Nat):Int) == 34)=false:=beq_eq_false_iff_ne.2 (by omega)
    have de92:(((t[i + 1].toNat:Nat):Int) == 92)=false:=beq_eq_false_iff_ne.2 (by omega)
    have de110:(((t[i + 1].toNat:Nat):Int) == 110)=false:=beq_eq_false_iff_ne.2 (by omega)
    have de114:(((t[i + 1].toNat:Nat):Int) == 114)=false:=beq_eq_false_iff_ne.2 (by omega)
    have de116:(((t[i + 1].toNat:Nat):Int) == 116)=false:=beq_eq_false_iff_ne.2 (by omega)
    clear hc92 he y1 y2 y3 y4 y5
    go_wp2
    simp only [twoJumps]
    go_ret2
    exact ⟨(congrArg Ending.returned (HTt.out.trans HN.out)).symm,HB.out⟩
theorem unq_short (s:ByteArray) (w:World) (hT:U8 w) (hs:s.size≤1099511627776) {cs:List Nat} (hc:chars s.data.toList=some cs) (h:s.size < 2) :
  Calls Tryz.prog 111 #[.string s] w fun e w'=>e = .returned (.tuple #[.string ⟨#[]⟩,.int .i64 5])∧Below w.heap.size w w':=by
 have HC:=Lib.hid (valid_any s w (by omega) hT)
 have HT:=Lib.hid (text_of_some hc)
 clear hc
 go_enter Tryz.func111,Tryz.ntmps111
 go_wp2
 go_step3
 go_wp2_with fail
 refine HC.out.mono ?_
 rintro e w1 ⟨rfl,hb⟩
 rw [HT.out]
 go_wp2
 try rw [Exit.noGoto_ret]
 go_ret2
 exact ⟨rfl,hb⟩
theorem unq_head (s:ByteArray) (w:World) (hT:U8 w) (hs:s.size≤1099511627776) {cs:List Nat} (hc:chars s.data.toList=some cs) (h:2≤s.size) (h0:s[0].toNat≠34) :
  Calls Tryz.prog 111 #[.string s] w fun e w'=>e = .returned (.tuple #[.string ⟨#[]⟩,.int .i64 5])∧Below w.heap.size w w':=by
 have HC:=Lib.hid (valid_any s w (by omega) hT)
 have HT:=Lib.hid (text_of_some hc)
 have b0:((s[0].toNat:Int) != 34)=true:=by rw [bne_iff_ne];omega
 have d0:decide ((s.size:Int) < 2)=false:=decide_eq_false (by omega)
 have hp:0 < s.size:=by omega
 clear hc h0
 go_enter Tryz.func111,Tryz.ntmps111
 go_wp2
 go_step3
 go_wp2_with fail
 refine HC.out.mono ?_
 rintro e w1 ⟨rfl,hb⟩
 rw [HT.out]
 go_wp2
 try rw [Exit.noGoto_ret]
 go_ret2
 exact ⟨rfl,hb⟩
theorem unq_tail (s:ByteArray) (w:World) (hT:U8 w) (hs:s.size≤1099511627776) {cs:List Nat} (hc:chars s.data.toList=some cs) (h:2≤s.size) (h0:s[0].toNat=34) (h1:s[s.size - 1].toNat≠34) :
  Calls Tryz.prog 111 #[.string s] w fun e w'=>e = .returned (.tuple #[.string ⟨#[]⟩,.int .i64 5])∧Below w.heap.size w w':=by
 have HC:=Lib.hid (valid_any s w (by omega) hT)
 have HT:=Lib.hid (text_of_some hc)
 have b0:((s[0].toNat:Int) != 34)=false:=by rw [h0];rfl
 have b1:((s[s.size - 1].toNat:Int) != 34)=true:=by rw [bne_iff_ne];omega
 have d0:decide ((s.size:Int) < 2)=false:=decide_eq_false (by omega)
 have hp:0 < s.size:=by omega
 have e1:((s.size:Int) - 1).toNat=s.size - 1:=by omega
 have e2:0≤(s.size:Int) - 1:=by omega
 clear hc h0 h1
 go_enter Tryz.func111,Tryz.ntmps111
 go_wp2
 go_step3
 go_wp2_with fail
 refine HC.out.mono ?_
 rintro e w1 ⟨rfl,hb⟩
 rw [HT.out]
 go_wp2
 try rw [Exit.noGoto_ret]
 go_ret2
 exact ⟨rfl,hb⟩
theorem unquoteV_in {s:ByteArray} {cs:List Nat} {l:List UInt8} (h:chars s.data.toList=some cs) (h2:qform s.data.toList=some l):unquoteV s=unqV l:=by
 cases h3:unq l with
 | none=>rw [unquoteV_bad h h2 h3,unqV_none h3]
 | some r=>rw [unquoteV_ok h h2 h3,unqV_some h3]
theorem unquote_any (s:ByteArray) (w:World) (hT:U8 w) (hs:s.size≤1099511627776) :
  Calls Tryz.prog 111 #[.string s] w fun e w'=>e = .returned (unquoteV s)∧Below w.heap.size w w':=by
 cases hc:chars s.data.toList with
 | none=>
  have HC:=Lib.hid (valid_any s w (by omega) hT)
  have HT:=Lib.hid (text_of_none hc)
  have HV:=Lib.hid (unquoteV_no hc)
  clear hc
  go_enter Tryz.func111,Tryz.ntmps111
  go_wp2
  go_step3
  go_wp2_with fail
  refine HC.out.mono ?_
  rintro e w1 ⟨rfl,hb⟩
  rw [HT.out]
  go_wp2
  try rw [Exit.noGoto_ret]
  go_ret2
  exact ⟨(congrArg Ending.returned HV.out).symm,hb⟩
 | some cs=>
  by_cases h2:s.size < 2
  ·exact (unq_short s w hT hs hc h2).mono fun e w' ⟨he,hw⟩=>⟨by rw [he,unquoteV_form hc (qform_short h2)],hw⟩
  by_cases h0:s[0].toNat=34
  ·by_cases h1:s[s.size - 1].toNat=34
   ·exact (unq_in s w hT hs hc (by omega) h0 h1).mono fun e w' ⟨he,hw⟩=>⟨by rw [he,unquoteV_in hc (qform_in (by omega) h0 h1)],hw⟩
   ·exact (unq_tail s w hT hs hc (by omega) h0 h1).mono fun e w' ⟨he,hw⟩=>⟨by rw [he,unquoteV_form hc (qform_tail (by omega) h1)],hw⟩
  ·exact (unq_head s w hT hs hc (by omega) h0).mono fun e w' ⟨he,hw⟩=>⟨by rw [he,unquoteV_form hc (qform_head (by omega) h0)],hw⟩
end Go.Proofs.YtnghlakllgkjlaaGreatDoor
