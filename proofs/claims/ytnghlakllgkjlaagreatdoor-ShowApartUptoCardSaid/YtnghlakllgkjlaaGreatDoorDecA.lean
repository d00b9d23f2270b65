/- Values as plain data (trees), and where they lie in memory; what the calls answer of them, in plain Lean. Decimals by their size: order, and that a number has one form; in plain Lean. Decimals compared: the program's formed, times, both, order, Cmp. (short) Two arrays of four words: are they the same? The decimal digits of a number: the program's Text. (short) -/
import Derived.Test.YtnghlakllgkjlaaGreatDoorTypes
import Derived.Test.YtnghlakllgkjlaaGreatDoorWideA
import Derived.Test.YtnghlakllgkjlaaGreatDoorCharsA
import Derived.Deep.Slices
import Derived.Test.YtnghlakllgkjlaaGreatDoorSepA
import Derived.ChangeKeysEq
import Derived.Lib.UnsafeStr
import Derived.Laws.IdiomStrings
namespace Go.Proofs.YtnghlakllgkjlaaGreatDoor
open Go.RowKit
set_option linter.unusedVariables false
set_option maxRecDepth 100000
structure DcD where
 neg:Bool
 hi:Nat
 lo:Nat
 sc:Int
 deriving DecidableEq
def DcD.n (d:DcD):Nat:=d.hi * 2 ^ 64 + d.lo
def DcD.cs (d:DcD):List Value:=[.bool d.neg,.int .u64 d.hi,.int .u64 d.lo,.int .i64 d.sc]
inductive VD where
 | mk (k:Int) (yes:Bool) (num:DcD) (text:ByteArray) (day:Int) (l:List VD) (ns:List ByteArray)
def VD.k:VD→Int | .mk k _ _ _ _ _ _=>k
def VD.yes:VD→Bool | .mk _ y _ _ _ _ _=>y
def VD.num:VD→DcD | .mk _ _ n _ _ _ _=>n
def VD.text:VD→ByteArray | .mk _ _ _ t _ _ _=>t
def VD.day:VD→Int | .mk _ _ _ _ d _ _=>d
def VD.l:VD→List VD | .mk _ _ _ _ _ l _=>l
def VD.ns:VD→List ByteArray | .mk _ _ _ _ _ _ ns=>ns
def strL (b:ByteArray):List Value:=[.string b]
theorem strL_len (b:ByteArray):(strL b).length=1:=rfl
def vcs (k:Int) (yes:Bool) (num:DcD) (text:ByteArray) (day:Int) (lv nv:Value):List Value:=[.int .i64 k,.bool yes,.bool num.neg,.int .u64 num.hi,.int .u64 num.lo,.int .i64 num.sc,.string text,.int .i64 day,lv,nv]
/- Where a value lies. -/
mutual
def VD.at (W:World):VD→List Value→Prop
 | .mk k y n t d l ns,cs=>∃ (lp np:Option Addr) (lc nc:Nat) (ls:List Value),cs=vcs k y n t d (.slice lp l.length lc) (.slice np ns.length nc)∧(l.length≤lc∧ns.length≤nc)∧Sl W np (ns.flatMap strL)∧Sl W lp ls∧VD.ats W l ls
def VD.ats (W:World):List VD→List Value→Prop
 | [],ls=>ls=[]
 | v :: l,ls=>∃ c r,ls=c++r∧VD.at W v c∧VD.ats W l r
end
theorem cells_block {W:World} {p:Addr} {vs:List Value} (h:Cells W p vs) (hne:vs≠[]):p.block < W.heap.size:=by
 cases vs with
 | nil=>exact absurd rfl hne
 | cons v r=>
  have:=block_lt_of_cell (h 0 v rfl)
  unfold Addr.add at this
  split at this <;> exact this
theorem Cells.below' {W W' : World} {p:Addr} {vs:List Value} (h:Cells W p vs) (hb:RowKit.Below W.heap.size W W'):Cells W' p vs:=by
 cases vs with
 | nil=>intro j u hj;simp at hj
 | cons v r=>exact h.below hb (cells_block h (by simp))
theorem Sl.below' {W W' : World} {p:Option Addr} {vs:List Value} (h:Sl W p vs) (hb:RowKit.Below W.heap.size W W'):Sl W' p vs:=⟨h.1,fun a e=>(h.2 a e).below' hb⟩
mutual
theorem VD.at.below {W W' : World} (hb:RowKit.Below W.heap.size W W'):∀ {v:VD} {cs:List Value},v.at W cs→v.at W' cs
 | .mk k y n t d l ns,cs,h=>by
  simp only [VD.at] at h ⊢
  obtain ⟨lp,np,lc,nc,ls,e,h0,h1,h2,h3⟩:=h
  exact ⟨lp,np,lc,nc,ls,e,h0,h1.below' hb,h2.below' hb,VD.ats.below hb h3⟩
theorem VD.ats.below {W W' : World} (hb:RowKit.Below W.heap.size W W'):∀ {l:List VD} {ls:List Value},VD.ats W l ls→VD.ats W' l ls
 | [],ls,h=>by simp only [VD.ats] at h ⊢;exact h
 | v :: l,ls,h=>by
  simp only [VD.ats] at h ⊢
  obtain ⟨c,r,e,h1,h2⟩:=h
  exact ⟨c,r,e,VD.at.below hb h1,VD.ats.below hb h2⟩
end
/- Parts, depth. -/
mutual
def VD.parts:VD→Nat
 | .mk _ _ _ _ _ l _=>VD.partsL l + 1
def VD.partsL:List VD→Nat
 | []=>0
 | x :: r=>x.parts + VD.partsL r
end
mutual
def VD.depth:VD→Nat
 | .mk _ _ _ _ _ l _=>VD.depthL l + 1
def VD.depthL:List VD→Nat
 | []=>0
 | x :: r=>max x.depth (VD.depthL r)
end
def namesB (l:List ByteArray):Bool:=l.all nameB && decide (l.map (·.toList)).Nodup
def VD.bare (v:VD):Bool:=(!v.yes || decide (v.k=1)) && (decide (v.num=⟨false,0,0,0⟩) || decide (v.k=2)) && (decide (v.text.toList=[]) || decide (v.k=3)) && (decide (v.day=0) || decide (v.k=4)) && (decide (v.ns=[]) || decide (v.k=6)) && decide (v.l=[]∨v.k=5∨v.k=6)
def VD.own (v:VD):Bool:=v.bare && (if v.k=0∨v.k=1∨v.k=5 then true else if v.k=2 then dcmB v.num.neg v.num.n v.num.sc else if v.k=3 then decide (v.text.size≤1000) && textB v.text else if v.k=4 then decide (1≤v.day) && decide (v.day≤3652059) else if v.k=6 then decide (v.ns.length=v.l.length) && namesB v.ns else false)
mutual
def VD.form:VD→Bool
 | .mk k y n t d l ns=>(VD.mk k y n t d l ns).own && VD.formL l
def VD.formL:List VD→Bool
 | []=>true
 | x :: r=>x.form && VD.formL r
end
mutual
def VD.same:VD→VD→Bool
 | .mk k y n t d l ns,.mk k' y' n' t' d' l' ns'=>decide (k=k'∧y=y'∧n=n'∧t.toList=t'.toList∧d=d'∧ns.map (·.toList)=ns'.map (·.toList)) && VD.sameL l l'
def VD.sameL:List VD→List VD→Bool
 | [],[]=>true
 | x :: r,y :: s=>VD.same x y && VD.sameL r s
 | _ :: _,[]=>false
 | [],_ :: _=>false
end
def findS (l:List ByteArray) (s:ByteArray):Option Nat:=l.findIdx? (fun t=>decide (t.toList=s.toList))
def place (ctx:Bool) (nsa nsb:List ByteArray) (i:Nat):Option Nat:=if ctx then (match nsa[i]? with|some s=>findS nsb s|none=>none) else some i
mutual
def VD.wf (B:Nat):VD→Prop
 | .mk k y n t d l ns=>n.hi < 2 ^ 64∧n.lo < 2 ^ 64∧t.size≤B∧l.length≤B∧ns.length≤B∧(∀ s ∈ ns,s.size≤B)∧VD.wfL B l
def VD.wfL (B:Nat):List VD→Prop
 | []=>True
 | x :: r=>x.wf B∧VD.wfL B r
end
mutual
theorem VD.wf.mono {B C:Nat} (h:B≤C):∀ {v:VD},v.wf B→v.wf C
 | .mk k y n t d l ns,hv=>by
  simp only [VD.wf] at hv ⊢
  obtain ⟨h1,h2,h3,h4,h5,h6,h7⟩:=hv
  exact ⟨h1,h2,by omega,by omega,by omega,fun s hs=>Nat.le_trans (h6 s hs) h,VD.wfL.mono h h7⟩
theorem VD.wfL.mono {B C:Nat} (h:B≤C):∀ {l:List VD},VD.wfL B l→VD.wfL C l
 | [],_=>by simp only [VD.wfL]
 | x :: r,hl=>by
  simp only [VD.wfL] at hl ⊢
  exact ⟨VD.wf.mono h hl.1,VD.wfL.mono h hl.2⟩
end
theorem Sl.pre {W:World} {p:Option Addr} {l:List ByteArray} (h:Sl W p (l.flatMap strL)) (i:Nat):Sl W p ((l.take i).flatMap strL):=by
 rw [← flat_take strL 1 strL_len]
 exact ⟨fun e=>by rw [h.1 e];simp,fun a e=>(h.2 a e).take _⟩
open Go.RowKit
set_option linter.unusedVariables false
set_option maxRecDepth 100000
def DcD.size (d:DcD):Nat:=d.n * 10 ^ (18 - d.sc.toNat)
def DcD.val (d:DcD):Int:=if d.neg then -(d.size:Int) else d.size
def DcD.ok (d:DcD):Bool:=dcmB d.neg d.n d.sc
theorem DcD.ok_parts {d:DcD} (h:d.ok=true):d.n < 10 ^ 34∧0≤d.sc∧d.sc≤18∧(d.n=0→d.neg=false∧d.sc=0)∧(d.n≠0→d.sc=0∨d.n % 10≠0):=by
 unfold DcD.ok dcmB at h
 have:=of_decide_eq_true h
 obtain ⟨h1,h2,h3,h4⟩:=this
 refine ⟨h1,h2,h3,fun e=>?_,fun e=>?_⟩
 ·rw [if_pos e] at h4;exact h4
 ·rw [if_neg e] at h4;exact h4
open Go.RowKit
set_option linter.unusedVariables false
set_option linter.unusedSimpArgs false
set_option maxRecDepth 100000
section
variable {P:Program} {ops:Array Oper} {Q:Exit→Act→World→Prop} {a:Act} {W W' w0:World} {rest:List Oper} {L:List Res}
variable {dst:Option Tmp} {ty0:TypeId} {pos:String} {after:Array Edge} {gd:Option (Nat × Bool)}
end
theorem DcD.cs_len (d:DcD):d.cs.length=4:=rfl
def DcD.wf (d:DcD):Prop:=d.hi < 2 ^ 64∧d.lo < 2 ^ 64
theorem DcD.w2 {d:DcD} (h:d.wf):W2 d.n d.hi d.lo:=⟨rfl,h.2,h.1⟩
set_option maxHeartbeats 4000000 in
theorem formed_any (p:Option Addr) (c n:Nat) (l:List DcD) (w:World) (hS:Sl w p (l.flatMap DcD.cs)) (hw:∀ (i:Nat) (d:DcD),l[i]? = some d→d.wf) (hl:l.length≤1048576) (hn:n=l.length):Calls Tryz.prog 88 #[.slice p n c] w fun e w'=>e = .returned (.int .i64 (if l.all DcD.ok then 0 else 2))∧RowKit.Below w.heap.size w w':=by
 subst hn
 have HM:=Lib.hid (Mem.start w)
 have HS:=Lib.hid hS
 have HW:=Lib.hid hw
 obtain ⟨r,hr⟩:∃ r:Int,(if l.all DcD.ok then 0 else 2)=r:=⟨_,rfl⟩
 rw [hr]
 have HR:=Lib.hid hr
 clear hS hr hw
 go_enter Tryz.func88,Tryz.ntmps88
 go_wp2_with fail
 go_loopw [7] (fun iv wr=>∃ i:Nat,iv = .int .i64 i∧i≤l.length∧Hid ((l.take i).all DcD.ok=true)∧Hid (Mem w wr [])) (fun iv _=>l.length - (intOf iv).toNat)
 case atStart=>exact ⟨0,rfl,by omega,Lib.hid rfl,HM⟩
 case round=>
  clear HM
  obtain ⟨i,rfl,hi0,HI,HM⟩:=hrel
  by_cases hlt:i < l.length
  ·obtain ⟨⟨ng,hi,lo,sc⟩,hx⟩:∃ x,l[i]? = some x:=⟨_,List.getElem?_eq_getElem hlt⟩
   obtain ⟨b,rfl,hb⟩:=HS.out.some_at DcD.cs_len (by decide) hlt
   have HE:=Lib.hid (show Cells w (b.add (i * 4)) [.bool ng,.int .u64 hi,.int .u64 lo,.int .i64 sc] from hb.elem DcD.cs 4 DcD.cs_len hx)
   have HD:=Lib.hid (DcD.w2 (HW.out i _ hx))
   have q1:decide ((i:Int) < l.length)=true:=decide_eq_true (by omega)
   obtain ⟨u,hu⟩:∃ u,dcmB ng (DcD.mk ng hi lo sc).n sc=u:=⟨_,rfl⟩
   have HT:=Lib.hid (show (l.take (i + 1)).all DcD.ok=u by rw [List.take_add_one,hx,List.all_append,HI.out,← hu];simp [DcD.ok])
   have HF:=Lib.hid (show ∀ W,Calls Tryz.prog 133 #[.agg #[.bool ng,.int .u64 hi,.int .u64 lo,.int .i64 sc]] W fun e w'=>e = .returned (.bool u)∧RowKit.Below W.heap.size W w' from fun W=>by
    rw [← hu];exact form_any ng _ hi lo sc W HD.out)
   have HX:=Lib.hid hx
   clear hx hb hu
   cases u with
   | true=>
    go_wp2_with (first|refine mP ?_|(refine mS ?_;clear HM;intro W1 HM)|(refine hal (dst:=some 4) HM rfl ?_;clear HM;intro g4 W1 HM)|(refine ixa rfl rfl rfl hlt ?_)|(refine ldxW (HM.out.olds HE.out) rfl rfl ?_)|(go_at_call 133;(with_reducible refine cB HM (HF.out _) ?_);clear HM;intro W1 HM))
    go_roundw
    case rel=>exact ⟨i + 1,by go_num,by omega,HT,Lib.hid (HM.out.sub (List.nil_sublist _))⟩
    case measure=>simp [intOf];omega
   | false=>
    have HE2:=Lib.hid (show (2:Int)=r by
     rw [← HR.out]
     have:l.all DcD.ok=false:=by
      have h:=HT.out
      cases h2:l.all DcD.ok with
      | false=>rfl
      | true=>
       rw [List.all_eq_true] at h2
       rw [List.all_eq_true.2 (fun x hx=>h2 x (List.mem_of_mem_take hx))] at h
       cases h
     rw [this];rfl)
    go_wp2_with (first|refine mP ?_|(refine mS ?_;clear HM;intro W1 HM)|(refine hal (dst:=some 4) HM rfl ?_;clear HM;intro g4 W1 HM)|(refine ixa rfl rfl rfl hlt ?_)|(refine ldxW (HM.out.olds HE.out) rfl rfl ?_)|(go_at_call 133;(with_reducible refine cB HM (HF.out _) ?_);clear HM;intro W1 HM))
    go_ret
    exact ⟨by rw [← HE2.out];rfl,HM.out.below⟩
  ·obtain rfl:i=l.length:=by omega
   have HE2:=Lib.hid (show (0:Int)=r by rw [← HR.out];have:=HI.out;rw [List.take_length] at this;rw [this];rfl)
   go_wp2
   go_ret
   exact ⟨by rw [← HE2.out];rfl,HM.out.below⟩
theorem words_ex {n:Nat} (h:n < 115792089237316195423570985008687907853269984665640564039457584007913129639936):∃ w0 w1 w2 w3,Words n w0 w1 w2 w3:=by
 refine ⟨n % 18446744073709551616,n / 18446744073709551616 % 18446744073709551616,n / 18446744073709551616 / 18446744073709551616 % 18446744073709551616,n / 18446744073709551616 / 18446744073709551616 / 18446744073709551616,?_⟩
 unfold Words longN
 omega
theorem words_one {n a0 a1 a2 a3 b0 b1 b2 b3:Nat} (h:Words n a0 a1 a2 a3) (h' : Words n b0 b1 b2 b3):a0=b0∧a1=b1∧a2=b2∧a3=b3:=by
 unfold Words longN at *
 omega
open Go.RowKit
set_option linter.unusedVariables false
set_option maxRecDepth 100000
theorem eq_long (a b c d:Int) (w:World):(Op.equalIn 10000 131 (.agg #[.int .u64 a,.int .u64 b,.int .u64 c,.int .u64 d]) (.agg #[.int .u64 0,.int .u64 0,.int .u64 0,.int .u64 0])).run Tryz.prog w = .ok (a == 0 && (b == 0 && (c == 0 && d == 0))) w:=by
 obtain ⟨i,hi⟩:∃ i,Tryz.prog.info? 22=some i:=Option.isSome_iff_exists.1 (by kernel_rfl)
 have hu:Tryz.prog.underlying 131=some (.array 4 22):=by kernel_rfl
 have hc:Tryz.prog.cellsOf 22=1:=by kernel_rfl
 have hv:Tryz.prog.underlying 22=some (.int .u64):=by kernel_rfl
 have he:Tryz.prog.plainKey 22=true:=by kernel_rfl
 have h:=Go.run_equalIn_array (P:=Tryz.prog) w 9999 (t:=131) #[.int .u64 a,.int .u64 b,.int .u64 c,.int .u64 d] #[.int .u64 0,.int .u64 0,.int .u64 0,.int .u64 0] hu hi
 refine h.trans ?_
 rw [hc]
 have hl:List.range 4=[0,1,2,3]:=rfl
 rw [hl]
 have p0:∀ (x0 x1 x2 x3:Value),(part 22 #[x0,x1,x2,x3] 0).run Tryz.prog w = .ok x0 w:=fun x0 x1 x2 x3=>run_part_plain w he rfl
 have p1:∀ (x0 x1 x2 x3:Value),(part 22 #[x0,x1,x2,x3] 1).run Tryz.prog w = .ok x1 w:=fun x0 x1 x2 x3=>run_part_plain w he rfl
 have p2:∀ (x0 x1 x2 x3:Value),(part 22 #[x0,x1,x2,x3] 2).run Tryz.prog w = .ok x2 w:=fun x0 x1 x2 x3=>run_part_plain w he rfl
 have p3:∀ (x0 x1 x2 x3:Value),(part 22 #[x0,x1,x2,x3] 3).run Tryz.prog w = .ok x3 w:=fun x0 x1 x2 x3=>run_part_plain w he rfl
 have pe:∀ (x:Int),(Op.equalIn 9999 22 (.int .u64 x) (.int .u64 0)).run Tryz.prog w = .ok (x == 0) w:=fun x=>run_equalIn_int w 9998 _ _ _ _ _ hv
 cases h0:(a == 0) <;> cases h1:(b == 0) <;> cases h2:(c == 0) <;> cases h3:(d == 0) <;> simp [Op.eqItems,p0,p1,p2,p3,pe,h0,h1,h2,h3]
theorem eql_long (a b c d:Int) (w:World):(binOp .eql 131 (.agg #[.int .u64 a,.int .u64 b,.int .u64 c,.int .u64 d]) (.agg #[.int .u64 0,.int .u64 0,.int .u64 0,.int .u64 0])).run Tryz.prog w = .ok (.bool (a == 0 && (b == 0 && (c == 0 && d == 0)))) w:=by
 rw [run_eql_struct,eq_long]
 rfl
open Go.RowKit
set_option linter.unusedVariables false
set_option linter.unusedSimpArgs false
set_option maxRecDepth 100000
def d48 (d:Nat):UInt8:=UInt8.ofNat (48 + d)
def txt (n:Nat):List UInt8:=if h:n < 10 then [d48 n] else txt (n / 10)++[d48 (n % 10)]
termination_by n
decreasing_by omega
theorem txt_small {n:Nat} (h:n < 10):txt n=[d48 n]:=by rw [txt,dif_pos h]
theorem txt_big {n:Nat} (h:¬ n < 10):txt n=txt (n / 10)++[d48 (n % 10)]:=by rw [txt,dif_neg h]
theorem d48_val {d:Nat} (h:d < 10):((d48 d).toNat:Int)=48 + d:=by
 unfold d48
 have:48 + d < 256:=by omega
 rw [UInt8.toNat_ofNat']
 omega
theorem set_mid8 (m:Nat) (z v:Value) (s:List Value):(List.replicate (m + 1) z++s).set m v=List.replicate m z++v :: s:=by
 rw [List.replicate_succ',List.append_assoc,List.set_append_right _ _ (by simp)]
 simp
theorem tenth_fix {n w0 w1 w2 w3 x0 x1 x2 x3 d:Nat} (w:World) (h:Words n w0 w1 w2 w3) (hx:Words (n / 10) x0 x1 x2 x3) (hd:n % 10=d) :
  Calls Tryz.prog 151 #[.agg #[.int .u64 w0,.int .u64 w1,.int .u64 w2,.int .u64 w3]] w fun e w'=>e = .returned (.tuple #[.agg #[.int .u64 x0,.int .u64 x1,.int .u64 x2,.int .u64 x3],.int .u64 (d:Nat)])∧RowKit.Below w.heap.size w w':=
 (tenth_any n w0 w1 w2 w3 w h).mono fun e w' ⟨q0,q1,q2,q3,he,hw,hb⟩=>by
  obtain ⟨rfl,rfl,rfl,rfl⟩:=words_one hw hx
  rw [hd] at he
  exact ⟨he,hb⟩
section
variable {P:Program} {ops:Array Oper} {Q:Exit→Act→World→Prop} {a:Act} {W W' w0:World} {rest:List Oper} {L:List Res}
variable {dst:Option Tmp} {ty0:TypeId} {pos:String} {after:Array Edge} {gd:Option (Nat × Bool)}
theorem cvs {src tgt e:TypeId} {x:Operand} {b:Addr} {n cap:Nat} {l:List UInt8} (hs:P.underlying src=some (.slice e)) (he:P.underlying e=some (.int .u8)) (hd:P.underlying tgt=some .string) (hx:a.eval x = .slice (some b) n cap) (hn:n=l.length) (hc:Cells W b (Lib.byteCells l))
  (h:wpList P ops Q (⟨dst,.move (.const (.string ⟨l.toArray⟩)),ty0,pos,after,gd⟩ :: rest) a W):wpList P ops Q (⟨dst,.convert src tgt x,ty0,pos,after,gd⟩ :: rest) a W:=by
 subst hn
 refine as_move (o:=⟨dst,.convert src tgt x,ty0,pos,after,gd⟩) ?_ h
 have hr:=run_convert_bytes_back (P:=P) W src tgt e b cap l hs he hd (fun j hj=>hc j _ (by simp [Lib.byteCells,List.getElem?_eq_getElem hj]))
 simp only [execOp,hx,Sem.run_bind,hr,Result.andThen_ok]
 rfl
theorem slp {t e:TypeId} {len:Nat} {i:TypeInfo} (hu:P.underlying t=some (.array len e)) (hi:P.info? e=some i) (h1:i.size=1) {x lo:Operand} {g m n:Nat} {d:Int} (hx:a.eval x = .pointer (some ⟨g,0,none⟩)) (hh:a.eval lo = .int .i64 d) (hd:d=(m:Int)) (hm:m < len) (hn:len - m=n)
  (h:wpList P ops Q (⟨dst,.move (.const (.slice (some ⟨g,m,none⟩) n n)),ty0,pos,after,gd⟩ :: rest) a W):wpList P ops Q (⟨dst,.slice t x (some lo) none none,ty0,pos,after,gd⟩ :: rest) a W:=by
 subst hd hn
 refine as_move (o:=⟨dst,.slice t x (some lo) none none,ty0,pos,after,gd⟩) ?_ h
 have hr:(Instr.sliceAt t (.pointer (some ⟨g,0,none⟩)) (some (.int .i64 m)) none none).run P W = .ok (.slice (some ⟨g,m,none⟩) (len - m) (len - m)) W:=by
  have hne:¬ len=m:=by omega
  have hle:(m:Int)≤len:=by omega
  simp [Instr.sliceAt,run_underlying hu,Instr.sliceBounds,Instr.sliceBound,asIntOf,sizeOf,typeInfo,hi,h1,hle,Instr.sureAddr,hne,add_none]
  intro h
  omega
 simp only [execOp,Option.map_none,Option.map_some,hx,hh,Sem.run_bind,hr,Result.andThen_ok]
 rfl
end
theorem words_zero {x0 x1 x2 x3:Nat} (h:Words 0 x0 x1 x2 x3):x0=0∧x1=0∧x2=0∧x3=0:=by
 unfold Words longN at h;omega
set_option maxHeartbeats 16000000 in
theorem text_any (n hi lo:Nat) (w:World) (h:W2 n hi lo) :
  Calls Tryz.prog 103 #[.agg #[.int .u64 hi,.int .u64 lo]] w fun e w'=>e = .returned (.string ⟨(txt n).toArray⟩)∧RowKit.Below w.heap.size w w':=by
 have HM:=Lib.hid (Mem.start w)
 have HW:=Lib.hid (show Words n lo hi 0 0 from h.words)
 have HN:=Lib.hid h.lt
 obtain ⟨T,hT⟩:∃ T,txt n=T:=⟨_,rfl⟩
 rw [hT]
 have HT:=Lib.hid hT
 obtain ⟨i8,hi8⟩:∃ i,Tryz.prog.info? 5=some i:=Option.isSome_iff_exists.1 (by kernel_rfl)
 have HI81 := Lib.hid (show i8.size = 1 by have h : (Tryz.prog.info? 5).map (·.size) = some 1 := by kernel_rfl
                                           rw [hi8] at h;simpa using h)
 have HI8:=Lib.hid hi8
 clear hi8
 have hq1:=eql_long
 have hq2:=eq_long
 clear h hT
 go_enter Tryz.func103,Tryz.ntmps103
 go_wp2_with (first|refine mP ?_|(refine mS ?_;clear HM;intro W1 HM)|((with_reducible refine iat 1 ?_);refine mB ?_;clear HM;intro g1 W1 HM)|(refine hal (dst:=some 3) HM rfl ?_;clear HM;intro g3 W1 HM)|(refine hal (dst:=some 4) HM rfl ?_;clear HM;intro g4 W1 HM))
 go_loopw [5] (fun iv wr=>∃ (m n' v0 v1 v2 v3:Nat) (s:List UInt8),iv = .int .i64 (m + 1:Nat)∧m≤39∧Hid (m + 1 + s.length=40)∧Hid (Words n' v0 v1 v2 v3)∧Hid (txt n'++s=T)∧Hid (s=[]∨n'≠0)∧Hid (n' * 10 ^ s.length≤n)∧Hid (Mem w wr [.box g4 183 (List.replicate (m + 1) (.int .u8 0)++Lib.byteCells s),.box g3 131 [.int .u64 v0,.int .u64 v1,.int .u64 v2,.int .u64 v3]])) (fun iv _=>(intOf iv).toNat)
 case atStart=>exact ⟨39,n,lo,hi,0,0,[],rfl,by omega,Lib.hid rfl,HW,Lib.hid (by rw [List.append_nil];exact HT.out),Lib.hid (Or.inl rfl),Lib.hid (by simp),Lib.hid (HM.out.sub (.cons_cons _ (.cons_cons _ (List.nil_sublist _))))⟩
 case round=>
  clear HM
  obtain ⟨m,n',v0,v1,v2,v3,s,rfl,hm,HL,HV,HS,HZ,HB,HM⟩:=hrel
  obtain ⟨d,hd⟩:∃ d,n' % 10=d:=⟨_,rfl⟩
  have hd9:d≤9:=by omega
  have hnb:n' < 115792089237316195423570985008687907853269984665640564039457584007913129639936:=by
   have h1:=HB.out
   have h2:=HN.out
   have h3:n' * 1≤n' * 10 ^ s.length:=Nat.mul_le_mul_left _ (Nat.pow_pos (by decide))
   omega
  obtain ⟨x0,x1,x2,x3,hx⟩:=words_ex (n:=n' / 10) (by omega)
  have HC:=Lib.hid (fun W=>tenth_fix W HV.out hx hd)
  have HX:=Lib.hid hx
  have HD:=Lib.hid hd
  have H48:=Lib.hid (d48_val (d:=d) (by omega))
  clear hx hd hnb
  have HFt:=Lib.hid (show decide (m < (List.replicate (m + 1) (Value.int .u8 0)++Lib.byteCells s).length)=true from decide_eq_true (by rw [List.length_append,List.length_replicate];omega))
  have hcells:∀ x:List UInt8,Lib.byteCells (d48 d :: x) = .int .u8 (48 + (d:Int)) :: Lib.byteCells x:=fun x=>by
   rw [← H48.out];rfl
  have HCl:=Lib.hid hcells
  clear hcells
  by_cases h0:n' / 10=0
  ·obtain ⟨rfl,rfl,rfl,rfl⟩:=words_zero (h0▸HX.out)
   have HE:=Lib.hid (show d48 d :: s=T by
    rw [← HS.out,txt_small (show n' < 10 by omega),← HD.out,Nat.mod_eq_of_lt (by omega)];rfl)
   clear h0
   have HCe:=Lib.hid (fun W t (h:(Res.box g4 t (List.replicate m (.int .u8 0)++.int .u8 (48 + (d:Int)) :: Lib.byteCells s)).holds w.heap.size W)=>(show Cells W ⟨g4,m,none⟩ (Lib.byteCells (d48 d :: s)) from by
    have h2:=box_cells h m
    rw [List.drop_left' (by simp)] at h2
    rw [HCl.out];exact h2))
   go_wp2_with (first|((with_reducible refine iat 28 ?_);(refine slp (len:=40) (e:=5) (by kernel_rfl) HI8.out HI81.out rfl rfl (m:=m) rfl (by omega) (n:=s.length + 1) (by have:=HL.out;omega) ?_))|((with_reducible refine iat 29 ?_);(refine cvs (l:=d48 d :: s) (e:=5) (by kernel_rfl) (by kernel_rfl) (by kernel_rfl) rfl rfl (HCe.out _ _ (HM.out.get (k:=0) rfl)) ?_))|((with_reducible refine istore ?_);refine hst1 (v:=.int .u8 (48 + (d:Int))) HM rfl rfl rfl rfl HFt.out ?_;clear HM;intro W1 HM;rw [set_mid8] at HM)|refine mP ?_|(refine mS ?_;clear HM;intro W1 HM)|((with_reducible refine iat 1 ?_);refine mB ?_;clear HM;intro g1 W1 HM)|(refine hal (dst:=some 3) HM rfl ?_;clear HM;intro g3 W1 HM)|(refine hal (dst:=some 4) HM rfl ?_;clear HM;intro g4 W1 HM)|(go_at_call 151;(with_reducible refine cB HM (HC.out _) ?_);clear HM;intro W1 HM))
   go_ret
   exact ⟨by rw [← HE.out];rfl,HM.out.below⟩
  ·have hx:(x0=0∧x1=0∧x2=0∧x3≠0)∨(x0=0∧x1=0∧x2≠0)∨(x0=0∧x1≠0)∨x0≠0:=by
    have:=HX.out
    unfold Words longN at this
    omega
   have HE:=Lib.hid (show txt (n' / 10)++d48 d :: s=T by
    rw [← HS.out,txt_big (show ¬ n' < 10 by omega),HD.out,List.append_assoc];rfl)
   have HB2:=Lib.hid (show n' / 10 * 10 ^ (d48 d :: s).length≤n by
    have h1:=HB.out
    rw [List.length_cons,Nat.pow_succ,Nat.mul_comm (10 ^ s.length),← Nat.mul_assoc]
    exact Nat.le_trans (Nat.mul_le_mul_right _ (Nat.div_mul_le_self n' 10)) h1)
   have hm1:1≤m:=by
    have h1:=HB2.out
    have h2:=HN.out
    have h3:=HL.out
    rcases Nat.eq_zero_or_pos m with h|h
    ·exfalso
     have h5:(d48 d :: s).length=40:=by rw [List.length_cons];omega
     rw [h5] at h1
     have h6:1 * 10 ^ 40≤n' / 10 * 10 ^ 40:=Nat.mul_le_mul_right _ (by omega)
     have h7:(340282366920938463463374607431768211456:Nat) < 1 * 10 ^ 40:=by decide
     omega
    ·exact h
   have H0:=Lib.hid h0
   obtain ⟨m',rfl⟩:∃ k,m=k + 1:=⟨m - 1,by omega⟩
   clear h0 hm1
   rcases hx with ⟨rfl,rfl,rfl,h3⟩ | ⟨rfl,rfl,h3⟩ | ⟨rfl,h3⟩|h3
   all_goals
    have q3:=beq_false_of_ne (show (_:Int)≠0 from Int.natCast_ne_zero.2 h3)
    go_wp2_with (first|((with_reducible refine istore ?_);refine hst1 (v:=.int .u8 (48 + (d:Int))) HM rfl rfl rfl rfl HFt.out ?_;clear HM;intro W1 HM;rw [set_mid8] at HM)|refine mP ?_|(refine mS ?_;clear HM;intro W1 HM)|((with_reducible refine iat 1 ?_);refine mB ?_;clear HM;intro g1 W1 HM)|(refine hal (dst:=some 3) HM rfl ?_;clear HM;intro g3 W1 HM)|(refine hal (dst:=some 4) HM rfl ?_;clear HM;intro g4 W1 HM)|(go_at_call 151;(with_reducible refine cB HM (HC.out _) ?_);clear HM;intro W1 HM))
    go_roundw
    case rel=>exact ⟨m',_,_,_,_,_,d48 d :: s,rfl,by omega,Lib.hid (by have:=HL.out;rw [List.length_cons];omega),HX,HE,Lib.hid (Or.inr H0.out),HB2,by rw [HCl.out];exact HM⟩
    case measure=>simp [intOf];omega
end Go.Proofs.YtnghlakllgkjlaaGreatDoor
