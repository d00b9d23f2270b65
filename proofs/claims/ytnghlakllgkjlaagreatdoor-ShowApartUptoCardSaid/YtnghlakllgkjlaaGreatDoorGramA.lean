/- The grammar of expressions over tokens, in plain Lean, with fuel; progress, counts, enough fuel. The grammar of expressions: what is read lies within the tokens, there are no more nodes than tokens, the nodes are in form, so much fuel is enough. What a function of the reader of expressions leaves; how a walk goes on behind a call. -/
import Derived.Test.YtnghlakllgkjlaaGreatDoorLexP
import Derived.Test.YtnghlakllgkjlaaGreatDoorPlainA
import Derived.Test.YtnghlakllgkjlaaGreatDoorSepA
namespace Go.Proofs.YtnghlakllgkjlaaGreatDoor
open Go.RowKit
set_option linter.unusedVariables false
set_option linter.unusedSimpArgs false
def sgT (T:List TokD) (i:Nat):ByteArray:=match T[i]? with
 | some t=>if 5≤t.kind then t.text else ⟨#[]⟩
 | none=>⟨#[]⟩
def isT (T:List TokD) (i:Nat) (s:List UInt8):Bool:=(sgT T i).toList == s
inductive PR where
 | out
 | no
 | ok (l:List NodeD) (n:Nat) (j:Nat)
def PR.bind (r:PR) (k:List NodeD→Nat→Nat→PR):PR:=match r with
 | .out=>.out
 | .no=>.no
 | .ok l n j=>k l n j
inductive NT where
 | expr|or|and|cmp|sum|prod|sgn|sing|grp|tests|test|unary|ctx
 | orL (a:List NodeD)|andL (a:List NodeD)|sumL (a:List NodeD)|prodL (a:List NodeD)|pathL (a:List NodeD)
 | testsL (a:List NodeD) (n:Nat)
 | list (e:UInt8)|listL (e:UInt8) (a:List NodeD) (n:Nat)
 | ctxL (a:List NodeD) (ns:List ByteArray)
def nOp (op kids:Int):NodeD:=⟨op,kids,⟨#[]⟩,false,0,0,0,0⟩
def nTx (op kids:Int) (t:ByteArray):NodeD:=⟨op,kids,t,false,0,0,0,0⟩
def nNum (t:TokD):NodeD:=⟨4,0,⟨#[]⟩,false,t.num / 18446744073709551616,t.num % 18446744073709551616,t.sc,0⟩
def nDay (t:TokD):NodeD:=⟨6,0,⟨#[]⟩,false,0,0,0,t.day⟩
def relL (s:List UInt8):Int:=
 if s == [61] then 13 else if s == [33,61] then 14 else if s == [60] then 15 else if s == [60,61] then 16 else if s == [62] then 17 else if s == [62,61] then 18 else 0
def relT (T:List TokD) (i:Nat):Int:=relL (sgT T i).toList
def ivlF (T:List TokD):Nat→Nat→Int→Bool
 | 0,_,_=>false
 | f + 1,i,d=>match T[i]? with
  | none=>false
  | some t=>
   if t.kind=6 then
    if t.text.toList=[40]∨t.text.toList=[91]∨t.text.toList=[123] then ivlF T f (i + 1) (d + 1)
    else if t.text.toList=[41]∨t.text.toList=[93]∨t.text.toList=[125] then (if d - 1=0 then false else ivlF T f (i + 1) (d - 1))
    else if t.text.toList=[46,46] then (if d=1 then true else ivlF T f (i + 1) d)
    else ivlF T f (i + 1) d
   else ivlF T f (i + 1) d
def ivl (T:List TokD) (i:Nat):Bool:=ivlF T (T.length - i) i 0
def G (T:List TokD):Nat→NT→Nat→PR
 | 0,_,_=>.out
 | f + 1,.expr,i=>
  if isT T i [105,102] then (G T f .expr (i + 1)).bind fun a _ j=>
   if isT T j [116,104,101,110] then (G T f .expr (j + 1)).bind fun b _ k=>
    if isT T k [101,108,115,101] then (G T f .expr (k + 1)).bind fun c _ m=>.ok (a++b++c++[nOp 21 3]) 0 m
    else .no
   else .no
  else G T f .or i
 | f + 1,.or,i=>(G T f .and i).bind fun a _ j=>G T f (.orL a) j
 | f + 1,.orL a,i=>if isT T i [111,114] then (G T f .and (i + 1)).bind fun b _ j=>G T f (.orL (a++b++[nOp 20 2])) j else .ok a 0 i
 | f + 1,.and,i=>(G T f .cmp i).bind fun a _ j=>G T f (.andL a) j
 | f + 1,.andL a,i=>if isT T i [97,110,100] then (G T f .cmp (i + 1)).bind fun b _ j=>G T f (.andL (a++b++[nOp 19 2])) j else .ok a 0 i
 | f + 1,.cmp,i=>(G T f .sum i).bind fun a _ j=>
  if relT T j≠0 then (G T f .sum (j + 1)).bind fun b _ k=>.ok (a++b++[nOp (relT T j) 2]) 0 k
  else if isT T j [98,101,116,119,101,101,110] then (G T f .sum (j + 1)).bind fun b _ k=>
   if isT T k [97,110,100] then (G T f .sum (k + 1)).bind fun c _ m=>.ok (a++b++c++[nOp 22 3]) 0 m else .no
  else if isT T j [105,110] then (G T f .grp (j + 1)).bind fun b _ k=>.ok (a++b++[nOp 23 2]) 0 k
  else .ok a 0 j
 | f + 1,.sum,i=>(G T f .prod i).bind fun a _ j=>G T f (.sumL a) j
 | f + 1,.sumL a,i=>
  if isT T i [43] then (G T f .prod (i + 1)).bind fun b _ j=>G T f (.sumL (a++b++[nOp 9 2])) j
  else if isT T i [45] then (G T f .prod (i + 1)).bind fun b _ j=>G T f (.sumL (a++b++[nOp 10 2])) j
  else .ok a 0 i
 | f + 1,.prod,i=>(G T f .sgn i).bind fun a _ j=>G T f (.prodL a) j
 | f + 1,.prodL a,i=>
  if isT T i [42] then (G T f .sgn (i + 1)).bind fun b _ j=>G T f (.prodL (a++b++[nOp 11 2])) j
  else if isT T i [47] then (G T f .sgn (i + 1)).bind fun b _ j=>G T f (.prodL (a++b++[nOp 12 2])) j
  else .ok a 0 i
 | f + 1,.sgn,i=>
  if isT T i [45] then (G T f .sgn (i + 1)).bind fun a _ j=>.ok (a++[nOp 8 1]) 0 j
  else (G T f .sing i).bind fun a _ j=>G T f (.pathL a) j
 | f + 1,.pathL a,i=>
  if isT T i [46] then match T[i + 1]? with
   | some t=>if t.kind=4 then G T f (.pathL (a++[nTx 24 1 t.text])) (i + 2) else .no
   | none=>.no
  else .ok a 0 i
 | f + 1,.sing,i=>match T[i]? with
  | none=>.no
  | some t=>
   if t.kind=1 then .ok [nNum t] 0 (i + 1)
   else if t.kind=2 then .ok [nTx 5 0 t.text] 0 (i + 1)
   else if t.kind=3 then .ok [nDay t] 0 (i + 1)
   else if t.kind=4 then
    if isT T (i + 1) [40] then (G T f (.list 41) (i + 2)).bind fun l n j=>if 8 < n then .no else .ok (l++[nTx 25 n t.text]) 0 j
    else .ok [nTx 7 0 t.text] 0 (i + 1)
   else if isT T i [110,117,108,108] then .ok [nOp 1 0] 0 (i + 1)
   else if isT T i [116,114,117,101] then .ok [nOp 2 0] 0 (i + 1)
   else if isT T i [102,97,108,115,101] then .ok [nOp 3 0] 0 (i + 1)
   else if isT T i [40] then (G T f .expr (i + 1)).bind fun a _ j=>if isT T j [41] then .ok a 0 (j + 1) else .no
   else if isT T i [91] then (G T f (.list 93) (i + 1)).bind fun l n j=>.ok (l++[nOp 26 n]) 0 j
   else if isT T i [123] then (G T f .ctx (i + 1)).bind fun l n j=>.ok (l++[nOp 27 n]) 0 j
   else .no
 | f + 1,.list e,i=>if isT T i [e] then .ok [] 0 (i + 1) else G T f (.listL e [] 0) i
 | f + 1,.listL e a n,i=>(G T f .expr i).bind fun b _ j=>
  if isT T j [e] then .ok (a++b) (n + 1) (j + 1)
  else if isT T j [44] then G T f (.listL e (a++b) (n + 1)) (j + 1)
  else .no
 | f + 1,.ctx,i=>if isT T i [125] then .ok [] 0 (i + 1) else G T f (.ctxL [] []) i
 | f + 1,.ctxL a ns,i=>match T[i]? with
  | none=>.no
  | some t=>
   if t.kind=4 then
    if ns.any (fun x=>x.toList == t.text.toList) then .no
    else if isT T (i + 1) [58] then (G T f .expr (i + 2)).bind fun b _ j=>
     if isT T j [125] then .ok (a++b++[nTx 28 1 t.text]) (ns.length + 1) (j + 1)
     else if isT T j [44] then G T f (.ctxL (a++b++[nTx 28 1 t.text]) (ns++[t.text])) (j + 1)
     else .no
    else .no
   else .no
 | f + 1,.grp,i=>
  if isT T i [40] then (G T f .tests (i + 1)).bind fun a _ j=>if isT T j [41] then .ok a 0 (j + 1) else .no
  else .no
 | f + 1,.tests,i=>(G T f .test i).bind fun a _ j=>G T f (.testsL a 1) j
 | f + 1,.testsL a n,i=>
  if isT T i [44] then (G T f .test (i + 1)).bind fun b _ j=>G T f (.testsL (a++b) (n + 1)) j
  else .ok (a++[nOp 36 n]) 0 i
 | f + 1,.test,i=>
  if 15≤relT T i then (G T f .sum (i + 1)).bind fun a _ j=>.ok (a++[nOp (relT T i + 16) 1]) 0 j
  else if (isT T i [91] || isT T i [40]) && ivl T i then (G T f .sum (i + 1)).bind fun a _ j=>
   if isT T j [46,46] then (G T f .sum (j + 1)).bind fun b _ k=>
    if isT T k [93] || isT T k [41] then .ok (a++b++[nTx 35 2 (sgT T i++sgT T k)]) 0 (k + 1) else .no
   else .no
  else (G T f .sum i).bind fun a _ j=>.ok (a++[nOp 30 1]) 0 j
 | f + 1,.unary,i=>
  if T.length=1∧isT T 0 [45]=true then .ok [nOp 29 0] 0 1
  else if isT T 0 [110,111,116] then (G T f .grp 1).bind fun a _ j=>.ok (a++[nOp 37 1]) 0 j
  else G T f .tests 0
structure TkOk (t:TokD):Prop where
 num:t.num < 340282366920938463463374607431768211456
 text:t.text.size≤1000
structure TksOk (T:List TokD):Prop where
 len:T.length≤1000
 all:∀ t ∈ T,TkOk t
structure NodeOk (x:NodeD):Prop where
 hi:x.hi < 18446744073709551616
 lo:x.lo < 18446744073709551616
 text:x.text.size≤2000
 kids:0≤x.kids∧x.kids≤1001
def NodesOk (l:List NodeD):Prop:=∀ x ∈ l,NodeOk x
theorem NodesOk.app {a b:List NodeD} (ha:NodesOk a) (hb:NodesOk b):NodesOk (a++b):=fun x hx=>(List.mem_append.1 hx).elim (ha x) (hb x)
theorem NodesOk.one {x:NodeD} (h:NodeOk x):NodesOk [x]:=fun y hy=>by rw [List.mem_singleton.1 hy];exact h
theorem NodesOk.nil:NodesOk []:=fun y hy=>by cases hy
theorem nOp_ok {op:Int} {k:Int} (h:0≤k∧k≤1001):NodesOk [nOp op k]:=.one ⟨by show (0:Nat) < _;decide,by show (0:Nat) < _;decide,by show (0:Nat)≤_;decide,h⟩
theorem nTx_ok {op:Int} {k:Int} {t:ByteArray} (ht:t.size≤2000) (h:0≤k∧k≤1001):NodesOk [nTx op k t]:=.one ⟨by show (0:Nat) < _;decide,by show (0:Nat) < _;decide,ht,h⟩
theorem nNum_ok {t:TokD} (h:TkOk t):NodesOk [nNum t]:=.one ⟨by
 show t.num / 18446744073709551616 < 18446744073709551616
 exact Nat.div_lt_of_lt_mul h.num,Nat.mod_lt _ (by decide),by show (0:Nat)≤_;decide,⟨by show (0:Int)≤0;decide,by show (0:Int)≤1001;decide⟩⟩
theorem nDay_ok (t:TokD):NodesOk [nDay t]:=.one ⟨by show (0:Nat) < _;decide,by show (0:Nat) < _;decide,by show (0:Nat)≤_;decide,⟨by show (0:Int)≤0;decide,by show (0:Int)≤1001;decide⟩⟩
def PR.sat (r:PR) (F:Prop) (S:List NodeD→Nat→Nat→Prop):Prop:=match r with
 | .out=>¬ F
 | .no=>True
 | .ok l n j=>S l n j
theorem PR.sat.bind {r:PR} {k:List NodeD→Nat→Nat→PR} {F F1:Prop} {S S1:List NodeD→Nat→Nat→Prop} (h:r.sat F1 S1) (hF:F→F1) (hk:∀ a n j,S1 a n j→(k a n j).sat F S):(r.bind k).sat F S:=by
 cases r with
 | out=>exact fun f=>h (hF f)
 | no=>trivial
 | ok l n j=>exact hk l n j h
theorem PR.sat.mono {r:PR} {F F1:Prop} {S S1:List NodeD→Nat→Nat→Prop} (h:r.sat F1 S1) (hF:F→F1) (hk:∀ a n j,S1 a n j→S a n j):r.sat F S:=by
 cases r with
 | out=>exact fun f=>h (hF f)
 | no=>trivial
 | ok l n j=>exact hk l n j h
def NT.acc:NT→List NodeD
 | .orL a | .andL a | .sumL a | .prodL a | .pathL a | .testsL a _ | .listL _ a _ | .ctxL a _=>a
 | _=>[]
def NT.cnt:NT→Nat
 | .testsL _ n=>n
 | .listL _ _ n=>n
 | .ctxL _ ns=>ns.length
 | _=>0
def NT.slk:NT→Nat
 | .test=>1
 | .tests | .unary=>2
 | .testsL _ _=>1
 | _=>0
def NT.pg:NT→Nat
 | .orL _ | .andL _ | .sumL _ | .prodL _ | .pathL _ | .testsL _ _=>0
 | _=>1
def NT.rank:NT→Nat
 | .sing=>1 | .sgn=>2 | .prod=>3 | .sum=>4 | .cmp=>5 | .and=>6 | .or=>7 | .expr=>8 | .listL _ _ _=>9 | .list _=>10 | .ctxL _ _=>9 | .ctx=>10
 | .test=>9 | .tests=>10 | .grp=>1 | .unary=>11
 | .orL _ | .andL _ | .sumL _ | .prodL _ | .pathL _ | .testsL _ _=>1
section
variable {T:List TokD}
theorem sgT_none {i:Nat} (h:T.length≤i):sgT T i=⟨#[]⟩:=by
 unfold sgT
 rw [List.getElem?_eq_none h]
theorem isT_lt {i:Nat} {b:UInt8} {s:List UInt8} (h:isT T i (b :: s)=true):i < T.length:=by
 rcases Nat.lt_or_ge i T.length with h1|h1
 ·exact h1
 ·unfold isT at h
  rw [sgT_none h1,ByteArray.toList_eq] at h
  cases h
theorem relT_lt {i:Nat} (h:relT T i≠0):i < T.length:=by
 rcases Nat.lt_or_ge i T.length with h1|h1
 ·exact h1
 ·unfold relT at h
  rw [sgT_none h1,ByteArray.toList_eq] at h
  exact absurd rfl h
theorem sgT_size (h:TksOk T) (i:Nat):(sgT T i).size≤1000:=by
 unfold sgT
 split
 ·rename_i t ht
  split
  ·exact (h.all t (List.mem_of_getElem? ht)).text
  ·exact Nat.zero_le _
 ·exact Nat.zero_le _
structure GS (T:List TokD) (N:NT) (i:Nat) (l:List NodeD) (n j:Nat):Prop where
 from_:i + N.pg≤j
 to_:j≤T.length
 len:l.length≤N.acc.length + (j - i) + N.slk
 cnt:n≤N.cnt + (j - i)
 ok:TksOk T→N.cnt≤i→NodesOk N.acc→NodesOk l
theorem some_lt {i:Nat} {t:TokD} (h:T[i]? = some t):i < T.length:=(List.getElem?_eq_some_iff.1 h).1
theorem tok_text (hT:TksOk T) {i:Nat} {t:TokD} (h:T[i]? = some t):t.text.size≤2000:=Nat.le_trans (hT.all t (List.mem_of_getElem? h)).text (by decide)
theorem GS.k (h:TksOk T) {n:Nat} (hn:n≤T.length):0≤((n:Nat):Int)∧((n:Nat):Int)≤1001:=by have:=h.len;omega
def need (T:List TokD) (N:NT) (i:Nat):Nat:=(T.length - i) * 16 + N.rank
theorem G_good:∀ (f:Nat) (N:NT) (i:Nat),i≤T.length→(N = .unary→i=0)→(G T f N i).sat (need T N i < f) (GS T N i):=by
 intro f
 induction f with
 | zero=>intro N i hi hu h;exact absurd h (Nat.not_lt_zero _)
 | succ f ih=>
  intro N i hi hu
  unfold need
  have ih' : ∀ (N:NT) (i:Nat),i≤T.length→N≠.unary→(G T f N i).sat ((T.length - i) * 16 + N.rank < f) (GS T N i):=fun N i hi hN=>ih N i hi (fun e=>absurd e hN)
  cases N with
  | expr=>
   simp only [G]
   split
   ·rename_i h1
    have l1:=isT_lt h1
    refine (ih' .expr (i + 1) (by omega) (by simp)).bind (by simp only [NT.rank];omega) fun a n j A=>?_
    have A1:=A.from_;have A2:=A.to_;have A3:=A.len;have A4:=A.ok
    simp only [NT.pg,NT.acc,NT.slk,NT.cnt,List.length_nil] at A1 A3 A4
    split
    ·rename_i h2
     have l2:=isT_lt h2
     refine (ih' .expr (j + 1) (by omega) (by simp)).bind (by simp only [NT.rank];omega) fun b n' k B=>?_
     have B1:=B.from_;have B2:=B.to_;have B3:=B.len;have B4:=B.ok
     simp only [NT.pg,NT.acc,NT.slk,NT.cnt,List.length_nil] at B1 B3 B4
     split
     ·rename_i h3
      have l3:=isT_lt h3
      refine (ih' .expr (k + 1) (by omega) (by simp)).bind (by simp only [NT.rank];omega) fun c n'' m C=>?_
      have C1:=C.from_;have C2:=C.to_;have C3:=C.len;have C4:=C.ok
      simp only [NT.pg,NT.acc,NT.slk,NT.cnt,List.length_nil] at C1 C3 C4
      refine ⟨by simp only [NT.pg];omega,by omega,by simp only [List.length_append,List.length_singleton,NT.acc,NT.slk,List.length_nil];omega,Nat.zero_le _,fun hT hc ha=>?_⟩
      exact (((A4 hT (by omega) .nil).app (B4 hT (by omega) .nil)).app (C4 hT (by omega) .nil)).app (nOp_ok (by decide))
     ·trivial
    ·trivial
   ·refine (ih' .or i hi (by simp)).mono (by simp only [NT.rank];omega) fun a n j A=>⟨A.from_,A.to_,A.len,A.cnt,A.ok⟩
  | or=>
   simp only [G]
   refine (ih' .and i hi (by simp)).bind (by simp only [NT.rank];omega) fun a n j A=>?_
   have A1:=A.from_;have A2:=A.to_;have A3:=A.len;have A4:=A.ok
   simp only [NT.pg,NT.acc,NT.slk,NT.cnt,List.length_nil] at A1 A3 A4
   refine (ih' (.orL a) j A2 (by simp)).mono (by simp only [NT.rank];omega) fun b n k B=>?_
   have B1:=B.from_;have B2:=B.to_;have B3:=B.len;have B4:=B.ok;have B5:=B.cnt
   simp only [NT.pg,NT.acc,NT.slk,NT.cnt] at B1 B3 B4 B5
   exact ⟨by simp only [NT.pg];omega,B2,by simp only [NT.acc,NT.slk,List.length_nil];omega,by simp only [NT.cnt];omega,fun hT hc ha=>B4 hT (by omega) (A4 hT (by omega) .nil)⟩
  | orL a=>
   simp only [G]
   split
   ·rename_i h1
    have l1:=isT_lt h1
    refine (ih' .and (i + 1) (by omega) (by simp)).bind (by simp only [NT.rank];omega) fun b n j A=>?_
    have A1:=A.from_;have A2:=A.to_;have A3:=A.len;have A4:=A.ok
    simp only [NT.pg,NT.acc,NT.slk,NT.cnt,List.length_nil] at A1 A3 A4
    refine (ih' (.orL (a++b++[nOp 20 2])) j A2 (by simp)).mono (by simp only [NT.rank];omega) fun c n k B=>?_
    have B1:=B.from_;have B2:=B.to_;have B3:=B.len;have B4:=B.ok;have B5:=B.cnt
    simp only [NT.pg,NT.acc,NT.slk,NT.cnt,List.length_append,List.length_singleton] at B1 B3 B4 B5
    exact ⟨by simp only [NT.pg];omega,B2,by simp only [NT.acc,NT.slk];omega,by simp only [NT.cnt];omega,fun hT hc ha=>B4 hT (by omega) ((ha.app (A4 hT (by omega) .nil)).app (nOp_ok (by decide)))⟩
   ·exact ⟨Nat.le_refl _,hi,by simp only [NT.acc,NT.slk];omega,Nat.zero_le _,fun _ _ ha=>ha⟩
  | and=>
   simp only [G]
   refine (ih' .cmp i hi (by simp)).bind (by simp only [NT.rank];omega) fun a n j A=>?_
   have A1:=A.from_;have A2:=A.to_;have A3:=A.len;have A4:=A.ok
   simp only [NT.pg,NT.acc,NT.slk,NT.cnt,List.length_nil] at A1 A3 A4
   refine (ih' (.andL a) j A2 (by simp)).mono (by simp only [NT.rank];omega) fun b n k B=>?_
   have B1:=B.from_;have B2:=B.to_;have B3:=B.len;have B4:=B.ok;have B5:=B.cnt
   simp only [NT.pg,NT.acc,NT.slk,NT.cnt] at B1 B3 B4 B5
   exact ⟨by simp only [NT.pg];omega,B2,by simp only [NT.acc,NT.slk,List.length_nil];omega,by simp only [NT.cnt];omega,fun hT hc ha=>B4 hT (by omega) (A4 hT (by omega) .nil)⟩
  | andL a=>
   simp only [G]
   split
   ·rename_i h1
    have l1:=isT_lt h1
    refine (ih' .cmp (i + 1) (by omega) (by simp)).bind (by simp only [NT.rank];omega) fun b n j A=>?_
    have A1:=A.from_;have A2:=A.to_;have A3:=A.len;have A4:=A.ok
    simp only [NT.pg,NT.acc,NT.slk,NT.cnt,List.length_nil] at A1 A3 A4
    refine (ih' (.andL (a++b++[nOp 19 2])) j A2 (by simp)).mono (by simp only [NT.rank];omega) fun c n k B=>?_
    have B1:=B.from_;have B2:=B.to_;have B3:=B.len;have B4:=B.ok;have B5:=B.cnt
    simp only [NT.pg,NT.acc,NT.slk,NT.cnt,List.length_append,List.length_singleton] at B1 B3 B4 B5
    exact ⟨by simp only [NT.pg];omega,B2,by simp only [NT.acc,NT.slk];omega,by simp only [NT.cnt];omega,fun hT hc ha=>B4 hT (by omega) ((ha.app (A4 hT (by omega) .nil)).app (nOp_ok (by decide)))⟩
   ·exact ⟨Nat.le_refl _,hi,by simp only [NT.acc,NT.slk];omega,Nat.zero_le _,fun _ _ ha=>ha⟩
  | cmp=>
   simp only [G]
   refine (ih' .sum i hi (by simp)).bind (by simp only [NT.rank];omega) fun a n j A=>?_
   have A1:=A.from_;have A2:=A.to_;have A3:=A.len;have A4:=A.ok
   simp only [NT.pg,NT.acc,NT.slk,NT.cnt,List.length_nil] at A1 A3 A4
   split
   ·rename_i h1
    have l1:=relT_lt h1
    refine (ih' .sum (j + 1) (by omega) (by simp)).bind (by simp only [NT.rank];omega) fun b n' k B=>?_
    have B1:=B.from_;have B2:=B.to_;have B3:=B.len;have B4:=B.ok
    simp only [NT.pg,NT.acc,NT.slk,NT.cnt,List.length_nil] at B1 B3 B4
    exact ⟨by simp only [NT.pg];omega,B2,by simp only [List.length_append,List.length_singleton,NT.acc,NT.slk,List.length_nil];omega,Nat.zero_le _,fun hT hc ha=>((A4 hT (by omega) .nil).app (B4 hT (by omega) .nil)).app (nOp_ok (by decide))⟩
   ·split
    ·rename_i h1
     have l1:=isT_lt h1
     refine (ih' .sum (j + 1) (by omega) (by simp)).bind (by simp only [NT.rank];omega) fun b n' k B=>?_
     have B1:=B.from_;have B2:=B.to_;have B3:=B.len;have B4:=B.ok
     simp only [NT.pg,NT.acc,NT.slk,NT.cnt,List.length_nil] at B1 B3 B4
     split
     ·rename_i h2
      have l2:=isT_lt h2
      refine (ih' .sum (k + 1) (by omega) (by simp)).bind (by simp only [NT.rank];omega) fun c n'' m C=>?_
      have C1:=C.from_;have C2:=C.to_;have C3:=C.len;have C4:=C.ok
      simp only [NT.pg,NT.acc,NT.slk,NT.cnt,List.length_nil] at C1 C3 C4
      exact ⟨by simp only [NT.pg];omega,C2,by simp only [List.length_append,List.length_singleton,NT.acc,NT.slk,List.length_nil];omega,Nat.zero_le _,fun hT hc ha=>(((A4 hT (by omega) .nil).app (B4 hT (by omega) .nil)).app (C4 hT (by omega) .nil)).app (nOp_ok (by decide))⟩
     ·trivial
    ·split
     ·rename_i h1
      have l1:=isT_lt h1
      refine (ih' .grp (j + 1) (by omega) (by simp)).bind (by simp only [NT.rank];omega) fun b n' k B=>?_
      have B1:=B.from_;have B2:=B.to_;have B3:=B.len;have B4:=B.ok
      simp only [NT.pg,NT.acc,NT.slk,NT.cnt,List.length_nil] at B1 B3 B4
      exact ⟨by simp only [NT.pg];omega,B2,by simp only [List.length_append,List.length_singleton,NT.acc,NT.slk,List.length_nil];omega,Nat.zero_le _,fun hT hc ha=>((A4 hT (by omega) .nil).app (B4 hT (by omega) .nil)).app (nOp_ok (by decide))⟩
     ·exact ⟨by simp only [NT.pg];omega,A2,by simp only [NT.acc,NT.slk,List.length_nil];omega,Nat.zero_le _,fun hT hc ha=>A4 hT (by omega) .nil⟩
  | sum=>
   simp only [G]
   refine (ih' .prod i hi (by simp)).bind (by simp only [NT.rank];omega) fun a n j A=>?_
   have A1:=A.from_;have A2:=A.to_;have A3:=A.len;have A4:=A.ok
   simp only [NT.pg,NT.acc,NT.slk,NT.cnt,List.length_nil] at A1 A3 A4
   refine (ih' (.sumL a) j A2 (by simp)).mono (by simp only [NT.rank];omega) fun b n k B=>?_
   have B1:=B.from_;have B2:=B.to_;have B3:=B.len;have B4:=B.ok;have B5:=B.cnt
   simp only [NT.pg,NT.acc,NT.slk,NT.cnt] at B1 B3 B4 B5
   exact ⟨by simp only [NT.pg];omega,B2,by simp only [NT.acc,NT.slk,List.length_nil];omega,by simp only [NT.cnt];omega,fun hT hc ha=>B4 hT (by omega) (A4 hT (by omega) .nil)⟩
  | sumL a=>
   simp only [G]
   split
   ·rename_i h1
    have l1:=isT_lt h1
    refine (ih' .prod (i + 1) (by omega) (by simp)).bind (by simp only [NT.rank];omega) fun b n j A=>?_
    have A1:=A.from_;have A2:=A.to_;have A3:=A.len;have A4:=A.ok
    simp only [NT.pg,NT.acc,NT.slk,NT.cnt,List.length_nil] at A1 A3 A4
    refine (ih' (.sumL (a++b++[nOp 9 2])) j A2 (by simp)).mono (by simp only [NT.rank];omega) fun c n k B=>?_
    have B1:=B.from_;have B2:=B.to_;have B3:=B.len;have B4:=B.ok;have B5:=B.cnt
    simp only [NT.pg,NT.acc,NT.slk,NT.cnt,List.length_append,List.length_singleton] at B1 B3 B4 B5
    exact ⟨by simp only [NT.pg];omega,B2,by simp only [NT.acc,NT.slk];omega,by simp only [NT.cnt];omega,fun hT hc ha=>B4 hT (by omega) ((ha.app (A4 hT (by omega) .nil)).app (nOp_ok (by decide)))⟩
   ·split
    ·rename_i h1
     have l1:=isT_lt h1
     refine (ih' .prod (i + 1) (by omega) (by simp)).bind (by simp only [NT.rank];omega) fun b n j A=>?_
     have A1:=A.from_;have A2:=A.to_;have A3:=A.len;have A4:=A.ok
     simp only [NT.pg,NT.acc,NT.slk,NT.cnt,List.length_nil] at A1 A3 A4
     refine (ih' (.sumL (a++b++[nOp 10 2])) j A2 (by simp)).mono (by simp only [NT.rank];omega) fun c n k B=>?_
     have B1:=B.from_;have B2:=B.to_;have B3:=B.len;have B4:=B.ok;have B5:=B.cnt
     simp only [NT.pg,NT.acc,NT.slk,NT.cnt,List.length_append,List.length_singleton] at B1 B3 B4 B5
     exact ⟨by simp only [NT.pg];omega,B2,by simp only [NT.acc,NT.slk];omega,by simp only [NT.cnt];omega,fun hT hc ha=>B4 hT (by omega) ((ha.app (A4 hT (by omega) .nil)).app (nOp_ok (by decide)))⟩
    ·exact ⟨Nat.le_refl _,hi,by simp only [NT.acc,NT.slk];omega,Nat.zero_le _,fun _ _ ha=>ha⟩
  | prod=>
   simp only [G]
   refine (ih' .sgn i hi (by simp)).bind (by simp only [NT.rank];omega) fun a n j A=>?_
   have A1:=A.from_;have A2:=A.to_;have A3:=A.len;have A4:=A.ok
   simp only [NT.pg,NT.acc,NT.slk,NT.cnt,List.length_nil] at A1 A3 A4
   refine (ih' (.prodL a) j A2 (by simp)).mono (by simp only [NT.rank];omega) fun b n k B=>?_
   have B1:=B.from_;have B2:=B.to_;have B3:=B.len;have B4:=B.ok;have B5:=B.cnt
   simp only [NT.pg,NT.acc,NT.slk,NT.cnt] at B1 B3 B4 B5
   exact ⟨by simp only [NT.pg];omega,B2,by simp only [NT.acc,NT.slk,List.length_nil];omega,by simp only [NT.cnt];omega,fun hT hc ha=>B4 hT (by omega) (A4 hT (by omega) .nil)⟩
  | prodL a=>
   simp only [G]
   split
   ·rename_i h1
    have l1:=isT_lt h1
    refine (ih' .sgn (i + 1) (by omega) (by simp)).bind (by simp only [NT.rank];omega) fun b n j A=>?_
    have A1:=A.from_;have A2:=A.to_;have A3:=A.len;have A4:=A.ok
    simp only [NT.pg,NT.acc,NT.slk,NT.cnt,List.length_nil] at A1 A3 A4
    refine (ih' (.prodL (a++b++[nOp 11 2])) j A2 (by simp)).mono (by simp only [NT.rank];omega) fun c n k B=>?_
    have B1:=B.from_;have B2:=B.to_;have B3:=B.len;have B4:=B.ok;have B5:=B.cnt
    simp only [NT.pg,NT.acc,NT.slk,NT.cnt,List.length_append,List.length_singleton] at B1 B3 B4 B5
    exact ⟨by simp only [NT.pg];omega,B2,by simp only [NT.acc,NT.slk];omega,by simp only [NT.cnt];omega,fun hT hc ha=>B4 hT (by omega) ((ha.app (A4 hT (by omega) .nil)).app (nOp_ok (by decide)))⟩
   ·split
    ·rename_i h1
     have l1:=isT_lt h1
     refine (ih' .sgn (i + 1) (by omega) (by simp)).bind (by simp only [NT.rank];omega) fun b n j A=>?_
     have A1:=A.from_;have A2:=A.to_;have A3:=A.len;have A4:=A.ok
     simp only [NT.pg,NT.acc,NT.slk,NT.cnt,List.length_nil] at A1 A3 A4
     refine (ih' (.prodL (a++b++[nOp 12 2])) j A2 (by simp)).mono (by simp only [NT.rank];omega) fun c n k B=>?_
     have B1:=B.from_;have B2:=B.to_;have B3:=B.len;have B4:=B.ok;have B5:=B.cnt
     simp only [NT.pg,NT.acc,NT.slk,NT.cnt,List.length_append,List.length_singleton] at B1 B3 B4 B5
     exact ⟨by simp only [NT.pg];omega,B2,by simp only [NT.acc,NT.slk];omega,by simp only [NT.cnt];omega,fun hT hc ha=>B4 hT (by omega) ((ha.app (A4 hT (by omega) .nil)).app (nOp_ok (by decide)))⟩
    ·exact ⟨Nat.le_refl _,hi,by simp only [NT.acc,NT.slk];omega,Nat.zero_le _,fun _ _ ha=>ha⟩
  | sgn=>
   simp only [G]
   split
   ·rename_i h1
    have l1:=isT_lt h1
    refine (ih' .sgn (i + 1) (by omega) (by simp)).bind (by simp only [NT.rank];omega) fun a n j A=>?_
    have A1:=A.from_;have A2:=A.to_;have A3:=A.len;have A4:=A.ok
    simp only [NT.pg,NT.acc,NT.slk,NT.cnt,List.length_nil] at A1 A3 A4
    exact ⟨by simp only [NT.pg];omega,A2,by simp only [List.length_append,List.length_singleton,NT.acc,NT.slk,List.length_nil];omega,Nat.zero_le _,fun hT hc ha=>(A4 hT (by omega) .nil).app (nOp_ok (by decide))⟩
   ·refine (ih' .sing i hi (by simp)).bind (by simp only [NT.rank];omega) fun a n j A=>?_
    have A1:=A.from_;have A2:=A.to_;have A3:=A.len;have A4:=A.ok
    simp only [NT.pg,NT.acc,NT.slk,NT.cnt,List.length_nil] at A1 A3 A4
    refine (ih' (.pathL a) j A2 (by simp)).mono (by simp only [NT.rank];omega) fun b n k B=>?_
    have B1:=B.from_;have B2:=B.to_;have B3:=B.len;have B4:=B.ok;have B5:=B.cnt
    simp only [NT.pg,NT.acc,NT.slk,NT.cnt] at B1 B3 B4 B5
    exact ⟨by simp only [NT.pg];omega,B2,by simp only [NT.acc,NT.slk,List.length_nil];omega,by simp only [NT.cnt];omega,fun hT hc ha=>B4 hT (by omega) (A4 hT (by omega) .nil)⟩
  | pathL a=>
   simp only [G]
   split
   ·rename_i h1
    have l1:=isT_lt h1
    cases ht:T[i + 1]? with
    | none=>trivial
    | some t=>
     have l2:=some_lt ht
     simp only
     split
     ·refine (ih' (.pathL (a++[nTx 24 1 t.text])) (i + 2) (by omega) (by simp)).mono (by simp only [NT.rank];omega) fun b n k B=>?_
      have B1:=B.from_;have B2:=B.to_;have B3:=B.len;have B4:=B.ok;have B5:=B.cnt
      simp only [NT.pg,NT.acc,NT.slk,NT.cnt,List.length_append,List.length_singleton] at B1 B3 B4 B5
      exact ⟨by simp only [NT.pg];omega,B2,by simp only [NT.acc,NT.slk];omega,by simp only [NT.cnt];omega,fun hT hc ha=>B4 hT (by omega) (ha.app (nTx_ok (tok_text hT ht) (by decide)))⟩
     ·trivial
   ·exact ⟨Nat.le_refl _,hi,by simp only [NT.acc,NT.slk];omega,Nat.zero_le _,fun _ _ ha=>ha⟩
  | sing=>
   simp only [G]
   cases ht:T[i]? with
   | none=>trivial
   | some t=>
    have l1:=some_lt ht
    simp only
    split
    ·exact ⟨Nat.le_refl _,l1,by simp [NT.acc,NT.slk],Nat.zero_le _,fun hT hc ha=>nNum_ok (hT.all t (List.mem_of_getElem? ht))⟩
    split
    ·exact ⟨Nat.le_refl _,l1,by simp [NT.acc,NT.slk],Nat.zero_le _,fun hT hc ha=>nTx_ok (tok_text hT ht) (by decide)⟩
    split
    ·exact ⟨Nat.le_refl _,l1,by simp [NT.acc,NT.slk],Nat.zero_le _,fun hT hc ha=>nDay_ok t⟩
    split
    ·split
     ·rename_i h1
      have l2:=isT_lt h1
      refine (ih' (.list 41) (i + 2) (by omega) (by simp)).bind (by simp only [NT.rank];omega) fun a n j A=>?_
      have A1:=A.from_;have A2:=A.to_;have A3:=A.len;have A4:=A.ok;have A5:=A.cnt
      simp only [NT.pg,NT.acc,NT.slk,NT.cnt,List.length_nil] at A1 A3 A4 A5
      split
      ·trivial
      ·exact ⟨by simp only [NT.pg];omega,A2,by simp only [List.length_append,List.length_singleton,NT.acc,NT.slk,List.length_nil];omega,Nat.zero_le _,fun hT hc ha=>(A4 hT (by omega) .nil).app (nTx_ok (tok_text hT ht) (GS.k hT (by omega)))⟩
     ·exact ⟨Nat.le_refl _,l1,by simp [NT.acc,NT.slk],Nat.zero_le _,fun hT hc ha=>nTx_ok (tok_text hT ht) (by decide)⟩
    split
    ·exact ⟨Nat.le_refl _,l1,by simp [NT.acc,NT.slk],Nat.zero_le _,fun hT hc ha=>nOp_ok (by decide)⟩
    split
    ·exact ⟨Nat.le_refl _,l1,by simp [NT.acc,NT.slk],Nat.zero_le _,fun hT hc ha=>nOp_ok (by decide)⟩
    split
    ·exact ⟨Nat.le_refl _,l1,by simp [NT.acc,NT.slk],Nat.zero_le _,fun hT hc ha=>nOp_ok (by decide)⟩
    split
    ·refine (ih' .expr (i + 1) (by omega) (by simp)).bind (by simp only [NT.rank];omega) fun a n j A=>?_
     have A1:=A.from_;have A2:=A.to_;have A3:=A.len;have A4:=A.ok
     simp only [NT.pg,NT.acc,NT.slk,NT.cnt,List.length_nil] at A1 A3 A4
     split
     ·rename_i h2
      have l2:=isT_lt h2
      exact ⟨by simp only [NT.pg];omega,by omega,by simp only [NT.acc,NT.slk,List.length_nil];omega,Nat.zero_le _,fun hT hc ha=>A4 hT (by omega) .nil⟩
     ·trivial
    split
    ·refine (ih' (.list 93) (i + 1) (by omega) (by simp)).bind (by simp only [NT.rank];omega) fun a n j A=>?_
     have A1:=A.from_;have A2:=A.to_;have A3:=A.len;have A4:=A.ok;have A5:=A.cnt
     simp only [NT.pg,NT.acc,NT.slk,NT.cnt,List.length_nil] at A1 A3 A4 A5
     exact ⟨by simp only [NT.pg];omega,A2,by simp only [List.length_append,List.length_singleton,NT.acc,NT.slk,List.length_nil];omega,Nat.zero_le _,fun hT hc ha=>(A4 hT (by omega) .nil).app (nOp_ok (GS.k hT (by omega)))⟩
    split
    ·refine (ih' .ctx (i + 1) (by omega) (by simp)).bind (by simp only [NT.rank];omega) fun a n j A=>?_
     have A1:=A.from_;have A2:=A.to_;have A3:=A.len;have A4:=A.ok;have A5:=A.cnt
     simp only [NT.pg,NT.acc,NT.slk,NT.cnt,List.length_nil] at A1 A3 A4 A5
     exact ⟨by simp only [NT.pg];omega,A2,by simp only [List.length_append,List.length_singleton,NT.acc,NT.slk,List.length_nil];omega,Nat.zero_le _,fun hT hc ha=>(A4 hT (by omega) .nil).app (nOp_ok (GS.k hT (by omega)))⟩
    ·trivial
  | list e=>
   simp only [G]
   split
   ·rename_i h1
    have l1:=isT_lt h1
    exact ⟨Nat.le_refl _,l1,by simp [NT.acc,NT.slk],Nat.zero_le _,fun hT hc ha=>.nil⟩
   ·refine (ih' (.listL e [] 0) i hi (by simp)).mono (by simp only [NT.rank];omega) fun a n j A=>⟨A.from_,A.to_,A.len,A.cnt,A.ok⟩
  | listL e a n=>
   simp only [G]
   refine (ih' .expr i hi (by simp)).bind (by simp only [NT.rank];omega) fun b _ j A=>?_
   have A1:=A.from_;have A2:=A.to_;have A3:=A.len;have A4:=A.ok
   simp only [NT.pg,NT.acc,NT.slk,NT.cnt,List.length_nil] at A1 A3 A4
   split
   ·rename_i h1
    have l1:=isT_lt h1
    exact ⟨by simp only [NT.pg];omega,by omega,by simp only [List.length_append,NT.acc,NT.slk];omega,by simp only [NT.cnt];omega,fun hT hc ha=>ha.app (A4 hT (by omega) .nil)⟩
   ·split
    ·rename_i h1
     have l1:=isT_lt h1
     refine (ih' (.listL e (a++b) (n + 1)) (j + 1) (by omega) (by simp)).mono (by simp only [NT.rank];omega) fun c m k B=>?_
     have B1:=B.from_;have B2:=B.to_;have B3:=B.len;have B4:=B.ok;have B5:=B.cnt
     simp only [NT.pg,NT.acc,NT.slk,NT.cnt,List.length_append] at B1 B3 B4 B5
     exact ⟨by simp only [NT.pg];omega,B2,by simp only [NT.acc,NT.slk];omega,by simp only [NT.cnt];omega,fun hT hc ha=>B4 hT (by simp only [NT.cnt] at hc;omega) (ha.app (A4 hT (by omega) .nil))⟩
    ·trivial
  | ctx=>
   simp only [G]
   split
   ·rename_i h1
    have l1:=isT_lt h1
    exact ⟨Nat.le_refl _,l1,by simp [NT.acc,NT.slk],Nat.zero_le _,fun hT hc ha=>.nil⟩
   ·refine (ih' (.ctxL [] []) i hi (by simp)).mono (by simp only [NT.rank];omega) fun a n j A=>⟨A.from_,A.to_,A.len,A.cnt,A.ok⟩
  | ctxL a ns=>
   simp only [G]
   cases ht:T[i]? with
   | none=>trivial
   | some t=>
    have l1:=some_lt ht
    simp only
    split
    ·split
     ·trivial
     ·split
      ·rename_i h1
       have l2:=isT_lt h1
       refine (ih' .expr (i + 2) (by omega) (by simp)).bind (by simp only [NT.rank];omega) fun b _ j A=>?_
       have A1:=A.from_;have A2:=A.to_;have A3:=A.len;have A4:=A.ok
       simp only [NT.pg,NT.acc,NT.slk,NT.cnt,List.length_nil] at A1 A3 A4
       split
       ·rename_i h1
        have l1:=isT_lt h1
        exact ⟨by simp only [NT.pg];omega,by omega,by simp only [List.length_append,List.length_singleton,NT.acc,NT.slk];omega,by simp only [NT.cnt];omega,fun hT hc ha=>(ha.app (A4 hT (by omega) .nil)).app (nTx_ok (tok_text hT ht) (by decide))⟩
       ·split
        ·rename_i h1
         have l1:=isT_lt h1
         refine (ih' (.ctxL (a++b++[nTx 28 1 t.text]) (ns++[t.text])) (j + 1) (by omega) (by simp)).mono (by simp only [NT.rank];omega) fun c m k B=>?_
         have B1:=B.from_;have B2:=B.to_;have B3:=B.len;have B4:=B.ok;have B5:=B.cnt
         simp only [NT.pg,NT.acc,NT.slk,NT.cnt,List.length_append,List.length_singleton] at B1 B3 B4 B5
         exact ⟨by simp only [NT.pg];omega,B2,by simp only [NT.acc,NT.slk];omega,by simp only [NT.cnt];omega,fun hT hc ha=>B4 hT (by simp only [NT.cnt] at hc;omega) ((ha.app (A4 hT (by omega) .nil)).app (nTx_ok (tok_text hT ht) (by decide)))⟩
        ·trivial
      ·trivial
    ·trivial
  | grp=>
   simp only [G]
   split
   ·rename_i h1
    have l1:=isT_lt h1
    refine (ih' .tests (i + 1) (by omega) (by simp)).bind (by simp only [NT.rank];omega) fun a n j A=>?_
    have A1:=A.from_;have A2:=A.to_;have A3:=A.len;have A4:=A.ok
    simp only [NT.pg,NT.acc,NT.slk,NT.cnt,List.length_nil] at A1 A3 A4
    split
    ·rename_i h2
     have l2:=isT_lt h2
     exact ⟨by simp only [NT.pg];omega,by omega,by simp only [NT.acc,NT.slk,List.length_nil];omega,Nat.zero_le _,fun hT hc ha=>A4 hT (by omega) .nil⟩
    ·trivial
   ·trivial
  | tests=>
   simp only [G]
   refine (ih' .test i hi (by simp)).bind (by simp only [NT.rank];omega) fun a n j A=>?_
   have A1:=A.from_;have A2:=A.to_;have A3:=A.len;have A4:=A.ok
   simp only [NT.pg,NT.acc,NT.slk,NT.cnt,List.length_nil] at A1 A3 A4
   refine (ih' (.testsL a 1) j A2 (by simp)).mono (by simp only [NT.rank];omega) fun b n k B=>?_
   have B1:=B.from_;have B2:=B.to_;have B3:=B.len;have B4:=B.ok;have B5:=B.cnt
   simp only [NT.pg,NT.acc,NT.slk,NT.cnt] at B1 B3 B4 B5
   exact ⟨by simp only [NT.pg];omega,B2,by simp only [NT.acc,NT.slk,List.length_nil];omega,by simp only [NT.cnt];omega,fun hT hc ha=>B4 hT (by omega) (A4 hT (by omega) .nil)⟩
  | testsL a n=>
   simp only [G]
   split
   ·rename_i h1
    have l1:=isT_lt h1
    refine (ih' .test (i + 1) (by omega) (by simp)).bind (by simp only [NT.rank];omega) fun b _ j A=>?_
    have A1:=A.from_;have A2:=A.to_;have A3:=A.len;have A4:=A.ok
    simp only [NT.pg,NT.acc,NT.slk,NT.cnt,List.length_nil] at A1 A3 A4
    refine (ih' (.testsL (a++b) (n + 1)) j A2 (by simp)).mono (by simp only [NT.rank];omega) fun c m k B=>?_
    have B1:=B.from_;have B2:=B.to_;have B3:=B.len;have B4:=B.ok;have B5:=B.cnt
    simp only [NT.pg,NT.acc,NT.slk,NT.cnt,List.length_append] at B1 B3 B4 B5
    exact ⟨by simp only [NT.pg];omega,B2,by simp only [NT.acc,NT.slk];omega,by simp only [NT.cnt];omega,fun hT hc ha=>B4 hT (by simp only [NT.cnt] at hc;omega) (ha.app (A4 hT (by omega) .nil))⟩
   ·exact ⟨Nat.le_refl _,hi,by simp only [List.length_append,List.length_singleton,NT.acc,NT.slk];omega,Nat.zero_le _,fun hT hc ha=>ha.app (nOp_ok (by simp only [NT.cnt] at hc;exact GS.k hT (by omega)))⟩
  | test=>
   simp only [G]
   split
   ·rename_i h1
    have l1:i < T.length:=relT_lt (by omega)
    refine (ih' .sum (i + 1) (by omega) (by simp)).bind (by simp only [NT.rank];omega) fun a n j A=>?_
    have A1:=A.from_;have A2:=A.to_;have A3:=A.len;have A4:=A.ok
    simp only [NT.pg,NT.acc,NT.slk,NT.cnt,List.length_nil] at A1 A3 A4
    exact ⟨by simp only [NT.pg];omega,A2,by simp only [List.length_append,List.length_singleton,NT.acc,NT.slk,List.length_nil];omega,Nat.zero_le _,fun hT hc ha=>(A4 hT (by omega) .nil).app (nOp_ok (by decide))⟩
   ·split
    ·rename_i h1
     have l1:i < T.length:=by
      rw [Bool.and_eq_true,Bool.or_eq_true] at h1
      rcases h1.1 with h|h <;> exact isT_lt h
     refine (ih' .sum (i + 1) (by omega) (by simp)).bind (by simp only [NT.rank];omega) fun a n j A=>?_
     have A1:=A.from_;have A2:=A.to_;have A3:=A.len;have A4:=A.ok
     simp only [NT.pg,NT.acc,NT.slk,NT.cnt,List.length_nil] at A1 A3 A4
     split
     ·rename_i h2
      have l2:=isT_lt h2
      refine (ih' .sum (j + 1) (by omega) (by simp)).bind (by simp only [NT.rank];omega) fun b n' k B=>?_
      have B1:=B.from_;have B2:=B.to_;have B3:=B.len;have B4:=B.ok
      simp only [NT.pg,NT.acc,NT.slk,NT.cnt,List.length_nil] at B1 B3 B4
      split
      ·rename_i h3
       have l3:k < T.length:=by
        rw [Bool.or_eq_true] at h3
        rcases h3 with h|h <;> exact isT_lt h
       exact ⟨by simp only [NT.pg];omega,by omega,by simp only [List.length_append,List.length_singleton,NT.acc,NT.slk,List.length_nil];omega,Nat.zero_le _,fun hT hc ha=>((A4 hT (by omega) .nil).app (B4 hT (by omega) .nil)).app (nTx_ok (by rw [ByteArray.size_append];have:=sgT_size hT i;have:=sgT_size hT k;omega) (by decide))⟩
      ·trivial
     ·trivial
    ·refine (ih' .sum i hi (by simp)).bind (by simp only [NT.rank];omega) fun a n j A=>?_
     have A1:=A.from_;have A2:=A.to_;have A3:=A.len;have A4:=A.ok
     simp only [NT.pg,NT.acc,NT.slk,NT.cnt,List.length_nil] at A1 A3 A4
     exact ⟨by simp only [NT.pg];omega,A2,by simp only [List.length_append,List.length_singleton,NT.acc,NT.slk,List.length_nil];omega,Nat.zero_le _,fun hT hc ha=>(A4 hT (by omega) .nil).app (nOp_ok (by decide))⟩
  | unary=>
   obtain rfl:i=0:=hu rfl
   simp only [G]
   split
   ·rename_i h1
    exact ⟨Nat.le_refl _,by omega,by simp [NT.acc,NT.slk],Nat.zero_le _,fun hT hc ha=>nOp_ok (by decide)⟩
   ·split
    ·rename_i h1
     have l1:=isT_lt h1
     refine (ih' .grp 1 (by omega) (by simp)).bind (by simp only [NT.rank];omega) fun a n j A=>?_
     have A1:=A.from_;have A2:=A.to_;have A3:=A.len;have A4:=A.ok
     simp only [NT.pg,NT.acc,NT.slk,NT.cnt,List.length_nil] at A1 A3 A4
     exact ⟨by simp only [NT.pg];omega,A2,by simp only [List.length_append,List.length_singleton,NT.acc,NT.slk,List.length_nil];omega,Nat.zero_le _,fun hT hc ha=>(A4 hT (by omega) .nil).app (nOp_ok (by decide))⟩
    ·refine (ih' .tests 0 hi (by simp)).mono (by simp only [NT.rank];omega) fun a n j A=>?_
     have A3:=A.len
     simp only [NT.acc,NT.slk,List.length_nil] at A3
     exact ⟨A.from_,A.to_,by simp only [NT.acc,NT.slk,List.length_nil];omega,A.cnt,A.ok⟩
end
def faultE:Ending:=.panicked [{ v:=.iface 227 (.agg #[]),recovered:=false}]
def XPost (r:PR) (v:Nat→Value) (w0:World) (R:Nat) (tp:Option Addr) (n tc:Nat) (acc:List NodeD) (rest:List Res) (e:Ending) (w' : World):Prop:=match r with
 | .out=>False
 | .no=>e=faultE∧Below w0.heap.size w0 w'
 | .ok l k j=>∃ op oc,e = .returned (v k)∧Mem w0 w' (.box R 231 [.slice tp n tc,.int .i64 j,.slice op (acc++l).length oc] :: .row op oc 46 8 (acc++l).length ((acc++l).flatMap NodeD.cs) :: rest)
def unitV:Nat→Value:=fun _=>.tuple #[]
def cntV:Nat→Value:=fun k=>.int .i64 k
theorem XPost.no_ {r:PR} {v:Nat→Value} {w0:World} {R:Nat} {tp:Option Addr} {n tc:Nat} {acc:List NodeD} {rest:List Res} {w' : World} (h:r = .no) (hb:Below w0.heap.size w0 w'):XPost r v w0 R tp n tc acc rest faultE w':=by
 subst h
 exact ⟨rfl,hb⟩
theorem XPost.ok_ {r:PR} {v:Nat→Value} {w0:World} {R:Nat} {tp:Option Addr} {n tc:Nat} {acc acc' : List NodeD} {rest:List Res} {w' : World} {l:List NodeD} {k j oc:Nat} {op:Option Addr} (h:PR.ok l k j=r) (ha:acc' = acc++l) (hM:Mem w0 w' (.box R 231 [.slice tp n tc,.int .i64 j,.slice op acc'.length oc] :: .row op oc 46 8 acc'.length (acc'.flatMap NodeD.cs) :: rest)):XPost r v w0 R tp n tc acc rest (.returned (v k)) w':=by
 subst h ha
 exact ⟨op,oc,rfl,hM⟩
def XC (T:List TokD) (f:FuncId) (N:NT) (fuel:Nat):Prop:=
 ∀ (w0 W:World) (R:Nat) (tp:Option Addr) (tc i:Nat) (op:Option Addr) (oc:Nat) (acc:List NodeD) (rest:List Res),Sl w0 tp (T.flatMap TokD.cs)→Mem w0 W (.box R 231 [.slice tp T.length tc,.int .i64 i,.slice op acc.length oc] :: .row op oc 46 8 acc.length (acc.flatMap NodeD.cs) :: rest)→
  i≤T.length→acc.length≤i + 2→G T fuel N i≠.out→Calls Tryz.prog f #[.pointer (some ⟨R,0,none⟩)] W (XPost (G T fuel N i) unitV w0 R tp T.length tc acc rest)
section
variable {T:List TokD} {w0 W:World} {R:Nat} {tp:Option Addr} {tc i oc:Nat} {op:Option Addr} {acc:List NodeD} {rest:List Res} {f:FuncId} {N:NT} {fuel:Nat} {r:PR} {K:Ending→World→Prop}
theorem G_ok {l:List NodeD} {n j:Nat} (h:G T fuel N i = .ok l n j) (hi:i≤T.length) (hN:N = .unary→i=0):GS T N i l n j:=by
 have:=G_good fuel N i hi hN
 rw [h] at this
 exact this
theorem XC.use {x:Int} (h:XC T f N fuel) {k:List NodeD→Nat→Nat→PR} (HR:(G T fuel N i).bind k=r) (hr:r≠.out) (HT:Sl w0 tp (T.flatMap TokD.cs)) (HM:Mem w0 W (.box R 231 [.slice tp T.length tc,.int .i64 x,.slice op acc.length oc] :: .row op oc 46 8 acc.length (acc.flatMap NodeD.cs) :: rest)) (hx:x=(i:Int))
  (hi:i≤T.length) (ha:acc.length≤i + 2) (hno:r = .no→∀ W',Below w0.heap.size w0 W'→K faultE W')
  (hok:∀ (l:List NodeD) (m j:Nat),k l m j=r→(N≠.unary→GS T N i l m j)→∀ (op:Option Addr) (oc:Nat) (W' : World),Mem w0 W' (.box R 231 [.slice tp T.length tc,.int .i64 j,.slice op (acc++l).length oc] :: .row op oc 46 8 (acc++l).length ((acc++l).flatMap NodeD.cs) :: rest)→K (.returned (.tuple #[])) W') :
  Calls Tryz.prog f #[.pointer (some ⟨R,0,none⟩)] W K:=by
 subst hx
 have hne:G T fuel N i≠.out:=fun e=>by rw [e] at HR;exact hr HR.symm
 refine (h w0 W R tp tc i op oc acc rest HT HM hi ha hne).mono fun e W' hp=>?_
 cases hg:G T fuel N i with
 | out=>exact absurd hg hne
 | no=>
  rw [hg] at hp HR
  obtain ⟨rfl,hb⟩:=hp
  exact hno HR.symm W' hb
 | ok l m j=>
  rw [hg] at hp HR
  obtain ⟨op',oc',rfl,hM⟩:=hp
  exact hok l m j HR (fun hN=>G_ok hg hi (fun e=>absurd e hN)) op' oc' W' hM
theorem toList_of {x:ByteArray} {s:List UInt8} (h:x.data.toList=s):x.toList=s:=by rw [ByteArray.toList_eq];exact h
theorem GS.lenc {l:List NodeD} {m j:Nat} (h:GS T N i l m j) (c:Nat) (h0:N.acc=[]) (h1:N.slk=c) (h2:N.pg=1):l.length≤j - i + c∧i + 1≤j∧j≤T.length:=by
 have h3:=h.len
 have h4:=h.from_
 have h5:=h.to_
 rw [h0,h1,List.length_nil] at h3
 rw [h2] at h4
 omega
theorem bind_ok (r:PR):r.bind (fun l n j=>.ok l n j)=r:=by cases r <;> rfl
theorem xrd_at {d:Int} {A V:Value} (h:Mem w0 W (.box R 231 [A,.int .i64 d,V] :: rest)):(intOf ((W.cell? ⟨R,1,none⟩).getD undef)).toNat=d.toNat:=by
 have hc:=box_cells (h.get (k:=0) rfl) 0 1 (.int .i64 d) rfl
 rw [add_none] at hc
 rw [show W.cell? ⟨R,1,none⟩=some (.int .i64 d) from hc]
 rfl
end
end Go.Proofs.YtnghlakllgkjlaaGreatDoor
