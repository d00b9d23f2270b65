/- Nodes as they come in: plain data; what a bound on the whole gives. -/
import Derived.OpenShut
import Derived.Test.YtnghlakllgkjlaaGreatDoorSepA
import Derived.Test.YtnghlakllgkjlaaGreatDoorRows
import Derived.Test.YtnghlakllgkjlaaGreatDoorPlainA
namespace Go.Proofs.YtnghlakllgkjlaaGreatDoor
open Go.RowKit Go.ChangeShapes Go.WideShapes Go.Deep
set_option linter.unusedVariables false
set_option maxRecDepth 100000
theorem word_nat {v:Int} (h:(Lit.int .u64 v).wf=true):∃ n:Nat,v=(n:Int)∧n < 2 ^ 64:=by
 have:=bounds_u64 h
 exact ⟨v.toNat,by omega,by omega⟩
section
variable {H:Type} {enc:TypeId × Value→H} {w:World} {base:Nat} {spare:Nat→Bool} {held:Bool}
theorem node_dec {n:Nat} {cs:List Value} {x:DataW H × List MemPlace} (h:DataW.trod enc Tryz.prog w base spare held n 46 cs=some x) :
  ∃ y:NodeD,cs=y.cs∧(y.hi < 2 ^ 64∧y.lo < 2 ^ 64∧(-9223372036854775808≤y.kids∧y.kids≤9223372036854775807)∧y.text.size≤Rows.uptoBulk x.1):=by
 obtain ⟨xs,m,-,rfl,hl,hlen,hf⟩:=DataW.trod_struct Tryz.underlying46 h
 rw [show Tryz.prog.cellsOf 46=8 by kernel_rfl] at hl
 have k1:Tryz.prog.cellsOf 3=1:=by kernel_rfl
 have k2:Tryz.prog.cellsOf 9=1:=by kernel_rfl
 have k3:Tryz.prog.cellsOf 26=4:=by kernel_rfl
 have k4:Tryz.prog.cellsOf 24=2:=by kernel_rfl
 have k5:Tryz.prog.cellsOf 4=1:=by kernel_rfl
 have k6:Tryz.prog.cellsOf 22=1:=by kernel_rfl
 match cs,hl,xs,hlen with
 | [c0,c1,c2,c3,c4,c5,c6,c7],_,[y0,y1,y2,y3,y4],_=>
  have h0:DataW.trod enc Tryz.prog w base spare held m 3 [c0]=some y0:=field_at hf 0 3 0 1 rfl k1
  have h1:DataW.trod enc Tryz.prog w base spare held m 3 [c1]=some y1:=field_at hf 1 3 1 1 rfl k1
  have h2:DataW.trod enc Tryz.prog w base spare held m 9 [c2]=some y2:=field_at hf 2 9 2 1 rfl k2
  have h3:DataW.trod enc Tryz.prog w base spare held m 26 [c3,c4,c5,c6]=some y3:=field_at hf 3 26 3 4 rfl k3
  have h4:DataW.trod enc Tryz.prog w base spare held m 3 [c7]=some y4:=field_at hf 4 3 7 1 rfl k1
  obtain ⟨v0,e0,-,-⟩:=DataW.trod_int (x:=y0) Tryz.underlying3 h0
  obtain ⟨v1,e1,-,w1⟩:=DataW.trod_int (x:=y1) Tryz.underlying3 h1
  obtain ⟨v2,e2,x2,-⟩:=DataW.trod_string (x:=y2) Tryz.underlying9 h2
  obtain ⟨v7,e7,-,-⟩:=DataW.trod_int (x:=y4) Tryz.underlying3 h4
  obtain ⟨ys,m3,-,-,-,hl3,hf3⟩:=DataW.trod_struct (x:=y3) Tryz.underlying26 h3
  match ys,hl3 with
  | [z0,z1,z2],_=>
   have g0:DataW.trod enc Tryz.prog w base spare held m3 4 [c3]=some z0:=field_at hf3 0 4 0 1 rfl k5
   have g1:DataW.trod enc Tryz.prog w base spare held m3 24 [c4,c5]=some z1:=field_at hf3 1 24 1 2 rfl k4
   have g2:DataW.trod enc Tryz.prog w base spare held m3 3 [c6]=some z2:=field_at hf3 2 3 3 1 rfl k1
   obtain ⟨v3,e3,-⟩:=DataW.trod_bool (x:=z0) Tryz.underlying4 g0
   obtain ⟨v6,e6,-,-⟩:=DataW.trod_int (x:=z2) Tryz.underlying3 g2
   obtain ⟨us,m4,-,-,-,hl4,hf4⟩:=DataW.trod_struct (x:=z1) Tryz.underlying24 g1
   match us,hl4 with
   | [u0,u1],_=>
    have f0:DataW.trod enc Tryz.prog w base spare held m4 22 [c4]=some u0:=field_at hf4 0 22 0 1 rfl k6
    have f1:DataW.trod enc Tryz.prog w base spare held m4 22 [c5]=some u1:=field_at hf4 1 22 1 1 rfl k6
    obtain ⟨v4,e4,-,w4⟩:=DataW.trod_int (x:=u0) Tryz.underlying22 f0
    obtain ⟨v5,e5,-,w5⟩:=DataW.trod_int (x:=u1) Tryz.underlying22 f1
    simp at e0 e1 e2 e3 e4 e5 e6 e7
    subst e0 e1 e2 e3 e4 e5 e6 e7
    obtain ⟨n4,rfl,l4⟩:=word_nat w4
    obtain ⟨n5,rfl,l5⟩:=word_nat w5
    refine ⟨⟨v0,v1,v2,v3,n4,n5,v6,v7⟩,rfl,l4,l5,bounds_i64 w1,?_⟩
    have hb:Rows.uptoBulk y2.1=v2.size + 1:=by
     rw [x2]
     simp [Rows.uptoBulk]
    show v2.size≤Rows.uptoBulk (.agg [y0.1,y1.1,y2.1,y3.1,y4.1])
    simp only [Rows.uptoBulk,Rows.uptoBulkAll,hb]
    omega
theorem bulk_mem {d:DataW H} {l:List (DataW H)} (h:d ∈ l):Rows.uptoBulk d≤Rows.uptoBulkAll l:=by
 induction l with
 | nil=>cases h
 | cons x r ih=>
  simp only [Rows.uptoBulkAll]
  cases List.mem_cons.1 h with
  | inl e=>subst e;omega
  | inr e=>have:=ih e;omega
theorem bulk_one (d:DataW H):1≤Rows.uptoBulk d:=by
 cases d with
 | lit l=>cases l <;> simp [Rows.uptoBulk]
 | nil=>simp [Rows.uptoBulk]
 | ptr d=>simp [Rows.uptoBulk]
 | slice elems spare=>simp [Rows.uptoBulk]
 | agg parts=>simp [Rows.uptoBulk]
 | iface t d=>simp [Rows.uptoBulk]
 | map entries=>simp [Rows.uptoBulk]
 | held h=>simp [Rows.uptoBulk]
theorem bulk_length (l:List (DataW H)):l.length≤Rows.uptoBulkAll l:=by
 induction l with
 | nil=>simp [Rows.uptoBulkAll]
 | cons x r ih=>have:=bulk_one x;simp only [Rows.uptoBulkAll,List.length_cons];omega
end
section
variable {H:Type} {enc:TypeId × Value→H} {w:World}
theorem open_nodes {v:Value} {d:DataW H} {p:List MemPlace} {r:Reach} {b0:Nat} (hval:Value.okWide Tryz.prog w r b0 42 v) (h:DataW.Trod enc Tryz.prog w 0 (fun _=>true) true 42 v d p) (hb:Rows.uptoBulk d≤1048576) :
  ∃ (q:Option Addr) (c:Nat) (l:List NodeD),v = .slice q l.length c∧Sl w q (l.flatMap NodeD.cs)∧(∀ (i:Nat) (n:NodeD),l[i]? = some n→n.wf)∧l.length≤1048576:=by
 obtain ⟨q,c,l,hv,hS,hd⟩:=open_rows NodeD.cs 8 (by decide) NodeD.cs_len (fun (y:NodeD) z=>y.hi < 2 ^ 64∧y.lo < 2 ^ 64∧(-9223372036854775808≤y.kids∧y.kids≤9223372036854775807)∧y.text.size≤Rows.uptoBulk z) Tryz.underlying42 (by kernel_rfl) (fun n cs x hx=>node_dec hx) hval h
 refine ⟨q,c,l,hv,hS,?_⟩
 rcases hd with ⟨-,rfl⟩ | ⟨es,sp,rfl,hl,hg⟩
 ·exact ⟨fun i n hn=>by simp at hn,by simp⟩
 ·simp only [Rows.uptoBulk] at hb
  have h1:=bulk_length es
  refine ⟨fun i n hn=>?_,by omega⟩
  obtain ⟨z,hz,h2,h3,h4,h5⟩:=hg i n hn
  have h6:=bulk_mem (List.mem_of_getElem? hz)
  exact ⟨h2,h3,by omega,h4⟩
theorem open_cap {P:Program} {e t:TypeId} {v:Value} {d:DataW H} {p:List MemPlace} {enc:TypeId × Value→H} {n c:Nat} {q:Option Addr} (ht:P.underlying t=some (.slice e)) (h:DataW.Trod enc P w 0 (fun _=>true) true t v d p) (hv:v = .slice q n c):n≤c:=by
 subst hv
 obtain ⟨fuel,hfu⟩:=h
 rcases open_slice ht hfu with ⟨h1,h2⟩ | ⟨a,len,cap,m,n,D,Pl,h1,hb,hl,hm,hmm,hx,hi⟩
 ·simp only [Value.cells,List.cons.injEq,Value.slice.injEq,and_true] at h1
  omega
 ·simp only [Value.cells,List.cons.injEq,Value.slice.injEq,and_true] at h1
  omega
end
end Go.Proofs.YtnghlakllgkjlaaGreatDoor
