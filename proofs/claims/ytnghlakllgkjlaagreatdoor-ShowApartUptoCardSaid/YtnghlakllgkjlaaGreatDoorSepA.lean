/- Small lemmas on memory that every walk of this set uses; no program in sight. Blocks of memory that are known whole; no program in sight. A small logic of the call's own memory: a list of blocks that are known (boxes whole, rows of a slice), laws for the operations that turn it; no program in sight. Laws for operations over blocks that are known: an operation is turned into a move of what it yields; no program in sight. Names for the head of a list of operations (so that a text is short); lists. More laws: rows of structs, literals of one element, regions with a tail that writes; no program in sight. A region that draws its order, walked in one order that is handed in: operations that may be taken first, and operations that come up alone; no program in sight. More laws: an element of an array that is a value; no program in sight. More laws: maps with keys that are strings; a region that draws, walked in an order, look-ups and checks for nil among what may be taken first; no program in sight. A region that draws, where at one place either of two operations may come up: walked by a plan; no program in sight. More laws: checks for nil; no program in sight. More laws: a slice literal of any number of elements; no program in sight. More laws: a slice of structs that is made; a struct stored into a row; no program in sight. More laws: a slice that is made with room to spare; an append of what lies elsewhere that fits there; no program in sight. Arguments that are slices of structs, opened: a list of plain data that lies there; no program in sight. Laws that take the memory hidden and hand it on hidden; the box is found by its number. Scripts that have a name: a step of a walk, told once; they see the memory (HM, HS0) at the place of use. Laws for strings: a byte of one, a part of one; no program in sight. More laws: a region that draws, walked in an order, where what is known of the world is given up at one operation that waits for all that looked at it; no program in sight. Laws: x[:m] with m up to the cap; no program in sight. Laws for strings that are told by the list of their bytes; no program in sight. -/
import Derived.WalkKit
import Derived.WalkSpells
import Derived.WalkLawsBesides
import Derived.Lib.Hide
import Derived.Laws.AppendOwn
import Derived.Below
import Derived.Deep.Draws
import Derived.Laws.IdiomStrings
import Derived.Deep.QuietTactic
import Derived.BigQuiet
import Derived.LoopN
import Derived.Great.BuildSlice
import Derived.StillTail
import Derived.OrdersHeld
import Derived.MapKept
import Derived.Carry
import Derived.Deep.Slices
import Derived.ChangeSame
import Derived.Laws.Strings2
import Derived.Laws.Concat
namespace Go.Proofs.YtnghlakllgkjlaaGreatDoor
open Go.RowKit
set_option linter.unusedVariables false
theorem lit_cells (w:World) (c:Array Value) (t:TypeId):∀ (j:Nat) (u:Value),c.toList[j]? = some u→(w.alloc (.cells c t)).cell? ((⟨w.heap.size,0,none⟩:Addr).add j)=some u:=by
 intro j u h
 have hadd:(⟨w.heap.size,0,none⟩:Addr).add j=⟨w.heap.size,j,none⟩:=by unfold Addr.add;split <;> simp_all
 rw [hadd,cell_of_row _ _ _ _ _ _ (MapKept.heap_alloc w _).1]
 simpa using h
theorem lit_one {x:Value} (h:x.oneCell' = true):∀ u ∈ [x],u.oneCell' = true:=by
 intro u hu
 rw [List.mem_singleton] at hu
 subst hu
 exact h
theorem own_none (w:World) (e:TypeId) (k:Nat):w.ownsRow w.heap.size e k (.slice none 0 0) 0 []:=⟨by simp,Or.inl ⟨rfl,rfl⟩⟩
theorem own_base {w:World} {B:Nat} {e:TypeId} {k n:Nat} {v:Value} {xs:List Value} (h:w.ownsRow B e k v n xs):∀ g,v.ownBlock=some g→B≤g:=by
 obtain ⟨_,⟨rfl,_⟩ | ⟨g',cap,cur,rfl,hb,_⟩⟩:=h
 ·intro g hg;cases hg
 ·intro g hg
  simp only [Value.ownBlock,Option.some.injEq] at hg
  omega
theorem below_own {B:Nat} {w wr w' : World} {e:TypeId} {k n:Nat} {v:Value} {xs:List Value} (hb:Below B w wr) (hB:B≤wr.heap.size) (h:wr.ownsRow B e k v n xs) (hg:wr.grownBy w' v.ownBlock):Below B w w':=
 hb.grown hg hB (own_base h)
theorem below_dn {B:Nat} {a w:World} (h:Below B a w) (n:Nat):Below B a (w.drewN n):=⟨h.os,h.tape,h.output,h.size,h.block⟩
theorem ret_bool {a b:Bool} (h:a=b):Ending.returned (.bool a) = .returned (.bool b):=by rw [h]
theorem ret_i64 {a b:Int} (h:a=b):Ending.returned (.int .i64 a) = .returned (.int .i64 b):=by rw [h]
theorem size_list (s:ByteArray):s.data.toList.length=s.size:=by rw [Array.length_toList];rfl
theorem mk_size (l:List UInt8):(⟨l.toArray⟩:ByteArray).size=l.length:=by simp [ByteArray.size]
theorem ba_eq {s:ByteArray} {l:List UInt8} (h:s.data.toList=l):s=⟨l.toArray⟩:=by subst h;simp
def b8 (b:UInt8):Value:=.int .u8 b.toNat
def bRow (l:List UInt8) (z:Nat):Array Value:=(l.map b8).toArray++Array.replicate z (.int .u8 0)
theorem bRow_of (s:ByteArray) (cap:Nat):bytesRow s cap=bRow s.data.toList (cap - s.size):=by
 unfold bytesRow bRow b8
 congr 1
 apply Array.ext'
 simp
theorem bRow_get {l:List UInt8} {z j:Nat} {c:UInt8} (h:l[j]? = some c):(bRow l z)[j]? = some (.int .u8 c.toNat):=by
 have hj:j < l.length:=(List.getElem?_eq_some_iff.1 h).1
 unfold bRow
 rw [Array.getElem?_append_left (by simpa using hj)]
 rw [List.getElem?_toArray,List.getElem?_map,h]
 rfl
theorem bRow_set {l:List UInt8} {z j:Nat} (h:j < l.length) (c:UInt8):(bRow l z).setIfInBounds j (.int .u8 c.toNat)=bRow (l.set j c) z:=by
 unfold bRow
 apply Array.ext'
 simp only [Array.toList_setIfInBounds,Array.toList_append]
 rw [List.set_append_left _ _ (by simpa using h)]
 congr 1
 rw [List.map_set]
 rfl
def BytesAt (w:World) (g:Nat) (T:TypeId) (l:List UInt8) (z:Nat):Prop:=w.heap[g]? = some (.cells (bRow l z) T (l.length + z,l.length + z + 1))
theorem BytesAt.cell {w:World} {g:Nat} {T:TypeId} {l:List UInt8} {z j:Nat} {c:UInt8} (h:BytesAt w g T l z) (hj:l[j]? = some c):w.cell? ⟨g,j,none⟩=some (.int .u8 c.toNat):=by
 rw [cell_of_row _ _ _ _ _ _ h]
 exact bRow_get hj
theorem BytesAt.free {w:World} {g:Nat} {T:TypeId} {l:List UInt8} {z j:Nat} (h:BytesAt w g T l z) (hj:j < l.length):w.frozen? ⟨g,j,none⟩=false:=by
 unfold BytesAt at h
 unfold World.frozen?
 simp only [h]
 have:decide (l.length + z≤j)=false:=decide_eq_false (by omega)
 simp [this]
theorem BytesAt.put {w:World} {g:Nat} {T:TypeId} {l:List UInt8} {z j:Nat} (h:BytesAt w g T l z) (hj:j < l.length) (c:UInt8):BytesAt (w.setCell ⟨g,j,none⟩ (.int .u8 c.toNat)) g T (l.set j c) z:=by
 unfold BytesAt at h ⊢
 rw [List.length_set,← bRow_set hj]
 simp [World.setCell,Array.getElem?_modify,h]
theorem BytesAt.made (w:World) (T:TypeId) (s:ByteArray) (cap:Nat) (hc:s.size≤cap):BytesAt (w.drew.alloc (.cells (bytesRow s cap) T ((bytesRow s cap).size,(bytesRow s cap).size + 1))) w.heap.size T s.data.toList (cap - s.size):=by
 unfold BytesAt
 have e:(bytesRow s cap).size=s.data.toList.length + (cap - s.size):=by
  rw [bRow_of]
  unfold bRow
  simp
 rw [e,bRow_of]
 exact (MapKept.heap_alloc w.drew _).1
def mapK (f:UInt8→UInt8) (l:List UInt8) (k:Nat):List UInt8:=(l.take k).map f++l.drop k
theorem mapK_zero (f:UInt8→UInt8) (l:List UInt8):mapK f l 0=l:=by simp [mapK]
theorem mapK_all (f:UInt8→UInt8) (l:List UInt8) {k:Nat} (h:l.length≤k):mapK f l k=l.map f:=by
 unfold mapK
 rw [List.take_of_length_le h,List.drop_of_length_le h,List.append_nil]
theorem mapK_len (f:UInt8→UInt8) (l:List UInt8) (k:Nat):(mapK f l k).length=l.length:=by
 unfold mapK
 rw [List.length_append,List.length_map,List.length_take,List.length_drop]
 omega
theorem mapK_at (f:UInt8→UInt8) {l:List UInt8} {k:Nat} {c:UInt8} (h:l[k]? = some c):(mapK f l k)[k]? = some c:=by
 have hk:k < l.length:=(List.getElem?_eq_some_iff.1 h).1
 unfold mapK
 rw [List.getElem?_append_right (by simp;omega),List.getElem?_drop,← h]
 congr 1
 simp
 omega
theorem mapK_set (f:UInt8→UInt8) {l:List UInt8} {k:Nat} {c:UInt8} (h:l[k]? = some c):(mapK f l k).set k (f c)=mapK f l (k + 1):=by
 have hk:k < l.length:=(List.getElem?_eq_some_iff.1 h).1
 unfold mapK
 rw [List.set_append_right _ _ (by simp;omega)]
 have hd:l.drop k=c :: l.drop (k + 1):=by
  rw [List.drop_eq_getElem_cons hk]
  congr 1
  exact (List.getElem?_eq_some_iff.1 h).2
 rw [hd,List.take_add_one,h]
 have:k - ((l.take k).map f).length=0:=by simp;omega
 rw [this]
 simp
theorem set_self_byte {l:List UInt8} {k:Nat} {c:UInt8} (h:l[k]? = some c):l.set k c=l:=by
 apply List.ext_getElem?
 intro i
 rw [List.getElem?_set]
 split
 ·rename_i e
  subst e
  have hk:k < l.length:=(List.getElem?_eq_some_iff.1 h).1
  rw [if_pos hk,h]
 ·rfl
theorem mapK_keep (f:UInt8→UInt8) {l:List UInt8} {k:Nat} {c:UInt8} (h:l[k]? = some c) (hf:f c=c):mapK f l (k + 1)=mapK f l k:=by
 have h1:=mapK_set f h
 rw [hf,set_self_byte (mapK_at f h)] at h1
 exact h1.symm
theorem own_lit (w:World) (e:TypeId) (xs:List Value) (hx:xs.length≤maxLen):(w.alloc (.cells xs.toArray e)).ownsRow w.heap.size e 1 (.slice (some ⟨w.heap.size,0,none⟩) xs.length xs.length) xs.length xs:=
 ⟨by simp,Or.inr ⟨w.heap.size,xs.length,xs.toArray,rfl,Nat.le_refl _,(MapKept.heap_alloc w _).1,Nat.le_refl _,hx,by simp,by simp⟩⟩
theorem own_cell {w:World} {B:Nat} {e:TypeId} {g n cap:Nat} {xs:List Value} (h:w.ownsRow B e 1 (.slice (some ⟨g,0,none⟩) n cap) n xs) {j:Nat} {u:Value} (hj:xs[j]? = some u):w.cell? ⟨g,j,none⟩=some u:=by
 obtain ⟨hl,⟨h0,_⟩ | ⟨g',cap',cur,hv,_,hh,_,_,_,htk⟩⟩:=h
 ·cases h0
 ·simp only [Value.slice.injEq,Option.some.injEq,Addr.mk.injEq,and_true] at hv
  obtain ⟨rfl,_,rfl⟩:=hv
  have hj2:j < n * 1:=by rw [← hl];exact (List.getElem?_eq_some_iff.1 hj).1
  rw [cell_of_row _ _ _ _ _ _ hh]
  rw [← htk,List.getElem?_take_of_lt hj2] at hj
  simpa using hj
theorem own_str {P:Program} {w:World} {B:Nat} {src dst e:TypeId} {v:Value} {l:List UInt8} (hs:P.underlying src=some (.slice e)) (he:P.underlying e=some (.int .u8)) (hd:P.underlying dst=some .string) (h:w.ownsRow B e 1 v l.length (l.map b8)) :
  (convert src dst v).run P w = .ok (.string ⟨l.toArray⟩) w:=by
 have h':=h
 obtain ⟨_,⟨rfl,h0⟩ | ⟨g,cap,cur,rfl,_⟩⟩:=h
 ·have hl:l=[]:=by cases l with
   | nil=>rfl
   | cons a b=>simp at h0
  subst hl
  rw [run_convert_bytes_string w src dst e none 0 0 hs he hd]
  rfl
 ·have hadd:∀ j,(⟨g,0,none⟩:Addr).add j=⟨g,j,none⟩:=fun j=>by unfold Addr.add;split <;> simp_all
  exact run_convert_bytes_back w src dst e ⟨g,0,none⟩ cap l hs he hd (fun j hj=>by
   rw [hadd]
   exact own_cell h' (by rw [List.getElem?_map,List.getElem?_eq_getElem hj];rfl))
def At (w:World) (g:Nat) (t:TypeId) (cs:Array Value):Prop:=w.heap[g]? = some (.cells cs t (0,0))
theorem name_world {P:Program} {c:Code} {Q:Exit→Act→World→Prop} {a:Act} {w:World} (h:∀ W,W=w→Code.wp P c Q a W):Code.wp P c Q a w:=h w rfl
theorem name_rounds {P:Program} {c:Code} {n:Nat} {Q:Exit→Act→World→Prop} {a:Act} {w:World} (h:∀ W,W=w→Code.rounds P c Q n a W):Code.rounds P c Q n a w:=h w rfl
theorem q_left {P:Program} {f:FuncId} {args:Array Value} {w:World} {n:Nat} {v:Value} (h:Calls P f args (w.drewN n) fun e w'=>e = .returned v∧w.drewN n=w'):Calls P f args (w.drewN n) fun e w''=>e = .returned v∧∃ m,w'' = w.drewN m:=
 h.mono fun _ _ ⟨he,hm⟩=>⟨he,n,hm.symm⟩
theorem q_add {P:Program} {f:FuncId} {args:Array Value} {w:World} {a n:Nat} {v:Value} (h:Calls P f args (w.drewN (a + n)) fun e w'=>e = .returned v∧w.drewN (a + n)=w'):Calls P f args (w.drewN (a + n)) fun e w''=>e = .returned v∧∃ m,w'' = w.drewN (a + m):=
 h.mono fun _ _ ⟨he,hm⟩=>⟨he,n,hm.symm⟩
section
variable {w w' : World} {g:Nat} {t:TypeId} {cs:Array Value}
theorem At.lt (h:At w g t cs):g < w.heap.size:=by
 by_cases hlt:g < w.heap.size
 ·exact hlt
 ·unfold At at h
  rw [Array.getElem?_eq_none (by omega)] at h
  cases h
theorem At.cell (h:At w g t cs) (i:Nat) {v:Value} (hv:cs[i]? = some v):w.cell? ⟨g,i,none⟩=some v:=(cell_of_row w g i cs t (0,0) h).trans hv
theorem At.free (h:At w g t cs) (i:Nat):w.frozen? ⟨g,i,none⟩=false:=frozen_of_row _ _ _ _ _ h
theorem At.new (w:World) (t:TypeId) (cs:Array Value):At (w.alloc (.cells cs t)) w.heap.size t cs:=(MapKept.heap_alloc w _).1
theorem size_alloc (w:World) (o:Obj):(w.alloc o).heap.size=w.heap.size + 1:=by simp
theorem At.newAt {W:World} {k:Nat} (h:W.heap.size=k) (t:TypeId) (cs:Array Value):At (W.alloc (.cells cs t)) k t cs:=h▸At.new W t cs
theorem At.new1 (w:World) (o:Obj) (t:TypeId) (cs:Array Value):At ((w.alloc o).alloc (.cells cs t)) (w.heap.size + 1) t cs:=by
 have h:=At.new (w.alloc o) t cs
 rw [size_alloc] at h
 exact h
theorem At.new2 (w:World) (o o' : Obj) (t:TypeId) (cs:Array Value):At (((w.alloc o).alloc o').alloc (.cells cs t)) (w.heap.size + 2) t cs:=by
 have h:=At.new1 (w.alloc o) o' t cs
 rw [size_alloc] at h
 exact h
theorem At.alloc (h:At w g t cs) (o:Obj):At (w.alloc o) g t cs:=(Below.heap_alloc w o g h.lt).trans h
theorem At.drew (h:At w g t cs):At w.drew g t cs:=h
theorem At.drewN (h:At w g t cs) (n:Nat):At (w.drewN n) g t cs:=h
theorem At.below {B:Nat} (h:At w g t cs) (hb:Below B w w') (hg:g < B):At w' g t cs:=(hb.block g hg).trans h
theorem At.set_ (h:At w g t cs) (i:Nat) (u:Value):At (w.setCell ⟨g,i,none⟩ u) g t (cs.setIfInBounds i u):=by
 unfold At at h ⊢
 simp [World.setCell,Array.getElem?_modify,h]
theorem At.far (h:At w g t cs) {p:Addr} (hp:g≠p.block) (u:Value):At (w.setCell p u) g t cs:=(Below.heap_setCell w p u g hp).trans h
end
inductive Res where
 | box (g:Nat) (t:TypeId) (cs:List Value)
 | row (p:Option Addr) (cap:Nat) (e:TypeId) (k n:Nat) (cs:List Value)
 | map (g:Nat) (es:Array MapEntry) (clock:Nat)
def Res.blk:Res→Option Nat
 | .box g _ _=>some g
 | .map g _ _=>some g
 | .row p _ _ _ _ _=>p.map (·.block)
def Res.holds (B:Nat) (W:World):Res→Prop
 | .box g t cs=>B≤g∧W.heap[g]? = some (.cells cs.toArray t (0,0))
 | .map g es ck=>B≤g∧W.heap[g]? = some (.map es ck)
 | .row p cap e k n cs=>W.ownsRow B e k (.slice p n cap) n cs
def Res.off (r s:Res):Prop:=∀ g,r.blk=some g→s.blk≠some g
theorem Res.off.symm {r s:Res} (h:r.off s):s.off r:=fun g h1 h2=>h g h2 h1
structure Mem (w0 W:World) (L:List Res):Prop where
 below:RowKit.Below w0.heap.size w0 W
 holds:∀ r,r ∈ L→r.holds w0.heap.size W
 apart:L.Pairwise Res.off
def Cells (W:World) (p:Addr) (vs:List Value):Prop:=∀ (j:Nat) (u:Value),vs[j]? = some u→W.cell? (p.add j)=some u
theorem add_none (g o j:Nat):(⟨g,o,none⟩:Addr).add j=⟨g,o + j,none⟩:=by unfold Addr.add;split <;> simp_all
theorem own_row_blk {p:Option Addr} {n cap:Nat}:(Value.slice p n cap).ownBlock=p.map (·.block):=by cases p <;> rfl
theorem Res.holds.lt {B:Nat} {W:World} {r:Res} (h:r.holds B W) {g:Nat} (hg:r.blk=some g):B≤g∧g < W.heap.size:=by
 cases r with
 | map g' es ck=>
  simp only [Res.blk,Option.some.injEq] at hg
  subst hg
  exact ⟨h.1,(Array.getElem?_eq_some_iff.1 h.2).1⟩
 | box g' t cs=>
  simp only [Res.blk,Option.some.injEq] at hg
  subst hg
  exact ⟨h.1,(Array.getElem?_eq_some_iff.1 h.2).1⟩
 | row p cap e k n cs=>exact World.ownsRow.lt (h:W.ownsRow _ _ _ _ _ _) g (by rw [own_row_blk];exact hg)
theorem Res.holds.kept {B:Nat} {W W' : World} {r:Res} {b:Option Nat} (h:r.holds B W) (hg:W.grownBy W' b) (hne:∀ g,r.blk=some g→b≠some g):r.holds B W':=by
 cases r with
 | map g es ck=>exact ⟨h.1,(hg.block g (Array.getElem?_eq_some_iff.1 h.2).1 (fun e=>hne g rfl e.symm)).trans h.2⟩
 | box g t cs=>exact ⟨h.1,(hg.block g (Array.getElem?_eq_some_iff.1 h.2).1 (fun e=>hne g rfl e.symm)).trans h.2⟩
 | row p cap e k n cs=>
  refine World.ownsRow.kept (h:W.ownsRow _ _ _ _ _ _) hg ?_
  rw [own_row_blk]
  cases p with
  | none=>exact Or.inl rfl
  | some a=>exact Or.inr fun e=>hne a.block rfl e.symm
theorem grown_of_below {W W' : World} (hb:RowKit.Below W.heap.size W W'):W.grownBy W' none:=⟨hb.os,hb.tape,hb.output,hb.size,fun k hk _=>hb.block k hk⟩
theorem below_of_grown {W W' : World} (hg:W.grownBy W' none):RowKit.Below W.heap.size W W':=⟨hg.os,hg.tape,hg.output,hg.size,fun k hk=>hg.block k hk (by simp)⟩
section
variable {w0 W W' : World} {L L' : List Res}
theorem Mem.start (w:World):Mem w w []:=⟨RowKit.Below.refl _ _,(fun r hr=>by cases hr),List.Pairwise.nil⟩
theorem Mem.get (h:Mem w0 W L) {k:Nat} {r:Res} (hk:L[k]? = some r):r.holds w0.heap.size W:=h.holds r (List.mem_of_getElem? hk)
theorem Mem.sub (h:Mem w0 W L) (hs:L'.Sublist L):Mem w0 W L':=⟨h.below,fun r hr=>h.holds r (hs.mem hr),h.apart.sublist hs⟩
theorem Mem.next (h:Mem w0 W L) (hb:RowKit.Below W.heap.size W W'):Mem w0 W' L:=
 ⟨h.below.trans (hb.mono h.below.size),fun r hr=>(h.holds r hr).kept (grown_of_below hb) (fun _ _=>by simp),h.apart⟩
theorem Mem.add (h:Mem w0 W L) {r:Res} (hg:W.grownBy W' none) (hr:r.holds w0.heap.size W') (hn:∀ g,r.blk=some g→W.heap.size≤g):Mem w0 W' (r :: L):=by
 have h':=h.next (below_of_grown hg)
 refine ⟨h'.below,fun s hs=>?_,List.pairwise_cons.2 ⟨fun s hs g h1 h2=>?_,h'.apart⟩⟩
 ·rcases List.mem_cons.1 hs with rfl|hs
  ·exact hr
  ·exact h'.holds s hs
 ·have:=((h.holds s hs).lt h2).2
  have:=hn g h1
  omega
theorem set_mem {α:Type} {l:List α} {k:Nat} {a b:α} (h:b ∈ l.set k a):b=a∨∃ j,j≠k∧l[j]? = some b:=by
 obtain ⟨j,hj⟩:=List.mem_iff_getElem?.1 h
 rw [List.getElem?_set] at hj
 split at hj
 ·split at hj
  ·exact Or.inl (Option.some.inj hj).symm
  ·cases hj
 ·rename_i hne
  exact Or.inr ⟨j,fun e=>hne e.symm,hj⟩
theorem off_at (h:L.Pairwise Res.off) {i j:Nat} {r s:Res} (hi:L[i]? = some r) (hj:L[j]? = some s) (hne:i≠j):r.off s:=by
 rw [List.pairwise_iff_getElem] at h
 obtain ⟨hil,rfl⟩:=List.getElem?_eq_some_iff.1 hi
 obtain ⟨hjl,rfl⟩:=List.getElem?_eq_some_iff.1 hj
 rcases Nat.lt_or_gt_of_ne hne with hlt|hlt
 ·exact h i j hil hjl hlt
 ·exact (h j i hjl hil hlt).symm
theorem Mem.turn (h:Mem w0 W L) {k:Nat} {r r' : Res} (hk:L[k]? = some r) (hg:W.grownBy W' r.blk) (hr:r'.holds w0.heap.size W') (hn:∀ g,r'.blk=some g→r.blk=some g∨W.heap.size≤g):Mem w0 W' (L.set k r'):=by
 have hr0:=h.get hk
 have hbl:RowKit.Below w0.heap.size w0 W':=h.below.grown hg h.below.size (fun g e=>(hr0.lt e).1)
 have key:∀ j s,j≠k→L[j]? = some s→r'.off s:=by
  intro j s hj hs g h1 h2
  rcases hn g h1 with h3|h3
  ·exact off_at h.apart hk hs (fun e=>hj e.symm) g h3 h2
  ·have:=((h.get hs).lt h2).2
   omega
 refine ⟨hbl,fun s hs=>?_,?_⟩
 ·rcases set_mem hs with rfl | ⟨j,hj,hs⟩
  ·exact hr
  ·exact (h.get hs).kept hg (fun g e e'=>off_at h.apart hk hs (fun e=>hj e.symm) g e' e)
 ·rw [List.pairwise_iff_getElem]
  intro i j hi hj hlt
  have hi' : i < L.length:=by simpa using hi
  have hj' : j < L.length:=by simpa using hj
  rw [List.getElem_set,List.getElem_set]
  split
  ·rename_i e
   subst e
   rw [if_neg (by omega)]
   exact key j _ (by omega) (List.getElem?_eq_getElem hj')
  ·split
   ·rename_i hne e
    subst e
    exact (key i _ (by omega) (List.getElem?_eq_getElem hi')).symm
   ·exact off_at h.apart (List.getElem?_eq_getElem hi') (List.getElem?_eq_getElem hj') (by omega)
theorem Mem.turn0 (h:Mem w0 W L) {k:Nat} {r r' : Res} (hk:L[k]? = some r) (hr:r'.holds w0.heap.size W) (hn:∀ g,r'.blk=some g→r.blk=some g):Mem w0 W (L.set k r'):=
 h.turn hk ⟨rfl,rfl,rfl,Nat.le_refl _,fun _ _ _=>rfl⟩ hr (fun g e=>Or.inl (hn g e))
theorem Mem.old (h:Mem w0 W L) {p:Addr} {v:Value} (hv:w0.cell? p=some v):W.cell? p=some v:=(h.below.cell (block_lt_of_cell hv)).trans hv
theorem Mem.olds (h:Mem w0 W L) {p:Addr} {vs:List Value} (hv:Cells w0 p vs):Cells W p vs:=fun j u hj=>h.old (hv j u hj)
theorem Cells.below {W W' : World} {B:Nat} {p:Addr} {vs:List Value} (h:Cells W p vs) (hb:RowKit.Below B W W') (hp:p.block < B):Cells W' p vs:=fun j u hj=>by
 rw [hb.cell (p:=p.add j) (by unfold Addr.add;split <;> exact hp)]
 exact h j u hj
theorem Cells.drop {W:World} {g o:Nat} {vs:List Value} (h:Cells W ⟨g,o,none⟩ vs) (i:Nat):Cells W ⟨g,o + i,none⟩ (vs.drop i):=fun j u hj=>by
 rw [List.getElem?_drop] at hj
 have:=h (i + j) u hj
 rw [add_none] at this ⊢
 rw [Nat.add_assoc]
 exact this
theorem Cells.take {W:World} {p:Addr} {vs:List Value} (h:Cells W p vs) (n:Nat):Cells W p (vs.take n):=fun j u hj=>by
 rw [List.getElem?_take] at hj
 split at hj
 ·exact h j u hj
 ·cases hj
theorem box_cells {B:Nat} {g:Nat} {t:TypeId} {cs:List Value} (h:(Res.box g t cs).holds B W) (o:Nat):Cells W ⟨g,o,none⟩ (cs.drop o):=fun j u hj=>by
 rw [add_none,cell_of_row _ _ _ _ _ _ h.2]
 rw [List.getElem?_drop] at hj
 simpa using hj
theorem row_cells {B:Nat} {a:Addr} {cap k n:Nat} {e:TypeId} {cs:List Value} (h:(Res.row (some a) cap e k n cs).holds B W) (o:Nat):a.off=0∧a.spot=none∧Cells W ⟨a.block,o,none⟩ (cs.drop o):=by
 obtain ⟨hl,⟨h0,_⟩ | ⟨g,cap',cur,hv,hb,hh,_,_,_,htk⟩⟩:=(h:W.ownsRow _ _ _ _ _ _)
 ·cases h0
 ·simp only [Value.slice.injEq,Option.some.injEq] at hv
  obtain ⟨rfl,-,rfl⟩:=hv
  refine ⟨rfl,rfl,fun j u hj=>?_⟩
  rw [add_none,cell_of_row _ _ _ _ _ _ hh]
  rw [List.getElem?_drop] at hj
  rw [← htk,List.getElem?_take] at hj
  split at hj
  ·simpa using hj
  ·cases hj
theorem row_some {B:Nat} {p:Option Addr} {cap k n:Nat} {e:TypeId} {cs:List Value} (h:(Res.row p cap e k n cs).holds B W) (hn:0 < n):∃ g,p=some ⟨g,0,none⟩:=by
 obtain ⟨hl,⟨_,h0⟩ | ⟨g,cap',cur,hv,_⟩⟩:=(h:W.ownsRow _ _ _ _ _ _)
 ·omega
 ·simp only [Value.slice.injEq] at hv
  exact ⟨g,hv.1⟩
theorem row_cap {B:Nat} {p:Option Addr} {cap k n:Nat} {e:TypeId} {cs:List Value} (h:(Res.row p cap e k n cs).holds B W):n≤cap∧cap≤maxLen∧cs.length=n * k:=by
 obtain ⟨hl,⟨h0,hn⟩ | ⟨g,cap',cur,hv,_,_,hc,hm,_⟩⟩:=(h:W.ownsRow _ _ _ _ _ _)
 ·simp only [Value.slice.injEq] at h0
  unfold maxLen
  omega
 ·simp only [Value.slice.injEq] at hv
  exact ⟨by omega,by omega,hl⟩
theorem row_trunc {B:Nat} {p:Option Addr} {cap k n m:Nat} {e:TypeId} {cs:List Value} (h:(Res.row p cap e k n cs).holds B W) (hm:m≤n):(Res.row p cap e k m (cs.take (m * k))).holds B W:=by
 have hl:=(row_cap h).2.2
 have hmk:m * k≤n * k:=Nat.mul_le_mul_right _ hm
 obtain ⟨_,⟨h0,hn⟩ | ⟨g,cap',cur,hv,hb,hh,hc,hx,hs,htk⟩⟩:=(h:W.ownsRow _ _ _ _ _ _)
 ·simp only [Value.slice.injEq] at h0
  obtain ⟨rfl,rfl,rfl⟩:=h0
  obtain rfl:m=0:=by omega
  exact ⟨by simp,Or.inl ⟨rfl,rfl⟩⟩
 ·simp only [Value.slice.injEq] at hv
  obtain ⟨rfl,-,rfl⟩:=hv
  refine ⟨by rw [List.length_take];omega,Or.inr ⟨g,cap,cur,rfl,hb,hh,by omega,hx,hs,?_⟩⟩
  rw [← htk,List.take_take]
  congr 1
  omega
end
theorem run_append_res {P:Program} (W:World) (B:Nat) (t ty e:TypeId) (i:TypeInfo) (z:Value) (k bytes:Nat) (ht:P.underlying t=some (.slice e)) (hi:P.info? e=some i) (hz:i.zero=some z)
  (hsize:i.size=k) (hby:i.bytes=bytes) (hzs:z.cells.size=k) (hsz:0 < k)
  (p:Option Addr) (cap n:Nat) (cs:List Value) (hown:(Res.row p cap e k n cs).holds B W)
  (q:Option Addr) (m c:Nat) (news:List Value) (hl:news.length=m * k) (hq:q=none→m=0) (hnews:∀ a,q=some a→Cells W a news) (h1:∀ u ∈ news,u.oneCell' = true)
  (h63:n + m≤maxLen) (hbytes:(n + m) * bytes≤140737488355328) (hbase:B≤W.heap.size) :
  ∃ p' cap' W',(Builtin.append_ #[t,t] ty #[.slice p n cap,.slice q m c]).run P W = .ok (.slice p' (n + m) cap') W'∧(Res.row p' cap' e k (n + m) (cs++news)).holds B W'∧
   W.grownBy W' (p.map (·.block))∧(∀ g,p'.map (·.block)=some g→p.map (·.block)=some g∨W.heap.size≤g)∧(p' = none↔p=none∧m=0):=by
 subst hsize hby
 have hlen:(cs++news).length=(n + m) * i.size:=by rw [List.length_append,(row_cap hown).2.2,hl,Nat.add_mul]
 by_cases hm:m=0
 ·subst hm
  obtain rfl:news=[]:=List.eq_nil_of_length_eq_zero (by simpa using hl)
  refine ⟨p,cap,W,?_,by simpa using hown,⟨rfl,rfl,rfl,Nat.le_refl _,fun _ _ _=>rfl⟩,fun g h=>Or.inl h,by simp⟩
  have hcap:=(row_cap hown).1
  have hcs:∀ s:Sem Unit,s=pure ()→(match p with|some a=>s|none=>pure ())=(pure ():Sem Unit):=by intro s hs;cases p <;> simp [hs]
  cases q with
  | none=>cases p <;> simp [Builtin.append_,run_underlying ht,sizeOf,typeInfo,hi,Builtin.lenOf,Builtin.firstCells,hcap,storeCells]
  | some a=>cases p <;> simp [Builtin.append_,run_underlying ht,sizeOf,typeInfo,hi,Builtin.lenOf,Builtin.firstCells,hcap,storeCells,loadCells,loadCellsFrom]
 ·obtain ⟨a,rfl⟩:∃ a,q=some a:=by
   cases q with
   | none=>exact absurd (hq rfl) hm
   | some a=>exact ⟨a,rfl⟩
  have hn:=hnews a rfl
  have hz63:n + m≤9223372036854775807:=by simp only [maxLen] at h63;omega
  have hown0:=hown
  obtain ⟨_,⟨h0,hn0⟩ | ⟨g,cap',cur,hv,hb,hh,hc,hx,hs,htk⟩⟩:=(hown0:W.ownsRow _ _ _ _ _ _)
  ·simp only [Value.slice.injEq] at h0
   obtain ⟨rfl,-,rfl⟩:=h0
   subst hn0
   obtain rfl:cs=[]:=List.eq_nil_of_length_eq_zero (by simpa using (row_cap hown).2.2)
   have hr:=run_append_nil (P:=P) W t ty e i z ht hi hz a m c news hl hn (by omega) (by omega) (by simp only [Nat.zero_add] at hbytes;omega)
   refine ⟨_,_,_,by simpa using hr,⟨by simpa using hl,Or.inr ⟨W.heap.size,_,_,(by simp),hbase,heap_alloc_new W.drew _,by simpa using grownCap_ge W m 0 e,grownCap_le_maxLen W m 0 e (by simpa using h63),?_,?_⟩⟩,⟨rfl,rfl,rfl,(by simp),fun j hj _=>RowKit.Below.heap_alloc W.drew _ j hj⟩,fun g hg=>Or.inr (by simp only [Option.map_some,Option.some.injEq] at hg;omega),by simp [hm]⟩
   ·have:=grownCap_ge W m 0 e
    simp only [Array.size_append,List.size_toArray,size_zeroCells,hzs,hl,← Nat.add_mul]
    congr 1
    omega
   ·simp only [Array.toList_append,Nat.zero_add,List.nil_append]
    rw [← hl]
    exact List.take_left
  ·simp only [Value.slice.injEq] at hv
   obtain ⟨rfl,-,rfl⟩:=hv
   by_cases hroom:n + m≤cap
   ·have hfit:n * i.size + news.length≤cur.size:=by rw [hl,hs,← Nat.add_mul];exact Nat.mul_le_mul_right _ hroom
    have hr:=run_append_room (P:=P) W t ty e i ht hi g n cap cur hh a m c news hl hn h1 hroom hfit
    refine ⟨_,_,_,hr,⟨hlen,Or.inr ⟨g,cap,_,rfl,hb,setRow_heap W g cur _ e _ hh,hroom,hx,?_,?_⟩⟩,⟨rfl,rfl,rfl,by simp,fun k _ hk=>setRow_other W g k _ (fun e=>hk (by simp [e]))⟩,fun g h=>Or.inl h,by simp⟩
    ·simp only [List.size_toArray,List.length_append,List.length_take,List.length_drop,Array.length_toList]
     omega
    ·rw [htk,← hlen]
     exact List.take_left
   ·have holds:Cells W ⟨g,0,none⟩ cs:=by simpa using (row_cells hown 0).2.2
    have hr:=run_append_grow (P:=P) W t ty e i z ht hi hz ⟨g,0,none⟩ n cap cs (row_cap hown).2.2 holds a m c news hl hn (by omega) (by omega) (growslice_fits (by omega) hbytes)
    have hge:=grownCap_ge W (n + m) cap e
    refine ⟨_,_,_,hr,⟨hlen,Or.inr ⟨W.heap.size,_,_,rfl,hbase,heap_alloc_new W.drew _,hge,grownCap_le_maxLen W (n + m) cap e h63,?_,?_⟩⟩,⟨rfl,rfl,rfl,(by simp),fun j hj _=>RowKit.Below.heap_alloc W.drew _ j hj⟩,fun g hg=>Or.inr (by simp only [Option.map_some,Option.some.injEq] at hg;omega),by simp⟩
    ·simp only [Array.size_append,List.size_toArray,size_zeroCells,hzs,(row_cap hown).2.2,hl,← Nat.add_mul]
     congr 1
     omega
    ·simp only [Array.toList_append,List.append_assoc]
     rw [← List.append_assoc,← hlen]
     exact List.take_left
class CellT (P:Program) (t:TypeId):Prop where
 flat:∀ w,(isAgg t).run P w = .ok false w
 size:∀ w,(sizeOf t).run P w = .ok 1 w
class AggT (P:Program) (t:TypeId) (n:outParam Nat):Prop where
 agg:∀ w,(isAgg t).run P w = .ok true w
 size:∀ w,(sizeOf t).run P w = .ok n w
class ZeroA (P:Program) (t:TypeId) (cs:outParam (List Value)):Prop where
 zero:∀ w,∃ v,(zeroValue t).run P w = .ok v w∧v.cells=cs.toArray
class RowT (P:Program) (t:TypeId) (e:outParam TypeId) (k bytes:outParam Nat) (z:outParam Value):Prop where
 under:P.underlying t=some (.slice e)
 info:(P.info? e).map (fun i=>(i.zero,i.size,i.bytes))=some (some z,k,bytes)
 zero:z.cells.size=k
 pos:0 < k
section
variable {P:Program} {ops:Array Oper} {Q:Exit→Act→World→Prop} {a:Act} {W W' w0:World} {rest:List Oper} {L:List Res}
variable {dst:Option Tmp} {ty0:TypeId} {pos:String} {after:Array Edge} {gd:Option (Nat × Bool)}
theorem upon_move {o:Oper} {v:Value} {K:Act→World→Prop}:({ o with op:=.move (.const v)}:Oper).wp P a W K Q=K (a.put o.dst v) W:=rfl
theorem asks_move {o:Oper} {v:Value}:¬ ({ o with op:=.move (.const v)}:Oper).asks P a W:=by
 intro h
 have h1:noRoomEvent ∈ (#[]:Array Event):=h.1
 simp at h1
theorem as_move {o:Oper} {v:Value} (hrun:(execOp a.eval o).run P W = .ok (.value v) W) (h:wpList P ops Q ({ o with op:=.move (.const v)} :: rest) a W):wpList P ops Q (o :: rest) a W:=by
 refine wpList_step fun K hK=>?_
 unfold wpList at h
 by_cases hw:Region.wanted o (yielded ops a.tmps)=true
 ·rw [if_pos (show Region.wanted ({ o with op:=.move (.const v)}:Oper) (yielded ops a.tmps)=true from hw)] at h
  rw [if_pos hw]
  rcases h with h | ⟨h,_⟩
  ·rw [upon_move] at h
   unfold Oper.wp
   rw [hrun]
   exact hK _ _ h
  ·exact absurd h asks_move
 ·rw [if_neg (show ¬ Region.wanted ({ o with op:=.move (.const v)}:Oper) (yielded ops a.tmps)=true from hw)] at h
  rw [if_neg hw]
  exact hK _ _ h
theorem as_moveW {o:Oper} {v:Value} (hw:Region.wanted o (yielded ops a.tmps)=true) (hrun:(execOp a.eval o).run P W = .ok (.value v) W') (h:wpList P ops Q ({ o with op:=.move (.const v)} :: rest) a W'):wpList P ops Q (o :: rest) a W:=by
 refine wpList_step fun K hK=>?_
 unfold wpList at h
 rw [if_pos (show Region.wanted ({ o with op:=.move (.const v)}:Oper) (yielded ops a.tmps)=true from hw)] at h
 rw [if_pos hw]
 rcases h with h | ⟨h,_⟩
 ·rw [upon_move] at h
  unfold Oper.wp
  rw [hrun]
  exact hK _ _ h
 ·exact absurd h asks_move
theorem run_load_cell {ty:TypeId} {p:Addr} {v:Value} (hC:CellT P ty) (hv:W.cell? p=some v):(loadVar ty p).run P W = .ok v W:=by
 simp [loadVar,Sem.run_bind,hC.flat,hv]
theorem run_load_agg {ty:TypeId} {p:Addr} {n:Nat} {vs:List Value} (hA:AggT P ty n) (hn:vs.length=n) (hv:Cells W p vs):(loadVar ty p).run P W = .ok (.agg vs.toArray) W:=by
 subst hn
 simp [loadVar,Sem.run_bind,hA.agg,hA.size,run_loadCells_list (P:=P) W p vs hv]
theorem ld1 {ty:TypeId} {x:Operand} {p:Addr} {v:Value} (hC:CellT P ty) (hx:a.eval x = .pointer (some p)) (hv:W.cell? p=some v)
  (h:wpList P ops Q (⟨dst,.move (.const v),ty0,pos,after,gd⟩ :: rest) a W):wpList P ops Q (⟨dst,.load ty x,ty0,pos,after,gd⟩ :: rest) a W:=
 as_move (o:=⟨dst,.load ty x,ty0,pos,after,gd⟩) (by simp only [execOp,hx,Instr.loadAt,Instr.sureAddr,Sem.run_bind,Sem.run_pure,Result.andThen_ok,run_load_cell hC hv]) h
theorem ldA {ty:TypeId} {x:Operand} {p:Addr} {n:Nat} {vs:List Value} (hA:AggT P ty n) (hx:a.eval x = .pointer (some p)) (hn:vs.length=n) (hv:Cells W p vs)
  (h:wpList P ops Q (⟨dst,.move (.const (.agg vs.toArray)),ty0,pos,after,gd⟩ :: rest) a W):wpList P ops Q (⟨dst,.load ty x,ty0,pos,after,gd⟩ :: rest) a W:=
 as_move (o:=⟨dst,.load ty x,ty0,pos,after,gd⟩) (by simp only [execOp,hx,Instr.loadAt,Instr.sureAddr,Sem.run_bind,Sem.run_pure,Result.andThen_ok,run_load_agg hA hn hv]) h
theorem ldb1 {ty:TypeId} [hC:CellT P ty] {x:Operand} {g:Nat} {t:TypeId} {cs:List Value} {i:Nat} {v:Value} (HM:Mem w0 W L) (k:Nat) (hk:L[k]? = some (.box g t cs)) (hx:a.eval x = .pointer (some ⟨g,i,none⟩)) (hv:cs[i]? = some v)
  (h:wpList P ops Q (⟨dst,.move (.const v),ty0,pos,after,gd⟩ :: rest) a W):wpList P ops Q (⟨dst,.load ty x,ty0,pos,after,gd⟩ :: rest) a W:=
 ld1 hC hx (by have:=box_cells (HM.get hk) i 0 v (by rw [List.getElem?_drop];exact hv);rwa [add_none] at this) h
theorem ldbW {ty:TypeId} {n:Nat} [hA:AggT P ty n] {x:Operand} {g:Nat} {t:TypeId} {cs:List Value} (HM:Mem w0 W L) (k:Nat) (hk:L[k]? = some (.box g t cs)) (hx:a.eval x = .pointer (some ⟨g,0,none⟩)) (hn:cs.length=n)
  (h:wpList P ops Q (⟨dst,.move (.const (.agg cs.toArray)),ty0,pos,after,gd⟩ :: rest) a W):wpList P ops Q (⟨dst,.load ty x,ty0,pos,after,gd⟩ :: rest) a W:=
 ldA hA hx hn (box_cells (HM.get hk) 0) h
theorem ldbS {ty:TypeId} {n:Nat} [hA:AggT P ty n] {x:Operand} {g:Nat} {t:TypeId} {cs:List Value} {i:Nat} (HM:Mem w0 W L) (k:Nat) (hk:L[k]? = some (.box g t cs)) (hx:a.eval x = .pointer (some ⟨g,i,none⟩)) (hn:((cs.drop i).take n).length=n)
  (h:wpList P ops Q (⟨dst,.move (.const (.agg ((cs.drop i).take n).toArray)),ty0,pos,after,gd⟩ :: rest) a W):wpList P ops Q (⟨dst,.load ty x,ty0,pos,after,gd⟩ :: rest) a W:=
 ldA hA hx hn ((box_cells (HM.get hk) i).take n) h
theorem ldx1 {ty:TypeId} [hC:CellT P ty] {x:Operand} {p:Addr} {v:Value} (hv:W.cell? p=some v) (hx:a.eval x = .pointer (some p))
  (h:wpList P ops Q (⟨dst,.move (.const v),ty0,pos,after,gd⟩ :: rest) a W):wpList P ops Q (⟨dst,.load ty x,ty0,pos,after,gd⟩ :: rest) a W:=ld1 hC hx hv h
theorem ldxW {ty:TypeId} {n:Nat} [hA:AggT P ty n] {x:Operand} {p:Addr} {vs:List Value} (hv:Cells W p vs) (hx:a.eval x = .pointer (some p)) (hn:vs.length=n)
  (h:wpList P ops Q (⟨dst,.move (.const (.agg vs.toArray)),ty0,pos,after,gd⟩ :: rest) a W):wpList P ops Q (⟨dst,.load ty x,ty0,pos,after,gd⟩ :: rest) a W:=ldA hA hx hn hv h
theorem stb {ty:TypeId} {x y:Operand} {g:Nat} {t:TypeId} {cs vs cs' : List Value} {i:Nat} (hw:Region.wanted ⟨dst,.store ty x y,ty0,pos,after,gd⟩ (yielded ops a.tmps)=true) (HM:Mem w0 W L) (k:Nat) (hk:L[k]? = some (.box g t cs)) (hx:a.eval x = .pointer (some ⟨g,i,none⟩))
  (hS:∀ w,(sizeOf ty).run P w = .ok vs.length w) (hy:(a.eval y).cells.toList=vs) (h1:∀ v ∈ vs,v.oneCell' = true) (hfit:i + vs.length≤cs.length) (hcs:cs.take i++vs++cs.drop (i + vs.length)=cs')
  (h:∀ W',Mem w0 W' (L.set k (.box g t cs'))→wpList P ops Q (⟨dst,.move (.const undef),ty0,pos,after,gd⟩ :: rest) a W'):wpList P ops Q (⟨dst,.store ty x y,ty0,pos,after,gd⟩ :: rest) a W:=by
 have hb:=HM.get hk
 have hst:=run_storeCells_at P g i t vs 0 cs.toArray W hb.2 (by simpa using hfit) h1
 simp only [Nat.add_zero,hcs] at hst
 have hM:Mem w0 (W.setRow g cs'.toArray) (L.set k (.box g t cs')):=by
  refine HM.turn hk ⟨rfl,rfl,rfl,by simp,fun j hj hne=>setRow_other W g j _ (fun e=>hne (by simp [Res.blk,e]))⟩ ⟨hb.1,setRow_heap W g cs.toArray _ t _ hb.2⟩ (fun g' e=>Or.inl e)
 refine wpList_step fun K hK=>?_
 rw [if_pos hw]
 have h':=h _ hM
 unfold wpList at h'
 rw [if_pos (show Region.wanted (⟨dst,.move (.const undef),ty0,pos,after,gd⟩:Oper) (yielded ops a.tmps)=true from hw)] at h'
 rcases h' with h' | ⟨h',_⟩
 ·have h'' : wpList P ops Q rest (a.put dst undef) (W.setRow g cs'.toArray):=h'
  have hsz:(a.eval y).cells.size=vs.length:=by rw [← hy];simp
  unfold Oper.wp
  simp only [execOp,hx,Instr.storeAt,Instr.sureAddr,storeVar,Sem.run_bind,Sem.run_pure,Result.andThen_ok,hS,hsz,ne_eq,not_true_eq_false,if_false,hy,hst]
  exact hK _ _ h''
 ·exact absurd h' (asks_move (o:=⟨dst,.move (.const undef),ty0,pos,after,gd⟩))
theorem cells_one {v:Value} (h:v.oneCell' = true):v.cells.toList=[v]:=by cases v <;> first|rfl|cases h
theorem stb1 {ty:TypeId} [hC:CellT P ty] {x y:Operand} {g:Nat} {t:TypeId} {cs:List Value} {i:Nat} {v:Value} (hw:Region.wanted ⟨dst,.store ty x y,ty0,pos,after,gd⟩ (yielded ops a.tmps)=true) (HM:Mem w0 W L) (k:Nat) (hk:L[k]? = some (.box g t cs)) (hx:a.eval x = .pointer (some ⟨g,i,none⟩))
  (hy:a.eval y=v) (h1:v.oneCell' = true) (hfit:decide (i < cs.length)=true)
  (h:∀ W',Mem w0 W' (L.set k (.box g t (cs.set i v)))→wpList P ops Q (⟨dst,.move (.const undef),ty0,pos,after,gd⟩ :: rest) a W'):wpList P ops Q (⟨dst,.store ty x y,ty0,pos,after,gd⟩ :: rest) a W:=by
 have hi:i < cs.length:=of_decide_eq_true hfit
 refine stb hw HM k hk hx (vs:=[v]) hC.size (by rw [hy];exact cells_one h1) (fun u hu=>by rw [List.mem_singleton.1 hu];exact h1) (by simp;omega) ?_ h
 rw [List.set_eq_take_append_cons_drop,if_pos hi]
 simp
theorem stbW {ty:TypeId} {n:Nat} [hA:AggT P ty n] {x y:Operand} {g:Nat} {t:TypeId} {cs vs:List Value} (hw:Region.wanted ⟨dst,.store ty x y,ty0,pos,after,gd⟩ (yielded ops a.tmps)=true) (HM:Mem w0 W L) (k:Nat) (hk:L[k]? = some (.box g t cs)) (hx:a.eval x = .pointer (some ⟨g,0,none⟩))
  (hy:a.eval y = .agg vs.toArray) (hn:vs.length=n) (hn' : cs.length=n) (h1:vs.all (·.oneCell')=true)
  (h:∀ W',Mem w0 W' (L.set k (.box g t vs))→wpList P ops Q (⟨dst,.move (.const undef),ty0,pos,after,gd⟩ :: rest) a W'):wpList P ops Q (⟨dst,.store ty x y,ty0,pos,after,gd⟩ :: rest) a W:=by
 refine stb hw HM k hk hx (vs:=vs) (fun w=>by rw [hA.size w,hn]) (by rw [hy];rfl) (by simpa using h1) (by omega) ?_ h
 rw [List.drop_of_length_le (by omega)]
 simp
theorem stbS {ty:TypeId} {n:Nat} [hA:AggT P ty n] {x y:Operand} {g:Nat} {t:TypeId} {cs vs:List Value} {i:Nat} (hw:Region.wanted ⟨dst,.store ty x y,ty0,pos,after,gd⟩ (yielded ops a.tmps)=true) (HM:Mem w0 W L) (k:Nat) (hk:L[k]? = some (.box g t cs)) (hx:a.eval x = .pointer (some ⟨g,i,none⟩))
  (hy:a.eval y = .agg vs.toArray) (hn:vs.length=n) (hn' : decide (i + n≤cs.length)=true) (h1:vs.all (·.oneCell')=true)
  (h:∀ W',Mem w0 W' (L.set k (.box g t (cs.take i++vs++cs.drop (i + n))))→wpList P ops Q (⟨dst,.move (.const undef),ty0,pos,after,gd⟩ :: rest) a W'):wpList P ops Q (⟨dst,.store ty x y,ty0,pos,after,gd⟩ :: rest) a W:=by
 subst hn
 exact stb hw HM k hk hx (vs:=vs) hA.size (by rw [hy];rfl) (by simpa using h1) (of_decide_eq_true hn') rfl h
theorem new_box {cs:List Value} (HM:Mem w0 W L) (ty:TypeId):Mem w0 (W.alloc (.cells cs.toArray ty)) (.box W.heap.size ty cs :: L):=
 HM.add (World.grownBy_alloc W _ none) ⟨HM.below.size,heap_alloc_new W _⟩ (fun g e=>Nat.le_of_eq (Option.some.inj e))
theorem alb {ty:TypeId} {cs:List Value} [hz:ZeroA P ty cs] (hw:Region.wanted ⟨dst,.alloc ty,ty0,pos,after,gd⟩ (yielded ops a.tmps)=true) (HM:Mem w0 W L)
  (h:∀ g W',Mem w0 W' (.box g ty cs :: L)→wpList P ops Q (⟨dst,.move (.const (.pointer (some ⟨g,0,none⟩))),ty0,pos,after,gd⟩ :: rest) a W'):wpList P ops Q (⟨dst,.alloc ty,ty0,pos,after,gd⟩ :: rest) a W:=by
 obtain ⟨z,hz1,e⟩:=hz.zero W
 refine as_moveW (o:=⟨dst,.alloc ty,ty0,pos,after,gd⟩) hw ?_ (h _ _ (new_box HM ty))
 show (do pure (.value (← Instr.alloc ty true (.tuple #[]))):Sem Next).run P W=_
 simp [Instr.alloc,Sem.run_bind,hz1,newVar,newRow,e]
theorem bxb {ty:TypeId} {x:Operand} {cs:List Value} (hw:Region.wanted ⟨dst,.box ty x,ty0,pos,after,gd⟩ (yielded ops a.tmps)=true) (HM:Mem w0 W L) (e:(a.eval x).cells=cs.toArray)
  (h:∀ g W',Mem w0 W' (.box g ty cs :: L)→wpList P ops Q (⟨dst,.move (.const (.pointer (some ⟨g,0,none⟩))),ty0,pos,after,gd⟩ :: rest) a W'):wpList P ops Q (⟨dst,.box ty x,ty0,pos,after,gd⟩ :: rest) a W:=by
 refine as_moveW (o:=⟨dst,.box ty x,ty0,pos,after,gd⟩) hw ?_ (h _ _ (new_box HM ty))
 show (do pure (.value (← Instr.box ty (a.eval x))):Sem Next).run P W=_
 simp [Instr.box,newVar,newRow,e]
theorem bxA {ty:TypeId} {x:Operand} {cs:List Value} (hw:Region.wanted ⟨dst,.box ty x,ty0,pos,after,gd⟩ (yielded ops a.tmps)=true) (HM:Mem w0 W L) (hx:a.eval x = .agg cs.toArray)
  (h:∀ g W',Mem w0 W' (.box g ty cs :: L)→wpList P ops Q (⟨dst,.move (.const (.pointer (some ⟨g,0,none⟩))),ty0,pos,after,gd⟩ :: rest) a W'):wpList P ops Q (⟨dst,.box ty x,ty0,pos,after,gd⟩ :: rest) a W:=
 bxb hw HM (by rw [hx];rfl) h
theorem bx1 {ty:TypeId} {x:Operand} {v:Value} (hw:Region.wanted ⟨dst,.box ty x,ty0,pos,after,gd⟩ (yielded ops a.tmps)=true) (HM:Mem w0 W L) (hx:a.eval x=v) (h1:v.oneCell' = true)
  (h:∀ g W',Mem w0 W' (.box g ty [v] :: L)→wpList P ops Q (⟨dst,.move (.const (.pointer (some ⟨g,0,none⟩))),ty0,pos,after,gd⟩ :: rest) a W'):wpList P ops Q (⟨dst,.box ty x,ty0,pos,after,gd⟩ :: rest) a W:=
 bxb hw HM (by rw [hx,← cells_one h1]) h
theorem rowT_parts {t e:TypeId} {k bytes:Nat} {z:Value} (h:RowT P t e k bytes z):∃ i,P.info? e=some i∧i.zero=some z∧i.size=k∧i.bytes=bytes:=by
 have:=h.info
 cases hi:P.info? e with
 | none=>rw [hi] at this;cases this
 | some i=>
  rw [hi] at this
  simp only [Option.map_some,Option.some.injEq,Prod.mk.injEq] at this
  exact ⟨i,rfl,this.1,this.2.1,this.2.2⟩
theorem bsb {t e:TypeId} {k bytes len:Nat} {z:Value} [hR:RowT P t e k bytes z] {parts:Array (Nat × Operand)} {cs:List Value} (hw:Region.wanted ⟨dst,.buildSlice t len parts,ty0,pos,after,gd⟩ (yielded ops a.tmps)=true) (HM:Mem w0 W L)
  (hs:len * k≤16777216) (hp:0 < len * k) (hf:Instr.fill (fun i=>some (i * k,k)) ((Array.range (len * k)).map (z.cells[· % z.cells.size]!)) (parts.map fun (i,x)=>(i,a.eval x)).toList=some cs.toArray)
  (h:∀ g W',Mem w0 W' (.box g e cs :: L)→wpList P ops Q (⟨dst,.move (.const (.slice (some ⟨g,0,none⟩) len len)),ty0,pos,after,gd⟩ :: rest) a W'):wpList P ops Q (⟨dst,.buildSlice t len parts,ty0,pos,after,gd⟩ :: rest) a W:=by
 have hM:Mem w0 (W.alloc (.cells cs.toArray e)) (.box W.heap.size e cs :: L):=
  HM.add (World.grownBy_alloc W _ none) ⟨HM.below.size,heap_alloc_new W _⟩ (fun g e=>Nat.le_of_eq (Option.some.inj e))
 refine as_moveW (o:=⟨dst,.buildSlice t len parts,ty0,pos,after,gd⟩) hw ?_ (h _ _ hM)
 obtain ⟨i,hi,hz,hsz,-⟩:=rowT_parts hR
 subst hsz
 have hr:=run_buildSlice (P:=P) W t e len _ cs.toArray i z hR.under hi hz (by omega) (by omega) hf
 show (do pure (.value (← Instr.buildSlice t len (parts.map fun (i,x)=>(i,a.eval x)))):Sem Next).run P W=_
 simp only [Sem.run_bind,hr,Result.andThen_ok]
 rfl
theorem apr {t e:TypeId} {k bytes:Nat} {z:Value} [hR:RowT P t e k bytes z] {s x:Operand} {p q:Option Addr} {cap n m c:Nat} {cs news:List Value} (hw:Region.wanted ⟨dst,.call { callee:=.builtin .append,args:=#[s,x],argTypes:=#[t,t]},ty0,pos,after,gd⟩ (yielded ops a.tmps)=true)
  (HM:Mem w0 W L) (j:Nat) (hj:L[j]? = some (.row p cap e k n cs)) (hs:a.eval s = .slice p n cap) (hx:a.eval x = .slice q m c)
  (hl:news.length=m * k) (hq:q=none→m=0) (hnews:∀ b,q=some b→Cells W b news) (h1:∀ u ∈ news,u.oneCell' = true) (h63:n + m≤maxLen) (hbytes:(n + m) * bytes≤140737488355328)
  (h:∀ p' cap' W',Mem w0 W' (L.set j (.row p' cap' e k (n + m) (cs++news)))→(p' = none↔p=none∧m=0)→wpList P ops Q (⟨dst,.move (.const (.slice p' (n + m) cap')),ty0,pos,after,gd⟩ :: rest) a W') :
  wpList P ops Q (⟨dst,.call { callee:=.builtin .append,args:=#[s,x],argTypes:=#[t,t]},ty0,pos,after,gd⟩ :: rest) a W:=by
 obtain ⟨i,hi,hz,hsz,hby⟩:=rowT_parts hR
 obtain ⟨p',cap',W',hr,hown,hg,hn,hnil⟩:=run_append_res (P:=P) W w0.heap.size t ty0 e i z k bytes hR.under hi hz hsz hby hR.zero hR.pos p cap n cs (HM.get hj) q m c news hl hq hnews h1 h63 hbytes HM.below.size
 refine as_moveW (o:=⟨dst,.call { callee:=.builtin .append,args:=#[s,x],argTypes:=#[t,t]},ty0,pos,after,gd⟩) hw ?_ (h _ _ _ (HM.turn hj hg hown hn) hnil)
 simp only [execOp,resolve,invoke,builtin,Sem.run_bind,Sem.run_pure,Result.andThen_ok,List.map_toArray,List.map_cons,List.map_nil,hs,hx,hr]
theorem run_slice_to {t e:TypeId} {k bytes:Nat} {z:Value} (hR:RowT P t e k bytes z) (p:Option Addr) (n cap m:Nat) (hm:m≤cap):(Instr.sliceAt t (.slice p n cap) none (some (.int .i64 m)) none).run P W = .ok (.slice p m cap) W:=by
 obtain ⟨i,hi,-,-,-⟩:=rowT_parts hR
 by_cases hc:cap=0
 ·subst hc
  obtain rfl:m=0:=by omega
  simp [Instr.sliceAt,Instr.slice,run_underlying hR.under,Instr.sliceBounds,Instr.sliceBound,asIntOf,sizeOf,typeInfo,hi]
 ·have hne:¬ cap=0:=hc
  cases p with
  | none=>simp [Instr.sliceAt,Instr.slice,run_underlying hR.under,Instr.sliceBounds,Instr.sliceBound,asIntOf,sizeOf,typeInfo,hi,hm,hne]
  | some b=>simp [Instr.sliceAt,Instr.slice,run_underlying hR.under,Instr.sliceBounds,Instr.sliceBound,asIntOf,sizeOf,typeInfo,hi,hm,Addr.add]
theorem slt {t e:TypeId} {k bytes:Nat} {z:Value} [hR:RowT P t e k bytes z] {x hi:Operand} {p:Option Addr} {cap n m:Nat} {cs:List Value} {d:Int} (HM:Mem w0 W L) (j:Nat) (hj:L[j]? = some (.row p cap e k n cs)) (hx:a.eval x = .slice p n cap) (hh:a.eval hi = .int .i64 d) (hd:d=(m:Int)) (hm:m≤n)
  (h:Mem w0 W (L.set j (.row p cap e k m (cs.take (m * k))))→wpList P ops Q (⟨dst,.move (.const (.slice p m cap)),ty0,pos,after,gd⟩ :: rest) a W):wpList P ops Q (⟨dst,.slice t x none (some hi) none,ty0,pos,after,gd⟩ :: rest) a W:=by
 subst hd
 have hrow:=HM.get hj
 have hc:=(row_cap hrow).1
 refine as_move (o:=⟨dst,.slice t x none (some hi) none,ty0,pos,after,gd⟩) (v:=.slice p m cap) ?_ (h (HM.turn0 hj (row_trunc hrow hm) (fun g e=>e)))
 simp only [execOp,Option.map_none,Option.map_some,hx,hh,Sem.run_bind,run_slice_to (P:=P) (W:=W) hR p n cap m (by omega),Result.andThen_ok]
 rfl
theorem run_slice_from {t e:TypeId} {k bytes:Nat} {z:Value} (hR:RowT P t e k bytes z) (p:Option Addr) (n cap m:Nat) (hm:m≤n) (hn:n≤cap):(Instr.sliceAt t (.slice p n cap) (some (.int .i64 m)) none none).run P W = .ok (.slice (if cap=m then p else p.map (·.add (m * k))) (n - m) (cap - m)) W:=by
 obtain ⟨i,hi,hz,hsz,-⟩:=rowT_parts hR
 subst hsz
 have h1:(m:Int)≤n:=by omega
 simp [Instr.sliceAt,Instr.slice,run_underlying hR.under,Instr.sliceBounds,Instr.sliceBound,asIntOf,sizeOf,typeInfo,hi,hm]
theorem from_some {B:Nat} {p:Option Addr} {cap k n m:Nat} {e:TypeId} {cs:List Value} (h:(Res.row p cap e k n cs).holds B W) (hm:m < n):∃ g,p=some ⟨g,0,none⟩∧(if cap=m then p else p.map (·.add (m * k)))=some ⟨g,m * k,none⟩:=by
 obtain ⟨g,rfl⟩:=row_some h (by omega)
 have:=(row_cap h).1
 refine ⟨g,rfl,?_⟩
 rw [if_neg (by omega),Option.map_some,add_none,Nat.zero_add]
theorem slf {t e:TypeId} {k bytes:Nat} {z:Value} [hR:RowT P t e k bytes z] {x lo:Operand} {p:Option Addr} {cap n m l:Nat} {d:Int} (hx:a.eval x = .slice p n cap) (hh:a.eval lo = .int .i64 d) (hd:d=(m:Int)) (hm:m≤n) (hn:n≤cap) (hl:n - m=l)
  (h:∀ q,(if cap=m then p else p.map (·.add (m * k)))=q→wpList P ops Q (⟨dst,.move (.const (.slice q l (cap - m))),ty0,pos,after,gd⟩ :: rest) a W):wpList P ops Q (⟨dst,.slice t x (some lo) none none,ty0,pos,after,gd⟩ :: rest) a W:=by
 subst hd hl
 refine as_move (o:=⟨dst,.slice t x (some lo) none none,ty0,pos,after,gd⟩) ?_ (h _ rfl)
 simp only [execOp,Option.map_none,Option.map_some,hx,hh,Sem.run_bind,run_slice_from (P:=P) (W:=W) hR p n cap m hm hn,Result.andThen_ok]
 rfl
theorem ixa {t e:TypeId} {k bytes:Nat} {z:Value} [hR:RowT P t e k bytes z] {x ix:Operand} {b:Addr} {n c i:Nat} {d:Int} (hx:a.eval x = .slice (some b) n c) (hh:a.eval ix = .int .i64 d) (hd:d=(i:Int)) (hi:i < n)
  (h:wpList P ops Q (⟨dst,.move (.const (.pointer (some (b.add (i * k))))),ty0,pos,after,gd⟩ :: rest) a W):wpList P ops Q (⟨dst,.indexAddr t x ix,ty0,pos,after,gd⟩ :: rest) a W:=by
 subst hd
 obtain ⟨i',hi',-,hsz,-⟩:=rowT_parts hR
 subst hsz
 refine as_move (o:=⟨dst,.indexAddr t x ix,ty0,pos,after,gd⟩) ?_ h
 have h1:(i:Int) < n:=by omega
 simp [execOp,hx,hh,Instr.indexAt,Sem.run_bind,asIntOf,run_underlying hR.under,sizeOf,typeInfo,hi',hi]
theorem res_box {fn:Func} {d:Tmp} {ty:TypeId} {n:Nat} [hA:AggT P ty n] (h:fn.results=#[.cell d ty]) {tmps:Array Value} (HM:Mem w0 W L) (k:Nat) {g:Nat} {t:TypeId} {cs:List Value} (hk:L[k]? = some (.box g t cs)) (hd:tmps.getD d undef = .pointer (some ⟨g,0,none⟩)) (hn:cs.length=n) :
  (results fn tmps).run P W = .ok (.agg cs.toArray) W:=by
 have hd' : tmps[d]?.getD undef = .pointer (some ⟨g,0,none⟩):=by simpa using hd
 simp [results,h,hd',asAddr,run_load_agg hA hn (box_cells (HM.get hk) 0)]
theorem res_box_tmp {fn:Func} {d u:Tmp} {ty:TypeId} {n:Nat} [hA:AggT P ty n] (h:fn.results=#[.cell d ty,.tmp u]) {tmps:Array Value} (HM:Mem w0 W L) (k:Nat) {g:Nat} {t:TypeId} {cs:List Value} (hk:L[k]? = some (.box g t cs)) (hd:tmps.getD d undef = .pointer (some ⟨g,0,none⟩)) (hn:cs.length=n) {v:Value} (hu:tmps.getD u undef=v) :
  (results fn tmps).run P W = .ok (.tuple #[.agg cs.toArray,v]) W:=by
 have hd' : tmps[d]?.getD undef = .pointer (some ⟨g,0,none⟩):=by simpa using hd
 have hu' : tmps[u]?.getD undef=v:=by simpa using hu
 simp [results,h,hd',hu',asAddr,run_load_agg hA hn (box_cells (HM.get hk) 0)]
theorem res_tmp_box_tmp {fn:Func} {b d u:Tmp} {ty:TypeId} {n:Nat} [hA:AggT P ty n] (h:fn.results=#[.tmp b,.cell d ty,.tmp u]) {tmps:Array Value} (HM:Mem w0 W L) (k:Nat) {g:Nat} {t:TypeId} {cs:List Value} (hk:L[k]? = some (.box g t cs)) (hd:tmps.getD d undef = .pointer (some ⟨g,0,none⟩)) (hn:cs.length=n) {x v:Value} (hb:tmps.getD b undef=x) (hu:tmps.getD u undef=v) :
  (results fn tmps).run P W = .ok (.tuple #[x,.agg cs.toArray,v]) W:=by
 have hd' : tmps[d]?.getD undef = .pointer (some ⟨g,0,none⟩):=by simpa using hd
 have hu' : tmps[u]?.getD undef=v:=by simpa using hu
 have hb' : tmps[b]?.getD undef=x:=by simpa using hb
 simp [results,h,hd',hu',hb',asAddr,run_load_agg hA hn (box_cells (HM.get hk) 0)]
structure MemW (w0:World) (L:List Res) where
 W:World
 mem:Mem w0 W L
theorem wp_region_mem {id:Nat} {l:List Oper} (hm:P.follows .mixedOrders=true) (hB:Region.lexB .any l.toArray=true) (HM:Mem w0 W L)
  (h:Nonempty (MemW w0 L)→wpQuiet P l.toArray (fun W=>∃ p:MemW w0 L,W=p.W) (fun a'=>∀ W',Mem w0 W' L→Q .normal a' W') l a):(Code.region id l.toArray true).wp P Q a W:=by
 have hM:=HM.next (W':={ W with drawn:=W.drawn + 1}) (RowKit.Below.refl _ W).drew
 refine wp_region_quiet (C:=fun W=>∃ p:MemW w0 L,W=p.W) hm hB ⟨⟨_,hM⟩,rfl⟩ ?_
 have h':=h ⟨⟨_,hM⟩⟩
 have e:(fun a'=>∀ W',Mem w0 W' L→Q .normal a' W')=fun a'=>∀ W',(∃ p:MemW w0 L,W' = p.W)→Q .normal a' W':=by
  funext a'
  apply propext
  exact ⟨fun h W' ⟨p,hp⟩=>h W' (hp▸p.mem),fun h W' hW=>h W' ⟨⟨W',hW⟩,rfl⟩⟩
 rw [e] at h'
 simpa using h'
variable {C:World→Prop} {K:Act→Prop}
theorem as_moveQ {o:Oper} {v:Value} (hrun:∀ W,C W→o.quietAt P a C W v) (h:wpQuiet P ops C K ({ o with op:=.move (.const v)} :: rest) a):wpQuiet P ops C K (o :: rest) a:=by
 unfold wpQuiet at h ⊢
 by_cases hw:Region.wanted o (yielded ops a.tmps)=true
 ·rw [if_pos (show Region.wanted ({ o with op:=.move (.const v)}:Oper) (yielded ops a.tmps)=true from hw)] at h
  rw [if_pos hw]
  obtain ⟨v',h1,h2⟩:=h
  by_cases hC:∃ W,C W
  ·obtain ⟨W,hW⟩:=hC
   have h3:W=W∧v=v':=h1 W hW
   exact ⟨v,hrun,h3.2▸h2⟩
  ·exact ⟨v',fun W hW=>absurd ⟨W,hW⟩ hC,h2⟩
 ·rw [if_neg (show ¬ Region.wanted ({ o with op:=.move (.const v)}:Oper) (yielded ops a.tmps)=true from hw)] at h
  rw [if_neg hw]
  exact h
theorem quiet_value {o:Oper} {v:Value} {W:World} (h:(execOp a.eval o).run P W = .ok (.value v) W):o.quietAt P a C W v:=by
 unfold Oper.quietAt
 rw [h]
 exact ⟨rfl,rfl⟩
theorem qd1 {ty:TypeId} [hC:CellT P ty] {x:Operand} {p:Addr} {v:Value} (hx:a.eval x = .pointer (some p)) (hv:∀ W,C W→W.cell? p=some v)
  (h:wpQuiet P ops C K (⟨dst,.move (.const v),ty0,pos,after,gd⟩ :: rest) a):wpQuiet P ops C K (⟨dst,.load ty x,ty0,pos,after,gd⟩ :: rest) a:=
 as_moveQ (o:=⟨dst,.load ty x,ty0,pos,after,gd⟩) (fun W hW=>quiet_value (by simp only [execOp,hx,Instr.loadAt,Instr.sureAddr,Sem.run_bind,Sem.run_pure,Result.andThen_ok,run_load_cell hC (hv W hW)])) h
theorem qdA {ty:TypeId} {n:Nat} [hA:AggT P ty n] {x:Operand} {p:Addr} {vs:List Value} (hx:a.eval x = .pointer (some p)) (hn:vs.length=n) (hv:∀ W,C W→Cells W p vs)
  (h:wpQuiet P ops C K (⟨dst,.move (.const (.agg vs.toArray)),ty0,pos,after,gd⟩ :: rest) a):wpQuiet P ops C K (⟨dst,.load ty x,ty0,pos,after,gd⟩ :: rest) a:=
 as_moveQ (o:=⟨dst,.load ty x,ty0,pos,after,gd⟩) (fun W hW=>quiet_value (by simp only [execOp,hx,Instr.loadAt,Instr.sureAddr,Sem.run_bind,Sem.run_pure,Result.andThen_ok,run_load_agg hA hn (hv W hW)])) h
theorem qdb1 {ty:TypeId} [hC:CellT P ty] {x:Operand} {g:Nat} {t:TypeId} {cs:List Value} {i:Nat} {v:Value} (HM:Mem w0 W L) (k:Nat) (hk:L[k]? = some (.box g t cs)) (hx:a.eval x = .pointer (some ⟨g,i,none⟩)) (hv:cs[i]? = some v)
  (h:wpQuiet P ops (fun W=>∃ p:MemW w0 L,W=p.W) K (⟨dst,.move (.const v),ty0,pos,after,gd⟩ :: rest) a):wpQuiet P ops (fun W=>∃ p:MemW w0 L,W=p.W) K (⟨dst,.load ty x,ty0,pos,after,gd⟩ :: rest) a:=
 qd1 hx (fun W ⟨p,hp⟩=>by subst hp;have:=box_cells (p.mem.get hk) i 0 v (by rw [List.getElem?_drop];exact hv);rwa [add_none] at this) h
theorem qdbW {ty:TypeId} {n:Nat} [hA:AggT P ty n] {x:Operand} {g:Nat} {t:TypeId} {cs:List Value} (HM:Mem w0 W L) (k:Nat) (hk:L[k]? = some (.box g t cs)) (hx:a.eval x = .pointer (some ⟨g,0,none⟩)) (hn:cs.length=n)
  (h:wpQuiet P ops (fun W=>∃ p:MemW w0 L,W=p.W) K (⟨dst,.move (.const (.agg cs.toArray)),ty0,pos,after,gd⟩ :: rest) a):wpQuiet P ops (fun W=>∃ p:MemW w0 L,W=p.W) K (⟨dst,.load ty x,ty0,pos,after,gd⟩ :: rest) a:=
 qdA hx hn (fun W ⟨p,hp⟩=>hp▸box_cells (p.mem.get hk) 0) h
theorem qdbS {ty:TypeId} {n:Nat} [hA:AggT P ty n] {x:Operand} {g:Nat} {t:TypeId} {cs:List Value} {i:Nat} (HM:Mem w0 W L) (k:Nat) (hk:L[k]? = some (.box g t cs)) (hx:a.eval x = .pointer (some ⟨g,i,none⟩)) (hn:((cs.drop i).take n).length=n)
  (h:wpQuiet P ops (fun W=>∃ p:MemW w0 L,W=p.W) K (⟨dst,.move (.const (.agg ((cs.drop i).take n).toArray)),ty0,pos,after,gd⟩ :: rest) a):wpQuiet P ops (fun W=>∃ p:MemW w0 L,W=p.W) K (⟨dst,.load ty x,ty0,pos,after,gd⟩ :: rest) a:=
 qdA hx hn (fun W ⟨p,hp⟩=>hp▸(box_cells (p.mem.get hk) i).take n) h
theorem run_call {f : FuncId} {fn : Func} {c : Code} (hf : P.funcs[f]? = some fn) (hb : fn.body = some c) (hn : (fn.name == "runtime.NumGoroutine") = false) {xs : Array Operand} {ats : Array TypeId} :
  (execOp a.eval ⟨dst,.call { callee:=.value (.func f),args:=xs,argTypes:=ats},ty0,pos,after,gd⟩).run P W = .ok (.enter f (xs.map a.eval)) W:=by
 have hn' : ¬ fn.name = "runtime.NumGoroutine" := by simpa using hn
 simp [execOp,resolve,Deferred.ofValue,Act.eval,invoke,callFunc,program,hf,hb,hn',Sem.run]
theorem qcall (HM:Mem w0 W L) {f:FuncId} {args:Array Value} {v:Value} (hc:∀ W,Mem w0 W L→Calls P f args W fun e w'=>e = .returned v∧RowKit.Below W.heap.size W w')
  {fn : Func} {c : Code} (hf : P.funcs[f]? = some fn) (hb : fn.body = some c) (hn : (fn.name == "runtime.NumGoroutine") = false) {xs : Array Operand} {ats : Array TypeId} (hx : xs.toList.map a.eval = args.toList)
  (h:wpQuiet P ops (fun W=>∃ p:MemW w0 L,W=p.W) K (⟨dst,.move (.const v),ty0,pos,after,gd⟩ :: rest) a):wpQuiet P ops (fun W=>∃ p:MemW w0 L,W=p.W) K (⟨dst,.call { callee:=.value (.func f),args:=xs,argTypes:=ats},ty0,pos,after,gd⟩ :: rest) a:=
 as_moveQ (o:=⟨dst,.call { callee:=.value (.func f),args:=xs,argTypes:=ats},ty0,pos,after,gd⟩) (fun W ⟨p,hp⟩=>by
  subst hp
  unfold Oper.quietAt
  rw [run_call hf hb hn,show xs.map a.eval=args from by apply Array.ext';rw [Array.toList_map];exact hx]
  exact ⟨rfl,(hc _ p.mem).mono fun e w' ⟨he,hb⟩=>⟨he,⟨⟨_,p.mem.next hb⟩,rfl⟩⟩⟩) h
end
section
variable {P:Program} {ops:Array Oper} {Q:Exit→Act→World→Prop} {a:Act} {W:World} {r:List Oper} {C:World→Prop} {K:Act→Prop}
variable {d:Option Tmp} {u:TypeId} {p:String} {f:Array Edge} {g:Option (Nat × Bool)} {o:Op} {t:TypeId} {x y z:Operand}
theorem istore (h:wpList P ops Q (Oper.mk d (.store t x y) u p f g :: r) a W):wpList P ops Q (Oper.mk d (.store t x y) u p f g :: r) a W:=h
theorem iload (h:wpList P ops Q (Oper.mk d (.load t x) u p f g :: r) a W):wpList P ops Q (Oper.mk d (.load t x) u p f g :: r) a W:=h
theorem ialloc (h:wpList P ops Q (Oper.mk d (.alloc t) u p f g :: r) a W):wpList P ops Q (Oper.mk d (.alloc t) u p f g :: r) a W:=h
theorem ibox (h:wpList P ops Q (Oper.mk d (.box t x) u p f g :: r) a W):wpList P ops Q (Oper.mk d (.box t x) u p f g :: r) a W:=h
theorem ibuildSlice {n:Nat} {l:Array (Nat × Operand)} (h:wpList P ops Q (Oper.mk d (.buildSlice t n l) u p f g :: r) a W):wpList P ops Q (Oper.mk d (.buildSlice t n l) u p f g :: r) a W:=h
theorem inilCheck (h:wpList P ops Q (Oper.mk d (.nilCheck x) u p f g :: r) a W):wpList P ops Q (Oper.mk d (.nilCheck x) u p f g :: r) a W:=h
theorem imapUpdate (h:wpList P ops Q (Oper.mk d (.mapUpdate t x y z) u p f g :: r) a W):wpList P ops Q (Oper.mk d (.mapUpdate t x y z) u p f g :: r) a W:=h
theorem iat (n:Tmp) (h:wpList P ops Q (Oper.mk (some n) o u p f g :: r) a W):wpList P ops Q (Oper.mk (some n) o u p f g :: r) a W:=h
theorem igd {k:Nat × Bool} (h:wpList P ops Q (Oper.mk d o u p f (some k) :: r) a W):wpList P ops Q (Oper.mk d o u p f (some k) :: r) a W:=h
theorem qload (h:wpQuiet P ops C K (Oper.mk d (.load t x) u p f g :: r) a):wpQuiet P ops C K (Oper.mk d (.load t x) u p f g :: r) a:=h
theorem qnilCheck (h:wpQuiet P ops C K (Oper.mk d (.nilCheck x) u p f g :: r) a):wpQuiet P ops C K (Oper.mk d (.nilCheck x) u p f g :: r) a:=h
theorem qat (n:Tmp) (h:wpQuiet P ops C K (Oper.mk (some n) o u p f g :: r) a):wpQuiet P ops C K (Oper.mk (some n) o u p f g :: r) a:=h
theorem qgd {k:Nat × Bool} (h:wpQuiet P ops C K (Oper.mk d o u p f (some k) :: r) a):wpQuiet P ops C K (Oper.mk d o u p f (some k) :: r) a:=h
end
theorem lss {α:Type}:(∀ (a b:α) (l:List α),(a :: l).set 0 b=b :: l)∧(∀ (a b:α) (l:List α) (n:Nat),(a :: l).set (n + 1) b=a :: l.set n b)∧(∀ (b:α) (n:Nat),([]:List α).set n b=[])∧
  (∀ l:List α,l.take 0=[])∧(∀ (a:α) (l:List α) (n:Nat),(a :: l).take (n + 1)=a :: l.take n)∧(∀ n:Nat,([]:List α).take n=[])∧
  (∀ l:List α,l.drop 0=l)∧(∀ (a:α) (l:List α) (n:Nat),(a :: l).drop (n + 1)=l.drop n)∧(∀ n:Nat,([]:List α).drop n=[])∧
  (∀ (a:α) (l m:List α),(a :: l)++m=a :: (l++m))∧(∀ l:List α,[]++l=l)∧(∀ (a:α) (l:List α),(a :: l).length=l.length + 1)∧([]:List α).length=0:=by
 refine ⟨?_,?_,?_,?_,?_,?_,?_,?_,?_,?_,?_,?_,?_⟩ <;> intros <;> first|rfl|simp
theorem flat_len {α:Type} (f:α→List Value) (k:Nat) (hf:∀ x,(f x).length=k) (l:List α):(l.flatMap f).length=l.length * k:=by
 induction l with
 | nil=>simp
 | cons x l ih=>rw [List.flatMap_cons,List.length_append,ih,hf,List.length_cons,Nat.succ_mul];omega
theorem flat_drop {α:Type} (f:α→List Value) (k:Nat) (hf:∀ x,(f x).length=k) (l:List α) (i:Nat):(l.flatMap f).drop (i * k)=(l.drop i).flatMap f:=by
 induction i generalizing l with
 | zero=>simp
 | succ i ih=>
  cases l with
  | nil=>simp
  | cons x l=>
   rw [List.flatMap_cons,List.drop_succ_cons,← ih l,List.drop_append,hf]
   rw [List.drop_of_length_le (by rw [hf,Nat.succ_mul];omega),List.nil_append]
   congr 1
   rw [Nat.succ_mul];omega
theorem flat_take {α:Type} (f:α→List Value) (k:Nat) (hf:∀ x,(f x).length=k) (l:List α) (i:Nat):(l.flatMap f).take (i * k)=(l.take i).flatMap f:=by
 induction i generalizing l with
 | zero=>simp
 | succ i ih=>
  cases l with
  | nil=>simp
  | cons x l=>
   rw [List.flatMap_cons,List.take_succ_cons,List.flatMap_cons,← ih l,List.take_append,hf]
   rw [List.take_of_length_le (by rw [hf,Nat.succ_mul];omega)]
   congr 2
   rw [Nat.succ_mul];omega
theorem flat_at {α:Type} (f:α→List Value) (k:Nat) (hf:∀ x,(f x).length=k) {l:List α} {i:Nat} {x:α} (h:l[i]? = some x):((l.flatMap f).drop (i * k)).take k=f x:=by
 rw [flat_drop f k hf]
 have hi:i < l.length:=(List.getElem?_eq_some_iff.1 h).1
 rw [List.drop_eq_getElem_cons hi,List.flatMap_cons]
 rw [List.take_append,hf,Nat.sub_self,List.take_zero,List.append_nil,List.take_of_length_le (by rw [hf];exact Nat.le_refl _)]
 rw [(List.getElem?_eq_some_iff.1 h).2]
theorem add_add' (a:Addr) (i j:Nat):(a.add i).add j=a.add (i + j):=by
 unfold Addr.add
 by_cases hi:i=0
 ·subst hi;simp
 ·by_cases hj:j=0
  ·subst hj;simp
  ·rw [if_neg hi,if_neg hj,if_neg (show ¬ i + j=0 by omega)]
   simp
   omega
theorem Cells.at_ {W:World} {p:Addr} {vs:List Value} (h:Cells W p vs) (i:Nat):Cells W (p.add i) (vs.drop i):=fun j u hj=>by
 rw [add_add']
 rw [List.getElem?_drop] at hj
 exact h (i + j) u hj
theorem Cells.elem {α:Type} (f:α→List Value) (k:Nat) (hf:∀ x,(f x).length=k) {W:World} {p:Addr} {l:List α} (h:Cells W p (l.flatMap f)) {i:Nat} {x:α} (hx:l[i]? = some x):Cells W (p.add (i * k)) (f x):=by
 have:=(h.at_ (i * k)).take k
 rwa [flat_at f k hf hx] at this
section
variable {P:Program} {ops:Array Oper} {Q:Exit→Act→World→Prop} {a:Act} {W W' w0:World} {rest:List Oper} {L:List Res}
variable {dst:Option Tmp} {ty0:TypeId} {pos:String} {after:Array Edge} {gd:Option (Nat × Bool)}
theorem box_row {B:Nat} {g:Nat} {e:TypeId} {k n:Nat} {cs:List Value} (h:(Res.box g e cs).holds B W) (hl:cs.length=n * k) (hn:n≤maxLen):(Res.row (some ⟨g,0,none⟩) n e k n cs).holds B W:=
 ⟨hl,Or.inr ⟨g,n,cs.toArray,rfl,h.1,h.2,Nat.le_refl _,hn,by simpa using hl,by rw [← hl];simp⟩⟩
theorem Mem.row0 (h:Mem w0 W L) (e:TypeId) (k:Nat):Mem w0 W (.row none 0 e k 0 [] :: L):=
 h.add ⟨rfl,rfl,rfl,Nat.le_refl _,fun _ _ _=>rfl⟩ ⟨by simp,Or.inl ⟨rfl,rfl⟩⟩ (fun g e=>by cases e)
theorem bs1 {t e:TypeId} {k bytes:Nat} {z:Value} [hR:RowT P t e k bytes z] {x:Operand} {cs:List Value} (hw:Region.wanted ⟨dst,.buildSlice t 1 #[(0,x)],ty0,pos,after,gd⟩ (yielded ops a.tmps)=true) (HM:Mem w0 W L)
  (hx:(a.eval x).cells=cs.toArray) (hk:cs.length=k) (hs:k≤16777216)
  (h:∀ g W',Mem w0 W' (.box g e cs :: L)→wpList P ops Q (⟨dst,.move (.const (.slice (some ⟨g,0,none⟩) 1 1)),ty0,pos,after,gd⟩ :: rest) a W'):wpList P ops Q (⟨dst,.buildSlice t 1 #[(0,x)],ty0,pos,after,gd⟩ :: rest) a W:=by
 have hp:=hR.pos
 refine bsb (cs:=cs) hw HM (by omega) (by omega) ?_ h
 subst hk
 have hz:=hR.zero
 have key:∀ (vs:List Value) (A:List Value) (o:Nat),o + vs.length=A.length→(vs.zipIdx 0).foldl (fun (acc:Array Value) (x:Value × Nat)=>acc.setIfInBounds (o + x.2) x.1) A.toArray=(A.take o++vs).toArray:=by
  intro vs
  suffices H:∀ (vs:List Value) (A:List Value) (o i:Nat),o + i + vs.length=A.length→(vs.zipIdx i).foldl (fun (acc:Array Value) (x:Value × Nat)=>acc.setIfInBounds (o + x.2) x.1) A.toArray=(A.take (o + i)++vs).toArray by
   intro A o h
   simpa using H vs A o 0 (by simpa using h)
  intro vs
  induction vs with
  | nil=>intro A o i h;simp only [List.zipIdx_nil,List.foldl_nil,List.append_nil];rw [List.take_of_length_le (by simp at h;omega)]
  | cons v vs ih=>
   intro A o i h
   simp only [List.zipIdx_cons,List.foldl_cons,List.setIfInBounds_toArray]
   rw [ih (A.set (o + i) v) o (i + 1) (by simp at h ⊢;omega)]
   congr 1
   have hlt:o + i < A.length:=by simp at h;omega
   rw [List.set_eq_take_append_cons_drop,if_pos hlt,← Nat.add_assoc]
   rw [List.take_append,List.length_take,Nat.min_eq_left (by omega),List.take_of_length_le (by simp;omega)]
   rw [show o + i + 1 - (o + i)=1 by omega]
   simp
 have hcs:(a.eval x).cells.size=cs.length:=by rw [hx];simp
 have hp1:(Array.map (fun x:Nat × Operand=>(x.1,a.eval x.2)) #[(0,x)]).toList=[(0,a.eval x)]:=by simp
 show Instr.fill _ _ (Array.map (fun x:Nat × Operand=>(x.1,a.eval x.2)) #[(0,x)]).toList=_
 rw [hp1]
 simp only [Instr.fill,Nat.zero_mul,hcs,ne_eq,not_true_eq_false,decide_false,Nat.zero_add,Bool.false_or]
 have hsz:((Array.range (1 * cs.length)).map (z.cells[· % z.cells.size]!)).size=cs.length:=by simp
 rw [if_neg (by rw [hsz];simp)]
 have hA:=key cs ((Array.range (1 * cs.length)).map (z.cells[· % z.cells.size]!)).toList 0 (by simp)
 simp only [Nat.zero_add,List.take_zero,List.nil_append,Array.toArray_toList] at hA
 rw [hx]
 rw [← Array.foldl_toList,Array.toList_zipIdx]
 exact congrArg some hA
theorem bs1A {t e:TypeId} {k bytes:Nat} {z:Value} [hR:RowT P t e k bytes z] {x:Operand} {cs:List Value} (hw:Region.wanted ⟨dst,.buildSlice t 1 #[(0,x)],ty0,pos,after,gd⟩ (yielded ops a.tmps)=true) (HM:Mem w0 W L)
  (hx:a.eval x = .agg cs.toArray) (hk:cs.length=k) (hs:decide (k≤16777216)=true)
  (h:∀ g W',Mem w0 W' (.box g e cs :: L)→wpList P ops Q (⟨dst,.move (.const (.slice (some ⟨g,0,none⟩) 1 1)),ty0,pos,after,gd⟩ :: rest) a W'):wpList P ops Q (⟨dst,.buildSlice t 1 #[(0,x)],ty0,pos,after,gd⟩ :: rest) a W:=
 bs1 hw HM (by rw [hx];rfl) hk (of_decide_eq_true hs) h
theorem bs1c {t e:TypeId} {bytes:Nat} {z:Value} [hR:RowT P t e 1 bytes z] {x:Operand} {v:Value} (hw:Region.wanted ⟨dst,.buildSlice t 1 #[(0,x)],ty0,pos,after,gd⟩ (yielded ops a.tmps)=true) (HM:Mem w0 W L)
  (hx:a.eval x=v) (h1:v.oneCell' = true)
  (h:∀ g W',Mem w0 W' (.box g e [v] :: L)→wpList P ops Q (⟨dst,.move (.const (.slice (some ⟨g,0,none⟩) 1 1)),ty0,pos,after,gd⟩ :: rest) a W'):wpList P ops Q (⟨dst,.buildSlice t 1 #[(0,x)],ty0,pos,after,gd⟩ :: rest) a W:=
 bs1 (k:=1) hw HM (by rw [hx,← cells_one h1]) rfl (by omega) h
theorem bs0 {t e:TypeId} {k bytes:Nat} {z:Value} [hR:RowT P t e k bytes z] (hw:Region.wanted ⟨dst,.buildSlice t 0 #[],ty0,pos,after,gd⟩ (yielded ops a.tmps)=true) (HM:Mem w0 W L)
  (h:∀ g W',Mem w0 W' (.row (some ⟨g,0,none⟩) 0 e k 0 [] :: L)→wpList P ops Q (⟨dst,.move (.const (.slice (some ⟨g,0,none⟩) 0 0)),ty0,pos,after,gd⟩ :: rest) a W'):wpList P ops Q (⟨dst,.buildSlice t 0 #[],ty0,pos,after,gd⟩ :: rest) a W:=by
 have hM:=new_box (cs:=[]) HM e
 have hM' : Mem w0 (W.alloc (.cells #[] e)) (.row (some ⟨W.heap.size,0,none⟩) 0 e k 0 [] :: L):=
  hM.turn0 (k:=0) rfl (box_row (hM.get (k:=0) rfl) (by simp) (by unfold maxLen;omega)) (fun g e=>e)
 refine as_moveW (o:=⟨dst,.buildSlice t 0 #[],ty0,pos,after,gd⟩) hw ?_ (h _ _ hM')
 obtain ⟨i,hi,hz,hsz,-⟩:=rowT_parts hR
 show (do pure (.value (← Instr.buildSlice t 0 ((#[]:Array (Nat × Operand)).map fun (i,x)=>(i,a.eval x)))):Sem Next).run P W=_
 have e0:∀ f:Nat→Value,Array.map f (Array.range 0)=#[]:=fun f=>by apply Array.ext';simp
 simp [Instr.buildSlice,run_underlying hR.under,sizeOf,typeInfo,hi,Instr.fill,newRow,e0]
theorem apb {t e e' : TypeId} {k bytes:Nat} {z:Value} [hR:RowT P t e k bytes z] {s x:Operand} {p:Option Addr} {g cap n n' m c:Nat} {cs news:List Value} (hw:Region.wanted ⟨dst,.call { callee:=.builtin .append,args:=#[s,x],argTypes:=#[t,t]},ty0,pos,after,gd⟩ (yielded ops a.tmps)=true)
  (HM:Mem w0 W L) (j i:Nat) (hj:L[j]? = some (.row p cap e k n cs)) (hi:L[i]? = some (.box g e' news)) (hs:a.eval s = .slice p n' cap) (hx:a.eval x = .slice (some ⟨g,0,none⟩) m c)
  (hl:news.length=m * k) (h1:news.all (·.oneCell')=true) (hn:n'≤n) (h63:n' + m≤9223372036854775807) (hbytes:(n' + m) * bytes≤140737488355328)
  (h:∀ p' cap' W',Mem w0 W' (L.set j (.row p' cap' e k (n' + m) (cs.take (n' * k)++news)))→wpList P ops Q (⟨dst,.move (.const (.slice p' (n' + m) cap')),ty0,pos,after,gd⟩ :: rest) a W') :
  wpList P ops Q (⟨dst,.call { callee:=.builtin .append,args:=#[s,x],argTypes:=#[t,t]},ty0,pos,after,gd⟩ :: rest) a W:=by
 have hrow:=HM.get hj
 have hM':=HM.turn0 hj (row_trunc hrow hn) (fun g e=>e)
 have hjl:j < L.length:=(List.getElem?_eq_some_iff.1 hj).1
 have hbox:=box_cells (HM.get hi) 0
 refine apr hw hM' j (by rw [List.getElem?_set_self hjl]) hs hx hl (fun e=>by cases e) (fun b e=>by cases e;exact hbox) (by simpa using h1) (by unfold maxLen;exact h63) hbytes (fun p' cap' W' hM hnil=>?_)
 rw [List.set_set] at hM
 exact h p' cap' W' hM
theorem ldrA {ty:TypeId} {n:Nat} [hA:AggT P ty n] {x:Operand} {g cap k len i:Nat} {e:TypeId} {cs vs:List Value} (HM:Mem w0 W L) (j:Nat) (hj:L[j]? = some (.row (some ⟨g,0,none⟩) cap e k len cs)) (hx:a.eval x = .pointer (some ⟨g,i,none⟩)) (hv:(cs.drop i).take n=vs) (hn:vs.length=n)
  (h:wpList P ops Q (⟨dst,.move (.const (.agg vs.toArray)),ty0,pos,after,gd⟩ :: rest) a W):wpList P ops Q (⟨dst,.load ty x,ty0,pos,after,gd⟩ :: rest) a W:=
 ldA hA hx hn (hv▸((row_cells (HM.get hj) i).2.2.take n)) h
theorem ldr1 {ty:TypeId} [hC:CellT P ty] {x:Operand} {g cap k len i:Nat} {e:TypeId} {cs:List Value} {v:Value} (HM:Mem w0 W L) (j:Nat) (hj:L[j]? = some (.row (some ⟨g,0,none⟩) cap e k len cs)) (hx:a.eval x = .pointer (some ⟨g,i,none⟩)) (hv:cs[i]? = some v)
  (h:wpList P ops Q (⟨dst,.move (.const v),ty0,pos,after,gd⟩ :: rest) a W):wpList P ops Q (⟨dst,.load ty x,ty0,pos,after,gd⟩ :: rest) a W:=
 ld1 hC hx (by have:=(row_cells (HM.get hj) i).2.2 0 v (by rw [List.getElem?_drop];exact hv);rwa [add_none] at this) h
theorem mks {t e:TypeId} {bytes:Nat} {z:Value} [hR:RowT P t e 1 bytes z] {x y:Operand} {d d' : Int} {n:Nat} (hw:Region.wanted ⟨dst,.makeSlice t x y,ty0,pos,after,gd⟩ (yielded ops a.tmps)=true) (HM:Mem w0 W L)
  (hx:a.eval x = .int .i64 d) (hy:a.eval y = .int .i64 d') (hd:d=(n:Int)) (hd' : d' = (n:Int)) (hz:z.cells=#[z]) (hn:bytes * n≤140737488355328) (hm:n≤9223372036854775807)
  (h:∀ g W',Mem w0 W' (.row (some ⟨g,0,none⟩) n e 1 n (List.replicate n z) :: L)→wpList P ops Q (⟨dst,.move (.const (.slice (some ⟨g,0,none⟩) n n)),ty0,pos,after,gd⟩ :: rest) a W'):wpList P ops Q (⟨dst,.makeSlice t x y,ty0,pos,after,gd⟩ :: rest) a W:=by
 subst hd hd'
 obtain ⟨i,hi,hz1,hsz,hby⟩:=rowT_parts hR
 have hcs:(Array.range n).map (fun j=>z.cells[j % z.cells.size]!)=(List.replicate n z).toArray:=by
  rw [hz]
  apply Array.ext'
  rw [Array.toList_map,Array.toList_range]
  simp only [List.size_toArray,List.length_cons,List.length_nil,Nat.zero_add,Nat.mod_one]
  apply List.ext_getElem?
  intro j
  rw [List.getElem?_map,List.getElem?_replicate]
  by_cases hj:j < n
  ·rw [List.getElem?_range hj,if_pos hj];rfl
  ·rw [List.getElem?_eq_none (by simpa using hj),if_neg hj];rfl
 obtain ⟨W',hrun,hown,hg⟩:=run_make_full (P:=P) W w0.heap.size t e i z 1 hR.under hi hz1 hsz .i64 .i64 n (by rw [hby];omega) (by unfold maxLen;exact hm) HM.below.size
 have hcs' : (madeCells z.cells (n * 1)).toList=List.replicate n z:=by
  unfold madeCells
  rw [Nat.mul_one,hcs]
 rw [hcs'] at hown
 have hM' : Mem w0 W' (.row (some ⟨W.heap.size,0,none⟩) n e 1 n (List.replicate n z) :: L):=HM.add hg hown (fun g e=>Nat.le_of_eq (Option.some.inj e))
 refine as_moveW (o:=⟨dst,.makeSlice t x y,ty0,pos,after,gd⟩) hw ?_ (h _ _ hM')
 show (do pure (.value (← Instr.makeSlice t (a.eval x) (a.eval y))):Sem Next).run P W=_
 rw [hx,hy]
 simp only [Sem.run_bind,hrun,Result.andThen_ok]
 rfl
theorem strw {ty:TypeId} [hC:CellT P ty] {x y:Operand} {b:Addr} {cap k n i:Nat} {e:TypeId} {cs:List Value} {v:Value} (hw:Region.wanted ⟨dst,.store ty x y,ty0,pos,after,gd⟩ (yielded ops a.tmps)=true) (HM:Mem w0 W L) (j:Nat) (hj:L[j]? = some (.row (some b) cap e k n cs)) (hx:a.eval x = .pointer (some (b.add i)))
  (hy:a.eval y=v) (h1:v.oneCell' = true) (hi:i < cs.length)
  (h:∀ W',Mem w0 W' (L.set j (.row (some b) cap e k n (cs.set i v)))→wpList P ops Q (⟨dst,.move (.const undef),ty0,pos,after,gd⟩ :: rest) a W'):wpList P ops Q (⟨dst,.store ty x y,ty0,pos,after,gd⟩ :: rest) a W:=by
 have hrow:=HM.get hj
 obtain ⟨hl,⟨h0,_⟩ | ⟨g,cap',cur,hv,hb,hh,hc,hm,hs,htk⟩⟩:=(hrow:W.ownsRow _ _ _ _ _ _)
 ·cases h0
 ·simp only [Value.slice.injEq,Option.some.injEq] at hv
  obtain ⟨rfl,-,rfl⟩:=hv
  rw [add_none,Nat.zero_add] at hx
  have hcl:cs.length≤cur.size:=by rw [← htk,List.length_take];simp;omega
  have hst:=run_storeCells_at P g i e [v] 0 cur W hh (by simp;omega) (fun u hu=>by rw [List.mem_singleton.1 hu];exact h1)
  have hM:Mem w0 (W.setRow g (cur.toList.take (i + 0)++[v]++cur.toList.drop (i + 0 + [v].length)).toArray) (L.set j (.row (some ⟨g,0,none⟩) cap e k n (cs.set i v))):=by
   refine HM.turn hj ⟨rfl,rfl,rfl,by simp,fun q hq hne=>setRow_other W g q _ (fun e=>hne (by simp [Res.blk,e]))⟩ ?_ (fun g' e=>Or.inl e)
   refine ⟨by simpa using hl,Or.inr ⟨g,cap,_,rfl,hb,setRow_heap W g cur _ e _ hh,hc,hm,?_,?_⟩⟩
   ·simp;omega
   ·have e1:cur.toList.take (i + 0)++[v]++cur.toList.drop (i + 0 + [v].length)=cur.toList.set i v:=by
     rw [List.set_eq_take_append_cons_drop,if_pos (by simp;omega)]
     simp
    rw [e1]
    show List.take (n * k) (cur.toList.set i v)=cs.set i v
    rw [List.take_set,htk]
  have hyc:(a.eval y).cells.toList=[v]:=by rw [hy];exact cells_one h1
  refine wpList_step fun K hK=>?_
  rw [if_pos hw]
  have h':=h _ hM
  unfold wpList at h'
  rw [if_pos (show Region.wanted (⟨dst,.move (.const undef),ty0,pos,after,gd⟩:Oper) (yielded ops a.tmps)=true from hw)] at h'
  rcases h' with h' | ⟨h',_⟩
  ·have h'' : wpList P ops Q rest (a.put dst undef) _:=h'
   have hsz:(a.eval y).cells.size=1:=by have:=congrArg List.length hyc;simpa using this
   unfold Oper.wp
   simp only [execOp,hx,Instr.storeAt,Instr.sureAddr,storeVar,Sem.run_bind,Sem.run_pure,Result.andThen_ok,hC.size,hsz,ne_eq,not_true_eq_false,if_false,hyc,hst]
   exact hK _ _ h''
  ·exact absurd h' (asks_move (o:=⟨dst,.move (.const undef),ty0,pos,after,gd⟩))
theorem still_of_quiet {K:Act→Prop}:∀ (l:List Oper) (a:Act),wpQuiet P ops (fun W'=>W' = W) K l a→wpStill P ops W K l a
 | [],a,h=>h
 | o :: rest,a,h=>by
  unfold wpQuiet at h
  unfold wpStill
  split at h
  ·rename_i hw
   rw [if_pos hw]
   obtain ⟨v,h1,h2⟩:=h
   have h3:=h1 W rfl
   have h4:=still_of_quiet rest _ h2
   unfold Oper.quietAt at h3
   unfold Oper.still
   generalize (execOp a.eval o).run P W=r at *
   cases r with
   | ok n w'=>
    cases n <;> simp only [Oper.quietUpon] at h3 <;> simp only [Oper.stillUpon]
    case value u=>obtain ⟨e1,e2⟩:=h3;exact ⟨e1,e2▸h4⟩
    case skip=>obtain ⟨e1,e2⟩:=h3;exact ⟨e1,e2▸h4⟩
    case enter f args=>obtain ⟨e1,hc⟩:=h3;exact ⟨e1,v,hc,h4⟩
   | halt x w'=>simp only [Oper.quietUpon] at h3
  ·rename_i hw
   rw [if_neg hw]
   exact still_of_quiet rest _ h
theorem wp_region_mem_tail {id:Nat} {l:List Oper} (n:Nat) (hm:P.follows .mixedOrders=true) (hB:Region.lexTailB .any l.toArray n=true) (HM:Mem w0 W L)
  (h:∀ W',Mem w0 W' L→wpQuiet P l.toArray (fun V=>V=W') (fun a'=>wpList P l.toArray Q (l.drop n) a' W') (l.take n) a):(Code.region id l.toArray true).wp P Q a W:=
 wp_region_still_tail n hm hB (still_of_quiet _ _ (h _ (HM.next (W':={ W with drawn:=W.drawn + 1}) (RowKit.Below.refl _ W).drew)))
variable {K:Act→Prop}
theorem qsb1 {ty:TypeId} [hC:CellT P ty] (HM:Mem w0 W L) {x:Operand} {g:Nat} {t:TypeId} {cs:List Value} {i:Nat} {v:Value} (k:Nat) (hk:L[k]? = some (.box g t cs)) (hx:a.eval x = .pointer (some ⟨g,i,none⟩)) (hv:cs[i]? = some v)
  (h:wpQuiet P ops (fun V=>V=W) K (⟨dst,.move (.const v),ty0,pos,after,gd⟩ :: rest) a):wpQuiet P ops (fun V=>V=W) K (⟨dst,.load ty x,ty0,pos,after,gd⟩ :: rest) a:=
 qd1 hx (fun V e=>by subst e;have:=box_cells (HM.get hk) i 0 v (by rw [List.getElem?_drop];exact hv);rwa [add_none] at this) h
theorem qsbW {ty:TypeId} {n:Nat} [hA:AggT P ty n] (HM:Mem w0 W L) {x:Operand} {g:Nat} {t:TypeId} {cs:List Value} (k:Nat) (hk:L[k]? = some (.box g t cs)) (hx:a.eval x = .pointer (some ⟨g,0,none⟩)) (hn:cs.length=n)
  (h:wpQuiet P ops (fun V=>V=W) K (⟨dst,.move (.const (.agg cs.toArray)),ty0,pos,after,gd⟩ :: rest) a):wpQuiet P ops (fun V=>V=W) K (⟨dst,.load ty x,ty0,pos,after,gd⟩ :: rest) a:=
 qdA hx hn (fun V e=>by subst e;exact box_cells (HM.get hk) 0) h
theorem qscall {f:FuncId} {args:Array Value} {v:Value} (hc:Calls P f args W fun e w'=>e = .returned v∧W=w')
  {fn : Func} {c : Code} (hf : P.funcs[f]? = some fn) (hb : fn.body = some c) (hn : (fn.name == "runtime.NumGoroutine") = false) {xs : Array Operand} {ats : Array TypeId} (hx : xs.toList.map a.eval = args.toList)
  (h:wpQuiet P ops (fun V=>V=W) K (⟨dst,.move (.const v),ty0,pos,after,gd⟩ :: rest) a):wpQuiet P ops (fun V=>V=W) K (⟨dst,.call { callee:=.value (.func f),args:=xs,argTypes:=ats},ty0,pos,after,gd⟩ :: rest) a:=
 as_moveQ (o:=⟨dst,.call { callee:=.value (.func f),args:=xs,argTypes:=ats},ty0,pos,after,gd⟩) (fun V e=>by
  subst e
  unfold Oper.quietAt
  rw [run_call hf hb hn,show xs.map a.eval=args from by apply Array.ext';rw [Array.toList_map];exact hx]
  exact ⟨rfl,hc.mono fun e w' ⟨he,hb⟩=>⟨he,hb.symm⟩⟩) h
theorem qslt {C:World→Prop} {t e:TypeId} {k bytes:Nat} {z:Value} [hR:RowT P t e k bytes z] {x hi:Operand} {p:Option Addr} {cap n m:Nat} {d:Int} (hx:a.eval x = .slice p n cap) (hh:a.eval hi = .int .i64 d) (hd:d=(m:Int)) (hm:m≤cap)
  (h:wpQuiet P ops C K (⟨dst,.move (.const (.slice p m cap)),ty0,pos,after,gd⟩ :: rest) a):wpQuiet P ops C K (⟨dst,.slice t x none (some hi) none,ty0,pos,after,gd⟩ :: rest) a:=by
 subst hd
 refine as_moveQ (o:=⟨dst,.slice t x none (some hi) none,ty0,pos,after,gd⟩) (v:=.slice p m cap) (fun V _=>quiet_value ?_) h
 simp only [execOp,Option.map_none,Option.map_some,hx,hh,Sem.run_bind,run_slice_to (P:=P) (W:=V) hR p n cap m hm,Result.andThen_ok]
 rfl
theorem qixa {C:World→Prop} {t e:TypeId} {k bytes:Nat} {z:Value} [hR:RowT P t e k bytes z] {x ix:Operand} {b:Addr} {n c i:Nat} {d:Int} (hx:a.eval x = .slice (some b) n c) (hh:a.eval ix = .int .i64 d) (hd:d=(i:Int)) (hi:i < n)
  (h:wpQuiet P ops C K (⟨dst,.move (.const (.pointer (some (b.add (i * k))))),ty0,pos,after,gd⟩ :: rest) a):wpQuiet P ops C K (⟨dst,.indexAddr t x ix,ty0,pos,after,gd⟩ :: rest) a:=by
 subst hd
 obtain ⟨i',hi',-,hsz,-⟩:=rowT_parts hR
 subst hsz
 refine as_moveQ (o:=⟨dst,.indexAddr t x ix,ty0,pos,after,gd⟩) (fun V _=>quiet_value ?_) h
 have h1:(i:Int) < n:=by omega
 simp [execOp,hx,hh,Instr.indexAt,Sem.run_bind,asIntOf,run_underlying hR.under,sizeOf,typeInfo,hi',hi]
theorem qdx1 {ty:TypeId} [hC:CellT P ty] {x:Operand} {p:Addr} {vs:List Value} {i:Nat} {v:Value} (hv:Cells w0 p vs) (hx:a.eval x = .pointer (some (p.add i))) (hi:vs[i]? = some v)
  (h:wpQuiet P ops (fun W=>∃ p:MemW w0 L,W=p.W) K (⟨dst,.move (.const v),ty0,pos,after,gd⟩ :: rest) a):wpQuiet P ops (fun W=>∃ p:MemW w0 L,W=p.W) K (⟨dst,.load ty x,ty0,pos,after,gd⟩ :: rest) a:=
 qd1 hx (fun W ⟨q,hq⟩=>by subst hq;exact q.mem.olds hv i v hi) h
theorem qdx0 {ty:TypeId} [hC:CellT P ty] {x:Operand} {p:Addr} {vs:List Value} {v:Value} (hv:Cells w0 p vs) (hx:a.eval x = .pointer (some p)) (hi:vs[0]? = some v)
  (h:wpQuiet P ops (fun W=>∃ p:MemW w0 L,W=p.W) K (⟨dst,.move (.const v),ty0,pos,after,gd⟩ :: rest) a):wpQuiet P ops (fun W=>∃ p:MemW w0 L,W=p.W) K (⟨dst,.load ty x,ty0,pos,after,gd⟩ :: rest) a:=
 qd1 hx (fun W ⟨q,hq⟩=>by subst hq;have:=q.mem.olds hv 0 v hi;simpa [Addr.add] using this) h
theorem add_pos (p:Addr) {i:Nat} (h:decide (i=0)=false):p.add i=⟨p.block,p.off + i,none⟩:=by unfold Addr.add;rw [if_neg (of_decide_eq_false h)]
theorem qdxf {ty:TypeId} [hC:CellT P ty] {x:Operand} {p:Addr} {vs:List Value} {i:Nat} {v:Value} (hv:Cells w0 p vs) (hx:a.eval x = .pointer (some ⟨p.block,p.off + i,none⟩)) (h0:decide (i=0)=false) (hi:vs[i]? = some v)
  (h:wpQuiet P ops (fun W=>∃ p:MemW w0 L,W=p.W) K (⟨dst,.move (.const v),ty0,pos,after,gd⟩ :: rest) a):wpQuiet P ops (fun W=>∃ p:MemW w0 L,W=p.W) K (⟨dst,.load ty x,ty0,pos,after,gd⟩ :: rest) a:=
 qdx1 hv (hx.trans (by rw [add_pos p h0])) hi h
theorem ldxf {ty:TypeId} [hC:CellT P ty] {x:Operand} {p:Addr} {vs:List Value} {i:Nat} {v:Value} (hv:Cells W p vs) (hx:a.eval x = .pointer (some ⟨p.block,p.off + i,none⟩)) (h0:decide (i=0)=false) (hi:vs[i]? = some v)
  (h:wpList P ops Q (⟨dst,.move (.const v),ty0,pos,after,gd⟩ :: rest) a W):wpList P ops Q (⟨dst,.load ty x,ty0,pos,after,gd⟩ :: rest) a W:=
 ldx1 (by have:=hv i v hi;rwa [add_pos p h0] at this) hx h
theorem ldx0 {ty:TypeId} [hC:CellT P ty] {x:Operand} {p:Addr} {vs:List Value} {v:Value} (hv:Cells W p vs) (hx:a.eval x = .pointer (some p)) (hi:vs[0]? = some v)
  (h:wpList P ops Q (⟨dst,.move (.const v),ty0,pos,after,gd⟩ :: rest) a W):wpList P ops Q (⟨dst,.load ty x,ty0,pos,after,gd⟩ :: rest) a W:=
 ldx1 (by have:=hv 0 v hi;simpa [Addr.add] using this) hx h
theorem sltx {t e:TypeId} {k bytes:Nat} {z:Value} [hR:RowT P t e k bytes z] {x hi:Operand} {p:Option Addr} {cap n m:Nat} {d:Int} (hx:a.eval x = .slice p n cap) (hh:a.eval hi = .int .i64 d) (hd:d=(m:Int)) (hm:m≤cap)
  (h:wpList P ops Q (⟨dst,.move (.const (.slice p m cap)),ty0,pos,after,gd⟩ :: rest) a W):wpList P ops Q (⟨dst,.slice t x none (some hi) none,ty0,pos,after,gd⟩ :: rest) a W:=by
 subst hd
 refine as_move (o:=⟨dst,.slice t x none (some hi) none,ty0,pos,after,gd⟩) (v:=.slice p m cap) ?_ h
 simp only [execOp,Option.map_none,Option.map_some,hx,hh,Sem.run_bind,run_slice_to (P:=P) (W:=W) hR p n cap m hm,Result.andThen_ok]
 rfl
end
theorem row_view {α:Type} (f:α→List Value) (k:Nat) (hf:∀ x,(f x).length=k) {B:Nat} {W:World} {g cap n:Nat} {e:TypeId} {l:List α} (h:(Res.row (some ⟨g,0,none⟩) cap e k n (l.flatMap f)).holds B W) (m:Nat):Cells W ⟨g,m * k,none⟩ ((l.drop m).flatMap f):=by
 have:=(row_cells h (m * k)).2.2
 rwa [flat_drop f k hf] at this
theorem below_of_same {P:Program} {f:FuncId} {args:Array Value} {W:World} {v:Value} (h:Calls P f args W fun e w'=>e = .returned v∧W=w'):Calls P f args W fun e w'=>e = .returned v∧RowKit.Below W.heap.size W w':=
 h.mono fun _ _ ⟨he,hw⟩=>⟨he,hw▸RowKit.Below.refl _ _⟩
def Sl (w:World) (p:Option Addr) (vs:List Value):Prop:=(p=none→vs=[])∧∀ a,p=some a→Cells w a vs
theorem Sl.some {w:World} {p:Option Addr} {vs:List Value} (h:Sl w p vs) (hv:vs≠[]):∃ a,p=some a∧Cells w a vs:=by
 cases p with
 | none=>exact absurd (h.1 rfl) hv
 | some a=>exact ⟨a,rfl,h.2 a rfl⟩
theorem Mem.sl {w0 W:World} {L:List Res} (h:Mem w0 W L) {p:Option Addr} {vs:List Value} (hs:Sl w0 p vs):Sl W p vs:=⟨hs.1,fun a e=>h.olds (hs.2 a e)⟩
theorem sl_from {α:Type} (f:α→List Value) (k:Nat) (hf:∀ x,(f x).length=k) {B:Nat} {W:World} {p:Option Addr} {cap m:Nat} {e:TypeId} {l:List α} (h:(Res.row p cap e k l.length (l.flatMap f)).holds B W) (hm:m≤l.length):Sl W (if cap=m then p else p.map (·.add (m * k))) ((l.drop m).flatMap f):=by
 rcases Nat.lt_or_ge m l.length with hlt|hge
 ·obtain ⟨g,rfl,hq⟩:=from_some h hlt
  rw [hq]
  exact ⟨(fun e=>by cases e),(fun a e=>by cases e;exact row_view f k hf h m)⟩
 ·rw [List.drop_of_length_le hge]
  exact ⟨(fun _=>rfl),(fun a _ j u hj=>by simp at hj)⟩
theorem Mem.perm {w0 W:World} {L L' : List Res} (h:Mem w0 W L) (hp:L.Perm L'):Mem w0 W L':=
 ⟨h.below,(fun r hr=>h.holds r (hp.mem_iff.2 hr)),(hp.pairwise_iff (fun h=>h.symm)).1 h.apart⟩
theorem sl_to {α:Type} (f:α→List Value) (k:Nat) (hf:∀ x,(f x).length=k) {B:Nat} {W:World} {p:Option Addr} {cap:Nat} {e:TypeId} {l:List α} (h:(Res.row p cap e k l.length (l.flatMap f)).holds B W) (m:Nat):Sl W p ((l.take m).flatMap f):=by
 cases p with
 | none=>
  have h0:l.length=0:=by
   rcases Nat.eq_zero_or_pos l.length with h0|h0
   ·exact h0
   ·obtain ⟨g,hg⟩:=row_some h h0
    cases hg
  obtain rfl:l=[]:=List.eq_nil_of_length_eq_zero h0
  exact ⟨(fun _=>by simp),(fun a e=>by cases e)⟩
 | some a=>
  refine ⟨(fun e=>by cases e),(fun b e=>?_)⟩
  cases e
  obtain ⟨h1,h2,h3⟩:=row_cells h 0
  have e:(⟨a.block,0,none⟩:Addr)=a:=by rcases a with ⟨b,o,s⟩;simp at h1 h2;subst h1 h2;rfl
  rw [e] at h3
  rw [← flat_take f k hf]
  exact Cells.take (by simpa using h3) _
theorem Sl.nil_len {w:World} {α:Type} {f:α→List Value} {k:Nat} (hf:∀ x,(f x).length=k) (hk:0 < k) {p:Option Addr} {l:List α} (h:Sl w p (l.flatMap f)):p=none→l.length=0:=fun e=>by
 have h1:=h.1 e
 have h2:=flat_len f k hf l
 rw [h1] at h2
 rcases Nat.eq_zero_or_pos l.length with h0|h0
 ·exact h0
 ·have:=Nat.mul_pos h0 hk
  simp at h2
  omega
theorem Sl.some_at {α:Type} {f:α→List Value} {k:Nat} (hf:∀ x,(f x).length=k) (hk:0 < k) {w:World} {p:Option Addr} {l:List α} (h:Sl w p (l.flatMap f)) {i:Nat} (hi:i < l.length):∃ a,p=Option.some a∧Cells w a (l.flatMap f):=by
 refine h.some fun e=>?_
 have:=flat_len f k hf l
 rw [e] at this
 have:=Nat.mul_pos (show 0 < l.length by omega) hk
 simp at *
 omega
def pureOp:Op→Bool
 | .move _ | .assign _ | .pick _ _ _ | .build _ _ | .binOp _ _ _ _ _ | .unOp _ _ _ | .convert _ _ _ | .slice _ _ _ _ _ | .fieldAddr _ _ _ | .field _ _ _ | .indexAddr _ _ _ | .index _ _ _ | .extract _ _ | .load _ _=>true
 | .call c=>match c.callee with
  | .builtin .len | .builtin .cap | .builtin .max | .builtin .min=>true
  | _=>false
 | _=>false
theorem v_value {P:Program} {w w' : World} {n:Next} {s:Sem Value} (h:(do pure (.value (← s)):Sem Next).run P w = .ok n w'):∃ v,n = .value v:=by
 rw [Sem.run_bind] at h
 cases hs:s.run P w with
 | ok x w1=>rw [hs] at h;cases h;exact ⟨x,rfl⟩
 | halt x w1=>rw [hs] at h;cases h
theorem pure_value {P:Program} {o:Oper} {ρ:Operand→Value} {w w' : World} {n:Next} (hp:pureOp o.op=true) (h:(execOp ρ o).run P w = .ok n w'):∃ v,n = .value v:=by
 obtain ⟨dst,op,ty,pos,after,gd⟩:=o
 cases op with
 | move x=>cases h;exact ⟨_,rfl⟩
 | assign x=>cases h;exact ⟨_,rfl⟩
 | pick c a b=>
  simp only [execOp,Sem.run_bind] at h
  cases hs:(asBool (ρ c)).run P w with
  | ok x w1=>rw [hs] at h;cases h;exact ⟨_,rfl⟩
  | halt x w1=>rw [hs] at h;cases h
 | build t ps=>exact v_value h
 | binOp _ _ _ _ _=>exact v_value h
 | unOp _ _ _=>exact v_value h
 | convert _ _ _=>exact v_value h
 | slice _ _ _ _ _=>exact v_value h
 | fieldAddr _ _ _=>exact v_value h
 | field _ _ _=>exact v_value h
 | indexAddr _ _ _=>exact v_value h
 | index _ _ _=>exact v_value h
 | extract _ _=>exact v_value h
 | load _ _=>exact v_value h
 | call c=>
  obtain ⟨cal,args,ats⟩:=c
  cases cal with
  | builtin b=>
   cases b with
   | len=>exact v_value h
   | cap=>exact v_value h
   | max=>exact v_value h
   | min=>exact v_value h
   | _=>cases hp
  | _=>cases hp
 | _=>cases hp
section
variable {P:Program} {ops:Array Oper} {Q:Exit→Act→World→Prop} {md:Region.Mode} {S:World→Prop}
def thenQ (S:World→Prop) (N:Act→World→Prop) (Q:Exit→Act→World→Prop):Exit→Act→World→Prop
 | .normal,a,w=>S w∧N a w
 | e,a,w=>Q e a w
def wpSteps (P:Program) (ops:Array Oper) (S:World→Prop) (Q:Exit→Act→World→Prop):List (Bool × Nat)→Act→World→Prop
 | [],a,w=>Q .normal a w
 |(b,i) :: r,a,w=>match ops.toList[i]? with
  | none=>False
  | some o=>match b with
   | true=>wpQuiet P ops S (fun a'=>wpSteps P ops S Q r a' w) [o] a
   | false=>wpList P ops (thenQ S (wpSteps P ops S Q r) Q) [o] a w
def stepsB (md:Region.Mode) (ops:Array Oper):List (Bool × Nat)→Array Bool→Bool
 | [],listed=>(Region.ready md ops listed).isEmpty
 |(b,i) :: r,listed=>(match ops.toList[i]? with
  | none=>false
  | some o=>match b with
   | true=>pureOp o.op && Region.free md ops listed i && (Region.ready md ops listed).contains i
   | false=>Region.ready md ops listed == [i]) && stepsB md ops r (listed.setIfInBounds i true)
theorem put_any (hQ:∀ c a (t:Tmp) v w,Q (.panic c) (Act.put a (some t) v) w→Q (.panic c) a w) (c:List PanicEntry) (a:Act) (d:Option Tmp) (v:Value) (w:World) (h:Q (.panic c) (Act.put a d v) w):Q (.panic c) a w:=by
 cases d with
 | none=>exact h
 | some t=>exact hQ c a t v w h
theorem steps_ok (hsel:Region.noSelect ops=true) (hQ:∀ c a (t:Tmp) v w,Q (.panic c) (Act.put a (some t) v) w→Q (.panic c) a w):∀ (l:List (Bool × Nat)) (listed:Array Bool) (a:Act) (w:World),stepsB md ops l listed=true→S w→wpSteps P ops S Q l a w→wpAnyH P md ops Q S l.length listed a w
 | [],listed,a,w,hB,hS,h=>⟨by simpa [stepsB] using hB,h⟩
 |(b,i) :: r,listed,a,w,hB,hS,h=>by
  unfold stepsB at hB
  unfold wpSteps at h
  cases ho:ops.toList[i]? with
  | none=>rw [ho] at h;exact h.elim
  | some o=>
   rw [ho] at h hB
   have ho' : ops[i]? = some o:=by rw [← ho];simp
   simp only [Bool.and_eq_true] at hB
   obtain ⟨hB1,hB2⟩:=hB
   cases b with
   | true=>
    simp only [Bool.and_eq_true] at hB1
    obtain ⟨⟨hp,hf⟩,hr⟩:=hB1
    have h1:wpQuiet P ops S (fun a'=>wpSteps P ops S Q r a' w) [o] a:=h
    unfold wpQuiet at h1
    split at h1
    ·rename_i hw
     obtain ⟨v,h2,h3⟩:=h1
     have hy:YieldsIf P ops S o v a:=Or.inl ⟨hw,fun w1 hw1=>by
      have h4:=h2 w1 hw1
      unfold Oper.quietAt at h4
      generalize hR:(execOp a.eval o).run P w1=R at h4
      cases R with
      | ok n w2=>
       obtain ⟨u,rfl⟩:=pure_value hp hR
       obtain ⟨e1,e2⟩:=(h4:w2=w1∧u=v)
       rw [e1,e2]
      | halt x w2=>exact h4.elim⟩
     exact wpAnyH_take ho' hsel hf hr (fun c a w h=>put_any hQ c a _ _ w h) hy hS (steps_ok hsel hQ r _ _ w hB2 hS h3)
    ·rename_i hw
     have hy:YieldsIf P ops S o undef a:=Or.inr ⟨by simpa using hw,rfl⟩
     exact wpAnyH_take ho' hsel hf hr (fun c a w h=>put_any hQ c a _ _ w h) hy hS (steps_ok hsel hQ r _ _ w hB2 hS h1)
   | false=>
    have hr:Region.ready md ops listed=[i]:=by simpa using hB1
    have h1:wpList P ops (thenQ S (wpSteps P ops S Q r) Q) [o] a w:=h
    refine wpAnyH_all hr (by simp) fun j hj=>?_
    rw [List.mem_singleton] at hj
    subst hj
    refine wpOp_mono (K:=fun a' w'=>S w'∧wpSteps P ops S Q r a' w') (fun a' w' hh=>⟨hh.1,steps_ok hsel hQ r _ a' w' hB2 hh.1 hh.2⟩) ?_
    unfold wpList at h1
    unfold wpOp
    rw [ho']
    show if Region.wanted o (yielded ops a.tmps) then _ else _
    split
    ·rename_i hw
     rw [if_pos hw] at h1
     rcases h1 with h1 | ⟨h1,h2⟩
     ·refine Or.inl ?_
      unfold Oper.wp at h1 ⊢
      generalize (execOp a.eval o).run P w=R at h1 ⊢
      cases R with
      | ok n w2=>cases n <;> exact h1
      | halt x w2=>cases x <;> exact h1
     ·exact Or.inr ⟨h1,h2⟩
    ·rename_i hw
     rw [if_neg hw] at h1
     exact h1
end
section
variable {P:Program} {Q:Exit→Act→World→Prop} {a:Act} {W w0:World} {L:List Res}
theorem wp_region_steps {id:Nat} {l:List Oper} (steps:List (Bool × Nat)) (hm:P.follows .mixedOrders=true) (hsel:Region.noSelect l.toArray=true) (hn:steps.length=l.length) (hB:stepsB .any l.toArray steps (Array.replicate l.length false)=true)
  (hQ:∀ c a (t:Tmp) v w,Q (.panic c) (Act.put a (some t) v) w→Q (.panic c) a w) (HM:Mem w0 W L) (L0:List Res) (hL:L0.Sublist L)
  (h:Nonempty (MemW w0 L0)→∀ W',Mem w0 W' L→wpSteps P l.toArray (fun V=>∃ p:MemW w0 L0,V=p.W) Q steps a W'):(Code.region id l.toArray true).wp P Q a W:=by
 have hM:=HM.next (W':={ W with drawn:=W.drawn + 1}) (RowKit.Below.refl _ W).drew
 refine wp_region_held (S:=fun V=>∃ p:MemW w0 L0,V=p.W) hm ?_
 have hs:(l.toArray).size=steps.length:=by rw [hn];simp
 rw [hs,hn]
 have:=steps_ok (md:=.any) hsel hQ steps (Array.replicate l.length false) a _ hB ⟨⟨_,hM.sub hL⟩,rfl⟩ (h ⟨⟨_,hM.sub hL⟩⟩ _ hM)
 rw [hn] at this
 exact this
end
theorem lit3 (a b c d e f:Value):Instr.fill (fun i=>some (i * 2,2)) ((Array.range (3 * 2)).map ((Value.agg #[.int .i64 0,.int .i64 0]).cells[· % (Value.agg #[.int .i64 0,.int .i64 0]).cells.size]!)) [(0,.agg #[a,b]),(1,.agg #[c,d]),(2,.agg #[e,f])]=some ([a,b,c,d,e,f].toArray):=by
 simp [Instr.fill,Array.range,Value.cells]
 apply Array.ext'
 simp [List.ofFn_succ]
theorem lit2 (a b c d:Value):Instr.fill (fun i=>some (i * 2,2)) ((Array.range (2 * 2)).map ((Value.agg #[.int .i64 0,.int .i64 0]).cells[· % (Value.agg #[.int .i64 0,.int .i64 0]).cells.size]!)) [(0,.agg #[a,b]),(1,.agg #[c,d])]=some ([a,b,c,d].toArray):=by
 simp [Instr.fill,Array.range,Value.cells]
 apply Array.ext'
 simp [List.ofFn_succ]
section
variable {P:Program} {ops:Array Oper} {Q:Exit→Act→World→Prop} {a:Act} {W W' w0:World} {rest:List Oper} {L:List Res}
variable {dst:Option Tmp} {ty0:TypeId} {pos:String} {after:Array Edge} {gd:Option (Nat × Bool)}
theorem ixc {t e:TypeId} {n:Nat} [hC:CellT P e] (hu:P.underlying t=some (.array n e)) {x ix:Operand} {cs:Array Value} {i:Nat} {d:Int} {v:Value} (hx:a.eval x = .agg cs) (hh:a.eval ix = .int .i64 d) (hd:d=(i:Int)) (hi:i < n) (hv:cs[i]? = some v)
  (h:wpList P ops Q (⟨dst,.move (.const v),ty0,pos,after,gd⟩ :: rest) a W):wpList P ops Q (⟨dst,.index t x ix,ty0,pos,after,gd⟩ :: rest) a W:=by
 subst hd
 refine as_move (o:=⟨dst,.index t x ix,ty0,pos,after,gd⟩) ?_ h
 show (do pure (.value (← Instr.index t (a.eval x) (a.eval ix))):Sem Next).run P W=_
 rw [hx,hh]
 have h1:(i:Int) < n:=by omega
 unfold Instr.index part
 simp [Sem.run_bind,asIntOf,run_underlying hu,hC.size,hC.flat,hv,hi]
theorem bs3T {t e:TypeId} {bytes:Nat} [hR:RowT P t e 2 bytes (.agg #[.int .i64 0,.int .i64 0])] {x y z:Operand} {p q r s u v:Value} (hw:Region.wanted ⟨dst,.buildSlice t 3 #[(0,x),(1,y),(2,z)],ty0,pos,after,gd⟩ (yielded ops a.tmps)=true) (HM:Mem w0 W L)
  (hx:a.eval x = .agg #[p,q]) (hy:a.eval y = .agg #[r,s]) (hz:a.eval z = .agg #[u,v])
  (h:∀ g W',Mem w0 W' (.box g e [p,q,r,s,u,v] :: L)→wpList P ops Q (⟨dst,.move (.const (.slice (some ⟨g,0,none⟩) 3 3)),ty0,pos,after,gd⟩ :: rest) a W'):wpList P ops Q (⟨dst,.buildSlice t 3 #[(0,x),(1,y),(2,z)],ty0,pos,after,gd⟩ :: rest) a W:=by
 refine bsb (cs:=[p,q,r,s,u,v]) hw HM (by omega) (by omega) ?_ h
 have hp1:(Array.map (fun x:Nat × Operand=>(x.1,a.eval x.2)) #[(0,x),(1,y),(2,z)]).toList=[(0,a.eval x),(1,a.eval y),(2,a.eval z)]:=by simp
 show Instr.fill _ _ (Array.map (fun x:Nat × Operand=>(x.1,a.eval x.2)) #[(0,x),(1,y),(2,z)]).toList=_
 rw [hp1,hx,hy,hz]
 exact lit3 ..
theorem bs2T {t e:TypeId} {bytes:Nat} [hR:RowT P t e 2 bytes (.agg #[.int .i64 0,.int .i64 0])] {x y:Operand} {p q r s:Value} (hw:Region.wanted ⟨dst,.buildSlice t 2 #[(0,x),(1,y)],ty0,pos,after,gd⟩ (yielded ops a.tmps)=true) (HM:Mem w0 W L)
  (hx:a.eval x = .agg #[p,q]) (hy:a.eval y = .agg #[r,s])
  (h:∀ g W',Mem w0 W' (.box g e [p,q,r,s] :: L)→wpList P ops Q (⟨dst,.move (.const (.slice (some ⟨g,0,none⟩) 2 2)),ty0,pos,after,gd⟩ :: rest) a W'):wpList P ops Q (⟨dst,.buildSlice t 2 #[(0,x),(1,y)],ty0,pos,after,gd⟩ :: rest) a W:=by
 refine bsb (cs:=[p,q,r,s]) hw HM (by omega) (by omega) ?_ h
 have hp1:(Array.map (fun x:Nat × Operand=>(x.1,a.eval x.2)) #[(0,x),(1,y)]).toList=[(0,a.eval x),(1,a.eval y)]:=by simp
 show Instr.fill _ _ (Array.map (fun x:Nat × Operand=>(x.1,a.eval x.2)) #[(0,x),(1,y)]).toList=_
 rw [hp1,hx,hy]
 exact lit2 ..
end
def pureOp2:Op→Bool
 | .lookup _ _ _ _ | .nilCheck _=>true
 | o=>pureOp o
theorem nil_value {P:Program} {o:Oper} {ρ:Operand→Value} {w w' : World} {n:Next} {x:Operand} (ho:o.op = .nilCheck x) (h:(execOp ρ o).run P w = .ok n w'):∃ v,n = .value v:=by
 obtain ⟨dst,op,ty,pos,after,gd⟩:=o
 obtain rfl:op = .nilCheck x:=ho
 generalize hx:ρ x=u at *
 cases u with
 | pointer a=>
  cases a with
  | none=>simp only [execOp,hx] at h;cases h
  | some a=>simp only [execOp,hx] at h;cases h;exact ⟨_,rfl⟩
 | nilIface=>simp only [execOp,hx] at h;cases h
 | nilFunc=>simp only [execOp,hx] at h;cases h
 | func f first captured=>
  cases f with
  | method name=>
   simp only [execOp,hx] at h
   split at h
   ·cases h
   ·rename_i t v _
    simp only [Sem.run_bind] at h
    generalize (program.run P w)=r1 at h
    cases r1 with
    | halt _ _=>cases h
    | ok p w1=>
     simp only [Result.andThen_ok] at h
     generalize (nilAhead _ t v name).run P w1=r2 at h
     cases r2 with
     | halt _ _=>cases h
     | ok b w2=>
      simp only [Result.andThen_ok] at h
      split at h
      ·cases h
      ·cases h;exact ⟨_,rfl⟩
   ·cases h;exact ⟨_,rfl⟩
  | _=>simp only [execOp,hx] at h;cases h;exact ⟨_,rfl⟩
 | _=>simp only [execOp,hx] at h;cases h;exact ⟨_,rfl⟩
theorem pure_value2 {P:Program} {o:Oper} {ρ:Operand→Value} {w w' : World} {n:Next} (hp:pureOp2 o.op=true) (h:(execOp ρ o).run P w = .ok n w'):∃ v,n = .value v:=by
 cases ho:o.op with
 | lookup t x k c=>
  obtain ⟨dst,op,ty,pos,after,gd⟩:=o
  obtain rfl:op = .lookup t x k c:=ho
  exact v_value h
 | nilCheck x=>exact nil_value ho h
 | _=>exact pure_value (by rw [ho] at hp ⊢;exact hp) h
section
variable {P:Program} {ops:Array Oper} {Q:Exit→Act→World→Prop} {md:Region.Mode} {S:World→Prop}
def stepsB2 (md:Region.Mode) (ops:Array Oper):List (Bool × Nat)→Array Bool→Bool
 | [],listed=>(Region.ready md ops listed).isEmpty
 |(b,i) :: r,listed=>(match ops.toList[i]? with
  | none=>false
  | some o=>match b with
   | true=>pureOp2 o.op && Region.free md ops listed i && (Region.ready md ops listed).contains i
   | false=>Region.ready md ops listed == [i]) && stepsB2 md ops r (listed.setIfInBounds i true)
theorem steps_ok2 (hsel:Region.noSelect ops=true) (hQ:∀ c a (t:Tmp) v w,Q (.panic c) (Act.put a (some t) v) w→Q (.panic c) a w):∀ (l:List (Bool × Nat)) (listed:Array Bool) (a:Act) (w:World),stepsB2 md ops l listed=true→S w→wpSteps P ops S Q l a w→wpAnyH P md ops Q S l.length listed a w
 | [],listed,a,w,hB,hS,h=>⟨by simpa [stepsB2] using hB,h⟩
 |(b,i) :: r,listed,a,w,hB,hS,h=>by
  unfold stepsB2 at hB
  unfold wpSteps at h
  cases ho:ops.toList[i]? with
  | none=>rw [ho] at h;exact h.elim
  | some o=>
   rw [ho] at h hB
   have ho' : ops[i]? = some o:=by rw [← ho];simp
   simp only [Bool.and_eq_true] at hB
   obtain ⟨hB1,hB2⟩:=hB
   cases b with
   | true=>
    simp only [Bool.and_eq_true] at hB1
    obtain ⟨⟨hp,hf⟩,hr⟩:=hB1
    have h1:wpQuiet P ops S (fun a'=>wpSteps P ops S Q r a' w) [o] a:=h
    unfold wpQuiet at h1
    split at h1
    ·rename_i hw
     obtain ⟨v,h2,h3⟩:=h1
     have hy:YieldsIf P ops S o v a:=Or.inl ⟨hw,fun w1 hw1=>by
      have h4:=h2 w1 hw1
      unfold Oper.quietAt at h4
      generalize hR:(execOp a.eval o).run P w1=R at h4
      cases R with
      | ok n w2=>
       obtain ⟨u,rfl⟩:=pure_value2 hp hR
       obtain ⟨e1,e2⟩:=(h4:w2=w1∧u=v)
       rw [e1,e2]
      | halt x w2=>exact h4.elim⟩
     exact wpAnyH_take ho' hsel hf hr (fun c a w h=>put_any hQ c a _ _ w h) hy hS (steps_ok2 hsel hQ r _ _ w hB2 hS h3)
    ·rename_i hw
     have hy:YieldsIf P ops S o undef a:=Or.inr ⟨by simpa using hw,rfl⟩
     exact wpAnyH_take ho' hsel hf hr (fun c a w h=>put_any hQ c a _ _ w h) hy hS (steps_ok2 hsel hQ r _ _ w hB2 hS h1)
   | false=>
    have hr:Region.ready md ops listed=[i]:=by simpa using hB1
    have h1:wpList P ops (thenQ S (wpSteps P ops S Q r) Q) [o] a w:=h
    refine wpAnyH_all hr (by simp) fun j hj=>?_
    rw [List.mem_singleton] at hj
    subst hj
    exact alone_op ho' (fun a' w' hh=>⟨hh.1,steps_ok2 hsel hQ r _ a' w' hB2 hh.1 hh.2⟩) h1
where
 alone_op {i:Nat} {o:Oper} {N:Act→World→Prop} {K:Act→World→Prop} {a:Act} {w:World} (ho' : ops[i]? = some o) (hK:∀ a' w',S w'∧N a' w'→K a' w') (h1:wpList P ops (thenQ S N Q) [o] a w):wpOp P ops Q i K a w:=by
  refine wpOp_mono (K:=fun a' w'=>S w'∧N a' w') hK ?_
  unfold wpList at h1
  unfold wpOp
  rw [ho']
  show if Region.wanted o (yielded ops a.tmps) then _ else _
  split
  ·rename_i hw
   rw [if_pos hw] at h1
   rcases h1 with h1 | ⟨h1,h2⟩
   ·refine Or.inl ?_
    unfold Oper.wp at h1 ⊢
    generalize (execOp a.eval o).run P w=R at h1 ⊢
    cases R with
    | ok n w2=>cases n <;> exact h1
    | halt x w2=>cases x <;> exact h1
   ·exact Or.inr ⟨h1,h2⟩
  ·rename_i hw
   rw [if_neg hw] at h1
   exact h1
end
section
variable {P:Program} {Q:Exit→Act→World→Prop} {a:Act} {W w0:World} {L:List Res}
theorem wp_region_steps2 {id:Nat} {l:List Oper} (steps:List (Bool × Nat)) (hm:P.follows .mixedOrders=true) (hsel:Region.noSelect l.toArray=true) (hn:steps.length=l.length) (hB:stepsB2 .any l.toArray steps (Array.replicate l.length false)=true)
  (hQ:∀ c a (t:Tmp) v w,Q (.panic c) (Act.put a (some t) v) w→Q (.panic c) a w) (HM:Mem w0 W L) (L0:List Res) (hL:L0.Sublist L)
  (h:Nonempty (MemW w0 L0)→∀ W',Mem w0 W' L→wpSteps P l.toArray (fun V=>∃ p:MemW w0 L0,V=p.W) Q steps a W'):(Code.region id l.toArray true).wp P Q a W:=by
 have hM:=HM.next (W':={ W with drawn:=W.drawn + 1}) (RowKit.Below.refl _ W).drew
 refine wp_region_held (S:=fun V=>∃ p:MemW w0 L0,V=p.W) hm ?_
 have hs:(l.toArray).size=steps.length:=by rw [hn];simp
 rw [hs,hn]
 have:=steps_ok2 (md:=.any) hsel hQ steps (Array.replicate l.length false) a _ hB ⟨⟨_,hM.sub hL⟩,rfl⟩ (h ⟨⟨_,hM.sub hL⟩⟩ _ hM)
 rw [hn] at this
 exact this
end
def mapEs (l:List (ByteArray × Value)):Array MapEntry:=(l.zipIdx.map fun x=>({ key:=.string x.1.1,val:=x.1.2,born:=x.2}:MapEntry)).toArray
def findL (s:ByteArray):List (ByteArray × Value)→Option Value
 | []=>none
 | x :: l=>if s=x.1 then some x.2 else findL s l
theorem find_now (s:ByteArray):∀ (l:List (ByteArray × Value)) (i j:Nat),∃ r,Instr.findNow .string (.string s) ((l.zipIdx i).map fun x=>({ key:=.string x.1.1,val:=x.1.2,born:=x.2}:MapEntry)) j=some r∧r.map (·.2)=findL s l
 | [],i,j=>⟨none,rfl,rfl⟩
 | x :: l,i,j=>by
  obtain ⟨r,h1,h2⟩:=find_now s l (i + 1) (j + 1)
  unfold findL
  obtain ⟨c,hc,he⟩:=MapKept.sameNow_of_keys (d:=.string) (a:=.string s) (b:=.string x.1) (show MapKept.IsKey .string (.string s) by simp [MapKept.IsKey]) (show MapKept.IsKey .string (.string x.1) by simp [MapKept.IsKey])
  by_cases e:s=x.1
  ·rw [if_pos e]
   obtain rfl:c=true:=he.2 (by rw [e])
   exact ⟨some (j,x.2),by simp only [List.zipIdx_cons,List.map_cons,Instr.findNow,hc],rfl⟩
  ·rw [if_neg e]
   obtain rfl:c=false:=by
    cases c
    ·rfl
    ·exact absurd (he.1 rfl) (fun h=>e (by cases h;rfl))
   exact ⟨r,by simp only [List.zipIdx_cons,List.map_cons,Instr.findNow,hc];exact h1,h2⟩
theorem mapEs_push (l:List (ByteArray × Value)) (s:ByteArray) (v:Value):(mapEs l).push { key:=.string s,val:=v,born:=l.length} = mapEs (l++[(s,v)]):=by
 unfold mapEs
 rw [List.zipIdx_append,List.map_append]
 simp
section
variable {P:Program} {ops:Array Oper} {Q:Exit→Act→World→Prop} {a:Act} {W W' w0:World} {rest:List Oper} {L:List Res}
variable {dst:Option Tmp} {ty0:TypeId} {pos:String} {after:Array Edge} {gd:Option (Nat × Bool)}
class MapT (P:Program) (t:TypeId) (e:outParam TypeId) (z:outParam Value):Prop where
 und:∃ k,P.underlying t=some (.map k e)∧P.underlying k=some .string
 zero:∀ w,(zeroValue e).run P w = .ok z w
theorem run_look {t e:TypeId} {z:Value} [hT:MapT P t e z] {B g:Nat} {l:List (ByteArray × Value)} {ck:Nat} (h:(Res.map g (mapEs l) ck).holds B W) (s:ByteArray):(Instr.lookup t (.map (some g)) (.string s) true).run P W = .ok (.tuple #[(findL s l).getD z,.bool (findL s l).isSome]) W:=by
 obtain ⟨k,hk,hs⟩:=hT.und
 obtain ⟨r,h1,h2⟩:=find_now s l 0 0
 have hf:(Instr.findKey k (.string s) (mapEs l).toList).run P W = .ok r W:=MapKept.run_findKey hs (by unfold mapEs;exact h1)
 have hc:(Instr.checkKey (mapEs l).isEmpty 10000 k (.string s)).run P W = .ok () W:=MapKept.run_checkKey hs (by simp [MapKept.IsKey]) _ 9999
 rw [← h2]
 cases r with
 | none=>simp [Instr.lookup,run_underlying hk,MapKept.run_getObj_map h.2,hc,hf,hT.zero]
 | some x=>simp [Instr.lookup,run_underlying hk,MapKept.run_getObj_map h.2,hc,hf]
theorem as_skipW {o:Oper} (hw:Region.wanted o (yielded ops a.tmps)=true) (hrun:(execOp a.eval o).run P W = .ok .skip W') (h:wpList P ops Q ({ o with op:=.move (.const undef)} :: rest) a W'):wpList P ops Q (o :: rest) a W:=by
 refine wpList_step fun K hK=>?_
 unfold wpList at h
 rw [if_pos (show Region.wanted ({ o with op:=.move (.const undef)}:Oper) (yielded ops a.tmps)=true from hw)] at h
 rw [if_pos hw]
 rcases h with h | ⟨h,_⟩
 ·have h'' : wpList P ops Q rest (a.put o.dst undef) W':=h
  unfold Oper.wp
  rw [hrun]
  exact hK _ _ h''
 ·exact absurd h asks_move
theorem skip_op {op:Op} {k:Nat × Bool} (hw:Region.wanted ⟨dst,op,ty0,pos,after,some k⟩ (yielded ops a.tmps)=false) (h:wpList P ops Q (⟨dst,.move (.const undef),ty0,pos,after,none⟩ :: rest) a W):wpList P ops Q (⟨dst,op,ty0,pos,after,some k⟩ :: rest) a W:=by
 unfold wpList at h ⊢
 rw [if_pos (show Region.wanted (⟨dst,.move (.const undef),ty0,pos,after,none⟩:Oper) (yielded ops a.tmps)=true from rfl)] at h
 rw [if_neg (by rw [hw];simp)]
 rcases h with h | ⟨h,_⟩
 ·exact h
 ·exact absurd h (asks_move (o:=⟨dst,.move (.const undef),ty0,pos,after,none⟩))
theorem skip_q {C:World→Prop} {K:Act→Prop} {op:Op} {k:Nat × Bool} (hw:Region.wanted ⟨dst,op,ty0,pos,after,some k⟩ (yielded ops a.tmps)=false) (h:wpQuiet P ops C K (⟨dst,.move (.const undef),ty0,pos,after,none⟩ :: rest) a) (hC:∃ W,C W):wpQuiet P ops C K (⟨dst,op,ty0,pos,after,some k⟩ :: rest) a:=by
 unfold wpQuiet at h ⊢
 rw [if_pos (show Region.wanted (⟨dst,.move (.const undef),ty0,pos,after,none⟩:Oper) (yielded ops a.tmps)=true from rfl)] at h
 rw [if_neg (by rw [hw];simp)]
 obtain ⟨v,h1,h2⟩:=h
 obtain ⟨W,hW⟩:=hC
 have h3:W=W∧undef=v:=h1 W hW
 rw [← h3.2] at h2
 exact h2
theorem mkm {t:TypeId} (hw:Region.wanted ⟨dst,.makeMap t none,ty0,pos,after,gd⟩ (yielded ops a.tmps)=true) (HM:Mem w0 W L)
  (h:∀ g W',Mem w0 W' (.map g (mapEs []) 0 :: L)→wpList P ops Q (⟨dst,.move (.const (.map (some g))),ty0,pos,after,gd⟩ :: rest) a W'):wpList P ops Q (⟨dst,.makeMap t none,ty0,pos,after,gd⟩ :: rest) a W:=by
 have hg:=World.grownBy_alloc W (.map #[] 0) none
 have hM:Mem w0 (W.alloc (.map #[] 0)) (.map W.heap.size (mapEs []) 0 :: L):=HM.add hg ⟨HM.below.size,(MapKept.heap_alloc W _).1⟩ (fun g e=>Nat.le_of_eq (Option.some.inj e))
 refine as_moveW (o:=⟨dst,.makeMap t none,ty0,pos,after,gd⟩) hw ?_ (h _ _ hM)
 show (do pure (.value (← Instr.makeMap t none)):Sem Next).run P W=_
 simp only [Sem.run_bind,run_makeMap,Result.andThen_ok]
 rfl
theorem lkm {t e:TypeId} {z:Value} [hT:MapT P t e z] {x y:Operand} {g ck:Nat} {l:List (ByteArray × Value)} {s:ByteArray} (HM:Mem w0 W L) (j:Nat) (hj:L[j]? = some (.map g (mapEs l) ck)) (hx:a.eval x = .map (some g)) (hy:a.eval y = .string s)
  (h:wpList P ops Q (⟨dst,.move (.const (.tuple #[(findL s l).getD z,.bool (findL s l).isSome])),ty0,pos,after,gd⟩ :: rest) a W):wpList P ops Q (⟨dst,.lookup t x y true,ty0,pos,after,gd⟩ :: rest) a W:=by
 refine as_move (o:=⟨dst,.lookup t x y true,ty0,pos,after,gd⟩) ?_ h
 show (do pure (.value (← Instr.lookup t (a.eval x) (a.eval y) true)):Sem Next).run P W=_
 rw [hx,hy]
 simp only [Sem.run_bind,run_look (e:=e) (z:=z) (HM.get hj) s,Result.andThen_ok]
 rfl
theorem qlkm {C:World→Prop} {K:Act→Prop} {t e:TypeId} {z:Value} [hT:MapT P t e z] {x y:Operand} {B g ck:Nat} {l:List (ByteArray × Value)} {s:ByteArray} (hv:∀ W,C W→(Res.map g (mapEs l) ck).holds B W) (hx:a.eval x = .map (some g)) (hy:a.eval y = .string s)
  (h:wpQuiet P ops C K (⟨dst,.move (.const (.tuple #[(findL s l).getD z,.bool (findL s l).isSome])),ty0,pos,after,gd⟩ :: rest) a):wpQuiet P ops C K (⟨dst,.lookup t x y true,ty0,pos,after,gd⟩ :: rest) a:=
 as_moveQ (o:=⟨dst,.lookup t x y true,ty0,pos,after,gd⟩) (fun W hW=>quiet_value (by
  show (do pure (.value (← Instr.lookup t (a.eval x) (a.eval y) true)):Sem Next).run P W=_
  rw [hx,hy]
  simp only [Sem.run_bind,run_look (e:=e) (z:=z) (hv W hW) s,Result.andThen_ok]
  rfl)) h
theorem upm {t e:TypeId} {z:Value} [hT:MapT P t e z] {x y u:Operand} {g:Nat} {l:List (ByteArray × Value)} {s:ByteArray} {v:Value} (hw:Region.wanted ⟨dst,.mapUpdate t x y u,ty0,pos,after,gd⟩ (yielded ops a.tmps)=true) (HM:Mem w0 W L) (j:Nat) (hj:L[j]? = some (.map g (mapEs l) l.length)) (hx:a.eval x = .map (some g)) (hy:a.eval y = .string s) (hu:a.eval u=v) (hn:findL s l=none)
  (h:∀ W',Mem w0 W' (L.set j (.map g (mapEs (l++[(s,v)])) (l.length + 1)))→wpList P ops Q (⟨dst,.move (.const undef),ty0,pos,after,gd⟩ :: rest) a W'):wpList P ops Q (⟨dst,.mapUpdate t x y u,ty0,pos,after,gd⟩ :: rest) a W:=by
 obtain ⟨k,hk,hs⟩:=hT.und
 have hh:=HM.get hj
 obtain ⟨r,h1,h2⟩:=find_now s l 0 0
 obtain rfl:r=none:=by
  rw [hn] at h2
  cases r with
  | none=>rfl
  | some x=>cases h2
 have hf:(Instr.findKey k (.string s) (mapEs l).toList).run P W = .ok none W:=MapKept.run_findKey hs (by unfold mapEs;exact h1)
 have hc:(Instr.checkKey false 10000 k (.string s)).run P W = .ok () W:=MapKept.run_checkKey hs (by simp [MapKept.IsKey]) _ 9999
 have hset:=MapKept.heap_set (o':=.map ((mapEs l).push { key:=.string s,val:=v,born:=l.length}) (l.length + 1)) hh.2
 have hM:Mem w0 { W with heap:=W.heap.setIfInBounds g (.map ((mapEs l).push { key:=.string s,val:=v,born:=l.length}) (l.length + 1))} (L.set j (.map g (mapEs (l++[(s,v)])) (l.length + 1))):=by
  refine HM.turn hj ⟨rfl,rfl,rfl,by simp,fun b hb hne=>hset.2 b (fun e=>hne (by rw [e];rfl))⟩ ⟨hh.1,by rw [← mapEs_push];exact hset.1⟩ (fun g' e=>Or.inl e)
 refine as_skipW (o:=⟨dst,.mapUpdate t x y u,ty0,pos,after,gd⟩) hw ?_ (h _ hM)
 show (do let _ ← Instr.mapUpdate t (a.eval x) (a.eval y) (a.eval u);pure .skip:Sem Next).run P W=_
 rw [hx,hy,hu]
 simp [Instr.mapUpdate,run_underlying hk,MapKept.run_getObj_map hh.2,hc,hf,MapKept.run_setObj_map _ hh.2]
end
section
variable {P:Program} {ops:Array Oper} {Q:Exit→Act→World→Prop} {md:Region.Mode} {S:World→Prop}
def wpFork (P:Program) (ops:Array Oper) (S:World→Prop) (Q:Exit→Act→World→Prop) (s1 s2:List (Bool × Nat)):List (Bool × Nat)→Act→World→Prop
 | [],a,w=>wpSteps P ops S Q s1 a w∧wpSteps P ops S Q s2 a w
 |(b,i) :: r,a,w=>match ops.toList[i]? with
  | none=>False
  | some o=>match b with
   | true=>wpQuiet P ops S (fun a'=>wpFork P ops S Q s1 s2 r a' w) [o] a
   | false=>wpList P ops (thenQ S (wpFork P ops S Q s1 s2 r) Q) [o] a w
def forkB (md:Region.Mode) (ops:Array Oper) (s1 s2:List (Bool × Nat)):List (Bool × Nat)→Array Bool→Bool
 | [],listed=>match s1,s2 with
  |(false,i) :: r1,(false,j) :: r2=>Region.ready md ops listed == [i,j] && r1.length == r2.length && (ops.toList[i]?).isSome && (ops.toList[j]?).isSome && stepsB2 md ops r1 (listed.setIfInBounds i true) && stepsB2 md ops r2 (listed.setIfInBounds j true)
  | _,_=>false
 |(b,i) :: r,listed=>(match ops.toList[i]? with
  | none=>false
  | some o=>match b with
   | true=>pureOp2 o.op && Region.free md ops listed i && (Region.ready md ops listed).contains i
   | false=>Region.ready md ops listed == [i]) && forkB md ops s1 s2 r (listed.setIfInBounds i true)
theorem fork_ok (hsel:Region.noSelect ops=true) (hQ:∀ c a (t:Tmp) v w,Q (.panic c) (Act.put a (some t) v) w→Q (.panic c) a w) (s1 s2:List (Bool × Nat)):∀ (l:List (Bool × Nat)) (listed:Array Bool) (a:Act) (w:World),forkB md ops s1 s2 l listed=true→S w→wpFork P ops S Q s1 s2 l a w→wpAnyH P md ops Q S (l.length + s1.length) listed a w
 | [],listed,a,w,hB,hS,h=>by
  match s1,s2,hB,h with
  |(false,i) :: r1,(false,j) :: r2,hB,h=>
   simp only [forkB,Bool.and_eq_true,beq_iff_eq] at hB
   obtain ⟨⟨⟨⟨⟨hr,hl⟩,hi⟩,hj⟩,h1⟩,h2⟩:=hB
   obtain ⟨oi,hoi⟩:=Option.isSome_iff_exists.1 hi
   obtain ⟨oj,hoj⟩:=Option.isSome_iff_exists.1 hj
   obtain ⟨w1,w2⟩:=h
   unfold wpSteps at w1 w2
   rw [hoi] at w1
   rw [hoj] at w2
   have hoi' : ops[i]? = some oi:=by rw [← hoi];simp
   have hoj' : ops[j]? = some oj:=by rw [← hoj];simp
   rw [show ([]:List (Bool × Nat)).length + ((false,i) :: r1).length=r1.length + 1 by simp]
   refine wpAnyH_all hr (by simp) fun k hk=>?_
   rw [List.mem_cons,List.mem_singleton] at hk
   rcases hk with rfl|rfl
   ·exact steps_ok2.alone_op hoi' (fun a' w' hh=>⟨hh.1,steps_ok2 hsel hQ r1 _ a' w' h1 hh.1 hh.2⟩) w1
   ·exact steps_ok2.alone_op hoj' (fun a' w' hh=>⟨hh.1,by rw [hl];exact steps_ok2 hsel hQ r2 _ a' w' h2 hh.1 hh.2⟩) w2
  | [],_,hB,_=>simp [forkB] at hB
  |(true,_) :: _,_,hB,_=>simp [forkB] at hB
  |(false,_) :: _,[],hB,_=>simp [forkB] at hB
  |(false,_) :: _,(true,_) :: _,hB,_=>simp [forkB] at hB
 |(b,i) :: r,listed,a,w,hB,hS,h=>by
  unfold forkB at hB
  unfold wpFork at h
  rw [show ((b,i) :: r).length + s1.length=(r.length + s1.length) + 1 by simp;omega]
  cases ho:ops.toList[i]? with
  | none=>rw [ho] at h;exact h.elim
  | some o=>
   rw [ho] at h hB
   have ho' : ops[i]? = some o:=by rw [← ho];simp
   simp only [Bool.and_eq_true] at hB
   obtain ⟨hB1,hB2⟩:=hB
   cases b with
   | true=>
    simp only [Bool.and_eq_true] at hB1
    obtain ⟨⟨hp,hf⟩,hr⟩:=hB1
    have h1:wpQuiet P ops S (fun a'=>wpFork P ops S Q s1 s2 r a' w) [o] a:=h
    unfold wpQuiet at h1
    split at h1
    ·rename_i hw
     obtain ⟨v,h2,h3⟩:=h1
     have hy:YieldsIf P ops S o v a:=Or.inl ⟨hw,fun w1 hw1=>by
      have h4:=h2 w1 hw1
      unfold Oper.quietAt at h4
      generalize hR:(execOp a.eval o).run P w1=R at h4
      cases R with
      | ok n w2=>
       obtain ⟨u,rfl⟩:=pure_value2 hp hR
       obtain ⟨e1,e2⟩:=(h4:w2=w1∧u=v)
       rw [e1,e2]
      | halt x w2=>exact h4.elim⟩
     exact wpAnyH_take ho' hsel hf hr (fun c a w h=>put_any hQ c a _ _ w h) hy hS (fork_ok hsel hQ s1 s2 r _ _ w hB2 hS h3)
    ·rename_i hw
     have hy:YieldsIf P ops S o undef a:=Or.inr ⟨by simpa using hw,rfl⟩
     exact wpAnyH_take ho' hsel hf hr (fun c a w h=>put_any hQ c a _ _ w h) hy hS (fork_ok hsel hQ s1 s2 r _ _ w hB2 hS h1)
   | false=>
    have hr:Region.ready md ops listed=[i]:=by simpa using hB1
    have h1:wpList P ops (thenQ S (wpFork P ops S Q s1 s2 r) Q) [o] a w:=h
    refine wpAnyH_all hr (by simp) fun j hj=>?_
    rw [List.mem_singleton] at hj
    subst hj
    exact steps_ok2.alone_op ho' (fun a' w' hh=>⟨hh.1,fork_ok hsel hQ s1 s2 r _ a' w' hB2 hh.1 hh.2⟩) h1
end
section
variable {P:Program} {Q:Exit→Act→World→Prop} {a:Act} {W w0:World} {L:List Res}
theorem wp_region_fork {id:Nat} {l:List Oper} (steps s1 s2:List (Bool × Nat)) (hm:P.follows .mixedOrders=true) (hsel:Region.noSelect l.toArray=true) (hn:steps.length + s1.length=l.length) (hB:forkB .any l.toArray s1 s2 steps (Array.replicate l.length false)=true)
  (hQ:∀ c a (t:Tmp) v w,Q (.panic c) (Act.put a (some t) v) w→Q (.panic c) a w) (HM:Mem w0 W L) (L0:List Res) (hL:L0.Sublist L)
  (h:Nonempty (MemW w0 L0)→∀ W',Mem w0 W' L→wpFork P l.toArray (fun V=>∃ p:MemW w0 L0,V=p.W) Q s1 s2 steps a W'):(Code.region id l.toArray true).wp P Q a W:=by
 have hM:=HM.next (W':={ W with drawn:=W.drawn + 1}) (RowKit.Below.refl _ W).drew
 refine wp_region_held (S:=fun V=>∃ p:MemW w0 L0,V=p.W) hm ?_
 have hs:(l.toArray).size=steps.length + s1.length:=by rw [hn];simp
 rw [hs,hn]
 have:=fork_ok (md:=.any) hsel hQ s1 s2 steps (Array.replicate l.length false) a _ hB ⟨⟨_,hM.sub hL⟩,rfl⟩ (h ⟨⟨_,hM.sub hL⟩⟩ _ hM)
 rw [hn] at this
 exact this
end
section
variable {P:Program} {ops:Array Oper} {Q:Exit→Act→World→Prop} {a:Act} {W W' w0:World} {rest:List Oper} {L:List Res}
variable {dst:Option Tmp} {ty0:TypeId} {pos:String} {after:Array Edge} {gd:Option (Nat × Bool)}
theorem run_nil {x:Operand} {p:Addr} (hx:a.eval x = .pointer (some p)):(execOp a.eval ⟨dst,.nilCheck x,ty0,pos,after,gd⟩).run P W = .ok (.value (.pointer (some p))) W:=by
 simp only [execOp,hx]
 rfl
theorem qnil {C:World→Prop} {K:Act→Prop} {x:Operand} {p:Addr} (hx:a.eval x = .pointer (some p)) (h:wpQuiet P ops C K (⟨dst,.move (.const (.pointer (some p))),ty0,pos,after,gd⟩ :: rest) a):wpQuiet P ops C K (⟨dst,.nilCheck x,ty0,pos,after,gd⟩ :: rest) a:=
 as_moveQ (o:=⟨dst,.nilCheck x,ty0,pos,after,gd⟩) (fun W hW=>quiet_value (run_nil hx)) h
theorem lnil {x:Operand} {p:Addr} (hx:a.eval x = .pointer (some p)) (h:wpList P ops Q (⟨dst,.move (.const (.pointer (some p))),ty0,pos,after,gd⟩ :: rest) a W):wpList P ops Q (⟨dst,.nilCheck x,ty0,pos,after,gd⟩ :: rest) a W:=
 as_move (o:=⟨dst,.nilCheck x,ty0,pos,after,gd⟩) (run_nil hx) h
end
theorem fold_put (vs:List Value):∀ (A:List Value) (o i:Nat),o + i + vs.length≤A.length→(vs.zipIdx i).foldl (fun (acc:Array Value) (x:Value × Nat)=>acc.setIfInBounds (o + x.2) x.1) A.toArray=(A.take (o + i)++vs++A.drop (o + i + vs.length)).toArray:=by
 induction vs with
 | nil=>intro A o i h;simp
 | cons v vs ih=>
  intro A o i h
  simp only [List.length_cons] at h
  simp only [List.zipIdx_cons,List.foldl_cons,List.setIfInBounds_toArray]
  rw [ih (A.set (o + i) v) o (i + 1) (by rw [List.length_set];omega)]
  congr 1
  have hlt:o + i < A.length:=by omega
  have h1:(A.set (o + i) v).take (o + (i + 1))=A.take (o + i)++[v]:=by
   rw [List.set_eq_take_append_cons_drop,if_pos hlt,← Nat.add_assoc]
   rw [List.take_append,List.length_take,Nat.min_eq_left (by omega),List.take_of_length_le (by simp;omega),show o + i + 1 - (o + i)=1 by omega]
   simp
  have h2:(A.set (o + i) v).drop (o + (i + 1) + vs.length)=A.drop (o + i + (vs.length + 1)):=by
   rw [List.drop_set_of_lt (by omega)]
   congr 1
   omega
  rw [h1,h2,List.length_cons]
  simp
theorem fill_parts (k:Nat):∀ (vs:List Value) (i:Nat) (A:List Value),(∀ v,v ∈ vs→v.cells.size=k)→A.length=(i + vs.length) * k→Instr.fill (fun i=>some (i * k,k)) A.toArray ((vs.zipIdx i).map fun x=>(x.2,x.1))=some (A.take (i * k)++vs.flatMap fun v=>v.cells.toList).toArray
 | [],i,A,hv,hA=>by
  simp only [List.zipIdx_nil,List.map_nil,Instr.fill,List.flatMap_nil,List.append_nil]
  rw [List.take_of_length_le (by rw [hA];simp)]
 | v :: vs,i,A,hv,hA=>by
  have h1:=hv v (by simp)
  have hle:i * k + k + vs.length * k=A.length:=by rw [hA,List.length_cons,Nat.add_mul,Nat.add_mul];omega
  simp only [List.zipIdx_cons,List.map_cons,Instr.fill,h1,ne_eq,not_true_eq_false,decide_false,Bool.false_or]
  rw [if_neg (by simp;omega)]
  have h2:=fold_put v.cells.toList A (i * k) 0 (by rw [Array.length_toList,h1];omega)
  rw [← Array.foldl_toList,Array.toList_zipIdx,h2,Nat.add_zero,Array.length_toList,h1]
  rw [fill_parts k vs (i + 1) _ (fun u hu=>hv u (by simp [hu])) (by simp [h1,Nat.add_mul] at hle ⊢;omega)]
  congr 2
  rw [List.flatMap_cons,← List.append_assoc]
  congr 1
  rw [List.take_append,List.take_of_length_le (by simp [h1,Nat.add_mul];omega)]
  simp [h1,Nat.add_mul]
  omega
section
variable {P:Program} {ops:Array Oper} {Q:Exit→Act→World→Prop} {a:Act} {W W' w0:World} {rest:List Oper} {L:List Res}
variable {dst:Option Tmp} {ty0:TypeId} {pos:String} {after:Array Edge} {gd:Option (Nat × Bool)}
theorem bs3 {t e:TypeId} {k bytes:Nat} {z:Value} [hR:RowT P t e k bytes z] {x y u:Operand} {c1 c2 c3:List Value} (hw:Region.wanted ⟨dst,.buildSlice t 3 #[(0,x),(1,y),(2,u)],ty0,pos,after,gd⟩ (yielded ops a.tmps)=true) (HM:Mem w0 W L)
  (h1:a.eval x = .agg c1.toArray) (h2:a.eval y = .agg c2.toArray) (h3:a.eval u = .agg c3.toArray) (e1:c1.length=k) (e2:c2.length=k) (e3:c3.length=k) (hk:decide (k≤1000)=true)
  (h:∀ g W',Mem w0 W' (.box g e (c1++c2++c3) :: L)→wpList P ops Q (⟨dst,.move (.const (.slice (some ⟨g,0,none⟩) 3 3)),ty0,pos,after,gd⟩ :: rest) a W'):wpList P ops Q (⟨dst,.buildSlice t 3 #[(0,x),(1,y),(2,u)],ty0,pos,after,gd⟩ :: rest) a W:=by
 have hk':=of_decide_eq_true hk
 have hp:=hR.pos
 refine bsb (cs:=c1++c2++c3) hw HM (by omega) (by omega) ?_ h
 have hf:=fill_parts k [.agg c1.toArray,.agg c2.toArray,.agg c3.toArray] 0 ((Array.range (3 * k)).map (z.cells[· % z.cells.size]!)).toList (fun v hv=>by simp at hv;rcases hv with rfl|rfl|rfl <;> simp [Value.cells,e1,e2,e3]) (by simp)
 rw [Array.toArray_toList] at hf
 have hp1:(Array.map (fun x:Nat × Operand=>(x.1,a.eval x.2)) #[(0,x),(1,y),(2,u)]).toList=[(0,.agg c1.toArray),(1,.agg c2.toArray),(2,.agg c3.toArray)]:=by simp [h1,h2,h3]
 show Instr.fill _ _ (Array.map (fun x:Nat × Operand=>(x.1,a.eval x.2)) #[(0,x),(1,y),(2,u)]).toList=_
 rw [hp1]
 refine Eq.trans hf ?_
 simp [Value.cells]
end
theorem made_flat (cs:Array Value) (hk:0 < cs.size):∀ n,(madeCells cs (n * cs.size)).toList=(List.replicate n cs.toList).flatten
 | 0=>by simp [madeCells]
 | n + 1=>by
  have ih:=made_flat cs hk n
  unfold madeCells at ih ⊢
  rw [Array.toList_map,Array.toList_range] at ih ⊢
  rw [Nat.add_mul,Nat.one_mul,List.range_add,List.map_append,ih,List.replicate_succ',List.flatten_append]
  congr 1
  rw [List.map_map]
  apply List.ext_getElem?
  intro j
  simp only [List.flatten_cons,List.flatten_nil,List.append_nil]
  rw [List.getElem?_map]
  by_cases hj:j < cs.size
  ·rw [List.getElem?_range hj]
   simp only [Option.map_some,Function.comp_apply]
   rw [Nat.mul_add_mod_of_lt' hj]
   simp [hj]
  ·rw [List.getElem?_eq_none (by simpa using hj),List.getElem?_eq_none (by simpa using hj)]
   rfl
where
 Nat.mul_add_mod_of_lt' {n s x:Nat} (h:x < s):(n * s + x) % s=x:=by rw [Nat.mul_comm,Nat.mul_add_mod];exact Nat.mod_eq_of_lt h
section
variable {P:Program} {ops:Array Oper} {Q:Exit→Act→World→Prop} {a:Act} {W W' w0:World} {rest:List Oper} {L:List Res}
variable {dst:Option Tmp} {ty0:TypeId} {pos:String} {after:Array Edge} {gd:Option (Nat × Bool)}
theorem mksA {t e:TypeId} {k bytes:Nat} {z:Value} [hR:RowT P t e k bytes z] {x y:Operand} {d d' : Int} {n:Nat} {cs:List Value} (hw:Region.wanted ⟨dst,.makeSlice t x y,ty0,pos,after,gd⟩ (yielded ops a.tmps)=true) (HM:Mem w0 W L)
  (hx:a.eval x = .int .i64 d) (hy:a.eval y = .int .i64 d') (hd:d=(n:Int)) (hd' : d' = (n:Int)) (hz:z.cells=cs.toArray) (hn:bytes * n≤140737488355328) (hm:n≤9223372036854775807)
  (h:∀ g W',Mem w0 W' (.row (some ⟨g,0,none⟩) n e k n (List.replicate n cs).flatten :: L)→wpList P ops Q (⟨dst,.move (.const (.slice (some ⟨g,0,none⟩) n n)),ty0,pos,after,gd⟩ :: rest) a W'):wpList P ops Q (⟨dst,.makeSlice t x y,ty0,pos,after,gd⟩ :: rest) a W:=by
 subst hd hd'
 obtain ⟨i,hi,hz1,hsz,hby⟩:=rowT_parts hR
 obtain ⟨W',hrun,hown,hg⟩:=run_make_full (P:=P) W w0.heap.size t e i z k hR.under hi hz1 hsz .i64 .i64 n (by rw [hby];omega) (by unfold maxLen;exact hm) HM.below.size
 have hzk:=hR.zero
 have hfl:=made_flat z.cells (by rw [hzk];exact hR.pos) n
 rw [hzk,hz] at hfl
 rw [hz,hfl] at hown
 have hM' : Mem w0 W' (.row (some ⟨W.heap.size,0,none⟩) n e k n (List.replicate n cs).flatten :: L):=HM.add hg hown (fun g e=>Nat.le_of_eq (Option.some.inj e))
 refine as_moveW (o:=⟨dst,.makeSlice t x y,ty0,pos,after,gd⟩) hw ?_ (h _ _ hM')
 show (do pure (.value (← Instr.makeSlice t (a.eval x) (a.eval y))):Sem Next).run P W=_
 rw [hx,hy]
 simp only [Sem.run_bind,hrun,Result.andThen_ok]
 rfl
theorem strA {ty:TypeId} {m:Nat} [hA:AggT P ty m] {x y:Operand} {b:Addr} {cap k n i:Nat} {e:TypeId} {cs vs:List Value} (hw:Region.wanted ⟨dst,.store ty x y,ty0,pos,after,gd⟩ (yielded ops a.tmps)=true) (HM:Mem w0 W L) (j:Nat) (hj:L[j]? = some (.row (some b) cap e k n cs)) (hx:a.eval x = .pointer (some (b.add i)))
  (hy:a.eval y = .agg vs.toArray) (hvm:vs.length=m) (h1:∀ u,u ∈ vs→u.oneCell' = true) (hi:i + m≤cs.length)
  (h:∀ W',Mem w0 W' (L.set j (.row (some b) cap e k n (cs.take i++vs++cs.drop (i + m))))→wpList P ops Q (⟨dst,.move (.const undef),ty0,pos,after,gd⟩ :: rest) a W'):wpList P ops Q (⟨dst,.store ty x y,ty0,pos,after,gd⟩ :: rest) a W:=by
 have hrow:=HM.get hj
 obtain ⟨hl,⟨h0,_⟩ | ⟨g,cap',cur,hv,hb,hh,hc,hm,hs,htk⟩⟩:=(hrow:W.ownsRow _ _ _ _ _ _)
 ·cases h0
 ·simp only [Value.slice.injEq,Option.some.injEq] at hv
  obtain ⟨rfl,-,rfl⟩:=hv
  rw [add_none,Nat.zero_add] at hx
  have hcl:cs.length≤cur.size:=by rw [← htk,List.length_take];simp;omega
  have hst:=run_storeCells_at P g i e vs 0 cur W hh (by omega) h1
  have hM:Mem w0 (W.setRow g (cur.toList.take (i + 0)++vs++cur.toList.drop (i + 0 + vs.length)).toArray) (L.set j (.row (some ⟨g,0,none⟩) cap e k n (cs.take i++vs++cs.drop (i + m)))):=by
   refine HM.turn hj ⟨rfl,rfl,rfl,by simp,fun q hq hne=>setRow_other W g q _ (fun e=>hne (by simp [Res.blk,e]))⟩ ?_ (fun g' e=>Or.inl e)
   refine ⟨by simp;omega,Or.inr ⟨g,cap,_,rfl,hb,setRow_heap W g cur _ e _ hh,hc,hm,?_,?_⟩⟩
   ·simp;omega
   ·show List.take (n * k) (cur.toList.take (i + 0)++vs++cur.toList.drop (i + 0 + vs.length))=_
    have hcs:cs.length=n * k:=by simpa using hl
    have hik:i + m≤n * k:=by omega
    have hcn:n * k≤cur.size:=by omega
    have hAl:(cur.toList.take (i + 0)++vs).length=i + m:=by rw [List.length_append,List.length_take,Array.length_toList,hvm];omega
    rw [List.take_append,List.take_of_length_le (by rw [hAl];exact hik),hAl,hvm,Nat.add_zero]
    rw [← htk,List.take_take,Nat.min_eq_left (by omega),List.drop_take]
  refine wpList_step fun K hK=>?_
  rw [if_pos hw]
  have h':=h _ hM
  unfold wpList at h'
  rw [if_pos (show Region.wanted (⟨dst,.move (.const undef),ty0,pos,after,gd⟩:Oper) (yielded ops a.tmps)=true from hw)] at h'
  rcases h' with h' | ⟨h',_⟩
  ·have h'' : wpList P ops Q rest (a.put dst undef) _:=h'
   have hsz:(a.eval y).cells.size=m:=by rw [hy];simp [Value.cells,hvm]
   have hyc:(a.eval y).cells.toList=vs:=by rw [hy];rfl
   unfold Oper.wp
   simp only [execOp,hx,Instr.storeAt,Instr.sureAddr,storeVar,Sem.run_bind,Sem.run_pure,Result.andThen_ok,hA.size,hsz,ne_eq,not_true_eq_false,if_false,hyc,hst]
   exact hK _ _ h''
  ·exact absurd h' (asks_move (o:=⟨dst,.move (.const undef),ty0,pos,after,gd⟩))
end
section
variable {P:Program} {ops:Array Oper} {Q:Exit→Act→World→Prop} {a:Act} {W W' w0:World} {rest:List Oper} {L:List Res}
variable {dst:Option Tmp} {ty0:TypeId} {pos:String} {after:Array Edge} {gd:Option (Nat × Bool)}
theorem mkcap {t e:TypeId} {k bytes:Nat} {z:Value} [hR:RowT P t e k bytes z] {x y:Operand} {d d' : Int} {n:Nat} {cs:List Value} (hw:Region.wanted ⟨dst,.makeSlice t x y,ty0,pos,after,gd⟩ (yielded ops a.tmps)=true) (HM:Mem w0 W L)
  (hx:a.eval x = .int .i64 d) (hy:a.eval y = .int .i64 d') (hd:d=0) (hd' : d' = (n:Int)) (hz:z.cells=cs.toArray) (hn:bytes * n≤140737488355328) (hm:n≤9223372036854775807)
  (h:∀ g W',Mem w0 W' (.box g e (List.replicate n cs).flatten :: L)→wpList P ops Q (⟨dst,.move (.const (.slice (some ⟨g,0,none⟩) 0 n)),ty0,pos,after,gd⟩ :: rest) a W'):wpList P ops Q (⟨dst,.makeSlice t x y,ty0,pos,after,gd⟩ :: rest) a W:=by
 subst hd hd'
 obtain ⟨i,hi,hz1,hsz,hby⟩:=rowT_parts hR
 have hb' : (i.bytes:Int) * (n:Int)≤281474976710656:=by
  have h1:((i.bytes * n:Nat):Int)≤281474976710656:=by rw [hby];omega
  rwa [Int.natCast_mul] at h1
 have hr:=run_make (P:=P) W t e i z hR.under hi hz1 .i64 .i64 0 n (Int.le_refl _) (by omega) hb' (by omega)
 have hzk:=hR.zero
 have hfl:=made_flat z.cells (by rw [hzk];exact hR.pos) n
 have harr:madeCells z.cells (n * i.size)=((List.replicate n cs).flatten).toArray:=by
  apply Array.ext'
  rw [hsz,← hzk,hfl,hz]
 rw [Int.toNat_natCast,harr] at hr
 have hM:=new_box (cs:=(List.replicate n cs).flatten) HM e
 refine as_moveW (o:=⟨dst,.makeSlice t x y,ty0,pos,after,gd⟩) hw ?_ (h _ _ hM)
 show (do pure (.value (← Instr.makeSlice t (a.eval x) (a.eval y))):Sem Next).run P W=_
 rw [hx,hy]
 simp only [Sem.run_bind,hr,Result.andThen_ok]
 rfl
theorem appin {t e:TypeId} {k bytes:Nat} {z:Value} [hR:RowT P t e k bytes z] {s x:Operand} {p:Option Addr} {g cap m c:Nat} {cs news:List Value} (hw:Region.wanted ⟨dst,.call { callee:=.builtin .append,args:=#[s,x],argTypes:=#[t,t]},ty0,pos,after,gd⟩ (yielded ops a.tmps)=true)
  (HM:Mem w0 W L) (i:Nat) (hi:L[i]? = some (.box g e cs)) (hs:a.eval s = .slice (some ⟨g,0,none⟩) 0 cap) (hx:a.eval x = .slice p m c) (hS:Sl W p news)
  (hl:news.length=m * k) (h1:∀ u ∈ news,u.oneCell' = true) (hm:m≤cap) (hC:news.length≤cs.length)
  (h:∀ W',Mem w0 W' (L.set i (.box g e (news++cs.drop news.length)))→wpList P ops Q (⟨dst,.move (.const (.slice (some ⟨g,0,none⟩) m cap)),ty0,pos,after,gd⟩ :: rest) a W') :
  wpList P ops Q (⟨dst,.call { callee:=.builtin .append,args:=#[s,x],argTypes:=#[t,t]},ty0,pos,after,gd⟩ :: rest) a W:=by
 have hb:=HM.get hi
 have hst:=run_storeCells_at P g 0 e news 0 cs.toArray W hb.2 (by simpa using hC) h1
 simp only [Nat.add_zero,Nat.zero_add,List.take_zero,List.nil_append] at hst
 have hM:Mem w0 (W.setRow g (news++cs.drop news.length).toArray) (L.set i (.box g e (news++cs.drop news.length))):=by
  refine HM.turn hi ⟨rfl,rfl,rfl,by simp,fun j hj hne=>setRow_other W g j _ (fun e=>hne (by simp [Res.blk,e]))⟩ ⟨hb.1,setRow_heap W g cs.toArray _ e _ hb.2⟩ (fun g' e=>Or.inl e)
 obtain ⟨i',hi',hz1,hsz,hby⟩:=rowT_parts hR
 have hfc:(Builtin.firstCells i'.size m (.slice p m c)).run P W = .ok news.toArray W:=by
  rw [hsz]
  cases p with
  | none=>
   obtain rfl:=hS.1 rfl
   rfl
  | some b=>exact run_firstCells_some W k m b m c news hl (hS.2 b rfl)
 refine as_moveW (o:=⟨dst,.call { callee:=.builtin .append,args:=#[s,x],argTypes:=#[t,t]},ty0,pos,after,gd⟩) hw ?_ (h _ hM)
 have hr:(Builtin.append_ #[t,t] ty0 #[.slice (some ⟨g,0,none⟩) 0 cap,.slice p m c]).run P W = .ok (.slice (some ⟨g,0,none⟩) m cap) (W.setRow g (news++cs.drop news.length).toArray):=by
  simp [Builtin.append_,run_underlying hR.under,sizeOf,typeInfo,hi',Builtin.lenOf,hm,hfc,Addr.add,hst]
 simp only [execOp,resolve,invoke,builtin,Sem.run_bind,Sem.run_pure,Result.andThen_ok,List.map_toArray,List.map_cons,List.map_nil,hs,hx,hr]
end
open Go.RowKit Go.ChangeShapes Go.WideShapes Go.Deep
theorem list_of {α:Type} {p:Nat→α→Prop}:∀ (n:Nat),(∀ i,i < n→∃ y,p i y)→∃ l:List α,l.length=n∧∀ (i:Nat) (y:α),l[i]? = some y→p i y
 | 0,_=>⟨[],rfl,fun i y h=>by simp at h⟩
 | n + 1,h=>by
  obtain ⟨l,hl,hp⟩:=list_of n (fun i hi=>h i (by omega))
  obtain ⟨y,hy⟩:=h n (by omega)
  refine ⟨l++[y],by simp [hl],fun i z hz=>?_⟩
  rw [List.getElem?_append] at hz
  split at hz
  ·exact hp i z hz
  ·rename_i h1
   have h2:i - l.length=0:=by
    rcases Nat.eq_zero_or_pos (i - l.length) with h2|h2
    ·exact h2
    ·rw [List.getElem?_eq_none (by simp;omega)] at hz;cases hz
   rw [h2] at hz
   simp at hz
   subst hz
   rw [show i=n by omega]
   exact hy
theorem flat_get {α:Type} (f:α→List Value) (k:Nat) (hk:0 < k) (hf:∀ x,(f x).length=k):∀ (l:List α) (j:Nat),(l.flatMap f)[j]? = (l[j / k]?).bind fun y=>(f y)[j % k]?
 | [],j=>by simp
 | x :: l,j=>by
  rw [List.flatMap_cons,List.getElem?_append,hf]
  split
  ·rename_i h
   rw [Nat.div_eq_of_lt h,Nat.mod_eq_of_lt h]
   simp
  ·rename_i h
   rw [flat_get f k hk hf l (j - k)]
   have h1:j=(j - k) + k:=by omega
   have h2:j / k=(j - k) / k + 1:=by
    conv=>lhs;rw [h1]
    exact Nat.add_div_right _ hk
   have h3:j % k=(j - k) % k:=by
    conv=>lhs;rw [h1]
    exact Nat.add_mod_right _ _
   rw [h2,h3]
   simp
theorem cells_flat {α:Type} (f:α→List Value) (k:Nat) (hk:0 < k) (hf:∀ x,(f x).length=k) {w:World} {a:Addr} {l:List α} (h:∀ (i:Nat) (y:α),l[i]? = some y→Cells w (a.add (i * k)) (f y)):Cells w a (l.flatMap f):=by
 intro j u hj
 rw [flat_get f k hk hf] at hj
 cases hy:l[j / k]? with
 | none=>rw [hy] at hj;cases hj
 | some y=>
  rw [hy] at hj
  have:=h _ y hy _ u hj
  rw [Go.Deep.add_add] at this
  rwa [show j / k * k + j % k=j by rw [Nat.mul_comm];exact Nat.div_add_mod j k] at this
section
variable {H:Type} {enc:TypeId × Value→H} {P:Program} {w:World}
theorem open_rows {α:Type} (f:α→List Value) (k:Nat) (hk:0 < k) (hf:∀ x,(f x).length=k) (good:α→DataW H→Prop) {t e:TypeId} {v:Value} {d:DataW H} {p:List MemPlace} {r:Reach} {b0:Nat} (ht:P.underlying t=some (.slice e)) (hC:P.cellsOf e=k)
  (hdec:∀ (n:Nat) (cs:List Value) (x:DataW H × List MemPlace),DataW.trod enc P w 0 (fun _=>true) true n e cs=some x→∃ y,cs=f y∧good y x.1)
  (hval:Value.okWide P w r b0 t v) (h:DataW.Trod enc P w 0 (fun _=>true) true t v d p) :
  ∃ (q:Option Addr) (c:Nat) (l:List α),v = .slice q l.length c∧Sl w q (l.flatMap f)∧((d = .nil∧l=[])∨∃ es sp,d = .slice es sp∧es.length=l.length∧∀ (i:Nat) (y:α),l[i]? = some y→∃ z,es[i]? = some z∧good y z):=by
 obtain ⟨a0,n0,c0,rfl⟩:=okWide_slice ht hval
 obtain ⟨fuel,hfu⟩:=h
 rcases open_slice ht hfu with ⟨h1,h2⟩ | ⟨a,len,cap,m,n,D,Pl,h1,hb,hl,hm,hmm,hx,hi⟩
 ·simp only [Value.cells,List.cons.injEq,Value.slice.injEq,and_true] at h1
  obtain ⟨rfl,rfl,rfl⟩:=h1
  exact ⟨none,0,[],rfl,⟨fun _=>rfl,fun a e=>by cases e⟩,Or.inl ⟨congrArg Prod.fst h2,rfl⟩⟩
 ·simp only [Value.cells,List.cons.injEq,Value.slice.injEq,and_true] at h1
  obtain ⟨rfl,rfl,rfl⟩:=h1
  have hmc:m=c0:=by simpa using hmm
  obtain ⟨l,hll,hlp⟩:=list_of (p:=fun i (y:α)=>Cells w (a.add (i * k)) (f y)∧good y (D i)) n0 (fun i hin=>by
   obtain ⟨cs',hc,ht'⟩:=hi i (by omega)
   rw [hC] at hc
   obtain ⟨y,rfl,hg⟩:=hdec _ _ _ ht'
   obtain ⟨_,hcl,hat⟩:=World.cells?_some hc
   refine ⟨y,fun j u hj=>?_,hg⟩
   have hjl:j < k:=by rw [← hf y];exact (List.getElem?_eq_some_iff.1 hj).1
   rw [hat j hjl,hj])
  subst hll
  refine ⟨some a,c0,l,rfl,⟨(fun e=>by cases e),(fun b e=>by cases e;exact cells_flat f k hk hf (fun i y hy=>(hlp i y hy).1))⟩,Or.inr ⟨(List.range l.length).map D,_,congrArg Prod.fst hx,by simp,fun i y hy=>⟨D i,?_,(hlp i y hy).2⟩⟩⟩
  have hil:i < l.length:=(List.getElem?_eq_some_iff.1 hy).1
  rw [List.getElem?_map,List.getElem?_range hil]
  rfl
theorem open_struct {t:TypeId} {v:Value} {d:DataW H} {p:List MemPlace} {r:Reach} {b0:Nat} {fs:Array Field} (ht:P.underlying t=some (.struct fs)) (hval:Value.okWide P w r b0 t v) (h:DataW.Trod enc P w 0 (fun _=>true) true t v d p) :
  ∃ (cs:List Value) (n:Nat),v = .agg cs.toArray∧DataW.trod enc P w 0 (fun _=>true) true n t cs=some (d,p):=by
 obtain ⟨cs,rfl,hsz⟩:=okWide_struct ht hval
 obtain ⟨fuel,hf⟩:=h
 exact ⟨cs.toList,fuel,rfl,hf⟩
theorem field_at {base:Nat} {spare:Nat→Bool} {held:Bool} {fs:Array Field} {xs:List (DataW H × List MemPlace)} {m:Nat} {cs:List Value} (hf:∀ (i:Nat) (f:Field),fs[i]? = some f→DataW.trod enc P w base spare held m f.type ((cs.drop f.offset).take (P.cellsOf f.type))=xs[i]?)
  (i:Nat) (t:TypeId) (o c:Nat) (ht:(fs[i]?).map (fun f=>(f.type,f.offset))=some (t,o)) (hc:P.cellsOf t=c):DataW.trod enc P w base spare held m t ((cs.drop o).take c)=xs[i]?:=by
 cases h:fs[i]? with
 | none=>rw [h] at ht;cases ht
 | some f=>
  rw [h] at ht
  simp only [Option.map_some,Option.some.injEq,Prod.mk.injEq] at ht
  obtain ⟨rfl,rfl⟩:=ht
  subst hc
  exact hf i f h
end
class InBox (L:List Res) (g:Nat) (t:outParam TypeId) (cs:outParam (List Value)):Prop where
 at_:∃ k:Nat,L[k]? = some (Res.box g t cs)
instance InBox.head {L:List Res} {g:Nat} {t:TypeId} {cs:List Value}:InBox (Res.box g t cs :: L) g t cs:=⟨0,rfl⟩
instance (priority:=900) InBox.tail {L:List Res} {r:Res} {g:Nat} {t:TypeId} {cs:List Value} [h:InBox L g t cs]:InBox (r :: L) g t cs:=by
 obtain ⟨k,hk⟩:=h.at_
 exact ⟨k + 1,hk⟩
class PutBox (L:List Res) (g:Nat) (t:outParam TypeId) (cs:outParam (List Value)) (vs:List Value) (L' : outParam (List Res)):Prop where
 at_:∃ k:Nat,L[k]? = some (Res.box g t cs)∧L.set k (Res.box g t vs)=L'
instance PutBox.head {L:List Res} {g:Nat} {t:TypeId} {cs vs:List Value}:PutBox (Res.box g t cs :: L) g t cs vs (Res.box g t vs :: L):=⟨0,rfl,rfl⟩
instance (priority:=900) PutBox.tail {L L' : List Res} {r:Res} {g:Nat} {t:TypeId} {cs vs:List Value} [h:PutBox L g t cs vs L']:PutBox (r :: L) g t cs vs (r :: L'):=by
 obtain ⟨k,hk,e⟩:=h.at_
 exact ⟨k + 1,hk,by rw [← e];rfl⟩
section
variable {P:Program} {ops:Array Oper} {Q:Exit→Act→World→Prop} {a:Act} {W W' w0:World} {rest:List Oper} {L L' : List Res}
variable {dst:Option Tmp} {ty0:TypeId} {pos:String} {after:Array Edge} {gd:Option (Nat × Bool)}
theorem hld1 {ty:TypeId} [hC:CellT P ty] {x:Operand} {g:Nat} {t:TypeId} {cs:List Value} {i:Nat} {v:Value} (HM:Hid (Mem w0 W L)) (hx:a.eval x = .pointer (some ⟨g,i,none⟩)) [hb:InBox L g t cs] (hv:cs[i]? = some v)
  (h:wpList P ops Q (⟨dst,.move (.const v),ty0,pos,after,gd⟩ :: rest) a W):wpList P ops Q (⟨dst,.load ty x,ty0,pos,after,gd⟩ :: rest) a W:=by
 obtain ⟨k,hk⟩:=hb.at_
 exact ldb1 HM.out k hk hx hv h
theorem hldW {ty:TypeId} {n:Nat} [hA:AggT P ty n] {x:Operand} {g:Nat} {t:TypeId} {cs:List Value} (HM:Hid (Mem w0 W L)) (hx:a.eval x = .pointer (some ⟨g,0,none⟩)) [hb:InBox L g t cs] (hn:cs.length=n)
  (h:wpList P ops Q (⟨dst,.move (.const (.agg cs.toArray)),ty0,pos,after,gd⟩ :: rest) a W):wpList P ops Q (⟨dst,.load ty x,ty0,pos,after,gd⟩ :: rest) a W:=by
 obtain ⟨k,hk⟩:=hb.at_
 exact ldbW HM.out k hk hx hn h
theorem hst1 {ty:TypeId} [hC:CellT P ty] {x y:Operand} {g:Nat} {t:TypeId} {cs:List Value} {i:Nat} {v:Value} (HM:Hid (Mem w0 W L)) (hw:Region.wanted ⟨dst,.store ty x y,ty0,pos,after,gd⟩ (yielded ops a.tmps)=true) (hx:a.eval x = .pointer (some ⟨g,i,none⟩))
  (hy:a.eval y=v) (h1:v.oneCell' = true) [hb:PutBox L g t cs (cs.set i v) L'] (hfit:decide (i < cs.length)=true)
  (h:∀ W',Hid (Mem w0 W' L')→wpList P ops Q (⟨dst,.move (.const undef),ty0,pos,after,gd⟩ :: rest) a W'):wpList P ops Q (⟨dst,.store ty x y,ty0,pos,after,gd⟩ :: rest) a W:=by
 obtain ⟨k,hk,rfl⟩:=hb.at_
 exact stb1 hw HM.out k hk hx hy h1 hfit fun W' m=>h W' (Lib.hid m)
theorem hldS {ty:TypeId} {n:Nat} [hA:AggT P ty n] {x:Operand} {g:Nat} {t:TypeId} {cs:List Value} {i:Nat} (HM:Hid (Mem w0 W L)) (hx:a.eval x = .pointer (some ⟨g,i,none⟩)) [hb:InBox L g t cs] (hn:((cs.drop i).take n).length=n)
  (h:wpList P ops Q (⟨dst,.move (.const (.agg ((cs.drop i).take n).toArray)),ty0,pos,after,gd⟩ :: rest) a W):wpList P ops Q (⟨dst,.load ty x,ty0,pos,after,gd⟩ :: rest) a W:=by
 obtain ⟨k,hk⟩:=hb.at_
 exact ldbS HM.out k hk hx hn h
theorem hstW {ty:TypeId} {n:Nat} [hA:AggT P ty n] {x y:Operand} {g:Nat} {t:TypeId} {cs vs:List Value} (HM:Hid (Mem w0 W L)) (hw:Region.wanted ⟨dst,.store ty x y,ty0,pos,after,gd⟩ (yielded ops a.tmps)=true) (hx:a.eval x = .pointer (some ⟨g,0,none⟩))
  (hy:a.eval y = .agg vs.toArray) [hb:PutBox L g t cs vs L'] (hn:vs.length=n) (hn' : cs.length=n) (h1:vs.all (·.oneCell')=true)
  (h:∀ W',Hid (Mem w0 W' L')→wpList P ops Q (⟨dst,.move (.const undef),ty0,pos,after,gd⟩ :: rest) a W'):wpList P ops Q (⟨dst,.store ty x y,ty0,pos,after,gd⟩ :: rest) a W:=by
 obtain ⟨k,hk,rfl⟩:=hb.at_
 exact stbW hw HM.out k hk hx hy hn hn' h1 fun W' m=>h W' (Lib.hid m)
theorem hstS {ty:TypeId} {n:Nat} [hA:AggT P ty n] {x y:Operand} {g:Nat} {t:TypeId} {cs vs:List Value} {i:Nat} (HM:Hid (Mem w0 W L)) (hw:Region.wanted ⟨dst,.store ty x y,ty0,pos,after,gd⟩ (yielded ops a.tmps)=true) (hx:a.eval x = .pointer (some ⟨g,i,none⟩))
  (hy:a.eval y = .agg vs.toArray) [hb:PutBox L g t cs (cs.take i++vs++cs.drop (i + n)) L'] (hn:vs.length=n) (hn' : decide (i + n≤cs.length)=true) (h1:vs.all (·.oneCell')=true)
  (h:∀ W',Hid (Mem w0 W' L')→wpList P ops Q (⟨dst,.move (.const undef),ty0,pos,after,gd⟩ :: rest) a W'):wpList P ops Q (⟨dst,.store ty x y,ty0,pos,after,gd⟩ :: rest) a W:=by
 obtain ⟨k,hk,rfl⟩:=hb.at_
 exact stbS hw HM.out k hk hx hy hn hn' h1 fun W' m=>h W' (Lib.hid m)
theorem hal {ty:TypeId} {cs:List Value} [hz:ZeroA P ty cs] (HM:Hid (Mem w0 W L)) (hw:Region.wanted ⟨dst,.alloc ty,ty0,pos,after,gd⟩ (yielded ops a.tmps)=true)
  (h:∀ g W',Hid (Mem w0 W' (.box g ty cs :: L))→wpList P ops Q (⟨dst,.move (.const (.pointer (some ⟨g,0,none⟩))),ty0,pos,after,gd⟩ :: rest) a W'):wpList P ops Q (⟨dst,.alloc ty,ty0,pos,after,gd⟩ :: rest) a W:=
 alb hw HM.out fun g W' m=>h g W' (Lib.hid m)
theorem hbxA {ty:TypeId} {x:Operand} {cs:List Value} (HM:Hid (Mem w0 W L)) (hw:Region.wanted ⟨dst,.box ty x,ty0,pos,after,gd⟩ (yielded ops a.tmps)=true) (hx:a.eval x = .agg cs.toArray)
  (h:∀ g W',Hid (Mem w0 W' (.box g ty cs :: L))→wpList P ops Q (⟨dst,.move (.const (.pointer (some ⟨g,0,none⟩))),ty0,pos,after,gd⟩ :: rest) a W'):wpList P ops Q (⟨dst,.box ty x,ty0,pos,after,gd⟩ :: rest) a W:=
 bxA hw HM.out hx fun g W' m=>h g W' (Lib.hid m)
theorem hbx1 {ty:TypeId} {x:Operand} {v:Value} (HM:Hid (Mem w0 W L)) (hw:Region.wanted ⟨dst,.box ty x,ty0,pos,after,gd⟩ (yielded ops a.tmps)=true) (hx:a.eval x=v) (h1:v.oneCell' = true)
  (h:∀ g W',Hid (Mem w0 W' (.box g ty [v] :: L))→wpList P ops Q (⟨dst,.move (.const (.pointer (some ⟨g,0,none⟩))),ty0,pos,after,gd⟩ :: rest) a W'):wpList P ops Q (⟨dst,.box ty x,ty0,pos,after,gd⟩ :: rest) a W:=
 bx1 hw HM.out hx h1 fun g W' m=>h g W' (Lib.hid m)
end
section
variable {P:Program} {ops:Array Oper} {Q:Exit→Act→World→Prop} {a:Act} {W W' w0:World} {rest:List Oper} {L L' : List Res} {K:Act→Prop}
variable {dst:Option Tmp} {ty0:TypeId} {pos:String} {after:Array Edge} {gd:Option (Nat × Bool)}
theorem hqd1 {ty:TypeId} [hC:CellT P ty] {x:Operand} {g:Nat} {t:TypeId} {cs:List Value} {i:Nat} {v:Value} (HM:Hid (Mem w0 W L)) (hx:a.eval x = .pointer (some ⟨g,i,none⟩)) [hb:InBox L g t cs] (hv:cs[i]? = some v)
  (h:wpQuiet P ops (fun W=>∃ p:MemW w0 L,W=p.W) K (⟨dst,.move (.const v),ty0,pos,after,gd⟩ :: rest) a):wpQuiet P ops (fun W=>∃ p:MemW w0 L,W=p.W) K (⟨dst,.load ty x,ty0,pos,after,gd⟩ :: rest) a:=by
 obtain ⟨k,hk⟩:=hb.at_
 exact qdb1 HM.out k hk hx hv h
theorem hqdW {ty:TypeId} {n:Nat} [hA:AggT P ty n] {x:Operand} {g:Nat} {t:TypeId} {cs:List Value} (HM:Hid (Mem w0 W L)) (hx:a.eval x = .pointer (some ⟨g,0,none⟩)) [hb:InBox L g t cs] (hn:cs.length=n)
  (h:wpQuiet P ops (fun W=>∃ p:MemW w0 L,W=p.W) K (⟨dst,.move (.const (.agg cs.toArray)),ty0,pos,after,gd⟩ :: rest) a):wpQuiet P ops (fun W=>∃ p:MemW w0 L,W=p.W) K (⟨dst,.load ty x,ty0,pos,after,gd⟩ :: rest) a:=by
 obtain ⟨k,hk⟩:=hb.at_
 exact qdbW HM.out k hk hx hn h
theorem hqdS {ty:TypeId} {n:Nat} [hA:AggT P ty n] {x:Operand} {g:Nat} {t:TypeId} {cs:List Value} {i:Nat} (HM:Hid (Mem w0 W L)) (hx:a.eval x = .pointer (some ⟨g,i,none⟩)) [hb:InBox L g t cs] (hn:((cs.drop i).take n).length=n)
  (h:wpQuiet P ops (fun W=>∃ p:MemW w0 L,W=p.W) K (⟨dst,.move (.const (.agg ((cs.drop i).take n).toArray)),ty0,pos,after,gd⟩ :: rest) a):wpQuiet P ops (fun W=>∃ p:MemW w0 L,W=p.W) K (⟨dst,.load ty x,ty0,pos,after,gd⟩ :: rest) a:=by
 obtain ⟨k,hk⟩:=hb.at_
 exact qdbS HM.out k hk hx hn h
theorem hbs1A {t e:TypeId} {k bytes:Nat} {z:Value} [hR:RowT P t e k bytes z] {x:Operand} {cs:List Value} (HM:Hid (Mem w0 W L)) (hw:Region.wanted ⟨dst,.buildSlice t 1 #[(0,x)],ty0,pos,after,gd⟩ (yielded ops a.tmps)=true)
  (hx:a.eval x = .agg cs.toArray) (hk:cs.length=k) (hs:decide (k≤16777216)=true)
  (h:∀ g W',Hid (Mem w0 W' (.box g e cs :: L))→wpList P ops Q (⟨dst,.move (.const (.slice (some ⟨g,0,none⟩) 1 1)),ty0,pos,after,gd⟩ :: rest) a W'):wpList P ops Q (⟨dst,.buildSlice t 1 #[(0,x)],ty0,pos,after,gd⟩ :: rest) a W:=
 bs1A hw HM.out hx hk hs fun g W' m=>h g W' (Lib.hid m)
theorem cM {f:FuncId} {args:Array Value} {v:Ending} {K:Ending→World→Prop} (hc:Calls P f args W fun e W'=>e=v∧Mem w0 W' L) (h:∀ W',Hid (Mem w0 W' L)→K v W'):Calls P f args W K:=
 hc.mono fun _ W' ⟨he,hm⟩=>he▸h W' (Lib.hid hm)
theorem cB {f:FuncId} {args:Array Value} {v:Ending} {K:Ending→World→Prop} (HM:Hid (Mem w0 W L)) (hc:Calls P f args W fun e W'=>e=v∧RowKit.Below W.heap.size W W') (h:∀ W',Hid (Mem w0 W' L)→K v W'):Calls P f args W K:=
 hc.mono fun _ W' ⟨he,hb⟩=>he▸h W' (Lib.hid (HM.out.next hb))
theorem cQ {f:FuncId} {args:Array Value} {v:Ending} {K:Ending→World→Prop} (hc:Calls P f args W fun e W'=>e=v∧W=W') (h:K v W):Calls P f args W K:=
 hc.mono fun _ W' ⟨he,hw⟩=>he▸hw▸h
theorem cQ' {f:FuncId} {args:Array Value} {v:Ending} {K:Ending→World→Prop} (hc:Calls P f args W fun e W'=>e=v∧W' = W) (h:K v W):Calls P f args W K:=
 hc.mono fun _ W' ⟨he,hw⟩=>he▸hw▸h
end
theorem mP {G H:Prop} (kK:H) (h:H→G:=by
 intro kK
 first
 |((with_reducible refine inilCheck ?_);(refine lnil rfl ?_);exact kK)
 |((with_reducible refine iload ?_);first|(refine hld1 HM rfl (by exact rfl) ?_;exact kK)|(refine hldW HM rfl (by exact rfl) ?_;exact kK)|(refine hldS HM rfl (by exact rfl) ?_;simp only [List.take,List.drop];exact kK))):G:=h kK
theorem mS {G H:Prop} (kK:H) (h:H→G:=by
 intro kK
 (with_reducible refine istore ?_)
 first
 |((first|refine hst1 (v:=.int _ _) HM rfl rfl rfl rfl (by exact rfl) ?_|refine hst1 (v:=.slice _ _ _) HM rfl rfl rfl rfl (by exact rfl) ?_|refine hst1 (v:=.string _) HM rfl rfl rfl rfl (by exact rfl) ?_|refine hst1 (v:=.bool _) HM rfl rfl rfl rfl (by exact rfl) ?_|refine hst1 (v:=.pointer _) HM rfl rfl rfl rfl (by exact rfl) ?_|refine hst1 (v:=.map _) HM rfl rfl rfl rfl (by exact rfl) ?_|refine hst1 (v:=.iface _ _) HM rfl rfl rfl rfl (by exact rfl) ?_);intro W1 HM1;simp only [List.set] at HM1;revert HM1;revert W1;exact kK)
 |(refine hstW HM rfl rfl rfl (by exact rfl) (by exact rfl) (by exact rfl) ?_;exact kK)
 |(refine hstS HM rfl rfl rfl (by exact rfl) (by exact rfl) (by exact rfl) ?_;intro W1 HM1;simp only [lss,Nat.reduceAdd] at HM1;revert HM1;revert W1;exact kK)):G:=h kK
theorem mQ {G H:Prop} (kK:H) (h:H→G:=by
 intro kK
 first
 |((with_reducible refine qnilCheck ?_);(refine qnil rfl ?_);exact kK)
 |((with_reducible refine qload ?_);first|(refine hqd1 HM rfl (by exact rfl) ?_;exact kK)|(refine hqdW HM rfl (by exact rfl) ?_;exact kK)|(refine hqdS HM rfl (by exact rfl) ?_;simp only [List.take,List.drop];exact kK)|(refine hqd1 HS0 rfl (by exact rfl) ?_;exact kK)|(refine hqdW HS0 rfl (by exact rfl) ?_;exact kK)|(refine hqdS HS0 rfl (by exact rfl) ?_;simp only [List.take,List.drop];exact kK))):G:=h kK
theorem mR {G H:Prop} (kK:H) (h:H→G:=by
 intro kK
 refine wp_region_mem (by kernel_rfl) (by kernel_rfl) HM.out ?_
 intro hNE
 (repeat (any_goals (first|refine mQ ?_|go_big_quiet_step (fail)|quiet_step (fail))))
 clear hNE
 refine wpQuiet_nil ?_
 intro W1 HM1
 have HM2:=Lib.hid HM1
 clear HM1
 revert HM2
 revert W1
 exact kK):G:=h kK
theorem mL {G H:Prop} (kK:H) (h:H→G:=by
 intro kK
 (with_reducible refine ibuildSlice ?_)
 (first|refine bs0 rfl HM.out ?_|refine bs1A rfl HM.out rfl rfl rfl ?_|refine bs1c (v:=.int _ _) rfl HM.out rfl rfl ?_|refine bs1c (v:=.string _) rfl HM.out rfl rfl ?_|refine bs1c (v:=.slice _ _ _) rfl HM.out rfl rfl ?_|refine bs1c (v:=.bool _) rfl HM.out rfl rfl ?_)
 intro g1 W1 HM1
 have HM2:=Lib.hid HM1
 clear HM1
 revert HM2
 revert W1
 revert g1
 exact kK):G:=h kK
theorem mB {G H:Prop} (kK:H) (h:H→G:=by
 intro kK
 (with_reducible refine ibox ?_)
 (first|refine hbxA HM rfl rfl ?_|refine hbx1 (v:=.int _ _) HM rfl rfl rfl ?_|refine hbx1 (v:=.string _) HM rfl rfl rfl ?_|refine hbx1 (v:=.slice _ _ _) HM rfl rfl rfl ?_|refine hbx1 (v:=.bool _) HM rfl rfl rfl ?_|refine hbx1 (v:=.pointer _) HM rfl rfl rfl ?_|refine hbx1 (v:=.map _) HM rfl rfl rfl ?_)
 exact kK):G:=h kK
theorem msub {α:Type} {l m:List α} (h:l.Sublist m:=by repeat (first|exact List.nil_sublist _|with_reducible refine List.Sublist.cons_cons _ ?_|refine List.Sublist.cons _ ?_)):l.Sublist m:=h
theorem om {G:Prop} (h:G:=by first|omega|(simp only [List.length_append,List.length_cons,List.length_nil];omega)):G:=h
class StrT (P:Program) (t:TypeId):Prop where
 under:P.underlying t=some .string
theorem byte_at {s:ByteArray} {i:Nat} {b:UInt8} (h:s.data.toList[i]? = some b):∃ hi:i < s.size,s[i]=b:=by
 have h1:i < s.data.toList.length:=(List.getElem?_eq_some_iff.1 h).1
 have h2:i < s.size:=by simpa using h1
 refine ⟨h2,?_⟩
 rw [List.getElem?_eq_getElem h1] at h
 rw [← Option.some.inj h]
 simp [ByteArray.getElem_eq_getElem_data]
theorem run_sidx {P:Program} {W:World} {t:TypeId} (ht:P.underlying t=some .string) {s:ByteArray} {i:Nat} {b:UInt8} (h:s.data.toList[i]? = some b):(Instr.index t (.string s) (.int .i64 i)).run P W = .ok (.int .u8 b.toNat) W:=by
 obtain ⟨hi,rfl⟩:=byte_at h
 simp [Instr.index,run_underlying ht,asIntOf,hi]
theorem run_sls {P:Program} {W:World} {t:TypeId} (ht:P.underlying t=some .string) {s:ByteArray} {i j:Nat} (hij:i≤j) (hj:j≤s.size):(Instr.slice t (.string s) (some (.int .i64 i)) (some (.int .i64 j)) none).run P W = .ok (.string (s.extract i j)) W:=by
 simp [Instr.slice,run_underlying ht,Instr.sliceBounds,Instr.sliceBound,asIntOf,hij,hj]
theorem run_slf {P:Program} {W:World} {t:TypeId} (ht:P.underlying t=some .string) {s:ByteArray} {i:Nat} (hi:i≤s.size):(Instr.slice t (.string s) (some (.int .i64 i)) none none).run P W = .ok (.string (s.extract i s.size)) W:=by
 simp [Instr.slice,run_underlying ht,Instr.sliceBounds,Instr.sliceBound,asIntOf,hi]
theorem run_slh {P:Program} {W:World} {t:TypeId} (ht:P.underlying t=some .string) {s:ByteArray} {j:Nat} (hj:j≤s.size):(Instr.slice t (.string s) none (some (.int .i64 j)) none).run P W = .ok (.string (s.extract 0 j)) W:=by
 simp [Instr.slice,run_underlying ht,Instr.sliceBounds,Instr.sliceBound,asIntOf,hj]
section
variable {P:Program} {ops:Array Oper} {Q:Exit→Act→World→Prop} {a:Act} {W W' w0:World} {rest:List Oper} {L:List Res} {C:World→Prop} {K:Act→Prop}
variable {dst:Option Tmp} {ty0:TypeId} {pos:String} {after:Array Edge} {gd:Option (Nat × Bool)}
theorem six {t:TypeId} [hT:StrT P t] {x ix:Operand} {s:ByteArray} {d:Int} {i:Nat} {b:UInt8} (hx:a.eval x = .string s) (hh:a.eval ix = .int .i64 d) (hd:d=(i:Int)) (hb:s.data.toList[i]? = some b)
  (h:wpList P ops Q (⟨dst,.move (.const (.int .u8 b.toNat)),ty0,pos,after,gd⟩ :: rest) a W):wpList P ops Q (⟨dst,.index t x ix,ty0,pos,after,gd⟩ :: rest) a W:=by
 subst hd
 refine as_move (o:=⟨dst,.index t x ix,ty0,pos,after,gd⟩) ?_ h
 show (do pure (.value (← Instr.index t (a.eval x) (a.eval ix))):Sem Next).run P W=_
 rw [hx,hh]
 simp only [Sem.run_bind,run_sidx hT.under hb,Result.andThen_ok]
 rfl
theorem qsix {t:TypeId} [hT:StrT P t] {x ix:Operand} {s:ByteArray} {d:Int} {i:Nat} {b:UInt8} (hx:a.eval x = .string s) (hh:a.eval ix = .int .i64 d) (hd:d=(i:Int)) (hb:s.data.toList[i]? = some b)
  (h:wpQuiet P ops C K (⟨dst,.move (.const (.int .u8 b.toNat)),ty0,pos,after,gd⟩ :: rest) a):wpQuiet P ops C K (⟨dst,.index t x ix,ty0,pos,after,gd⟩ :: rest) a:=by
 subst hd
 refine as_moveQ (o:=⟨dst,.index t x ix,ty0,pos,after,gd⟩) (fun V _=>quiet_value ?_) h
 show (do pure (.value (← Instr.index t (a.eval x) (a.eval ix))):Sem Next).run P V=_
 rw [hx,hh]
 simp only [Sem.run_bind,run_sidx hT.under hb,Result.andThen_ok]
 rfl
theorem ssls {t:TypeId} [hT:StrT P t] {x lo hi:Operand} {s:ByteArray} {d e:Int} {i j:Nat} (hx:a.eval x = .string s) (hlo:a.eval lo = .int .i64 d) (hd:d=(i:Int)) (hhi:a.eval hi = .int .i64 e) (he:e=(j:Int)) (hij:i≤j) (hj:j≤s.size)
  (h:wpList P ops Q (⟨dst,.move (.const (.string (s.extract i j))),ty0,pos,after,gd⟩ :: rest) a W):wpList P ops Q (⟨dst,.slice t x (some lo) (some hi) none,ty0,pos,after,gd⟩ :: rest) a W:=by
 subst hd he
 refine as_move (o:=⟨dst,.slice t x (some lo) (some hi) none,ty0,pos,after,gd⟩) ?_ h
 simp only [execOp,Option.map_some,Option.map_none,hx,hlo,hhi,Instr.sliceAt,Sem.run_bind,run_underlying hT.under,Result.andThen_ok,run_sls (P:=P) (W:=W) hT.under hij hj]
 rfl
theorem sslf {t:TypeId} [hT:StrT P t] {x lo:Operand} {s:ByteArray} {d:Int} {i:Nat} (hx:a.eval x = .string s) (hlo:a.eval lo = .int .i64 d) (hd:d=(i:Int)) (hi:i≤s.size)
  (h:wpList P ops Q (⟨dst,.move (.const (.string (s.extract i s.size))),ty0,pos,after,gd⟩ :: rest) a W):wpList P ops Q (⟨dst,.slice t x (some lo) none none,ty0,pos,after,gd⟩ :: rest) a W:=by
 subst hd
 refine as_move (o:=⟨dst,.slice t x (some lo) none none,ty0,pos,after,gd⟩) ?_ h
 simp only [execOp,Option.map_some,Option.map_none,hx,hlo,Instr.sliceAt,Sem.run_bind,run_underlying hT.under,Result.andThen_ok,run_slf (P:=P) (W:=W) hT.under hi]
 rfl
theorem sslh {t:TypeId} [hT:StrT P t] {x hi:Operand} {s:ByteArray} {e:Int} {j:Nat} (hx:a.eval x = .string s) (hhi:a.eval hi = .int .i64 e) (he:e=(j:Int)) (hj:j≤s.size)
  (h:wpList P ops Q (⟨dst,.move (.const (.string (s.extract 0 j))),ty0,pos,after,gd⟩ :: rest) a W):wpList P ops Q (⟨dst,.slice t x none (some hi) none,ty0,pos,after,gd⟩ :: rest) a W:=by
 subst he
 refine as_move (o:=⟨dst,.slice t x none (some hi) none,ty0,pos,after,gd⟩) ?_ h
 simp only [execOp,Option.map_some,Option.map_none,hx,hhi,Instr.sliceAt,Sem.run_bind,run_underlying hT.under,Result.andThen_ok,run_slh (P:=P) (W:=W) hT.under hj]
 rfl
theorem qssls {t:TypeId} [hT:StrT P t] {x lo hi:Operand} {s:ByteArray} {d e:Int} {i j:Nat} (hx:a.eval x = .string s) (hlo:a.eval lo = .int .i64 d) (hd:d=(i:Int)) (hhi:a.eval hi = .int .i64 e) (he:e=(j:Int)) (hij:i≤j) (hj:j≤s.size)
  (h:wpQuiet P ops C K (⟨dst,.move (.const (.string (s.extract i j))),ty0,pos,after,gd⟩ :: rest) a):wpQuiet P ops C K (⟨dst,.slice t x (some lo) (some hi) none,ty0,pos,after,gd⟩ :: rest) a:=by
 subst hd he
 refine as_moveQ (o:=⟨dst,.slice t x (some lo) (some hi) none,ty0,pos,after,gd⟩) (v:=.string (s.extract i j)) (fun V _=>quiet_value ?_) h
 simp only [execOp,Option.map_some,Option.map_none,hx,hlo,hhi,Instr.sliceAt,Sem.run_bind,run_underlying hT.under,Result.andThen_ok,run_sls (P:=P) (W:=V) hT.under hij hj]
 rfl
theorem qsslf {t:TypeId} [hT:StrT P t] {x lo:Operand} {s:ByteArray} {d:Int} {i:Nat} (hx:a.eval x = .string s) (hlo:a.eval lo = .int .i64 d) (hd:d=(i:Int)) (hi:i≤s.size)
  (h:wpQuiet P ops C K (⟨dst,.move (.const (.string (s.extract i s.size))),ty0,pos,after,gd⟩ :: rest) a):wpQuiet P ops C K (⟨dst,.slice t x (some lo) none none,ty0,pos,after,gd⟩ :: rest) a:=by
 subst hd
 refine as_moveQ (o:=⟨dst,.slice t x (some lo) none none,ty0,pos,after,gd⟩) (v:=.string (s.extract i s.size)) (fun V _=>quiet_value ?_) h
 simp only [execOp,Option.map_some,Option.map_none,hx,hlo,Instr.sliceAt,Sem.run_bind,run_underlying hT.under,Result.andThen_ok,run_slf (P:=P) (W:=V) hT.under hi]
 rfl
theorem qsslh {t:TypeId} [hT:StrT P t] {x hi:Operand} {s:ByteArray} {e:Int} {j:Nat} (hx:a.eval x = .string s) (hhi:a.eval hi = .int .i64 e) (he:e=(j:Int)) (hj:j≤s.size)
  (h:wpQuiet P ops C K (⟨dst,.move (.const (.string (s.extract 0 j))),ty0,pos,after,gd⟩ :: rest) a):wpQuiet P ops C K (⟨dst,.slice t x none (some hi) none,ty0,pos,after,gd⟩ :: rest) a:=by
 subst he
 refine as_moveQ (o:=⟨dst,.slice t x none (some hi) none,ty0,pos,after,gd⟩) (v:=.string (s.extract 0 j)) (fun V _=>quiet_value ?_) h
 simp only [execOp,Option.map_some,Option.map_none,hx,hhi,Instr.sliceAt,Sem.run_bind,run_underlying hT.under,Result.andThen_ok,run_slh (P:=P) (W:=V) hT.under hj]
 rfl
end
section
variable {P:Program} {ops:Array Oper} {Q:Exit→Act→World→Prop} {md:Region.Mode} {S:World→Prop} {j0:Nat}
def wpAnyJ (P:Program) (md:Region.Mode) (ops:Array Oper) (Q:Exit→Act→World→Prop) (S:World→Prop) (j0:Nat):Nat→Array Bool→Act→World→Prop
 | 0,listed,a,w=>Region.ready md ops listed=[]∧Q .normal a w
 | fuel + 1,listed,a,w=>
  (Region.ready md ops listed=[]→Q .normal a w)∧
  ∀ i ∈ Region.ready md ops listed,wpOp P ops Q i (fun a' w'=>((listed.setIfInBounds i true).getD j0 true=false→S w')∧wpAnyJ P md ops Q S j0 fuel (listed.setIfInBounds i true) a' w') a w
theorem wpAny_of_j:∀ (fuel:Nat) (listed:Array Bool) (a:Act) (w:World),wpAnyJ P md ops Q S j0 fuel listed a w→wpAny P md ops Q fuel listed a w
 | 0,_,_,_,h=>h
 | fuel + 1,_,_,_,h=>⟨h.1,fun i hi=>wpOp_mono (fun a' w' h'=>wpAny_of_j fuel _ a' w' h'.2) (h.2 i hi)⟩
def waitsB (md:Region.Mode) (ops:Array Oper) (j0 i:Nat):Bool:=match ops.toList[j0]? with
 | none=>false
 | some o=>o.after.any fun e=>Region.binds md e && e.on == i
theorem j_first {i:Nat} {oi:Oper} {v:Value} {S' : World→Prop} (hi:ops[i]? = some oi) (hsel:∀ (j:Nat) (o:Oper) cs b,ops[j]? = some o→o.op≠.select cs b)
  (hQ:∀ c a w,Q (.panic c) (a.put oi.dst v) w→Q (.panic c) a w) (hne:i≠j0) (m:Bool) (hS' : (m=true∧S' = S∧waitsB md ops j0 i=true)∨(m=false∧∀ w,S' w)) :
  ∀ (fuel:Nat) (listed:Array Bool) (a:Act) (w:World),
   (∀ j oj,ops[j]? = some oj→j≠i→listed.getD j true=false→(∀ e ∈ oj.after,Region.binds md e=true→e.on≠i)→oi.apart ops oj=true)→
   i ∈ Region.ready md ops listed→YieldsIf P ops S' oi v a→S' w→(listed.getD j0 true=false→S w)→(m=true→listed.getD j0 true=false)→
   wpAnyJ P md ops Q S j0 fuel (listed.setIfInBounds i true) (a.put oi.dst v) w→wpAnyJ P md ops Q S j0 (fuel + 1) listed a w:=by
 intro fuel
 have hw0:waitsB md ops j0 i=true→∃ o,ops[j0]? = some o∧∃ e ∈ o.after,Region.binds md e=true∧e.on=i:=fun h=>by
  unfold waitsB at h
  cases ho:ops.toList[j0]? with
  | none=>rw [ho] at h;cases h
  | some o=>
   rw [ho] at h
   simp only [Array.any_eq_true,Bool.and_eq_true,beq_iff_eq] at h
   obtain ⟨x,hx,h1,h2⟩:=h
   exact ⟨o,by rw [← ho];simp,_,Array.getElem_mem hx,h1,h2⟩
 have hset:∀ (listed:Array Bool) (k:Nat),(listed.setIfInBounds k true).getD j0 true=false→listed.getD j0 true=false:=fun listed k h=>by
  by_cases hk:k=j0
  ·subst hk
   rcases Nat.lt_or_ge k listed.size with h' | h'
   ·simp [h'] at h
   ·rw [Array.setIfInBounds_eq_of_size_le h'] at h;exact h
  ·rwa [getD_set_ne true hk] at h
 induction fuel with
 | zero=>
  intro listed a w _ hr hy hS hD hJ H
  refine ⟨fun h=>(by rw [h] at hr;cases hr),fun j hj=>?_⟩
  by_cases hji:j=i
  ·subst hji;exact hy.wpOp hi hS ⟨fun h=>hD (hset _ _ h),H⟩
  ·have:=ready_mono hj hji
   rw [H.1] at this
   cases this
 | succ fuel ih=>
  intro listed a w hfree hr hy hS hD hJ H
  refine ⟨fun h=>(by rw [h] at hr;cases hr),fun j hj=>?_⟩
  by_cases hji:j=i
  ·subst hji;exact hy.wpOp hi hS ⟨fun h=>hD (hset _ _ h),H⟩
  ·have h1:=H.2 j (ready_mono hj hji)
   obtain ⟨hjun,oj,hoj,hall⟩:=mem_ready.1 hj
   have hnot:∀ e ∈ oj.after,Region.binds md e=true→e.on≠i:=fun e he hb heq=>by
    have h1:=hall e he hb
    have h0:=(mem_ready.1 hr).1
    rw [heq] at h1
    rcases Nat.lt_or_ge i listed.size with h' | h'
    ·simp [h'] at h0 h1;rw [h0] at h1;cases h1
    ·simp [Array.getElem?_eq_none h'] at h1
   have h2:=wpOp_putIf hoj (hfree j oj hoj hji hjun hnot) (fun cs b=>hsel i oi cs b hi) (fun cs b=>hsel j oj cs b hoj) hQ hy h1
   have hfree' : ∀ k ok,ops[k]? = some ok→k≠i→(listed.setIfInBounds j true).getD k true=false→
     (∀ e ∈ ok.after,Region.binds md e=true→e.on≠i)→oi.apart ops ok=true:=fun k ok hk hki hun hno=>by
    refine hfree k ok hk hki ?_ hno
    by_cases hjk:j=k
    ·subst hjk;exact hjun
    ·rw [getD_set_ne true hjk] at hun;exact hun
   have hji2:(listed.setIfInBounds i true).setIfInBounds j true=(listed.setIfInBounds j true).setIfInBounds i true:=Array.setIfInBounds_comm _ _ (Ne.symm hji)
   -- number j0 is not j where it waits for i
   have hj0:m=true→j≠j0:=fun h e=>by
    have hw:waitsB md ops j0 i=true:=by
     rcases hS' with hA|hB
     ·exact hA.2.2
     ·rw [hB.1] at h;cases h
    obtain ⟨o,ho,ed,hed,hb,hon⟩:=hw0 hw
    rw [← e,hoj] at ho
    exact hnot ed (Option.some.inj ho▸hed) hb hon
   refine wpOp_mono (fun a' w' h3=>?_) h2
   obtain ⟨hy3,hS3,hW3⟩:=h3
   rw [hji2] at hS3 hW3
   have hJ' : m=true→(listed.setIfInBounds j true).getD j0 true=false:=fun h=>by rw [getD_set_ne true (hj0 h)];exact hJ h
   have hback:(listed.setIfInBounds j true).getD j0 true=false→i≠j0→((listed.setIfInBounds j true).setIfInBounds i true).getD j0 true=false:=fun h hne=>by rw [getD_set_ne true hne];exact h
   have hSj:(listed.setIfInBounds j true).getD j0 true=false→S w':=fun h=>hS3 (hback h hne)
   have hS'w:S' w':=by
    rcases hS' with hA|hB
    ·rw [hA.2.1];exact hSj (hJ' hA.1)
    ·exact hB.2 w'
   exact ⟨hSj,ih (listed.setIfInBounds j true) a' w' hfree' (ready_mono hr (Ne.symm hji)) hy3 hS'w hSj hJ' hW3⟩
theorem j_all {i:Nat} {fuel:Nat} {listed:Array Bool} {a:Act} {w:World} (hr:Region.ready md ops listed=[i])
  (h:wpOp P ops Q i (fun a' w'=>((listed.setIfInBounds i true).getD j0 true=false→S w')∧wpAnyJ P md ops Q S j0 fuel (listed.setIfInBounds i true) a' w') a w):wpAnyJ P md ops Q S j0 (fuel + 1) listed a w:=
 ⟨(fun h0=>by rw [hr] at h0;cases h0),(fun j hj=>by rw [hr,List.mem_singleton] at hj;subst hj;exact h)⟩
def wpSteps3 (P:Program) (ops:Array Oper) (S:World→Prop) (Q:Exit→Act→World→Prop):List (Nat × Nat)→Act→World→Prop
 | [],a,w=>Q .normal a w
 |(b,i) :: r,a,w=>match ops.toList[i]? with
  | none=>False
  | some o=>match b with
   | 0=>wpQuiet P ops S (fun a'=>wpSteps3 P ops S Q r a' w) [o] a
   | 1=>wpQuiet P ops (fun _=>True) (fun a'=>wpSteps3 P ops S Q r a' w) [o] a
   | 2=>wpList P ops (thenQ S (wpSteps3 P ops S Q r) Q) [o] a w
   | _=>wpList P ops (thenQ (fun _=>True) (wpSteps3 P ops S Q r) Q) [o] a w
def stepsB3 (md:Region.Mode) (ops:Array Oper) (j0:Nat):List (Nat × Nat)→Array Bool→Bool
 | [],listed=>(Region.ready md ops listed).isEmpty
 |(b,i) :: r,listed=>(match ops.toList[i]? with
  | none=>false
  | some o=>match b with
   | 0=>pureOp2 o.op && Region.free md ops listed i && (Region.ready md ops listed).contains i && waitsB md ops j0 i && (listed.getD j0 true == false) && (i != j0)
   | 1=>pureOp2 o.op && Region.free md ops listed i && (Region.ready md ops listed).contains i && (i != j0)
   | 2=>Region.ready md ops listed == [i]
   | _=>Region.ready md ops listed == [i] && (i == j0 || (listed.getD j0 true == true))) && stepsB3 md ops j0 r (listed.setIfInBounds i true)
theorem yields_of {o:Oper} {a:Act} {S' : World→Prop} {N:Act→Prop} (hp:pureOp2 o.op=true) (h1:wpQuiet P ops S' N [o] a):∃ v,YieldsIf P ops S' o v a∧N (a.put o.dst v):=by
 unfold wpQuiet at h1
 split at h1
 ·rename_i hw
  obtain ⟨v,h2,h3⟩:=h1
  refine ⟨v,Or.inl ⟨hw,fun w1 hw1=>?_⟩,h3⟩
  have h4:=h2 w1 hw1
  unfold Oper.quietAt at h4
  generalize hR:(execOp a.eval o).run P w1=R at h4
  cases R with
  | ok n w2=>
   obtain ⟨u,rfl⟩:=pure_value2 hp hR
   obtain ⟨e1,e2⟩:=(h4:w2=w1∧u=v)
   rw [e1,e2]
  | halt x w2=>exact h4.elim
 ·rename_i hw
  exact ⟨undef,Or.inr ⟨by simpa using hw,rfl⟩,h1⟩
theorem alone3 {i:Nat} {o:Oper} {N K:Act→World→Prop} {S' : World→Prop} {a:Act} {w:World} (ho' : ops[i]? = some o) (hK:∀ a' w',S' w'∧N a' w'→K a' w') (h1:wpList P ops (thenQ S' N Q) [o] a w):wpOp P ops Q i K a w:=by
 refine wpOp_mono (K:=fun a' w'=>S' w'∧N a' w') hK ?_
 unfold wpList at h1
 unfold wpOp
 rw [ho']
 show if Region.wanted o (yielded ops a.tmps) then _ else _
 split
 ·rename_i hw
  rw [if_pos hw] at h1
  rcases h1 with h1 | ⟨h1,h2⟩
  ·refine Or.inl ?_
   unfold Oper.wp at h1 ⊢
   generalize (execOp a.eval o).run P w=R at h1 ⊢
   cases R with
   | ok n w2=>cases n <;> exact h1
   | halt x w2=>cases x <;> exact h1
  ·exact Or.inr ⟨h1,h2⟩
 ·rename_i hw
  rw [if_neg hw] at h1
  exact h1
theorem steps_ok3 (hsel:Region.noSelect ops=true) (hQ:∀ c a (t:Tmp) v w,Q (.panic c) (Act.put a (some t) v) w→Q (.panic c) a w):∀ (l:List (Nat × Nat)) (listed:Array Bool) (a:Act) (w:World),stepsB3 md ops j0 l listed=true→(listed.getD j0 true=false→S w)→wpSteps3 P ops S Q l a w→wpAnyJ P md ops Q S j0 l.length listed a w
 | [],listed,a,w,hB,hS,h=>⟨by simpa [stepsB3] using hB,h⟩
 |(b,i) :: r,listed,a,w,hB,hS,h=>by
  have hset:∀ (k:Nat),k≠j0→(listed.setIfInBounds k true).getD j0 true=listed.getD j0 true:=fun k hk=>getD_set_ne true hk
  unfold stepsB3 at hB
  unfold wpSteps3 at h
  cases ho:ops.toList[i]? with
  | none=>rw [ho] at h;exact h.elim
  | some o=>
   rw [ho] at h hB
   have ho' : ops[i]? = some o:=by rw [← ho];simp
   simp only [Bool.and_eq_true] at hB
   obtain ⟨hB1,hB2⟩:=hB
   match b,h,hB1 with
   | 0,h,hB1=>
    simp only [Bool.and_eq_true,beq_iff_eq,bne_iff_ne] at hB1
    obtain ⟨⟨⟨⟨⟨hp,hf⟩,hr⟩,hw⟩,hj⟩,hne⟩:=hB1
    obtain ⟨v,hy,hN⟩:=yields_of hp h
    exact j_first ho' (Region.noSelect_spec hsel) (fun c a w h=>put_any hQ c a _ _ w h) hne true (Or.inl ⟨rfl,rfl,hw⟩) _ listed a w (Region.free_spec ho' hf) (by simpa using hr) hy (hS hj) hS (fun _=>hj)
     (steps_ok3 hsel hQ r _ _ w hB2 (fun h=>hS (by rwa [hset i hne] at h)) hN)
   | 1,h,hB1=>
    simp only [Bool.and_eq_true,bne_iff_ne] at hB1
    obtain ⟨⟨⟨hp,hf⟩,hr⟩,hne⟩:=hB1
    obtain ⟨v,hy,hN⟩:=yields_of hp h
    exact j_first ho' (Region.noSelect_spec hsel) (fun c a w h=>put_any hQ c a _ _ w h) hne false (Or.inr ⟨rfl,fun _=>trivial⟩) _ listed a w (Region.free_spec ho' hf) (by simpa using hr) hy trivial hS (fun h=>by cases h)
     (steps_ok3 hsel hQ r _ _ w hB2 (fun h=>hS (by rwa [hset i hne] at h)) hN)
   | 2,h,hB1=>
    have hr:Region.ready md ops listed=[i]:=by simpa using hB1
    exact j_all hr (alone3 ho' (fun a' w' hh=>⟨fun _=>hh.1,steps_ok3 hsel hQ r _ a' w' hB2 (fun _=>hh.1) hh.2⟩) h)
   | k + 3,h,hB1=>
    simp only [Bool.and_eq_true,Bool.or_eq_true,beq_iff_eq] at hB1
    obtain ⟨hr,hj⟩:=hB1
    have hoff:∀ {p:Prop},(listed.setIfInBounds i true).getD j0 true=false→p:=fun {p} h=>by
     exfalso
     rcases hj with rfl|hj
     ·rcases Nat.lt_or_ge i listed.size with h' | h'
      ·simp [h'] at h
      ·rw [Array.setIfInBounds_eq_of_size_le h'] at h
       simp [Array.getElem?_eq_none h'] at h
     ·by_cases hk:i=j0
      ·subst hk
       rcases Nat.lt_or_ge i listed.size with h' | h'
       ·simp [h'] at h
       ·rw [Array.setIfInBounds_eq_of_size_le h',hj] at h;cases h
      ·rw [hset i hk,hj] at h;cases h
    exact j_all hr (alone3 ho' (fun a' w' hh=>⟨fun h=>hoff h,steps_ok3 hsel hQ r _ a' w' hB2 (fun h=>hoff h) hh.2⟩) h)
theorem wp_region_steps3 {id:Nat} {l:List Oper} {a:Act} {W:World} (j0:Nat) (S:World→Prop) (steps:List (Nat × Nat)) (hm:P.follows .mixedOrders=true) (hsel:Region.noSelect l.toArray=true) (hn:steps.length=l.length) (hB:stepsB3 .any l.toArray j0 steps (Array.replicate l.length false)=true)
  (hQ:∀ c a (t:Tmp) v w,Q (.panic c) (Act.put a (some t) v) w→Q (.panic c) a w) (hS:S { W with drawn:=W.drawn + 1})
  (h:wpSteps3 P l.toArray S Q steps a { W with drawn:=W.drawn + 1}):(Code.region id l.toArray true).wp P Q a W:=by
 refine wp_region_any hm (wpAny_of_j (S:=S) (j0:=j0) _ _ _ _ ?_)
 have hs:(l.toArray).size=steps.length:=by rw [hn];simp
 rw [hs,hn]
 have:=steps_ok3 (md:=.any) (j0:=j0) hsel hQ steps (Array.replicate l.length false) a _ hB (fun _=>hS) h
 rw [hn] at this
 exact this
theorem wp_region_mem3 {id:Nat} {l:List Oper} {a:Act} {w0 W:World} {L:List Res} (j0:Nat) (steps:List (Nat × Nat)) (hm:P.follows .mixedOrders=true) (hsel:Region.noSelect l.toArray=true) (hn:steps.length=l.length) (hB:stepsB3 .any l.toArray j0 steps (Array.replicate l.length false)=true)
  (hQ:∀ c a (t:Tmp) v w,Q (.panic c) (Act.put a (some t) v) w→Q (.panic c) a w) (HM:Mem w0 W L) (L0:List Res) (hL:L0.Sublist L)
  (h:Nonempty (MemW w0 L0)→∀ W',Mem w0 W' L→wpSteps3 P l.toArray (fun V=>∃ p:MemW w0 L0,V=p.W) Q steps a W'):(Code.region id l.toArray true).wp P Q a W:=by
 have hM:=HM.next (W':={ W with drawn:=W.drawn + 1}) (RowKit.Below.refl _ W).drew
 exact wp_region_steps3 j0 _ steps hm hsel hn hB hQ ⟨⟨_,hM.sub hL⟩,rfl⟩ (h ⟨⟨_,hM.sub hL⟩⟩ _ hM)
end
section
variable {P:Program} {ops:Array Oper} {Q:Exit→Act→World→Prop} {a:Act} {W W' w0:World} {rest:List Oper} {L:List Res}
variable {dst:Option Tmp} {ty0:TypeId} {pos:String} {after:Array Edge} {gd:Option (Nat × Bool)}
theorem slx {t e:TypeId} {k bytes:Nat} {z:Value} [hR:RowT P t e k bytes z] {x hi:Operand} {p:Option Addr} {cap n m:Nat} {d:Int} (hx:a.eval x = .slice p n cap) (hh:a.eval hi = .int .i64 d) (hd:d=(m:Int)) (hm:m≤cap)
  (h:wpList P ops Q (⟨dst,.move (.const (.slice p m cap)),ty0,pos,after,gd⟩ :: rest) a W):wpList P ops Q (⟨dst,.slice t x none (some hi) none,ty0,pos,after,gd⟩ :: rest) a W:=by
 subst hd
 refine as_move (o:=⟨dst,.slice t x none (some hi) none,ty0,pos,after,gd⟩) ?_ h
 simp only [execOp,Option.map_none,Option.map_some,hx,hh,Sem.run_bind,run_slice_to (P:=P) (W:=W) hR p n cap m hm,Result.andThen_ok]
 rfl
end
theorem Res.holds.mono2 {B B' : Nat} {W:World} {r:Res} (h:r.holds B' W) (hb:B≤B'):r.holds B W:=by
 cases r with
 | box g t cs=>exact ⟨Nat.le_trans hb h.1,h.2⟩
 | map g es ck=>exact ⟨Nat.le_trans hb h.1,h.2⟩
 | row p cap e k n cs=>
  obtain ⟨hl,h0 | ⟨g,cap',cur,hv,hg,hr⟩⟩:=(h:W.ownsRow _ _ _ _ _ _)
  ·exact ⟨hl,Or.inl h0⟩
  ·exact ⟨hl,Or.inr ⟨g,cap',cur,hv,Nat.le_trans hb hg,hr⟩⟩
theorem Mem.comp2 {w0 W W' : World} {L0 L:List Res} (h0:Mem w0 W L0) (h:Mem W W' L):Mem w0 W' (L++L0):=by
 have h1:=h0.next h.below
 refine ⟨h1.below,fun r hr=>?_,List.pairwise_append.2 ⟨h.apart,h1.apart,fun r hr s hs g hg hg'=>?_⟩⟩
 ·rcases List.mem_append.1 hr with hr|hr
  ·exact (h.holds r hr).mono2 h0.below.size
  ·exact h1.holds r hr
 ·have a1:=((h.holds r hr).lt hg).1
  have a2:=((h0.holds s hs).lt hg').2
  omega
theorem row_sl {B:Nat} {W:World} {p:Option Addr} {cap k n:Nat} {e:TypeId} {cs:List Value} (h:(Res.row p cap e k n cs).holds B W):Sl W p cs:=by
 cases p with
 | none=>
  refine ⟨fun _=>?_,fun a e=>by cases e⟩
  obtain ⟨hl,⟨h0,hn⟩ | ⟨g,cap',cur,hv,_⟩⟩:=(h:W.ownsRow _ _ _ _ _ _)
  ·rw [hn,Nat.zero_mul] at hl;exact List.eq_nil_of_length_eq_zero hl
  ·cases hv
 | some a=>
  refine ⟨fun e=>(by cases e),fun a' e=>?_⟩
  cases Option.some.inj e
  obtain ⟨h1,h2,h3⟩:=row_cells h 0
  have h4:a=⟨a.block,0,none⟩:=by cases a;cases h1;cases h2;rfl
  rw [h4]
  exact h3
theorem Mem.trunc {w0 W:World} {L:List Res} (h:Mem w0 W L) {k:Nat} {p:Option Addr} {cap j n m:Nat} {e:TypeId} {cs:List Value} (hk:L[k]? = some (.row p cap e j n cs)) (hm:m≤n):Mem w0 W (L.set k (.row p cap e j m (cs.take (m * j)))):=h.turn0 hk (row_trunc (h.get hk) hm) (fun g e=>e)
theorem row_cell {B:Nat} {W:World} {b:Addr} {cap k n i:Nat} {e:TypeId} {cs:List Value} {v:Value} (h:(Res.row (some b) cap e k n cs).holds B W) (hi:cs[i]? = some v):W.cell? (b.add i)=some v:=by
 obtain ⟨h1,h2,h3⟩:=row_cells h 0
 have e:(⟨b.block,0,none⟩:Addr)=b:=by rcases b with ⟨b,o,s⟩;simp at h1 h2;subst h1 h2;rfl
 rw [e] at h3
 exact h3 i v (by simpa using hi)
section
variable {P:Program} {ops:Array Oper} {Q:Exit→Act→World→Prop} {a:Act} {W W' w0:World} {rest:List Oper} {L:List Res} {C:World→Prop} {K:Act→Prop}
variable {dst:Option Tmp} {ty0:TypeId} {pos:String} {after:Array Edge} {gd:Option (Nat × Bool)}
theorem run_tcat {t:TypeId} {x y:Operand} {s u:List UInt8} (hn:s.length + u.length≤9223372036854775807) :
  (do pure (Next.value (← (do eqGuard .add t x y (.string ⟨s.toArray⟩) (.string ⟨u.toArray⟩);binOp .add t (.string ⟨s.toArray⟩) (.string ⟨u.toArray⟩)))):Sem Next).run P W = .ok (.value (.string ⟨(s++u).toArray⟩)) W:=by
 have h:=run_string_add_sum (P:=P) W ⟨s.toArray⟩ ⟨u.toArray⟩ (by simpa [ByteArray.size] using hn)
 rw [ByteArray.mk_append_mk] at h
 simp [eqGuard,binOp,h]
theorem tcat {t t' : TypeId} {x y:Operand} {s u:List UInt8} (hx:a.eval x = .string ⟨s.toArray⟩) (hy:a.eval y = .string ⟨u.toArray⟩) (hn:s.length + u.length≤9223372036854775807)
  (h:wpList P ops Q (⟨dst,.move (.const (.string ⟨(s++u).toArray⟩)),ty0,pos,after,gd⟩ :: rest) a W):wpList P ops Q (⟨dst,.binOp .add t x y t',ty0,pos,after,gd⟩ :: rest) a W:=by
 refine as_move (o:=⟨dst,.binOp .add t x y t',ty0,pos,after,gd⟩) (v:=.string ⟨(s++u).toArray⟩) ?_ h
 show (do pure (.value (← (do eqGuard .add t x y (a.eval x) (a.eval y);binOp .add t (a.eval x) (a.eval y)))):Sem Next).run P W=_
 rw [hx,hy]
 exact run_tcat hn
theorem qtcat {t t' : TypeId} {x y:Operand} {s u:List UInt8} (hx:a.eval x = .string ⟨s.toArray⟩) (hy:a.eval y = .string ⟨u.toArray⟩) (hn:s.length + u.length≤9223372036854775807)
  (h:wpQuiet P ops C K (⟨dst,.move (.const (.string ⟨(s++u).toArray⟩)),ty0,pos,after,gd⟩ :: rest) a):wpQuiet P ops C K (⟨dst,.binOp .add t x y t',ty0,pos,after,gd⟩ :: rest) a:=by
 refine as_moveQ (o:=⟨dst,.binOp .add t x y t',ty0,pos,after,gd⟩) (v:=.string ⟨(s++u).toArray⟩) (fun V _=>quiet_value ?_) h
 show (do pure (.value (← (do eqGuard .add t x y (a.eval x) (a.eval y);binOp .add t (a.eval x) (a.eval y)))):Sem Next).run P V=_
 rw [hx,hy]
 exact run_tcat hn
theorem ex_take (l:List UInt8) (j:Nat):(ByteArray.mk l.toArray).extract 0 j=⟨(l.take j).toArray⟩:=by rw [ByteArray.extract_mk];rfl
theorem ex_drop (l:List UInt8) (j:Nat):(ByteArray.mk l.toArray).extract j (ByteArray.mk l.toArray).size=⟨(l.drop j).toArray⟩:=by
 rw [ByteArray.extract_mk,List.take_of_length_le (by simp [ByteArray.size])]
theorem tto {t:TypeId} [hT:StrT P t] {x hi:Operand} {s:List UInt8} {e:Int} {j:Nat} (hx:a.eval x = .string ⟨s.toArray⟩) (hhi:a.eval hi = .int .i64 e) (he:e=(j:Int)) (hj:j≤s.length)
  (h:wpList P ops Q (⟨dst,.move (.const (.string ⟨(s.take j).toArray⟩)),ty0,pos,after,gd⟩ :: rest) a W):wpList P ops Q (⟨dst,.slice t x none (some hi) none,ty0,pos,after,gd⟩ :: rest) a W:=
 sslh hx hhi he (by simpa [ByteArray.size] using hj) (by rw [ex_take];exact h)
theorem tfrom {t:TypeId} [hT:StrT P t] {x lo:Operand} {s:List UInt8} {d:Int} {i:Nat} (hx:a.eval x = .string ⟨s.toArray⟩) (hlo:a.eval lo = .int .i64 d) (hd:d=(i:Int)) (hi:i≤s.length)
  (h:wpList P ops Q (⟨dst,.move (.const (.string ⟨(s.drop i).toArray⟩)),ty0,pos,after,gd⟩ :: rest) a W):wpList P ops Q (⟨dst,.slice t x (some lo) none none,ty0,pos,after,gd⟩ :: rest) a W:=
 sslf hx hlo hd (by simpa [ByteArray.size] using hi) (by rw [ex_drop];exact h)
theorem qtto {t:TypeId} [hT:StrT P t] {x hi:Operand} {s:List UInt8} {e:Int} {j:Nat} (hx:a.eval x = .string ⟨s.toArray⟩) (hhi:a.eval hi = .int .i64 e) (he:e=(j:Int)) (hj:j≤s.length)
  (h:wpQuiet P ops C K (⟨dst,.move (.const (.string ⟨(s.take j).toArray⟩)),ty0,pos,after,gd⟩ :: rest) a):wpQuiet P ops C K (⟨dst,.slice t x none (some hi) none,ty0,pos,after,gd⟩ :: rest) a:=
 qsslh hx hhi he (by simpa [ByteArray.size] using hj) (by rw [ex_take];exact h)
theorem qtfrom {t:TypeId} [hT:StrT P t] {x lo:Operand} {s:List UInt8} {d:Int} {i:Nat} (hx:a.eval x = .string ⟨s.toArray⟩) (hlo:a.eval lo = .int .i64 d) (hd:d=(i:Int)) (hi:i≤s.length)
  (h:wpQuiet P ops C K (⟨dst,.move (.const (.string ⟨(s.drop i).toArray⟩)),ty0,pos,after,gd⟩ :: rest) a):wpQuiet P ops C K (⟨dst,.slice t x (some lo) none none,ty0,pos,after,gd⟩ :: rest) a:=
 qsslf hx hlo hd (by simpa [ByteArray.size] using hi) (by rw [ex_drop];exact h)
end
end Go.Proofs.YtnghlakllgkjlaaGreatDoor
