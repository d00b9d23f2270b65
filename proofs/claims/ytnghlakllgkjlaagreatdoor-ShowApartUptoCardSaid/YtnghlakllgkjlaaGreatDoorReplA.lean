/- The walk over strings.NewReplacer: the pairs are copied into a row of the call's own. The walk over (*strings.Replacer).build, where all old strings are single bytes and some new one is none. The walks over sync.Once as a Replacer uses it, its first time: the lock is taken, the build is made, 'done' is stored, the lock is let go. What a byteStringReplacer's Replace answers, over lists of bytes: no program in sight. The walk over (*strings.byteStringReplacer).Replace: short texts, which are gone through byte by byte. The walk over tarifflaw04's fixed fact: an escape, names, a text, a keyword. What the rows' list gives the walks: the decoder's two tables. The walk over (*strings.byteStringReplacer).Replace: long texts, whose keys are counted one by one. Quotes over lists of bytes: what Quote lays, what Unquote reads, and that it reads what was laid. No program in sight. The walks over Quote, of the package and of the reference. -/
import Derived.Test.YtnghlakllgkjlaaGreatDoorProg
import Derived.WalkKit
import Derived.WalkSpells
import Derived.WalkLawsBesides
import Derived.Lib.Hide
import Derived.Laws.Tables
import Derived.Deep.WholeRow
import Derived.Laws.BytesArg
import Derived.Lib.ConvBytes
import Derived.Lib.AtoiErrMem
import Derived.Lib.LazyBuf
import Derived.WalkSmall
import Derived.Defers
import Derived.Laws.Pointers
import Derived.Laws.LoneSync
import Derived.RegionTactic
import Derived.RegionCalls
import Derived.ChangeAlike
import Derived.Laws.CopyOwn
import Derived.Deep.RegionLaw
import Derived.Lib.Strings
import Derived.Test.YtnghlakllgkjlaaGreatDoorCharsA
import Derived.Test.YtnghlakllgkjlaaGreatDoorRows
import Derived.Lib.LaidU8T
import Derived.Test.YtnghlakllgkjlaaGreatDoorSepA
import Derived.Test.YtnghlakllgkjlaaGreatDoorShelf
import Derived.Lib.Bytealg
import Derived.BigQuiet
import Derived.Deep.QuietTactic
import Derived.IntWalk
namespace Go.Proofs.YtnghlakllgkjlaaGreatDoor
open Go.RowKit
set_option linter.unusedVariables false
theorem r_info:(Tryz.prog.info? 9).map (fun i=>(i.zero,i.size,i.bytes))=some (some (.string ⟨#[]⟩),1,16):=by kernel_rfl
def IsNew (w0 w:World) (b:Nat) (strs:List Value):Prop:=
 w0.heap.size≤b∧∃ v,w.heap[b]? = some (.cells #[.int .u32 0,.int .i32 0,.int .u32 0,.nilIface,v] 208 (0,0))∧w.ownsRow w0.heap.size 9 1 v strs.length strs
theorem own_shape {w:World} {B:Nat} {E:TypeId} {k:Nat} {v:Value} {n:Nat} {xs:List Value} (h:w.ownsRow B E k v n xs) (hn:0 < n):∃ g cap,v = .slice (some ⟨g,0,none⟩) n cap:=by
 obtain ⟨_,⟨_,h0⟩ | ⟨g,cap,cur,hv,_⟩⟩:=h
 ·omega
 ·exact ⟨g,cap,hv⟩
set_option maxRecDepth 100000 in
set_option maxHeartbeats 1000000 in
theorem new_any (bo:Nat) (n:Nat) (strs:List Value) (w:World) (hn:n=strs.length) (h2:((n:Int) % 2 == 1)=false) (h9:n≤1000) (hp:0 < n)
  (hc:∀ j u,strs[j]? = some u→w.cell? ((⟨bo,0,none⟩:Addr).add j)=some u) (h1:∀ u ∈ strs,u.oneCell' = true) :
  Calls Tryz.prog 106 #[.slice (some ⟨bo,0,none⟩) n n] w fun e w'=>∃ b,e = .returned (.pointer (some ⟨b,0,none⟩))∧IsNew w w' b strs∧Below w.heap.size w w':=by
 obtain ⟨i0,hi,hz0,hz1,hz2⟩:=info_parts r_info
 have hown:w.ownsRow w.heap.size 9 1 (.slice none 0 0) 0 []:=⟨rfl,Or.inl ⟨rfl,rfl⟩⟩
 have Hc:=Lib.hid hc
 have K1:=Lib.hid (show strs.length=n * 1 by omega)
 have Hn:=Lib.hid hn
 have K3:=Lib.hid (show 0 + n≤maxLen by unfold maxLen;omega)
 have K4:=Lib.hid (show (0 + n) * 16≤140737488355328 by omega)
 clear hc hn
 go_enter Tryz.func106,Tryz.ntmps106
 go_wp2_with (at_builtin;refine wpList_append_own _ rfl _ _ 28 rfl w.heap.size 9 i0 (.string ⟨#[]⟩) 1 16 Tryz.underlying28 hi hz0 hz1 hz2 rfl (by decide) _ 0 [] rfl hown ⟨bo,0,none⟩ n n strs rfl K1.out Hc.out h1 K3.out K4.out (Nat.le_refl _) ?_;intro v' w1 hown1 hgrow hnil;clear hnil;rw [Nat.zero_add,List.nil_append] at hown1;obtain ⟨g,cap,hv⟩:=own_shape hown1 hp;rw [hv] at hown1 ⊢;clear hv)
 go_ret
 have hg:Below w.heap.size w w1:=(Below.refl _ w).grown (row:=none) hgrow (Nat.le_refl _) (fun _ h=>by cases h)
 refine ⟨w1.heap.size,rfl,⟨hg.size,_,(MapKept.heap_alloc _ _).1,?_⟩,hg.alloc hg.size _⟩
 rw [← Hn.out]
 exact hown1.alloc _
def pairL:List (UInt8 × List UInt8)→List Value
 | []=>[]
 |(o,nw) :: r=>.string ⟨[o].toArray⟩ :: .string ⟨nw.toArray⟩ :: pairL r
theorem pairL_old:∀ (l:List (UInt8 × List UInt8)) (j:Nat) (x:UInt8 × List UInt8),l[j]? = some x→(pairL l)[2 * j]? = some (.string ⟨[x.1].toArray⟩)
 | [],j,x,h=>by simp at h
 |(o,nw) :: r,0,x,h=>by simp at h;subst h;rfl
 |(o,nw) :: r,j + 1,x,h=>by
  have:=pairL_old r j x (by simpa using h)
  rw [show 2 * (j + 1)=2 * j + 1 + 1 by omega]
  simpa [pairL] using this
theorem pairL_new:∀ (l:List (UInt8 × List UInt8)) (j:Nat) (x:UInt8 × List UInt8),l[j]? = some x→(pairL l)[2 * j + 1]? = some (.string ⟨x.2.toArray⟩)
 | [],j,x,h=>by simp at h
 |(o,nw) :: r,0,x,h=>by simp at h;subst h;rfl
 |(o,nw) :: r,j + 1,x,h=>by
  have:=pairL_new r j x (by simpa using h)
  rw [show 2 * (j + 1) + 1=2 * j + 1 + 1 + 1 by omega]
  simpa [pairL] using this
def oneB (l:List (UInt8 × List UInt8)):Bool:=l.all fun x=>decide (x.2.length=1)
theorem oneB_take {l:List (UInt8 × List UInt8)} {j:Nat} {x:UInt8 × List UInt8} (h:l[j]? = some x):oneB (l.take (j + 1))=(oneB (l.take j) && decide (x.2.length=1)):=by
 unfold oneB
 rw [List.take_add_one,h]
 simp
theorem zero_all:Tryz.zeroCells284.toList=List.replicate 257 (.slice none 0 0):=by kernel_rfl
theorem zero_size:Tryz.zeroCells284.size=257:=by kernel_rfl
theorem size_bsr:(Tryz.prog.info? 284).map (·.size)=some 257:=by kernel_rfl
noncomputable def table0 (v:Value):Array Value:=(Tryz.zeroCells284.toList.set 256 v).toArray
theorem table0_size (v:Value):(table0 v).size=257:=by unfold table0;rw [List.size_toArray,List.length_set,zero_all,List.length_replicate]
theorem table0_at (v:Value) {c:Nat} (h:c < 256):(table0 v)[c]? = some (.slice none 0 0):=by
 unfold table0
 rw [zero_all]
 simp only [List.getElem?_toArray]
 rw [List.getElem?_set_ne (by omega),List.getElem?_replicate,if_pos (by omega)]
theorem table0_last (v:Value):(table0 v)[256]? = some v:=by
 unfold table0
 rw [zero_all]
 simp only [List.getElem?_toArray]
 rw [List.getElem?_set_self (by rw [List.length_replicate];omega)]
theorem store_first (w1:World) (G k:Nat):(storeCells ⟨w1.heap.size,0,none⟩ (Tryz.zeroCells284.toList.set 256 (.slice (some ⟨G,0,none⟩) 0 k))).run Tryz.prog (w1.alloc (.cells Tryz.zeroCells284 284)) = .ok () (w1.alloc (.cells (table0 (.slice (some ⟨G,0,none⟩) 0 k)) 284)):=by
 have h:=run_storeCells_new (P:=Tryz.prog) w1 284 Tryz.zeroCells284 (table0 (.slice (some ⟨G,0,none⟩) 0 k)) (by rw [table0_size];exact size_bsr) (by rw [table0_size,zero_size]) (by
  rw [Array.all_eq_true_iff_forall_mem]
  intro x hx
  unfold table0 at hx
  rw [zero_all] at hx
  simp only [List.mem_toArray] at hx
  rcases List.mem_or_eq_of_mem_set hx with hx|rfl
  ·rw [List.eq_of_mem_replicate hx];rfl
  ·rfl)
 exact h
def TabOk (w:World) (B R G:Nat) (T:Array Value) (p:List (UInt8 × List UInt8)):Prop:=
 ∀ c:Nat,c < 256→
  (p.find? (fun x=>x.1.toNat == c)=none∧T[c]? = some (.slice none 0 0))∨
  (∃ x g cap,p.find? (fun x=>x.1.toNat == c)=some x∧T[c]? = some (.slice (some ⟨g,0,none⟩) x.2.length cap)∧g≠R∧g≠G∧B≤g∧g < w.heap.size∧∀ i u,x.2[i]? = some u→w.cell? ⟨g,i,none⟩=some (.int .u8 u.toNat))
def oldL (p:List (UInt8 × List UInt8)):List Value:=p.reverse.map fun x=>.string ⟨[x.1].toArray⟩
def BState (w0 wr:World) (R G:Nat) (l:List (UInt8 × List UInt8)) (m:Nat):Prop:=
 ∃ T,wr.heap[R]? = some (.cells T 284 (0,0))∧T.size=257∧T[256]? = some (.slice (some ⟨G,0,none⟩) (l.length - m) l.length)∧TabOk wr w0.heap.size R G T (l.drop m)∧
  wr.ownsRow w0.heap.size 9 1 (.slice (some ⟨G,0,none⟩) (l.length - m) l.length) (l.length - m) (oldL (l.drop m))∧Below w0.heap.size w0 wr∧G≠R∧w0.heap.size≤R∧w0.heap.size≤G
theorem conv_one (w:World) (t:TypeId) (o:UInt8):(convert 53 9 (.slice (some ⟨w.heap.size,0,none⟩) 1 1)).run Tryz.prog (w.alloc (.cells #[.int .u8 o.toNat] t)) = .ok (.string ⟨[o].toArray⟩) (w.alloc (.cells #[.int .u8 o.toNat] t)):=by
 have h:=run_convert_bytes_arg (P:=Tryz.prog) (w.alloc (.cells #[.int .u8 o.toNat] t)) 53 5 Tryz.underlying53 Tryz.underlying5 w.heap.size 0 1 1 [(o.toNat:Int)] rfl (fun i hi=>by
  obtain rfl:i=0:=by omega
  simp) 9 Tryz.underlying9
 rw [h]
 simp [strOfNums]
theorem find_drop {l:List (UInt8 × List UInt8)} {j:Nat} {x:UInt8 × List UInt8} (h:l[j]? = some x) (c:Nat):(l.drop j).find? (fun x=>x.1.toNat == c)=if x.1.toNat == c then some x else (l.drop (j + 1)).find? (fun x=>x.1.toNat == c):=by
 obtain ⟨hlt,rfl⟩:=List.getElem?_eq_some_iff.1 h
 rw [List.drop_eq_getElem_cons hlt,List.find?_cons]
 cases hq:((l[j]).1.toNat == c) <;> simp
def keysOk (l:List (UInt8 × List UInt8)):Prop:=∀ (i j:Nat) (x y:UInt8 × List UInt8),i < j→l[i]? = some x→l[j]? = some y→x.1≠y.1
theorem find_none {l:List (UInt8 × List UInt8)} {j:Nat} {x:UInt8 × List UInt8} (h:l[j]? = some x) (hk:keysOk l):(l.drop (j + 1)).find? (fun y=>y.1.toNat == x.1.toNat)=none:=by
 rw [List.find?_eq_none]
 intro y hy
 obtain ⟨i,hi⟩:=List.getElem?_of_mem hy
 rw [List.getElem?_drop] at hi
 have:=hk j (j + 1 + i) x y (by omega) h hi
 simp only [beq_iff_eq]
 intro e
 exact this (UInt8.toNat_inj.1 e).symm
theorem own_block {w:World} {B:Nat} {E:TypeId} {k G c:Nat} {n:Nat} {xs:List Value} (h:w.ownsRow B E k (.slice (some ⟨G,0,none⟩) n c) n xs):B≤G∧G < w.heap.size:=by
 obtain ⟨_,⟨h0,_⟩ | ⟨g,cap,cur,hv,hb,hh,_⟩⟩:=h
 ·cases h0
 ·simp only [Value.slice.injEq,Option.some.injEq,Addr.mk.injEq,and_true] at hv
  obtain ⟨rfl,_⟩:=hv
  refine ⟨hb,?_⟩
  by_cases hlt:G < w.heap.size
  ·exact hlt
  ·rw [Array.getElem?_eq_none (by omega)] at hh
   cases hh
theorem start_state {w w1:World} {l:List (UInt8 × List UInt8)} (hown:w1.ownsRow w.heap.size 9 1 (.slice (some ⟨w.heap.size,0,none⟩) 0 l.length) 0 []) (hgrow:w.grownBy w1 none) :
  BState w (w1.alloc (.cells (table0 (.slice (some ⟨w.heap.size,0,none⟩) 0 l.length)) 284)) w1.heap.size w.heap.size l l.length:=by
 obtain ⟨_,hG⟩:=own_block hown
 have hb:Below w.heap.size w w1:=(Below.refl _ w).grown hgrow (Nat.le_refl _) (fun _ h=>by cases h)
 refine ⟨_,(MapKept.heap_alloc _ _).1,table0_size _,?_,?_,?_,hb.alloc hb.size _,by omega,hb.size,Nat.le_refl _⟩
 ·rw [table0_last,Nat.sub_self]
 ·intro c hc
  left
  rw [List.drop_length]
  exact ⟨rfl,table0_at _ hc⟩
 ·rw [List.drop_length,Nat.sub_self]
  exact hown.alloc _
theorem own_of_heap {w w' : World} {B:Nat} {E:TypeId} {k G c:Nat} {n:Nat} {xs:List Value} (h:w.ownsRow B E k (.slice (some ⟨G,0,none⟩) n c) n xs) (e:w'.heap[G]? = w.heap[G]?):w'.ownsRow B E k (.slice (some ⟨G,0,none⟩) n c) n xs:=by
 obtain ⟨h0,⟨h1,_⟩ | ⟨g,cap,cur,hv,hb,hh,hr⟩⟩:=h
 ·cases h1
 ·have hv2:=hv
  simp only [Value.slice.injEq,Option.some.injEq,Addr.mk.injEq,and_true] at hv2
  obtain ⟨rfl,_⟩:=hv2
  exact ⟨h0,Or.inr ⟨G,cap,cur,hv,hb,by rw [e];exact hh,hr⟩⟩
theorem oldL_drop {l:List (UInt8 × List UInt8)} {j:Nat} {x:UInt8 × List UInt8} (h:l[j]? = some x):oldL (l.drop j)=oldL (l.drop (j + 1))++[.string ⟨[x.1].toArray⟩]:=by
 obtain ⟨hlt,rfl⟩:=List.getElem?_eq_some_iff.1 h
 unfold oldL
 rw [List.drop_eq_getElem_cons hlt,List.reverse_cons,List.map_append]
 rfl
theorem round_facts {wr w2:World} {A B:Obj} {G R o:Nat} {T:Array Value} {t:TypeId} {v u sv:Value} {s:ByteArray} (hg:((wr.alloc A).alloc B).grownBy w2 (some G)) (hT:wr.heap[R]? = some (.cells T t (0,0))) (hGR:G≠R)
  (hs:T.size=257) (hv:T[256]? = some v) (ho:o < 256) (hu:T[o]? = some u) :
  w2.heap[R]? = some (.cells T t (0,0))∧w2.cell? ⟨R,256,none⟩=some v∧w2.frozen? ⟨R,256,none⟩=false∧
  (Lib.bytesWorld (w2.setCell ⟨R,256,none⟩ sv) 5 s).heap[R]? = some (.cells (T.setIfInBounds 256 sv) t (0,0))∧
  (Lib.bytesWorld (w2.setCell ⟨R,256,none⟩ sv) 5 s).cell? ⟨R,o,none⟩=some u∧(Lib.bytesWorld (w2.setCell ⟨R,256,none⟩ sv) 5 s).frozen? ⟨R,o,none⟩=false:=by
 have hR:R < wr.heap.size:=by
  by_cases h:R < wr.heap.size
  ·exact h
  ·rw [Array.getElem?_eq_none (by omega)] at hT;cases hT
 have h2:w2.heap[R]? = some (.cells T t (0,0)):=by
  rw [hg.block R (by simp;omega) (fun e=>hGR (Option.some.inj e).symm),Below.heap_alloc _ _ _ (by simp;omega),Below.heap_alloc _ _ _ hR,hT]
 have h3:=heap_setCell_same w2 R 256 T t sv h2
 have hR2:R < w2.heap.size:=by
  by_cases h:R < w2.heap.size
  ·exact h
  ·rw [Array.getElem?_eq_none (by omega)] at h2;cases h2
 have h4:(Lib.bytesWorld (w2.setCell ⟨R,256,none⟩ sv) 5 s).heap[R]? = some (.cells (T.setIfInBounds 256 sv) t (0,0)):=by
  rw [(Lib.bytesWorld_below (w2.setCell ⟨R,256,none⟩ sv) 5 s).block R (by simp [World.setCell];omega)]
  exact h3
 refine ⟨h2,?_,frozen_of_row _ _ _ _ _ h2,h4,?_,frozen_of_row _ _ _ _ _ h4⟩
 ·rw [cell_of_row _ _ _ _ _ _ h2];exact hv
 ·rw [cell_of_row _ _ _ _ _ _ h4,Array.getElem?_setIfInBounds_ne (by omega)];exact hu
theorem TabOk.hold {w w' : World} {B R G:Nat} {T:Array Value} {p:List (UInt8 × List UInt8)} (h:TabOk w B R G T p) (hs:w.heap.size≤w'.heap.size) (hk:∀ g,B≤g→g < w.heap.size→g≠R→g≠G→w'.heap[g]? = w.heap[g]?):TabOk w' B R G T p:=by
 intro c hc
 rcases h c hc with h | ⟨x,g,cap,h1,h2,h3,h4,h4',h5,h6⟩
 ·exact Or.inl h
 ·refine Or.inr ⟨x,g,cap,h1,h2,h3,h4,h4',by omega,fun i u hu=>?_⟩
  rw [World.cell?_of_block (w:=w) (hk g h4' h5 h3 h4)]
  exact h6 i u hu
theorem step_state {w0 wr w2:World} {R G cap:Nat} {l:List (UInt8 × List UInt8)} {j:Nat} {x:UInt8 × List UInt8} {T:Array Value} (hx:l[j]? = some x)
  (hT:wr.heap[R]? = some (.cells T 284 (0,0))) (hTs:T.size=257) (hTab:TabOk wr w0.heap.size R G T (l.drop (j + 1)))
  (hbel:Below w0.heap.size w0 wr) (hGR:G≠R) (hwR:w0.heap.size≤R) (hwG:w0.heap.size≤G)
  (hgrow:((wr.alloc (.cells #[.int .u8 x.1.toNat] 5)).alloc (.cells #[.string ⟨[x.1].toArray⟩] 9)).grownBy w2 (some G))
  (hown:w2.ownsRow w0.heap.size 9 1 (.slice (some ⟨G,0,none⟩) (l.length - (j + 1) + 1) l.length) (l.length - (j + 1) + 1) (oldL (l.drop (j + 1))++[.string ⟨[x.1].toArray⟩]))
  (h4:(Lib.bytesWorld (w2.setCell ⟨R,256,none⟩ (.slice (some ⟨G,0,none⟩) (l.length - (j + 1) + 1) l.length)) 5 ⟨x.2.toArray⟩).heap[R]? = some (.cells (T.setIfInBounds 256 (.slice (some ⟨G,0,none⟩) (l.length - (j + 1) + 1) l.length)) 284 (0,0))) :
  BState w0 ((Lib.bytesWorld (w2.setCell ⟨R,256,none⟩ (.slice (some ⟨G,0,none⟩) (l.length - (j + 1) + 1) l.length)) 5 ⟨x.2.toArray⟩).setCell ⟨R,x.1.toNat,none⟩ (.slice (some ⟨w2.heap.size,0,none⟩) x.2.length cap)) R G l j:=by
 have hj:j < l.length:=(List.getElem?_eq_some_iff.1 hx).1
 have hlen:l.length - (j + 1) + 1=l.length - j:=by omega
 have hox:=x.1.toNat_lt
 have hR:R < wr.heap.size:=by
  by_cases h:R < wr.heap.size
  ·exact h
  ·rw [Array.getElem?_eq_none (by omega)] at hT;cases hT
 have hG2:=(own_block hown).2
 have hs2:wr.heap.size + 2≤w2.heap.size:=by have:=hgrow.size;simp at this;omega
 have hne:w2.heap.size≠R:=by omega
 have hs3:(w2.setCell ⟨R,256,none⟩ (.slice (some ⟨G,0,none⟩) (l.length - (j + 1) + 1) l.length)).heap.size=w2.heap.size:=by simp [World.setCell]
 have hbw:=Lib.bytesWorld_below (w2.setCell ⟨R,256,none⟩ (.slice (some ⟨G,0,none⟩) (l.length - (j + 1) + 1) l.length)) 5 ⟨x.2.toArray⟩
 have hcell:=fun i hi=>Lib.bytesWorld_cell (w2.setCell ⟨R,256,none⟩ (.slice (some ⟨G,0,none⟩) (l.length - (j + 1) + 1) l.length)) 5 ⟨x.2.toArray⟩ i hi
 generalize hw3:w2.setCell ⟨R,256,none⟩ (.slice (some ⟨G,0,none⟩) (l.length - (j + 1) + 1) l.length)=w3 at *
 generalize hw4:Lib.bytesWorld w3 5 ⟨x.2.toArray⟩=w4 at *
 have hblk3:∀ g,g≠R→w3.heap[g]? = w2.heap[g]?:=fun g hg=>by rw [← hw3];exact Below.heap_setCell _ _ _ _ hg
 have hblk4:∀ g,g < w2.heap.size→w4.heap[g]? = w3.heap[g]?:=fun g hg=>hbw.block g (by omega)
 have hblk5:∀ v g,g≠R→(w4.setCell ⟨R,x.1.toNat,none⟩ v).heap[g]? = w4.heap[g]?:=fun v g hg=>Below.heap_setCell _ _ _ _ hg
 have hblk2:∀ g,g < wr.heap.size→g≠G→w2.heap[g]? = wr.heap[g]?:=fun g hg hgG=>by
  rw [hgrow.block g (by simp;omega) (fun e=>hgG (Option.some.inj e)),Below.heap_alloc _ _ _ (by simp;omega),Below.heap_alloc _ _ _ hg]
 have hsz4:w2.heap.size≤w4.heap.size:=by have:=hbw.size;omega
 refine ⟨_,heap_setCell_same w4 R x.1.toNat _ _ _ h4,?_,?_,?_,?_,?_,hGR,hwR,hwG⟩
 ·simp [hTs]
 ·rw [Array.getElem?_setIfInBounds_ne (by omega),Array.getElem?_setIfInBounds_self_of_lt (by omega),hlen]
 ·intro c hc
  by_cases hxc:x.1.toNat=c
  ·subst hxc
   refine Or.inr ⟨x,w2.heap.size,cap,?_,?_,by omega,by omega,by have:=hbel.size;omega,?_,?_⟩
   ·rw [find_drop hx];simp
   ·rw [Array.getElem?_setIfInBounds_self_of_lt (by simp [hTs];omega)]
   ·simp [World.setCell]
    have hsz:=hbw.size
    by_cases hlt:w2.heap.size < w4.heap.size
    ·exact hlt
    ·exfalso
     have:=Lib.bytesWorld_at_new w3 5 ⟨x.2.toArray⟩
     rw [hw4,Array.getElem?_eq_none (by omega)] at this
     cases this
   ·intro i u hu
    have hi:i < x.2.length:=(List.getElem?_eq_some_iff.1 hu).1
    rw [World.cell?_of_block (w:=w4) (a:=⟨w2.heap.size,i,none⟩) (hblk5 _ _ hne)]
    have:=hcell i (by show i < x.2.toArray.size;simpa using hi)
    rw [hs3] at this
    rw [this]
    simp [List.getD,hu]
  ·rcases hTab c hc with ⟨h1,h2⟩ | ⟨y,g,cap',h1,h2,h3,h3',h4',h5,h6⟩
   ·left
    refine ⟨?_,?_⟩
    ·rw [find_drop hx,if_neg (by simpa using hxc)];exact h1
    ·rw [Array.getElem?_setIfInBounds_ne hxc,Array.getElem?_setIfInBounds_ne (by omega)];exact h2
   ·right
    refine ⟨y,g,cap',?_,?_,h3,h3',h4',?_,?_⟩
    ·rw [find_drop hx,if_neg (by simpa using hxc)];exact h1
    ·rw [Array.getElem?_setIfInBounds_ne hxc,Array.getElem?_setIfInBounds_ne (by omega)];exact h2
    ·simp [World.setCell];omega
    ·intro i u hu
     rw [World.cell?_of_block (w:=wr) (a:=⟨g,i,none⟩) (by rw [hblk5 _ _ h3,hblk4 _ (by omega),hblk3 _ h3,hblk2 _ h5 h3'])]
     exact h6 i u hu
 ·rw [oldL_drop hx,← hlen]
  exact own_of_heap hown (by rw [hblk5 _ _ hGR,hblk4 _ hG2,hblk3 _ hGR])
 ·have hb1:Below w0.heap.size w0 w2:=((hbel.alloc hbel.size _).alloc (by simp;have:=hbel.size;omega) _).grown hgrow (by simp;have:=hbel.size;omega) (fun k e=>by cases e;exact hwG)
  have hb2:Below w0.heap.size w0 w3:=by rw [← hw3];exact hb1.setCell hwR _
  exact (hb2.trans (hbw.mono (by rw [hs3];exact hb1.size))).setCell hwR _
set_option maxRecDepth 100000 in
set_option maxHeartbeats 1000000 in
theorem build_any (b g cap n:Nat) (d0 d1 d2:Value) (l:List (UInt8 × List UInt8)) (w:World) (n1:2 * l.length≤n) (n2:n≤2 * l.length) (hl:2≤l.length) (h8:l.length≤100)
  (hb:w.heap[b]? = some (.cells #[d0,d1,d2,.nilIface,.slice (some ⟨g,0,none⟩) n cap] 208 (0,0)))
  (ho:∀ (j:Nat) (u:Value),(pairL l)[j]? = some u→w.cell? ⟨g,j,none⟩=some u) (h1:oneB l=false) (hk:keysOk l) :
  Calls Tryz.prog 209 #[.pointer (some ⟨b,0,none⟩)] w fun e w'=>∃ R G,e = .returned (.iface 285 (.pointer (some ⟨R,0,none⟩)))∧BState w w' R G l 0:=by
 have c4:w.cell? ⟨b,4,none⟩=some (.slice (some ⟨g,0,none⟩) n cap):=by rw [cell_of_row _ _ _ _ _ _ hb];rfl
 have HO:=Lib.hid ho
 have HB:=Lib.hid hb
 have H1:=Lib.hid h1
 clear ho hb h1
 obtain ⟨i0,hi,hz0,hz1,hz2⟩:=info_parts r_info
 have K2:=Lib.hid (show (i0.bytes * l.length≤281474976710656) by rw [hz2];omega)
 have K3:=Lib.hid (show l.length≤maxLen by unfold maxLen;omega)
 go_enter Tryz.func209,Tryz.ntmps209
 go_wp2
 go_loop [4,5] (fun av iv=>∃ j:Nat,j≤l.length∧iv = .int .i64 (2 * (j:Int))∧av = .bool (oneB (l.take j))) (fun _ iv=>2 * l.length - (intOf iv).toNat)
 case atStart=>exact ⟨0,by omega,rfl,rfl⟩
 case round=>
  obtain ⟨j,hj,rfl,rfl⟩:=hrel
  by_cases hlt:j < l.length
  ·have hx:=List.getElem?_eq_getElem hlt
   have e0:=HO.out _ _ (pairL_old l j _ hx)
   have e1:=HO.out _ _ (pairL_new l j _ hx)
   have HT:=Lib.hid (oneB_take hx)
   clear hx
   by_cases hone:(l[j]'hlt).2.length=1
   ·have hb1:(((l[j]'hlt).2.length:Int) != 1)=false:=by rw [bne_eq_false_iff_eq];omega
    have HE:=Lib.hid (show oneB (l.take (j + 1))=oneB (l.take j) by rw [HT.out,decide_eq_true hone,Bool.and_true])
    clear hone
    go_wp2
    go_round
    case rel=>exact ⟨j + 1,by omega,by go_num,by rw [HE.out]⟩
    case measure=>simp [intOf];omega
   ·have hb1:(((l[j]'hlt).2.length:Int) != 1)=true:=by rw [bne_iff_ne];omega
    have HE:=Lib.hid (show oneB (l.take (j + 1))=false by rw [HT.out,decide_eq_false hone,Bool.and_false])
    clear hone
    go_wp2
    go_round
    case rel=>exact ⟨j + 1,by omega,by go_num,by rw [HE.out]⟩
    case measure=>simp [intOf];omega
  ·have ht:=List.take_of_length_le (show l.length≤j by omega)
   rw [ht,H1.out]
   clear ht
   have hn2:(n:Int) / 2=(l.length:Int):=by omega
   have HN2:=Lib.hid hn2
   clear hn2
   have hst:=store_first
   go_wp2_with (at_make;refine wpList_make_own _ rfl _ _ 28 rfl w.heap.size 9 i0 (.string ⟨#[]⟩) 1 Tryz.underlying28 hi hz0 hz1 .i64 .i64 _ l.length rfl rfl HN2.out K2.out K3.out (Nat.le_refl _) ?_;intro w1 hown1 hgrow1)
   have HS:=Lib.hid (start_state hown1 hgrow1)
   go_loopw [12] (fun iv wr=>∃ (m:Nat) (q:Int),m≤l.length∧Hid (q=2 * (m:Int) - 2)∧-2≤q∧iv = .int .i64 q∧Hid (BState w wr w1.heap.size w.heap.size l m)) (fun iv _=>(intOf iv + 2).toNat)
   case atStart=>exact ⟨l.length,_,Nat.le_refl _,(show (n:Int) - 2=_ by omega),by omega,rfl,HS⟩
   case round=>
    clear HS hown1 hgrow1
    obtain ⟨m,q,hm,HQ,hq,rfl,HB2⟩:=hrel
    by_cases hm0:m=0
    ·have hq0:q≤-1:=by have:=HQ.out;omega
     go_wp2
     go_ret
     subst hm0
     exact ⟨_,_,rfl,HB2.out⟩
    ·obtain ⟨j2,rfl⟩:∃ j2,m=j2 + 1:=⟨m - 1,by omega⟩
     have hq1:q=2 * (j2:Int):=by have:=HQ.out;omega
     subst hq1
     have hj2:j2 < l.length:=by omega
     have hx:=List.getElem?_eq_getElem hj2
     obtain ⟨x,hxe⟩:∃ x,l[j2]'hj2=x:=⟨_,rfl⟩
     rw [hxe] at hx
     obtain ⟨T,hT,hTs,hTl,hTab,hown,hbel,hGR,hwR,hwG⟩:=HB2.out
     have e0:=cell_later hbel (HO.out _ _ (pairL_old l j2 _ hx))
     have e1:=cell_later hbel (HO.out _ _ (pairL_new l j2 _ hx))
     have bx:=x.1.toNat_lt
     have cR0:wr.cell? ⟨w1.heap.size,x.1.toNat,none⟩=some (.slice none 0 0):=by
      rw [cell_of_row _ _ _ _ _ _ hT]
      rcases hTab x.1.toNat (by omega) with ⟨_,h⟩ | ⟨y,_,_,h,_⟩
      ·exact h
      ·rw [find_none hx hk] at h;cases h
     have cR1:wr.cell? ⟨w1.heap.size,256,none⟩=some (.slice (some ⟨w.heap.size,0,none⟩) (l.length - (j2 + 1)) l.length):=by
      rw [cell_of_row _ _ _ _ _ _ hT];exact hTl
     have zR:=fun c=>frozen_of_row wr w1.heap.size c T _ hT
     have heq:=fun W=>Go.run_eql_slice_nil (P:=Tryz.prog) W 53 5 none 0 0 Tryz.underlying53
     have hget:∀ h,(⟨#[x.1]⟩:ByteArray)[0]'h=x.1:=fun _=>rfl
     have kc:=fun W=>Lib.run_convert_string_bytes (P:=Tryz.prog) W 9 53 5 ⟨x.2.toArray⟩ Tryz.underlying9 Tryz.underlying53 Tryz.underlying5
     have hcv:=fun W t=>conv_one W t x.1
     have HTo:=Lib.hid (show x.1.toNat < 256∧T[x.1.toNat]? = some (.slice none 0 0) from ⟨by omega,by
      rw [cell_of_row _ _ _ _ _ _ hT] at cR0
      exact cR0⟩)
     have HX:=Lib.hid hx
     have HTT:=Lib.hid hT
     have HTs:=Lib.hid hTs
     have HTl:=Lib.hid hTl
     have HTab:=Lib.hid hTab
     have HOwn:=Lib.hid hown
     have HC2:=Lib.hid (show ∀ (j:Nat) (u:Value),([.string ⟨[x.1].toArray⟩]:List Value)[j]? = some u→((wr.alloc (.cells #[.int .u8 x.1.toNat] 5)).alloc (.cells #[.string ⟨[x.1].toArray⟩] 9)).cell? ((⟨wr.heap.size + 1,0,none⟩:Addr).add j)=some u by
      intro j u hu
      have hj0:j=0:=by
       by_cases h:j=0
       ·exact h
       ·rw [List.getElem?_eq_none (by simp;omega)] at hu;cases hu
      subst hj0
      simp at hu
      subst hu
      simp [Addr.add])
     have HC1:=Lib.hid (show ∀ u ∈ ([.string ⟨[x.1].toArray⟩]:List Value),u.oneCell' = true by
      intro u hu
      simp at hu
      subst hu
      rfl)
     have HO2:=Lib.hid ((HOwn.out.alloc (.cells #[.int .u8 x.1.toNat] 5)).alloc (.cells #[.string ⟨[x.1].toArray⟩] 9))
     have K5:=Lib.hid (show l.length - (j2 + 1) + 1≤l.length by omega)
     clear hx hxe hT hTs hTl hTab hown HB2 HQ
     go_wp2_with (at_builtin;refine wpList_append_fits _ rfl _ _ 28 rfl w.heap.size 9 i0 1 Tryz.underlying28 hi hz1 w.heap.size (l.length - (j2 + 1)) l.length _ rfl HO2.out ⟨wr.heap.size + 1,0,none⟩ 1 1 [.string ⟨[x.1].toArray⟩] rfl rfl HC2.out HC1.out K5.out ?_;intro w2 hown2 hgrow2;obtain ⟨f1,f2,f3,f4,f5,f6⟩:=round_facts (sv:=.slice (some ⟨w.heap.size,0,none⟩) (l.length - (j2 + 1) + 1) l.length) (s:=⟨x.2.toArray⟩) hgrow2 HTT.out hGR HTs.out HTl.out HTo.out.1 HTo.out.2;have F1:=Lib.hid f1;have F4:=Lib.hid f4;clear f1 f4)
     go_roundw
     case rel=>exact ⟨j2,_,by omega,(show 2 * (j2:Int) - 2=_ by omega),by omega,rfl,step_state HX.out HTT.out HTs.out HTab.out hbel hGR hwR hwG hgrow2 hown2 F4.out⟩
     case measure=>simp [intOf];omega
def Rep (w:World) (B R:Nat) (l:List (UInt8 × List UInt8)):Prop:=
 ∃ G T,w.heap[R]? = some (.cells T 284 (0,0))∧T.size=257∧T[256]? = some (.slice (some ⟨G,0,none⟩) l.length l.length)∧TabOk w B R G T l∧
  w.ownsRow B 9 1 (.slice (some ⟨G,0,none⟩) l.length l.length) l.length (oldL l)∧G≠R∧B≤R∧B≤G
theorem BState.rep {w0 wr:World} {R G:Nat} {l:List (UInt8 × List UInt8)} (h:BState w0 wr R G l 0):Rep wr w0.heap.size R l∧Below w0.heap.size w0 wr:=by
 obtain ⟨T,h1,h2,h3,h4,h5,h6,h7,h8,h9⟩:=h
 rw [Nat.sub_zero] at h3 h5
 rw [List.drop_zero] at h4 h5
 exact ⟨⟨G,T,h1,h2,h3,h4,h5,h7,h8,h9⟩,h6⟩
theorem block_lt {w:World} {R:Nat} {o:Obj} (h:w.heap[R]? = some o):R < w.heap.size:=by
 by_cases hlt:R < w.heap.size
 ·exact hlt
 ·rw [Array.getElem?_eq_none (by omega)] at h;cases h
theorem Rep.hold {w w' : World} {B R:Nat} {l:List (UInt8 × List UInt8)} (h:Rep w B R l) (hs:w.heap.size≤w'.heap.size) (hk:∀ g,B≤g→g < w.heap.size→w'.heap[g]? = w.heap[g]?):Rep w' B R l:=by
 obtain ⟨G,T,h1,h2,h3,h4,h5,h7,h8,h9⟩:=h
 refine ⟨G,T,?_,h2,h3,h4.hold hs (fun g hB hg _ _=>hk g hB hg),own_of_heap h5 (hk G h9 (own_block h5).2),h7,h8,h9⟩
 rw [hk R h8 (block_lt h1)]
 exact h1
theorem Rep.below {w w' : World} {B R:Nat} {l:List (UInt8 × List UInt8)} (h:Rep w B R l) (hb:Below w.heap.size w w'):Rep w' B R l:=
 h.hold hb.size fun g _ hg=>hb.block g hg
theorem Rep.setCell {w:World} {B R:Nat} {l:List (UInt8 × List UInt8)} (h:Rep w B R l) {a:Addr} (ha:a.block < B) (v:Value):Rep (w.setCell a v) B R l:=
 h.hold (by simp [World.setCell]) fun g hB _=>Below.heap_setCell _ _ _ _ (by omega)
theorem Rep.drew {w:World} {B R:Nat} {l:List (UInt8 × List UInt8)} (h:Rep w B R l):Rep w.drew B R l:=h
set_option maxRecDepth 100000 in
set_option maxHeartbeats 1000000 in
theorem once_any (b g cap n:Nat) (d0 d1 d2:Value) (l:List (UInt8 × List UInt8)) (w:World) (n1:2 * l.length≤n) (n2:n≤2 * l.length) (hl:2≤l.length) (h8:l.length≤100)
  (hb:w.heap[b]? = some (.cells #[d0,d1,d2,.nilIface,.slice (some ⟨g,0,none⟩) n cap] 208 (0,0)))
  (ho:∀ (j:Nat) (u:Value),(pairL l)[j]? = some u→w.cell? ⟨g,j,none⟩=some u) (h1:oneB l=false) (hk:keysOk l) :
  Calls Tryz.prog 161 #[.pointer (some ⟨b,0,none⟩)] w fun e w'=>∃ R,e = .returned (.tuple #[])∧Rep w' w.heap.size R l∧Below b w w'∧
   w'.heap[b]? = some (.cells #[d0,d1,d2,.iface 285 (.pointer (some ⟨R,0,none⟩)),.slice none 0 0] 208 (0,0)):=by
 have HB:=Lib.hid hb
 have hbl:=block_lt hb
 have HBld:=Lib.hid (build_any b g cap n d0 d1 d2 l w n1 n2 hl h8 hb ho h1 hk)
 clear hb ho h1 hk
 go_enter Tryz.func161,Tryz.ntmps161
 go_wp2_with fail
 refine HBld.out.mono ?_
 rintro e w1 ⟨R,G,rfl,hst⟩
 obtain ⟨hrep,hbel⟩:=hst.rep
 have hb1:w1.heap[b]? = some (.cells #[d0,d1,d2,.nilIface,.slice (some ⟨g,0,none⟩) n cap] 208 (0,0)):=by rw [hbel.block b hbl];exact HB.out
 have c3:w1.cell? ⟨b,3,none⟩=some .nilIface:=by rw [cell_of_row _ _ _ _ _ _ hb1];rfl
 have z3:=fun c=>frozen_of_row w1 b c _ _ hb1
 have hb2:=heap_setCell_same w1 b 3 _ _ (.iface 285 (.pointer (some ⟨R,0,none⟩))) hb1
 have c4:(w1.setCell ⟨b,3,none⟩ (.iface 285 (.pointer (some ⟨R,0,none⟩)))).cell? ⟨b,4,none⟩=some (.slice (some ⟨g,0,none⟩) n cap):=by rw [cell_of_row _ _ _ _ _ _ hb2];rfl
 have hb3:=heap_setCell_same _ b 4 _ _ (.slice none 0 0) hb2
 have HB2:=Lib.hid hb2
 have HB3:=Lib.hid hb3
 have HBe:=Lib.hid hbel
 have HR:=Lib.hid hrep
 clear hb1 hb2 hb3 hst
 go_wp2
 go_end0
 exact ⟨R,rfl,Rep.setCell (a:=⟨b,4,none⟩) (Rep.setCell (a:=⟨b,3,none⟩) HR.out hbl _) hbl _,Below.setCell (p:=⟨b,4,none⟩) (Below.setCell (p:=⟨b,3,none⟩) (HBe.out.mono (Nat.le_of_lt hbl)) (Nat.le_refl _) _) (Nat.le_refl _) _,HB3.out⟩
theorem s_disable (w:World):(callFunc 284 #[]).run Tryz.prog w = .ok (.value (.tuple #[])) w:=run_call_mark0 Tryz.func284 (by kernel_rfl) (by kernel_rfl) (by kernel_rfl) .disable (by kernel_rfl) w
theorem s_enable (w:World):(callFunc 286 #[]).run Tryz.prog w = .ok (.value (.tuple #[])) w:=run_call_mark0 Tryz.func286 (by kernel_rfl) (by kernel_rfl) (by kernel_rfl) .enable (by kernel_rfl) w
theorem s_acquire (a:Addr) (w:World):(callFunc 287 #[.pointer (some a)]).run Tryz.prog w = .ok (.value (.tuple #[])) w:=run_call_marked Tryz.func287 (by kernel_rfl) (by kernel_rfl) (by kernel_rfl) .acquire (by kernel_rfl) a w
theorem s_release (a:Addr) (w:World):(callFunc 289 #[.pointer (some a)]).run Tryz.prog w = .ok (.value (.tuple #[])) w:=run_call_marked Tryz.func289 (by kernel_rfl) (by kernel_rfl) (by kernel_rfl) .releaseMerge (by kernel_rfl) a w
theorem s_store (a:Addr) (x:Value) (u:FrameMode) (w:World) (hc:w.cell? a=some x) (hz:w.frozen? a=false) :
  CallsD Tryz.prog 237 #[.pointer (some a),.bool true] u w fun e u' w'=>u' = u∧(e = .returned (.tuple #[])∧w' = w.drew.setCell a (.int .u32 1)):=by
 have hc' : w.drew.cell? a=some x:=by go_simp
 have hz' : w.drew.frozen? a=false:=by go_simp
 have hst:=run_call_store (P:=Tryz.prog) Tryz.func266 (by kernel_rfl) (by kernel_rfl) (by kernel_rfl) (by kernel_rfl) (k:=.u32) (y:=1) hc' hz'
 go_enter_d Tryz.func237,Tryz.ntmps237
 go_wp2
 go_region_calls
 all_goals (go_end0;exact ⟨rfl,rfl⟩)
set_option maxRecDepth 100000 in
set_option maxHeartbeats 1000000 in
theorem s_unlock (a:Addr) (u:FrameMode) (w:World) (hc:w.cell? a=some (.int .i32 1)) (hz:w.frozen? a=false) :
  CallsD Tryz.prog 236 #[.pointer (some a)] u w fun e u' w'=>u' = u∧(e = .returned (.tuple #[])∧w' = w.setCell a (.int .i32 0)):=by
 have hd:=s_disable
 have he:=s_enable
 have hr:=s_release
 have hadd:=run_call_add (P:=Tryz.prog) Tryz.func290 (by kernel_rfl) (by kernel_rfl) (by kernel_rfl) .i32 (by kernel_rfl) (y:=-1) (s:=0) hc hz (by simp [go_sem];rfl)
 have hcv:=run_convert_to_unsafe (P:=Tryz.prog) (src:=327) (dst:=181) Tryz.underlying327 Tryz.underlying181 (by kernel_rfl) hc
 go_enter_d Tryz.func236,Tryz.ntmps236
 go_wp2
 go_end0
 go_wp2
 go_end0
 exact ⟨rfl,rfl⟩
set_option maxRecDepth 100000 in
set_option maxHeartbeats 1000000 in
theorem s_lock (a:Addr) (w:World) (hc:w.cell? a=some (.int .i32 0)) (hz:w.frozen? a=false) :
  Calls Tryz.prog 235 #[.pointer (some a)] w fun e w'=>e = .returned (.tuple #[])∧w' = w.setCell a (.int .i32 1):=by
 have hd:=s_disable
 have he:=s_enable
 have ha:=s_acquire
 have hcas:=run_call_cas_hit (P:=Tryz.prog) Tryz.func285 (by kernel_rfl) (by kernel_rfl) (by kernel_rfl) .i32 (by kernel_rfl) (y:=1) hc hz
 have hc' : (w.setCell a (.int .i32 1)).cell? a=some (.int .i32 1):=World.cell?_setCell_same w a _ hc
 have hcv:=run_convert_to_unsafe (P:=Tryz.prog) (src:=327) (dst:=181) Tryz.underlying327 Tryz.underlying181 (by kernel_rfl) hc'
 go_enter Tryz.func235,Tryz.ntmps235
 go_wp2
 first|go_end0|(simp only [Exit.inBlock,Exit.then];refine bodyPost_ret (results_none rfl _ _ _) rfl ?_)|refine bodyPost_ret (results_none rfl _ _ _) rfl ?_
 go_wp2
 go_end0
 exact ⟨rfl,rfl⟩
theorem s_load (a:Addr) (w:World) (hc:w.cell? a=some (.int .u32 0)) :
  Calls Tryz.prog 207 #[.pointer (some a)] w fun e w'=>e = .returned (.bool false)∧w' = w:=by
 have hld:=run_call_load (P:=Tryz.prog) Tryz.func234 (by kernel_rfl) (by kernel_rfl) (by kernel_rfl) .u32 (by kernel_rfl) hc
 go_enter Tryz.func207,Tryz.ntmps207
 go_wp2
 go_ret
 exact ⟨rfl,rfl⟩
set_option maxRecDepth 100000 in
set_option maxHeartbeats 1600000 in
theorem slow_any (b g cap n:Nat) (d2:Value) (l:List (UInt8 × List UInt8)) (w:World) (n1:2 * l.length≤n) (n2:n≤2 * l.length) (hl:2≤l.length) (h8:l.length≤100) (hgb:g≠b)
  (hb:w.heap[b]? = some (.cells #[.int .u32 0,.int .i32 0,d2,.nilIface,.slice (some ⟨g,0,none⟩) n cap] 208 (0,0)))
  (ho:∀ (j:Nat) (u:Value),(pairL l)[j]? = some u→w.cell? ⟨g,j,none⟩=some u) (h1:oneB l=false) (hk:keysOk l) :
  Calls Tryz.prog 208 #[.pointer (some ⟨b,0,none⟩),.func (.func 161) #[.pointer (some ⟨b,0,none⟩)] #[]] w fun e w'=>∃ R,e = .returned (.tuple #[])∧Rep w' w.heap.size R l∧Below b w w'∧
   w'.heap[b]? = some (.cells #[.int .u32 1,.int .i32 0,d2,.iface 285 (.pointer (some ⟨R,0,none⟩)),.slice none 0 0] 208 (0,0)):=by
 have hbl:=block_lt hb
 have hbL:=heap_setCell_same w b 1 _ _ (.int .i32 1) hb
 have h0L:(w.setCell ⟨b,1,none⟩ (.int .i32 1)).cell? ⟨b,0,none⟩=some (.int .u32 0):=by rw [cell_of_row _ _ _ _ _ _ hbL];rfl
 have c1:w.cell? ⟨b,1,none⟩=some (.int .i32 0):=by rw [cell_of_row _ _ _ _ _ _ hb];rfl
 have z1:=frozen_of_row w b 1 _ _ hb
 have hnot:∀ (x:Bool) (w:World),(Op.unary .not (.bool x)).run Tryz.prog w = .ok (.bool (!x)) w:=fun _ _=>rfl
 have hoL:∀ (j:Nat) (u:Value),(pairL l)[j]? = some u→(w.setCell ⟨b,1,none⟩ (.int .i32 1)).cell? ⟨g,j,none⟩=some u:=fun j u hu=>by
  rw [World.cell?_setCell_other _ _ _ _ (fun e=>hgb (by have:=congrArg Addr.block e;simpa using this.symm))]
  exact ho j u hu
 have HBO:=Lib.hid (once_any b g cap n (.int .u32 0) (.int .i32 1) d2 l (w.setCell ⟨b,1,none⟩ (.int .i32 1)) n1 n2 hl h8 hbL hoL h1 hk)
 have HB:=Lib.hid hb
 clear ho hoL hb hbL h1 hk
 go_enter_defers Tryz.func208,Tryz.ntmps208
 go_wp2_with (go_at_call 235;refine (s_lock ⟨b,1,none⟩ _ c1 z1).mono ?_;rintro e w' ⟨rfl,rfl⟩)
 refine (s_load ⟨b,0,none⟩ _ h0L).mono ?_
 rintro e w' ⟨rfl,rfl⟩
 go_wp2_with fail
 refine HBO.out.mono ?_
 rintro e w2 ⟨R,rfl,hrep,hbel,hbR⟩
 have HR:=Lib.hid hrep
 have HBel:=Lib.hid hbel
 have HbR:=Lib.hid hbR
 clear hrep hbel hbR
 go_wp2
 refine leaves_cons (f:=237) (args:=#[.pointer (some ⟨b,0,none⟩),.bool true]) (by simp) (by simp [go_sem]) ?_
 refine (s_store ⟨b,0,none⟩ (.int .u32 0) .returning _ (by rw [cell_of_row _ _ _ _ _ _ HbR.out];rfl) (frozen_of_row _ _ _ _ _ HbR.out)).mono ?_
 rintro e u' w'' ⟨rfl,rfl,rfl⟩
 have hb3:=heap_setCell_same w2.drew b 0 _ _ (.int .u32 1) HbR.out
 refine leaves_cons (f:=236) (args:=#[.pointer (some ⟨b,1,none⟩)]) (by simp [settle]) (by simp [go_sem]) ?_
 refine (s_unlock ⟨b,1,none⟩ _ _ (by rw [cell_of_row _ _ _ _ _ _ hb3];rfl) (frozen_of_row _ _ _ _ _ hb3)).mono ?_
 rintro e u' w'' ⟨rfl,rfl,rfl⟩
 have hb4:=heap_setCell_same _ b 1 _ _ (.int .i32 0) hb3
 have hs:(w.setCell ⟨b,1,none⟩ (.int .i32 1)).heap.size=w.heap.size:=by simp [World.setCell]
 have HR2:=HR.out
 rw [hs] at HR2
 have hfin:Rep ((w2.drew.setCell ⟨b,0,none⟩ (.int .u32 1)).setCell ⟨b,1,none⟩ (.int .i32 0)) w.heap.size R l∧Below b w ((w2.drew.setCell ⟨b,0,none⟩ (.int .u32 1)).setCell ⟨b,1,none⟩ (.int .i32 0)):=
  ⟨Rep.setCell (a:=⟨b,1,none⟩) (Rep.setCell (a:=⟨b,0,none⟩) HR2.drew hbl _) hbl _,
   Below.setCell (p:=⟨b,1,none⟩) (Below.setCell (p:=⟨b,0,none⟩) ((Below.setCell (p:=⟨b,1,none⟩) (Below.refl b w) (Nat.le_refl _) _).trans HBel.out).drew (Nat.le_refl _) _) (Nat.le_refl _) _⟩
 have HF:=Lib.hid hfin
 have HB4:=Lib.hid hb4
 clear hfin hb4 hb3 HR2
 have hres:∀ (tm:Array Value) (W:World),(results Tryz.f208 tm).run Tryz.prog W = .ok (.tuple #[]) W:=fun tm W=>by simp [results,Tryz.results208]
 simp only [Leaves,settle,hres]
 exact ⟨_,rfl,R,rfl,HF.out.1,HF.out.2,HB4.out⟩
set_option maxRecDepth 100000 in
set_option maxHeartbeats 1600000 in
theorem do_any (b g cap n:Nat) (d2:Value) (l:List (UInt8 × List UInt8)) (w:World) (n1:2 * l.length≤n) (n2:n≤2 * l.length) (hl:2≤l.length) (h8:l.length≤100) (hgb:g≠b)
  (hb:w.heap[b]? = some (.cells #[.int .u32 0,.int .i32 0,d2,.nilIface,.slice (some ⟨g,0,none⟩) n cap] 208 (0,0)))
  (ho:∀ (j:Nat) (u:Value),(pairL l)[j]? = some u→w.cell? ⟨g,j,none⟩=some u) (h1:oneB l=false) (hk:keysOk l) :
  Calls Tryz.prog 160 #[.pointer (some ⟨b,0,none⟩),.func (.func 161) #[.pointer (some ⟨b,0,none⟩)] #[]] w fun e w'=>∃ R,e = .returned (.tuple #[])∧Rep w' w.heap.size R l∧Below b w w'∧
   w'.heap[b]? = some (.cells #[.int .u32 1,.int .i32 0,d2,.iface 285 (.pointer (some ⟨R,0,none⟩)),.slice none 0 0] 208 (0,0)):=by
 have HS:=Lib.hid (slow_any b g cap n d2 l w n1 n2 hl h8 hgb hb ho h1 hk)
 have c0:w.cell? ⟨b,0,none⟩=some (.int .u32 0):=by rw [cell_of_row _ _ _ _ _ _ hb];rfl
 have hnot:∀ (x:Bool) (w:World),(Op.unary .not (.bool x)).run Tryz.prog w = .ok (.bool (!x)) w:=fun _ _=>rfl
 clear hb ho h1 hk
 go_enter Tryz.func160,Tryz.ntmps160
 go_wp2_with fail
 refine (s_load ⟨b,0,none⟩ _ c0).mono ?_
 rintro e w' ⟨rfl,rfl⟩
 go_wp2_with fail
 refine HS.out.mono ?_
 rintro e w2 ⟨R,rfl,hrep,hbel,hbR⟩
 have HR:=Lib.hid hrep
 have HBel:=Lib.hid hbel
 have HbR:=Lib.hid hbR
 clear hrep hbel hbR
 go_wp2
 go_end0
 exact ⟨R,rfl,HR.out,HBel.out,HbR.out⟩
def pairOf (l:List (UInt8 × List UInt8)) (c:Nat):Option (UInt8 × List UInt8):=l.find? (fun x=>x.1.toNat == c)
def replC (l:List (UInt8 × List UInt8)) (c:UInt8):List UInt8:=match pairOf l c.toNat with|some x=>x.2|none=>[c]
def replL (l:List (UInt8 × List UInt8)) (s:List UInt8):List UInt8:=s.flatMap (replC l)
def chgB (l:List (UInt8 × List UInt8)) (s:List UInt8):Bool:=s.any fun c=>(pairOf l c.toNat).isSome
theorem replL_take {l:List (UInt8 × List UInt8)} {s:List UInt8} {k:Nat} {c:UInt8} (h:s[k]? = some c):replL l (s.take (k + 1))=replL l (s.take k)++replC l c:=by
 unfold replL
 rw [List.take_add_one,h]
 simp
theorem chgB_take {l:List (UInt8 × List UInt8)} {s:List UInt8} {k:Nat} {c:UInt8} (h:s[k]? = some c):chgB l (s.take (k + 1))=(chgB l (s.take k) || (pairOf l c.toNat).isSome):=by
 unfold chgB
 rw [List.take_add_one,h]
 simp
theorem replL_same {l:List (UInt8 × List UInt8)}:∀ {s:List UInt8},chgB l s=false→replL l s=s
 | [],_=>rfl
 | c :: s,h=>by
  unfold chgB at h
  rw [List.any_cons,Bool.or_eq_false_iff] at h
  have ih:=replL_same (l:=l) (s:=s) h.2
  unfold replL at ih ⊢
  rw [List.flatMap_cons,ih]
  have:replC l c=[c]:=by
   unfold replC
   cases hp:pairOf l c.toNat with
   | none=>rfl
   | some x=>rw [hp] at h;cases h.1
  rw [this]
  rfl
theorem replC_len {l:List (UInt8 × List UInt8)} {m:Nat} (hm:1≤m) (hl:∀ x ∈ l,x.2.length≤m) (c:UInt8):(replC l c).length≤m:=by
 unfold replC pairOf
 split
 ·rename_i x hx
  exact hl x (List.mem_of_find?_eq_some hx)
 ·simpa using hm
theorem replL_len {l:List (UInt8 × List UInt8)} {m:Nat} (hm:1≤m) (hl:∀ x ∈ l,x.2.length≤m):∀ (s:List UInt8),(replL l s).length≤m * s.length
 | []=>by simp [replL]
 | c :: s=>by
  have h1:=replC_len hm hl c
  have h2:=replL_len hm hl s
  unfold replL at h2 ⊢
  rw [List.flatMap_cons,List.length_append,List.length_cons,Nat.mul_succ]
  omega
theorem replL_app {l:List (UInt8 × List UInt8)} (a b:List UInt8):replL l (a++b)=replL l a++replL l b:=by
 unfold replL
 rw [List.flatMap_append]
theorem b_at {s:ByteArray} {k:Nat} (h:k < s.size):s.data.toList[k]? = some s[k]:=by
 rw [List.getElem?_eq_getElem (by simpa using h)];rfl
theorem b_take {s:ByteArray} {k:Nat} (h:s.size≤k):s.data.toList.take k=s.data.toList:=List.take_of_length_le (by simpa using h)
theorem rep_cell {w:World} {B R:Nat} {l:List (UInt8 × List UInt8)} (h:Rep w B R l) (c:UInt8) :
  (pairOf l c.toNat=none∧w.cell? ⟨R,c.toNat,none⟩=some (.slice none 0 0))∨
  ∃ x g cap,pairOf l c.toNat=some x∧w.cell? ⟨R,c.toNat,none⟩=some (.slice (some ⟨g,0,none⟩) x.2.length cap)∧g < w.heap.size∧∀ i u,x.2[i]? = some u→w.cell? ⟨g,i,none⟩=some (.int .u8 u.toNat):=by
 obtain ⟨G,T,h1,h2,h3,h4,_⟩:=h
 have hc:=cell_of_row _ _ c.toNat _ _ _ h1
 rw [hc]
 rcases h4 c.toNat c.toNat_lt with h | ⟨x,g,cap,a,b,_,_,_,d,e⟩
 ·exact Or.inl h
 ·exact Or.inr ⟨x,g,cap,a,b,d,e⟩
theorem rep_list {w:World} {B R:Nat} {l:List (UInt8 × List UInt8)} (h:Rep w B R l):∃ G,w.cell? ⟨R,256,none⟩=some (.slice (some ⟨G,0,none⟩) l.length l.length):=by
 obtain ⟨G,T,h1,h2,h3,_⟩:=h
 exact ⟨G,by rw [cell_of_row _ _ _ _ _ _ h1];exact h3⟩
theorem u_info:(Tryz.prog.info? 5).map (fun i=>(i.zero,i.size,i.bytes))=some (some (.int .u8 0),1,1):=by kernel_rfl
def bv (b:UInt8):Value:=.int .u8 b.toNat
theorem set_mid (a r:List Value) (x v:Value):((a++x :: r).toArray).setIfInBounds a.length v=(a++v :: r).toArray:=by
 simp
def BufAt (w:World) (D N:Nat) (done:List UInt8):Prop:=∃ rest:List Value,w.heap[D]? = some (.cells (done.map bv++rest).toArray 5 (0,0))∧done.length + rest.length=N
theorem BufAt.cell {w:World} {D N:Nat} {done:List UInt8} (h:BufAt w D N done) (hlt:done.length < N):(∃ r0,w.cell? ⟨D,done.length,none⟩=some r0)∧w.frozen? ⟨D,done.length,none⟩=false:=by
 obtain ⟨rest,h1,h2⟩:=h
 cases rest with
 | nil=>simp at h2;omega
 | cons r0 rest=>
  exact ⟨⟨r0,by rw [cell_of_row _ _ _ _ _ _ h1];simp⟩,frozen_of_row _ _ _ _ _ h1⟩
theorem BufAt.put {w:World} {D N:Nat} {done:List UInt8} (h:BufAt w D N done) (hlt:done.length < N) (c:UInt8):BufAt (w.setCell ⟨D,done.length,none⟩ (.int .u8 c.toNat)) D N (done++[c]):=by
 obtain ⟨rest,h1,h2⟩:=h
 cases rest with
 | nil=>simp at h2;omega
 | cons r0 rest=>
  refine ⟨rest,?_,by simp at h2 ⊢;omega⟩
  rw [heap_setCell_same _ _ _ _ _ _ h1]
  have:=set_mid (done.map bv) rest r0 (.int .u8 c.toNat)
  rw [List.length_map] at this
  rw [this]
  simp [bv]
theorem BufAt.splice {w' : World} {D N:Nat} {done:List UInt8} {rest:List Value} (nw:List UInt8) (h2:done.length + rest.length=N) (hfit:done.length + nw.length≤N)
  (h:w'.heap[D]? = some (.cells (splice (done.map bv++rest) done.length (nw.map bv)).toArray 5 (0,0))):BufAt w' D N (done++nw):=by
 refine ⟨rest.drop nw.length,?_,by simp;omega⟩
 rw [h]
 congr 3
 unfold Go.splice
 have e1:(done.map bv).drop (done.length + nw.length)=[]:=List.drop_of_length_le (by simp)
 rw [List.take_left' (by simp),List.length_map,List.drop_append,e1,List.length_map,Nat.add_sub_cancel_left]
 simp
theorem nums_back (l:List UInt8):strOfNums (l.map fun b=>(b.toNat:Int))=⟨l.toArray⟩:=by
 unfold strOfNums
 congr 2
 rw [List.map_map]
 conv=>rhs;rw [← List.map_id l]
 apply List.map_congr_left
 intro b _
 simp
theorem conv_buf {w:World} {D N:Nat} {done:List UInt8} (h:BufAt w D N done) (hN:done.length=N):(convert 53 9 (.slice (some ⟨D,0,none⟩) N N)).run Tryz.prog w = .ok (.string ⟨done.toArray⟩) w:=by
 obtain ⟨rest,h1,h2⟩:=h
 have hr:rest=[]:=List.eq_nil_of_length_eq_zero (by omega)
 subst hr
 have:=run_convert_bytes_arg (P:=Tryz.prog) w 53 5 Tryz.underlying53 Tryz.underlying5 D 0 N N (done.map fun b=>(b.toNat:Int)) (by simpa using hN) (fun i hi=>by
  rw [Nat.zero_add,cell_of_row _ _ _ _ _ _ h1]
  have hid:i < done.length:=by omega
  simp [bv,List.getD,hid]) 9 Tryz.underlying9
 rw [this,nums_back]
set_option maxRecDepth 100000 in
set_option maxHeartbeats 2000000 in
theorem run_short (B R:Nat) (l:List (UInt8 × List UInt8)) (s:ByteArray) (w:World) (hrep:Rep w B R l) (h8:s.size < 8 * l.length) (hl:l.length≤100) (hm:∀ x ∈ l,x.2.length≤100) (hp1:∀ x ∈ l,1≤x.2.length) :
  Calls Tryz.prog 340 #[.pointer (some ⟨R,0,none⟩),.string s] w fun e w'=>e = .returned (.string ⟨(replL l s.data.toList).toArray⟩)∧Below w.heap.size w w':=by
 obtain ⟨G,cG⟩:=rep_list hrep
 have HRep:=Lib.hid hrep
 have HM:=Lib.hid hm
 have hneq:=fun W a n c=>Go.run_neq_slice_nil (P:=Tryz.prog) W 53 5 a n c Tryz.underlying53
 have HP1:=Lib.hid hp1
 obtain ⟨i0,hi,hz0,hz1,hz2⟩:=info_parts u_info
 clear hrep hm hp1
 go_enter Tryz.func340,Tryz.ntmps340
 go_wp2
 go_loop [5,6,10] (fun nv av iv=>∃ k:Nat,k≤s.size∧iv = .int .i64 k∧av = .bool (chgB l (s.data.toList.take k))∧∃ q:Int,nv = .int .i64 q∧Hid (q=((replL l (s.data.toList.take k)).length:Int) + (s.size:Int) - (k:Int))∧0≤q∧q≤1000000) (fun _ _ iv=>s.size - (intOf iv).toNat)
 case atStart=>exact ⟨0,by omega,rfl,rfl,_,rfl,(show (s.size:Int)=_ by simp [replL]),by omega,by omega⟩
 case round=>
  obtain ⟨k,hk,rfl,rfl,q,rfl,HQ,hq0,hq1⟩:=hrel
  by_cases hlt:k < s.size
  ·have hb:=b_at hlt
   have HT:=Lib.hid (replL_take (l:=l) hb)
   have HC:=Lib.hid (chgB_take (l:=l) hb)
   have hlen:=replL_len (m:=100) (by omega) HM.out (s.data.toList.take (k + 1))
   have hlk:(s.data.toList.take (k + 1)).length≤k + 1:=List.length_take_le _ _
   have hbnd:(replL l (s.data.toList.take (k + 1))).length≤100 * (k + 1):=Nat.le_trans hlen (Nat.mul_le_mul_left 100 hlk)
   have hbx:=s[k].toNat_lt
   clear hb hlen hlk
   rcases rep_cell HRep.out s[k] with ⟨hp,hc⟩ | ⟨x,g,cap,hp,hc,hg,he⟩
   ·have HP:=Lib.hid hp
    have HL:=Lib.hid (show replC l s[k]=[s[k]] by unfold replC;rw [hp])
    clear hp
    go_wp2
    go_round
    case rel=>
     refine ⟨k + 1,by omega,by go_num,by rw [HC.out,HP.out];simp,q,rfl,?_,hq0,hq1⟩
     show q=_
     have h1:=HQ.out
     rw [HT.out,HL.out,List.length_append,List.length_singleton]
     omega
    case measure=>simp [intOf];omega
   ·have HP:=Lib.hid hp
    have hL:replC l s[k]=x.2:=by unfold replC;rw [hp]
    have hx:x.2.length≤100:=HM.out x (List.mem_of_find?_eq_some hp)
    have hT2:(replL l (s.data.toList.take (k + 1))).length=(replL l (s.data.toList.take k)).length + x.2.length:=by rw [HT.out,hL,List.length_append]
    have hq2:q + ((x.2.length:Int) - 1)≤1000000:=by have:=HQ.out;omega
    have hq3:0≤q + ((x.2.length:Int) - 1):=by have:=HQ.out;omega
    have HT2:=Lib.hid hT2
    clear hp hL hT2 he
    go_wp2
    go_round
    case rel=>
     refine ⟨k + 1,by omega,by go_num,by rw [HC.out,HP.out];simp,_,rfl,?_,by omega,by omega⟩
     show _=_
     have h1:=HQ.out
     have h2:=HT2.out
     omega
    case measure=>simp [intOf];omega
  ·have hks:k=s.size:=by omega
   have HK:=Lib.hid (b_take (s:=s) (k:=k) (by omega))
   cases hch:chgB l s.data.toList
   ·have HR:=Lib.hid (replL_same hch)
    rw [HK.out,hch]
    go_wp2
    go_ret
    exact ⟨by rw [HR.out,Lib.mk_data];rfl,Below.refl _ _⟩
   ·rw [HK.out,hch]
    obtain ⟨N,hN⟩:∃ N,(replL l s.data.toList).length=N:=⟨_,rfl⟩
    have hqN:q=(N:Int):=by have:=HQ.out;rw [HK.out,hN] at this;omega
    subst hqN
    have HN:=Lib.hid hN
    have K1:=Lib.hid (show i0.bytes * N≤281474976710656 by rw [hz2];omega)
    have K2:=Lib.hid (show N≤maxLen by unfold maxLen;omega)
    clear hN hch HQ hks
    go_wp2_with (at_make;refine wpList_make_full _ rfl _ _ 53 rfl w.heap.size 5 i0 (.int .u8 0) 1 Tryz.underlying53 hi hz0 hz1 .i64 .i64 _ _ N rfl rfl rfl rfl K1.out K2.out (Nat.le_refl _) ?_;intro w1 hown1 hgrow1)
    have hb1:Below w.heap.size w w1:=(Below.refl _ w).grown hgrow1 (Nat.le_refl _) (fun _ h=>by cases h)
    have hbuf0:BufAt w1 w.heap.size N []:=by
     obtain ⟨_,⟨h0,_⟩ | ⟨g,cap,cur,hv,hgB,hh,hnc,hcm,hsz,htk⟩⟩:=hown1
     ·cases h0
     ·simp only [Value.slice.injEq,Option.some.injEq,Addr.mk.injEq,and_true] at hv
      obtain ⟨rfl,_,rfl⟩:=hv
      exact ⟨cur.toList,by simpa using hh,by simpa using hsz⟩
    have HB1:=Lib.hid hb1
    have HBuf0:=Lib.hid hbuf0
    clear hown1 hgrow1 hb1 hbuf0
    go_loopw [13,14] (fun jv iv wr=>∃ k j:Nat,k≤s.size∧iv = .int .i64 k∧jv = .int .i64 j∧Hid (j=(replL l (s.data.toList.take k)).length)∧j≤N∧Hid (BufAt wr w.heap.size N (replL l (s.data.toList.take k)))∧Hid (Below w.heap.size w wr)) (fun _ iv _=>s.size - (intOf iv).toNat)
    case atStart=>exact ⟨0,0,by omega,rfl,rfl,rfl,by omega,HBuf0,HB1⟩
    case round=>
     clear hlt hk HB1 HBuf0
     obtain ⟨k,j,hk,rfl,rfl,HJ,hjN,HBuf,HBel⟩:=hrel
     by_cases hlt:k < s.size
     ·have hb:=b_at hlt
      have HT:=Lib.hid (replL_take (l:=l) hb)
      have hbx:=s[k].toNat_lt
      have htot:(replL l (s.data.toList.take (k + 1))).length≤N:=by
       have h1:=replL_app (l:=l) (s.data.toList.take (k + 1)) (s.data.toList.drop (k + 1))
       rw [List.take_append_drop] at h1
       have h2:=HN.out
       rw [h1,List.length_append] at h2
       omega
      clear hb
      rcases rep_cell (HRep.out.below HBel.out) s[k] with ⟨hp,hc⟩ | ⟨x,g,cap,hp,hc,hg,he⟩
      ·have hL:replC l s[k]=[s[k]]:=by unfold replC;rw [hp]
       have hjl:j < N:=by rw [HT.out,hL,List.length_append,List.length_singleton] at htot;have:=HJ.out;omega
       have HL:=Lib.hid hL
       obtain ⟨⟨r0,hr0⟩,hz⟩:=HBuf.out.cell (by have:=HJ.out;omega)
       have hput:=HBuf.out.put (by have:=HJ.out;omega) s[k]
       rw [← HJ.out] at hr0 hz hput
       have HPut:=Lib.hid hput
       clear hL hp hput htot
       go_wp2
       go_roundw
       case rel=>
        refine ⟨k + 1,j + 1,by omega,by go_num,by go_num,?_,by omega,?_,?_⟩
        ·show _=_
         rw [HT.out,HL.out,List.length_append,← HJ.out]
         rfl
        ·show BufAt _ _ _ _
         rw [HT.out,HL.out]
         exact HPut.out
        ·exact Below.setCell (p:=⟨w.heap.size,j,none⟩) HBel.out (Nat.le_refl _) _
       case measure=>simp [intOf];omega
      ·have hL:replC l s[k]=x.2:=by unfold replC;rw [hp]
       have hx1:1≤x.2.length:=HP1.out x (List.mem_of_find?_eq_some hp)
       have hjx:j + x.2.length≤N:=by rw [HT.out,hL,List.length_append] at htot;have:=HJ.out;omega
       have HL:=Lib.hid hL
       obtain ⟨rest,hre,hrl⟩:=HBuf.out
       have HRe:=Lib.hid hre
       have HRl:=Lib.hid hrl
       have hj1:(j:Int)≤(N:Int):=by omega
       have hj2:(j:Int) < (N:Int):=by omega
       have hbi:((s[k].toNat:Nat):Int) < 256:=by omega
       have S1:=Lib.hid (show (Tryz.prog.info? 5).map (·.size)=some 1 by rw [hi,Option.map_some,hz1])
       have S2:=Lib.hid (show (x.2.map bv).length=Nat.min x.2.length (N - j) by rw [List.length_map];exact (Nat.min_eq_left (by omega)).symm)
       have S3:=Lib.hid (show ∀ (i:Nat) (v:Value),(x.2.map bv)[i]? = some v→wr.drew.cell? ((⟨g,0,none⟩:Addr).add i)=some v from fun i v hv=>by
        have hadd:(⟨g,0,none⟩:Addr).add i=⟨g,i,none⟩:=by unfold Addr.add;split <;> simp_all
        rw [hadd]
        rw [List.getElem?_map] at hv
        cases hu:x.2[i]? with
        | none=>rw [hu] at hv;cases hv
        | some u=>
         rw [hu] at hv
         simp only [Option.map_some,Option.some.injEq] at hv
         subst hv
         exact he i u hu)
       have hNj:¬ N=j:=by omega
       have S4:=Lib.hid (show j + (x.2.map bv).length≤((replL l (s.data.toList.take k)).map bv++rest).length by
        have h1:=HJ.out
        rw [List.length_map,List.length_append,List.length_map];omega)
       have S5:=Lib.hid (show ∀ v ∈ x.2.map bv,v.oneCell' = true by
        intro v hv
        obtain ⟨u,_,rfl⟩:=List.mem_map.1 hv
        rfl)
       clear hL hp he hre hrl htot
       go_wp2
       go_region_law (refine step_copy_splice rfl (.tmp 105) (.tmp 111) 53 53 rfl 5 Tryz.underlying53 S1.out (some ⟨w.heap.size,j,none⟩) (some ⟨g,0,none⟩) (N - j) (N - j) x.2.length cap (by simp [Act.eval]) (by simp [Act.eval]) w.heap.size j _ 5 HRe.out (x.2.map bv) S2.out (fun _=>⟨rfl,⟨g,0,none⟩,rfl,S3.out⟩) S4.out S5.out w.heap.size w HBel.out.drew (Nat.le_refl _) ?_;intro w4 hg4 hb4)
       go_wp2
       go_roundw
       case rel=>
        refine ⟨k + 1,j + x.2.length,by omega,by go_num,by go_num,?_,by omega,?_,?_⟩
        ·show _=_
         rw [HT.out,HL.out,List.length_append,← HJ.out]
        ·show BufAt _ _ _ _
         rw [HT.out,HL.out]
         have h4:=hg4.out
         rw [HJ.out] at h4
         exact BufAt.splice x.2 HRl.out (by have:=HJ.out;omega) h4
        ·exact hb4
       case measure=>simp [intOf];omega
     ·have HK2:=Lib.hid (b_take (s:=s) (k:=k) (by omega))
      have HCv:=Lib.hid (show _ from by have h1:=HBuf.out;rw [HK2.out] at h1;exact conv_buf h1 HN.out)
      have hcv:=HCv.out
      go_wp2
      go_ret
      exact ⟨rfl,HBel.out⟩
theorem method_of (d : Nat) (R : Nat) (w : World) : (method (d + 2) 285 (.pointer (some ⟨R, 0, none⟩)) "Replace").run Tryz.prog w = .ok (340, .pointer (some ⟨R, 0, none⟩)) w := by kernel_rfl
theorem new_parts {w0 w:World} {b:Nat} {strs:List Value} (h:IsNew w0 w b strs) (hp:0 < strs.length):∃ g cap,w.heap[b]? = some (.cells #[.int .u32 0,.int .i32 0,.int .u32 0,.nilIface,.slice (some ⟨g,0,none⟩) strs.length cap] 208 (0,0))∧g≠b∧
  (∀ (j:Nat) (u:Value),strs[j]? = some u→w.cell? ⟨g,j,none⟩=some u)∧w0.heap.size≤b:=by
 obtain ⟨hB,v,hb,hl,⟨_,h0⟩ | ⟨g,cap,cur,hv,hg,hh,hnc,hcm,hsz,htk⟩⟩:=h
 ·omega
 ·subst hv
  refine ⟨g,cap,hb,?_,?_,hB⟩
  ·intro e
   subst e
   rw [hb] at hh
   injection hh with hh
   injection hh with _ h2 _
   exact absurd h2 (by decide)
  ·intro j u hu
   rw [cell_of_row _ _ _ _ _ _ hh]
   rw [← htk,List.getElem?_take] at hu
   split at hu
   ·simpa using hu
   ·cases hu
theorem cells_new (w:World) (c:Array Value) (t:TypeId) (j:Nat) (u:Value) (h:c.toList[j]? = some u):(w.alloc (.cells c t)).cell? ((⟨w.heap.size,0,none⟩:Addr).add j)=some u:=by
 have hadd:(⟨w.heap.size,0,none⟩:Addr).add j=⟨w.heap.size,j,none⟩:=by unfold Addr.add;split <;> simp_all
 rw [hadd,cell_of_row _ _ _ _ _ _ (MapKept.heap_alloc w _).1]
 simpa using h
theorem pairs_one (l:List (UInt8 × List UInt8)):∀ u ∈ pairL l,u.oneCell' = true:=by
 induction l with
 | nil=>intro u hu;cases hu
 | cons x r ih=>
  obtain ⟨o,nw⟩:=x
  intro u hu
  simp only [pairL,List.mem_cons] at hu
  rcases hu with rfl|rfl|hu
  ·rfl
  ·rfl
  ·exact ih u hu
theorem first_same:Lib.firstData=Rows.laid_unicode_utf8_first:=by kernel_rfl
theorem accept_same:Lib.acceptData=Rows.laid_unicode_utf8_acceptRanges:=by kernel_rfl
theorem u8_laid {W : World} (hL : laidMet Tryz.prog (("unicode/utf8.acceptRanges", Rows.laid_unicode_utf8_acceptRanges) :: ("unicode/utf8.first", Rows.laid_unicode_utf8_first) :: []) W) : U8 W :=
 utf8Tabs_of_readsT (U8Types.of196 Tryz.lays196) ⟨by kernel_rfl,by kernel_rfl,by kernel_rfl,by kernel_rfl,by kernel_rfl,by kernel_rfl,by kernel_rfl⟩
  (first_same▸Lib.laidMet.reads hL (.tail _ (.head _))) (accept_same▸Lib.laidMet.reads hL (.head _))
set_option maxRecDepth 100000
def sumL {α:Type} (f:α→Int):List α→Int
 | []=>0
 | x :: r=>f x + sumL f r
theorem sumL_app {α:Type} (f:α→Int) (a b:List α):sumL f (a++b)=sumL f a + sumL f b:=by
 induction a with
 | nil=>simp [sumL]
 | cons x r ih=>simp only [List.cons_append,sumL,ih];omega
theorem sumL_rev {α:Type} (f:α→Int) (a:List α):sumL f a.reverse=sumL f a:=by
 induction a with
 | nil=>rfl
 | cons x r ih=>rw [List.reverse_cons,sumL_app,ih];simp only [sumL];omega
theorem sumL_add {α:Type} (f g:α→Int) (a:List α):sumL (fun x=>f x + g x) a=sumL f a + sumL g a:=by
 induction a with
 | nil=>rfl
 | cons x r ih=>simp only [sumL,ih];omega
theorem sumL_zero {α:Type} {f:α→Int} {a:List α} (h:∀ x ∈ a,f x=0):sumL f a=0:=by
 induction a with
 | nil=>rfl
 | cons x r ih=>simp only [sumL];rw [h x (by simp),ih (fun y hy=>h y (by simp [hy]))];rfl
theorem sumL_congr {α:Type} {f g:α→Int} {a:List α} (h:∀ x ∈ a,f x=g x):sumL f a=sumL g a:=by
 induction a with
 | nil=>rfl
 | cons x r ih=>simp only [sumL];rw [h x (by simp),ih (fun y hy=>h y (by simp [hy]))]
def gainOf (s:List UInt8) (x:UInt8 × List UInt8):Int:=(Lib.countByte s x.1:Int) * ((x.2.length:Int) - 1)
theorem pairs_apart {l:List (UInt8 × List UInt8)} (h:keysOk l):l.Pairwise (fun x y=>x.1≠y.1):=by
 rw [List.pairwise_iff_getElem]
 intro i j hi hj hij
 exact h i j _ _ hij (List.getElem?_eq_getElem hi) (List.getElem?_eq_getElem hj)
theorem gain_one (c:UInt8):∀ (l:List (UInt8 × List UInt8)),l.Pairwise (fun x y=>x.1≠y.1)→sumL (fun x=>if x.1=c then (x.2.length:Int) - 1 else 0) l=((replC l c).length:Int) - 1
 | [],_=>by simp [sumL,replC,pairOf]
 | x :: r,h=>by
  rw [List.pairwise_cons] at h
  simp only [sumL]
  by_cases hx:x.1=c
  ·subst hx
   have:sumL (fun y:UInt8 × List UInt8=>if y.1=x.1 then (y.2.length:Int) - 1 else 0) r=0:=sumL_zero (fun y hy=>if_neg (fun e=>h.1 y hy e.symm))
   rw [if_pos rfl,this]
   simp [replC,pairOf]
  ·have hn:(x.1.toNat == c.toNat)=false:=beq_eq_false_iff_ne.2 (fun e=>hx (UInt8.toNat_inj.1 e))
   have e:replC (x :: r) c=replC r c:=by
    unfold replC pairOf
    rw [List.find?_cons,hn]
   rw [if_neg hx,gain_one c r h.2,e]
   omega
theorem gain_all {l:List (UInt8 × List UInt8)} (h:l.Pairwise (fun x y=>x.1≠y.1)):∀ (s:List UInt8),sumL (gainOf s) l=((replL l s).length:Int) - (s.length:Int)
 | []=>by
  rw [sumL_zero (fun x _=>by simp [gainOf,Lib.countByte])]
  simp [replL]
 | c :: s=>by
  have e:∀ x ∈ l,gainOf (c :: s) x=(if x.1=c then (x.2.length:Int) - 1 else 0) + gainOf s x:=by
   intro x _
   unfold gainOf Lib.countByte
   rw [List.count_cons]
   by_cases hx:x.1=c
   ·subst hx
    simp only [beq_self_eq_true,if_true]
    rw [Int.natCast_add,Int.add_mul]
    simp
    omega
   ·have:(c == x.1)=false:=beq_eq_false_iff_ne.2 (fun e=>hx e.symm)
    rw [this,if_neg hx]
    simp
  rw [sumL_congr e,sumL_add,gain_one c l h,gain_all h s]
  unfold replL
  rw [List.flatMap_cons,List.length_append,List.length_cons]
  omega
theorem chg_all {l:List (UInt8 × List UInt8)} (s:List UInt8):(l.reverse.any fun x=>Lib.countByte s x.1 != 0)=chgB l s:=by
 rw [Bool.eq_iff_iff]
 unfold chgB
 rw [List.any_eq_true,List.any_eq_true]
 constructor
 ·rintro ⟨x,hx,hc⟩
  have hx2:x ∈ l:=List.mem_reverse.1 hx
  have hm:x.1 ∈ s:=by
   unfold Lib.countByte at hc
   rw [bne_iff_ne] at hc
   exact List.count_pos_iff.1 (by omega)
  refine ⟨x.1,hm,?_⟩
  unfold pairOf
  rw [List.find?_isSome]
  exact ⟨x,hx2,by simp⟩
 ·rintro ⟨c,hc,hp⟩
  unfold pairOf at hp
  rw [List.find?_isSome] at hp
  obtain ⟨x,hx,he⟩:=hp
  have e:x.1=c:=UInt8.toNat_inj.1 (by simpa using he)
  refine ⟨x,List.mem_reverse.2 hx,?_⟩
  rw [bne_iff_ne,e]
  unfold Lib.countByte
  have:=List.count_pos_iff.2 hc
  omega
theorem rep_keys {w:World} {B R:Nat} {l:List (UInt8 × List UInt8)} (h:Rep w B R l):∃ G,w.cell? ⟨R,256,none⟩=some (.slice (some ⟨G,0,none⟩) l.length l.length)∧∀ (k:Nat) (x:UInt8 × List UInt8),l.reverse[k]? = some x→w.cell? ⟨G,k,none⟩=some (.string ⟨#[x.1]⟩):=by
 obtain ⟨G,T,h1,h2,h3,h4,hown,_⟩:=h
 refine ⟨G,by rw [cell_of_row _ _ _ _ _ _ h1];exact h3,fun k x hx=>?_⟩
 obtain ⟨_,⟨h0,_⟩ | ⟨g',cap',cur,hv,_,hh,_,_,_,htk⟩⟩:=hown
 ·cases h0
 ·simp only [Value.slice.injEq,Option.some.injEq,Addr.mk.injEq,and_true,true_and] at hv
  obtain ⟨rfl,rfl⟩:=hv
  rw [cell_of_row _ _ _ _ _ _ hh]
  have hk:k < l.length:=by have:=(List.getElem?_eq_some_iff.1 hx).1;simpa using this
  have e:(oldL l)[k]? = some (.string ⟨#[x.1]⟩):=by
   unfold oldL
   rw [List.getElem?_map,hx]
   rfl
  rw [← htk,List.getElem?_take_of_lt (by omega)] at e
  simpa using e
theorem rep_key_cell {w:World} {B R:Nat} {l:List (UInt8 × List UInt8)} (h:Rep w B R l) (hk:keysOk l) {x:UInt8 × List UInt8} (hx:x ∈ l):∃ g cap,w.cell? ⟨R,x.1.toNat,none⟩=some (.slice (some ⟨g,0,none⟩) x.2.length cap):=by
 have hp:pairOf l x.1.toNat=some x:=by
  unfold pairOf
  have ha:=pairs_apart hk
  clear hk h
  induction l with
  | nil=>cases hx
  | cons y r ih=>
   rw [List.pairwise_cons] at ha
   rw [List.find?_cons]
   rcases List.mem_cons.1 hx with rfl|hx
   ·simp
   ·have hn:(y.1.toNat == x.1.toNat)=false:=beq_eq_false_iff_ne.2 (fun e=>ha.1 x hx (UInt8.toNat_inj.1 e))
    rw [hn]
    exact ih hx ha.2
 rcases rep_cell h x.1 with ⟨h1,_⟩ | ⟨y,g,cap,h1,h2,_⟩
 ·rw [hp] at h1;cases h1
 ·rw [hp] at h1
  cases h1
  exact ⟨g,cap,h2⟩
theorem gain_bd {s:ByteArray} {x:UInt8 × List UInt8} (h1:1≤x.2.length) (h2:x.2.length≤100):0≤gainOf s.data.toList x∧gainOf s.data.toList x≤100 * s.size:=by
 unfold gainOf
 have hc:Lib.countByte s.data.toList x.1≤s.size:=by
  unfold Lib.countByte
  have:=List.count_le_length (a:=x.1) (l:=s.data.toList)
  rw [size_list] at this
  exact this
 generalize Lib.countByte s.data.toList x.1=n at *
 obtain ⟨m,hm⟩:∃ m:Nat,(x.2.length:Int) - 1=m:=⟨x.2.length - 1,by omega⟩
 have hm2:m≤100:=by omega
 rw [hm]
 constructor
 ·exact Int.mul_nonneg (by omega) (by omega)
 ·have:n * m≤s.size * 100:=Nat.mul_le_mul hc hm2
  have h3:((n * m:Nat):Int)≤((s.size * 100:Nat):Int):=by omega
  rw [Int.natCast_mul,Int.natCast_mul] at h3
  omega
theorem gain_sum_bd {s:ByteArray} {l:List (UInt8 × List UInt8)} (h1:∀ x ∈ l,1≤x.2.length) (h2:∀ x ∈ l,x.2.length≤100):0≤sumL (gainOf s.data.toList) l∧sumL (gainOf s.data.toList) l≤100 * s.size * l.length:=by
 induction l with
 | nil=>simp [sumL]
 | cons x r ih=>
  have a:=gain_bd (s:=s) (h1 x (by simp)) (h2 x (by simp))
  have b:=ih (fun y hy=>h1 y (by simp [hy])) (fun y hy=>h2 y (by simp [hy]))
  simp only [sumL,List.length_cons]
  have:100 * (s.size:Int) * ((r.length + 1:Nat):Int)=100 * (s.size:Int) * (r.length:Int) + 100 * (s.size:Int):=by rw [Int.natCast_add,Int.mul_add];simp
  omega
theorem sumL_take {α:Type} (f:α→Int) {l:List α} {k:Nat} {x:α} (h:l[k]? = some x):sumL f (l.take (k + 1))=sumL f (l.take k) + f x:=by
 rw [List.take_add_one,h,sumL_app]
 simp [sumL]
set_option maxHeartbeats 2000000 in
theorem run_long (B R:Nat) (l:List (UInt8 × List UInt8)) (s:ByteArray) (w:World) (hrep:Rep w B R l) (hko:keysOk l) (h8:8 * l.length≤s.size) (hs:s.size≤1099511627776) (hl:l.length≤100) (hm:∀ x ∈ l,x.2.length≤100) (hp1:∀ x ∈ l,1≤x.2.length) :
  Calls Tryz.prog 340 #[.pointer (some ⟨R,0,none⟩),.string s] w fun e w'=>e = .returned (.string ⟨(replL l s.data.toList).toArray⟩)∧Below w.heap.size w w':=by
 obtain ⟨G,cG,hkeys⟩:=rep_keys hrep
 have HRep:=Lib.hid hrep
 have HM:=Lib.hid hm
 have HKo:=Lib.hid hko
 have hneq:=fun W a n c=>Go.run_neq_slice_nil (P:=Tryz.prog) W 53 5 a n c Tryz.underlying53
 have HP1:=Lib.hid hp1
 have HKeys:=Lib.hid hkeys
 obtain ⟨i0,hi,hz0,hz1,hz2⟩:=info_parts u_info
 have h8i:(l.length:Int) * 8≤(s.size:Int):=by omega
 clear hrep hm hp1 hko hkeys
 go_enter Tryz.func340,Tryz.ntmps340
 go_wp2
 go_loopw [5,6,8,9,32] (fun nv av _ _ kv wr=>∃ k:Nat,k≤l.length∧kv = .int .i64 k∧av = .bool ((l.reverse.take k).any fun x=>Lib.countByte s.data.toList x.1 != 0)∧Hid (Below w.heap.size w wr)∧∃ q:Int,nv = .int .i64 q∧Hid (q=(s.size:Int) + sumL (gainOf s.data.toList) (l.reverse.take k))∧0≤q∧q≤1000000000000000000) (fun _ _ _ _ kv _=>l.length - (intOf kv).toNat)
 case atStart=>exact ⟨0,by omega,rfl,rfl,Below.refl _ _,_,rfl,(show (s.size:Int)=_ by simp [sumL]),by omega,by omega⟩
 case round=>
  obtain ⟨k,hk,rfl,rfl,HBel,q,rfl,HQ,hq0,hq1⟩:=hrel
  by_cases hlt:k < l.length
  ·obtain ⟨x,hx⟩:∃ x,l.reverse[k]? = some x:=⟨_,List.getElem?_eq_getElem (by simpa using hlt)⟩
   have hxm:x ∈ l:=List.mem_reverse.1 (List.mem_of_getElem? hx)
   have ckey:wr.cell? ⟨G,k,none⟩=some (.string ⟨#[x.1]⟩):=by
    obtain ⟨G',c',hk'⟩:=rep_keys (HRep.out.below HBel.out)
    have hG:G' = G:=by
     have h1:=HBel.out.cell (p:=⟨R,256,none⟩) (by have:=HRep.out;obtain ⟨_,_,h,_⟩:=this;exact block_lt h)
     rw [h1,cG] at c'
     simp only [Option.some.injEq,Value.slice.injEq,Addr.mk.injEq,and_true] at c'
     exact c'.symm
    rw [hG] at hk'
    exact hk' k x hx
   have cG2:wr.cell? ⟨R,256,none⟩=some (.slice (some ⟨G,0,none⟩) l.length l.length):=by
    rw [HBel.out.cell (p:=⟨R,256,none⟩) (by have:=HRep.out;obtain ⟨_,_,h,_⟩:=this;exact block_lt h)]
    exact cG
   obtain ⟨g,cap,cx⟩:=rep_key_cell (HRep.out.below HBel.out) HKo.out hxm
   have hx1:=HP1.out x hxm
   have hx2:=HM.out x hxm
   have hgb:=gain_bd (s:=s) hx1 hx2
   have HAny:=Lib.hid (show ((l.reverse.take (k + 1)).any fun x=>Lib.countByte s.data.toList x.1 != 0)=(((l.reverse.take k).any fun x=>Lib.countByte s.data.toList x.1 != 0) || (Lib.countByte s.data.toList x.1 != 0)) by rw [List.take_add_one,hx];simp)
   have HSum:=Lib.hid (sumL_take (gainOf s.data.toList) hx)
   have hbd:=gain_sum_bd (s:=s) (l:=l.reverse.take (k + 1)) (fun y hy=>HP1.out y (List.mem_reverse.1 (List.mem_of_mem_take hy))) (fun y hy=>HM.out y (List.mem_reverse.1 (List.mem_of_mem_take hy)))
   have hq2:q + gainOf s.data.toList x≤1000000000000000000:=by
    have h1:=HQ.out
    have h2:=HSum.out
    have h3:((l.reverse.take (k + 1)).length:Int)≤100:=by have:=List.length_take_le (k + 1) l.reverse;simp at this;simp;omega
    have h4:100 * (s.size:Int) * ((l.reverse.take (k + 1)).length:Int)≤100 * (s.size:Int) * 100:=Int.mul_le_mul_of_nonneg_left h3 (by omega)
    omega
   clear hx hxm hbd
   go_wp2_with fail
   refine (Tryz.strings_Count_one s x.1 wr).mono ?_
   rintro e w' ⟨rfl,rfl⟩
   obtain ⟨cn,hcn⟩:∃ cn,Lib.countByte s.data.toList x.1=cn:=⟨_,rfl⟩
   have HCn:=Lib.hid hcn
   rw [hcn]
   have hg2:gainOf s.data.toList x=(cn:Int) * ((x.2.length:Int) - 1):=by unfold gainOf;rw [hcn]
   obtain ⟨gn,hgn⟩:∃ gn,gainOf s.data.toList x=gn:=⟨_,rfl⟩
   have HGn:=Lib.hid hgn
   rw [hgn] at hg2 hq2 hgb
   obtain ⟨hgb1,hgb2⟩:=hgb
   have HG2:=Lib.hid hg2
   clear hcn hgn hg2
   by_cases hc0:cn=0
   ·have b0:((cn:Int) != 0)=false:=by rw [hc0];rfl
    have HC0:=Lib.hid hc0
    clear hc0
    go_wp2
    go_roundw
    case rel=>
     refine ⟨k + 1,by omega,by go_num,?_,HBel,q,rfl,?_,hq0,hq1⟩
     ·rw [HAny.out,HCn.out,HC0.out];simp
     ·show q=_
      have h1:=HQ.out
      have h3:=HG2.out
      rw [HC0.out] at h3
      rw [HSum.out,HGn.out]
      simp at h3
      omega
    case measure=>simp [intOf];omega
   ·have b0:((cn:Int) != 0)=true:=by rw [bne_iff_ne];omega
    have HC0:=Lib.hid hc0
    have hcs:(cn:Int)≤1099511627776:=by
     have h1:=HCn.out
     unfold Lib.countByte at h1
     have h2:=List.count_le_length (a:=x.1) (l:=s.data.toList)
     rw [size_list] at h2
     omega
    clear hc0
    go_wp2
    have q1:IntKind.i64.wrap ((x.2.length:Int) - 1)=(x.2.length:Int) - 1:=IntWalk.i64_in _ (by omega)
    have q2:IntKind.i64.wrap ((cn:Int) * ((x.2.length:Int) - 1))=gn:=by rw [← HG2.out];exact IntWalk.i64_in _ (by omega)
    have q3:IntKind.i64.wrap (q + gn)=q + gn:=IntWalk.i64_in _ (by omega)
    have hbx:=x.1.toNat_lt
    have hbx2:((x.1.toNat:Nat):Int) < 256:=by omega
    have hix:∀ W:World,(Instr.index 9 (.string ⟨#[x.1]⟩) (.int .i64 0)).run Tryz.prog W = .ok (.int .u8 x.1.toNat) W:=fun W=>by kernel_rfl
    go_quiet (fail)
    clear q1 q2 q3
    go_wp2
    go_roundw
    case rel=>
     refine ⟨k + 1,by omega,by go_num,?_,below_dn HBel.out _,_,rfl,?_,by omega,hq2⟩
     ·have:(cn != 0)=true:=by rw [bne_iff_ne];exact HC0.out
      rw [HAny.out,HCn.out,this];simp
     ·show _=_
      have h1:=HQ.out
      rw [HSum.out,HGn.out]
      omega
    case measure=>simp [intOf];omega
  ·have hkl:k=l.length:=by omega
   have HK:=Lib.hid (show ((l.reverse.take k).any fun x=>Lib.countByte s.data.toList x.1 != 0)=chgB l s.data.toList by
    rw [List.take_of_length_le (by simp;omega)];exact chg_all _)
   have HQN:=Lib.hid (show q=((replL l s.data.toList).length:Int) by
    have h1:=HQ.out
    have h2:=gain_all (pairs_apart HKo.out) s.data.toList
    rw [List.take_of_length_le (by simp;omega),sumL_rev,h2,size_list] at h1
    omega)
   have HRepO:=Lib.hid (HRep.out.below HBel.out)
   have HOut:=HBel
   obtain ⟨wo,rfl⟩:∃ wo:World,wo=wr:=⟨_,rfl⟩
   have hNb:=replL_len (m:=100) (by omega) HM.out s.data.toList
   rw [size_list] at hNb
   clear HBel
   cases hch:chgB l s.data.toList
   ·have HR:=Lib.hid (replL_same hch)
    rw [HK.out,hch]
    go_wp2
    go_ret
    exact ⟨by rw [HR.out,Lib.mk_data];rfl,HOut.out⟩
   ·rw [HK.out,hch]
    obtain ⟨N,hN⟩:∃ N,(replL l s.data.toList).length=N:=⟨_,rfl⟩
    have hqN:q=(N:Int):=by have:=HQN.out;rw [hN] at this;exact this
    subst hqN
    have HN:=Lib.hid hN
    have K1:=Lib.hid (show i0.bytes * N≤281474976710656 by rw [hz2];omega)
    have K2:=Lib.hid (show N≤maxLen by unfold maxLen;omega)
    clear hN hch HQ HQN hkl
    go_wp2_with (at_make;refine wpList_make_full _ rfl _ _ 53 rfl wo.heap.size 5 i0 (.int .u8 0) 1 Tryz.underlying53 hi hz0 hz1 .i64 .i64 _ _ N rfl rfl rfl rfl K1.out K2.out (Nat.le_refl _) ?_;intro w1 hown1 hgrow1)
    have hb1:Below wo.heap.size wo w1:=(Below.refl _ wo).grown hgrow1 (Nat.le_refl _) (fun _ h=>by cases h)
    have hbuf0:BufAt w1 wo.heap.size N []:=by
     obtain ⟨_,⟨h0,_⟩ | ⟨g,cap,cur,hv,hgB,hh,hnc,hcm,hsz,htk⟩⟩:=hown1
     ·cases h0
     ·simp only [Value.slice.injEq,Option.some.injEq,Addr.mk.injEq,and_true] at hv
      obtain ⟨rfl,_,rfl⟩:=hv
      exact ⟨cur.toList,by simpa using hh,by simpa using hsz⟩
    have HB1:=Lib.hid hb1
    have HBuf0:=Lib.hid hbuf0
    clear hown1 hgrow1 hb1 hbuf0
    go_loopw [13,14] (fun jv iv wr=>∃ k j:Nat,k≤s.size∧iv = .int .i64 k∧jv = .int .i64 j∧Hid (j=(replL l (s.data.toList.take k)).length)∧j≤N∧Hid (BufAt wr wo.heap.size N (replL l (s.data.toList.take k)))∧Hid (Below wo.heap.size wo wr)) (fun _ iv _=>s.size - (intOf iv).toNat)
    case atStart=>exact ⟨0,0,by omega,rfl,rfl,rfl,by omega,HBuf0,HB1⟩
    case round=>
     clear hlt hk HB1 HBuf0
     obtain ⟨k,j,hk,rfl,rfl,HJ,hjN,HBuf,HBel⟩:=hrel
     by_cases hlt:k < s.size
     ·have hb:=b_at hlt
      have HT:=Lib.hid (replL_take (l:=l) hb)
      have hbx:=s[k].toNat_lt
      have htot:(replL l (s.data.toList.take (k + 1))).length≤N:=by
       have h1:=replL_app (l:=l) (s.data.toList.take (k + 1)) (s.data.toList.drop (k + 1))
       rw [List.take_append_drop] at h1
       have h2:=HN.out
       rw [h1,List.length_append] at h2
       omega
      clear hb
      rcases rep_cell (HRepO.out.below HBel.out) s[k] with ⟨hp,hc⟩ | ⟨x,g,cap,hp,hc,hg,he⟩
      ·have hL:replC l s[k]=[s[k]]:=by unfold replC;rw [hp]
       have hjl:j < N:=by rw [HT.out,hL,List.length_append,List.length_singleton] at htot;have:=HJ.out;omega
       have HL:=Lib.hid hL
       obtain ⟨⟨r0,hr0⟩,hz⟩:=HBuf.out.cell (by have:=HJ.out;omega)
       have hput:=HBuf.out.put (by have:=HJ.out;omega) s[k]
       rw [← HJ.out] at hr0 hz hput
       have HPut:=Lib.hid hput
       clear hL hp hput htot
       go_wp2
       go_roundw
       case rel=>
        refine ⟨k + 1,j + 1,by omega,by go_num,by go_num,?_,by omega,?_,?_⟩
        ·show _=_
         rw [HT.out,HL.out,List.length_append,← HJ.out]
         rfl
        ·show BufAt _ _ _ _
         rw [HT.out,HL.out]
         exact HPut.out
        ·exact Below.setCell (p:=⟨wo.heap.size,j,none⟩) HBel.out (Nat.le_refl _) _
       case measure=>simp [intOf];omega
      ·have hL:replC l s[k]=x.2:=by unfold replC;rw [hp]
       have hx1:1≤x.2.length:=HP1.out x (List.mem_of_find?_eq_some hp)
       have hjx:j + x.2.length≤N:=by rw [HT.out,hL,List.length_append] at htot;have:=HJ.out;omega
       have HL:=Lib.hid hL
       obtain ⟨rest,hre,hrl⟩:=HBuf.out
       have HRe:=Lib.hid hre
       have HRl:=Lib.hid hrl
       have hj1:(j:Int)≤(N:Int):=by omega
       have hj2:(j:Int) < (N:Int):=by omega
       have hbi:((s[k].toNat:Nat):Int) < 256:=by omega
       have S1:=Lib.hid (show (Tryz.prog.info? 5).map (·.size)=some 1 by rw [hi,Option.map_some,hz1])
       have S2:=Lib.hid (show (x.2.map bv).length=Nat.min x.2.length (N - j) by rw [List.length_map];exact (Nat.min_eq_left (by omega)).symm)
       have S3:=Lib.hid (show ∀ (i:Nat) (v:Value),(x.2.map bv)[i]? = some v→wr.drew.cell? ((⟨g,0,none⟩:Addr).add i)=some v from fun i v hv=>by
        have hadd:(⟨g,0,none⟩:Addr).add i=⟨g,i,none⟩:=by unfold Addr.add;split <;> simp_all
        rw [hadd]
        rw [List.getElem?_map] at hv
        cases hu:x.2[i]? with
        | none=>rw [hu] at hv;cases hv
        | some u=>
         rw [hu] at hv
         simp only [Option.map_some,Option.some.injEq] at hv
         subst hv
         exact he i u hu)
       have hNj:¬ N=j:=by omega
       have S4:=Lib.hid (show j + (x.2.map bv).length≤((replL l (s.data.toList.take k)).map bv++rest).length by
        have h1:=HJ.out
        rw [List.length_map,List.length_append,List.length_map];omega)
       have S5:=Lib.hid (show ∀ v ∈ x.2.map bv,v.oneCell' = true by
        intro v hv
        obtain ⟨u,_,rfl⟩:=List.mem_map.1 hv
        rfl)
       clear hL hp he hre hrl htot
       go_wp2
       go_region_law (refine step_copy_splice rfl (.tmp 105) (.tmp 111) 53 53 rfl 5 Tryz.underlying53 S1.out (some ⟨wo.heap.size,j,none⟩) (some ⟨g,0,none⟩) (N - j) (N - j) x.2.length cap (by simp [Act.eval]) (by simp [Act.eval]) wo.heap.size j _ 5 HRe.out (x.2.map bv) S2.out (fun _=>⟨rfl,⟨g,0,none⟩,rfl,S3.out⟩) S4.out S5.out wo.heap.size wo HBel.out.drew (Nat.le_refl _) ?_;intro w4 hg4 hb4)
       go_wp2
       go_roundw
       case rel=>
        refine ⟨k + 1,j + x.2.length,by omega,by go_num,by go_num,?_,by omega,?_,?_⟩
        ·show _=_
         rw [HT.out,HL.out,List.length_append,← HJ.out]
        ·show BufAt _ _ _ _
         rw [HT.out,HL.out]
         have h4:=hg4.out
         rw [HJ.out] at h4
         exact BufAt.splice x.2 HRl.out (by have:=HJ.out;omega) h4
        ·exact hb4
       case measure=>simp [intOf];omega
     ·have HK2:=Lib.hid (b_take (s:=s) (k:=k) (by omega))
      have HCv:=Lib.hid (show _ from by have h1:=HBuf.out;rw [HK2.out] at h1;exact conv_buf h1 HN.out)
      have hcv:=HCv.out
      go_wp2
      go_ret
      exact ⟨rfl,HOut.out.trans (HBel.out.mono HOut.out.size)⟩
theorem rlrun_any (B R:Nat) (l:List (UInt8 × List UInt8)) (s:ByteArray) (w:World) (hrep:Rep w B R l) (hko:keysOk l) (hs:s.size≤1099511627776) (hl:l.length≤100) (hm:∀ x ∈ l,x.2.length≤100) (hp1:∀ x ∈ l,1≤x.2.length) :
  Calls Tryz.prog 340 #[.pointer (some ⟨R,0,none⟩),.string s] w fun e w'=>e = .returned (.string ⟨(replL l s.data.toList).toArray⟩)∧Below w.heap.size w w':=by
 by_cases h8:s.size < 8 * l.length
 ·exact run_short B R l s w hrep h8 hl hm hp1
 ·exact run_long B R l s w hrep hko (by omega) hs hl hm hp1
def quoL:List (UInt8 × List UInt8):=[(34,[92,34]),(92,[92,92]),(10,[92,110]),(13,[92,114]),(9,[92,116])]
def quotedL (l:List UInt8):List UInt8:=34 :: (replL quoL l++[34])
def escD (c:UInt8):Option UInt8:=if c=34∨c=92 then some c else if c=110 then some 10 else if c=114 then some 13 else if c=116 then some 9 else none
def stopB (c:UInt8):Bool:=c == 34 || c == 9 || c == 10 || c == 13
def unqL:Nat→List UInt8→Option (List UInt8)
 | 0,_=>some []
 | f + 1,l=>match l with
  | []=>some []
  | c :: r=>if stopB c then none else if c=92 then (match r with
    | []=>none
    | d :: r'=>match escD d with
     | none=>none
     | some b=>(unqL f r').map (b :: ·))
   else (unqL f r).map (c :: ·)
def unq (l:List UInt8):Option (List UInt8):=unqL l.length l
theorem unqL_more:∀ (f g:Nat) (l:List UInt8),l.length≤f→l.length≤g→unqL f l=unqL g l
 | 0,0,_,_,_=>rfl
 | 0,g + 1,l,hf,_=>by
  have:l=[]:=List.eq_nil_of_length_eq_zero (by omega)
  subst this;rfl
 | f + 1,0,l,_,hg=>by
  have:l=[]:=List.eq_nil_of_length_eq_zero (by omega)
  subst this;rfl
 | f + 1,g + 1,[],_,_=>rfl
 | f + 1,g + 1,c :: r,hf,hg=>by
  have h1:r.length≤f:=by simpa using hf
  have h2:r.length≤g:=by simpa using hg
  unfold unqL
  simp only
  rw [unqL_more f g r h1 h2]
  cases r with
  | nil=>rfl
  | cons d r'=>
   have h3:r'.length≤f:=by simp at h1;omega
   have h4:r'.length≤g:=by simp at h2;omega
   simp only
   rw [unqL_more f g r' h3 h4]
theorem unq_nil:unq []=some []:=rfl
theorem unq_stop {c:UInt8} {r:List UInt8} (h:stopB c=true):unq (c :: r)=none:=by
 show (if stopB c=true then none else _)=none
 rw [if_pos h]
theorem unq_plain {c:UInt8} {r:List UInt8} (h:stopB c=false) (h2:c≠92):unq (c :: r)=(unq r).map (c :: ·):=by
 show (if stopB c=true then none else if c=92 then _ else (unqL r.length r).map (c :: ·))=_
 rw [if_neg (by rw [h];decide),if_neg h2]
 rfl
theorem unq_end:unq [92]=none:=rfl
theorem unq_esc_none {d:UInt8} {r:List UInt8} (h:escD d=none):unq (92 :: d :: r)=none:=by
 show (match escD d with|none=>none|some b=>(unqL (r.length + 1) r).map (b :: ·))=none
 rw [h]
theorem unq_esc {d b:UInt8} {r:List UInt8} (h:escD d=some b):unq (92 :: d :: r)=(unq r).map (b :: ·):=by
 show (match escD d with|none=>none|some b=>(unqL (r.length + 1) r).map (b :: ·))=_
 rw [h]
 show (unqL (r.length + 1) r).map (b :: ·)=_
 rw [unqL_more (r.length + 1) r.length r (by omega) (Nat.le_refl _)]
 rfl
theorem replQ_cases (c:UInt8):(c=34∧replC quoL c=[92,34])∨(c=92∧replC quoL c=[92,92])∨(c=10∧replC quoL c=[92,110])∨(c=13∧replC quoL c=[92,114])∨(c=9∧replC quoL c=[92,116])∨
  (stopB c=false∧c≠92∧replC quoL c=[c]):=by
 by_cases h1:c=34
 ·subst h1;exact .inl ⟨rfl,rfl⟩
 by_cases h2:c=92
 ·subst h2;exact .inr (.inl ⟨rfl,rfl⟩)
 by_cases h3:c=10
 ·subst h3;exact .inr (.inr (.inl ⟨rfl,rfl⟩))
 by_cases h4:c=13
 ·subst h4;exact .inr (.inr (.inr (.inl ⟨rfl,rfl⟩)))
 by_cases h5:c=9
 ·subst h5;exact .inr (.inr (.inr (.inr (.inl ⟨rfl,rfl⟩))))
 refine .inr (.inr (.inr (.inr (.inr ⟨by unfold stopB;simp [h1,h3,h4,h5],h2,?_⟩))))
 unfold replC pairOf quoL
 have n1:¬ 34=c.toNat:=fun e=>h1 (UInt8.toNat_inj.1 (by rw [← e];rfl))
 have n2:¬ 92=c.toNat:=fun e=>h2 (UInt8.toNat_inj.1 (by rw [← e];rfl))
 have n3:¬ 10=c.toNat:=fun e=>h3 (UInt8.toNat_inj.1 (by rw [← e];rfl))
 have n4:¬ 13=c.toNat:=fun e=>h4 (UInt8.toNat_inj.1 (by rw [← e];rfl))
 have n5:¬ 9=c.toNat:=fun e=>h5 (UInt8.toNat_inj.1 (by rw [← e];rfl))
 simp [n1,n2,n3,n4,n5]
set_option maxHeartbeats 2000000 in
theorem replace_any (b g cap n:Nat) (d2:Value) (l:List (UInt8 × List UInt8)) (s:ByteArray) (w:World) (n1:2 * l.length≤n) (n2:n≤2 * l.length) (hl:2≤l.length) (h8:l.length≤100) (hgb:g≠b)
  (hb:w.heap[b]? = some (.cells #[.int .u32 0,.int .i32 0,d2,.nilIface,.slice (some ⟨g,0,none⟩) n cap] 208 (0,0)))
  (ho:∀ (j:Nat) (u:Value),(pairL l)[j]? = some u→w.cell? ⟨g,j,none⟩=some u) (h1:oneB l=false) (hk:keysOk l)
  (hs:s.size≤1099511627776) (hm:∀ x ∈ l,x.2.length≤100) (hp1:∀ x ∈ l,1≤x.2.length) :
  Calls Tryz.prog 107 #[.pointer (some ⟨b,0,none⟩),.string s] w fun e w'=>e = .returned (.string ⟨(replL l s.data.toList).toArray⟩)∧Below b w w':=by
 have HD:=Lib.hid (do_any b g cap n d2 l w n1 n2 hl h8 hgb hb ho h1 hk)
 have hmf:∀ (fn:Fn) (first cap:Array Value) (w:World),(Instr.makeFunc fn first cap).run Tryz.prog w = .ok (.func fn first cap) w:=fun _ _ _ _=>rfl
 have hbl:=block_lt hb
 have HM:=Lib.hid hm
 have HK:=Lib.hid hk
 have HP1:=Lib.hid hp1
 clear hb ho h1 hk hm hp1
 go_enter Tryz.func107,Tryz.ntmps107
 go_wp2_with fail
 refine HD.out.mono ?_
 rintro e w1 ⟨R,rfl,hrep,hbel,hbR⟩
 have c3:w1.cell? ⟨b,3,none⟩=some (.iface 285 (.pointer (some ⟨R,0,none⟩))):=by rw [cell_of_row _ _ _ _ _ _ hbR];rfl
 have HR:=Lib.hid hrep
 have HBel:=Lib.hid hbel
 clear hrep hbel hbR
 have hmeth:=method_of
 go_wp2_with fail
 refine (rlrun_any w.heap.size R l s _ HR.out HK.out hs h8 HM.out HP1.out).mono ?_
 rintro e w2 ⟨rfl,hb2⟩
 go_wp2
 go_ret
 exact ⟨rfl,HBel.out.trans (hb2.mono (by have:=HBel.out.size;omega))⟩
theorem quo_keys:keysOk quoL:=by
 intro i j x y hij hx hy
 have hj:j < 5:=(List.getElem?_eq_some_iff.1 hy).1
 have hc:(i=0∧j=1)∨(i=0∧j=2)∨(i=0∧j=3)∨(i=0∧j=4)∨(i=1∧j=2)∨(i=1∧j=3)∨(i=1∧j=4)∨(i=2∧j=3)∨(i=2∧j=4)∨(i=3∧j=4):=by omega
 rcases hc with ⟨rfl,rfl⟩ | ⟨rfl,rfl⟩ | ⟨rfl,rfl⟩ | ⟨rfl,rfl⟩ | ⟨rfl,rfl⟩ | ⟨rfl,rfl⟩ | ⟨rfl,rfl⟩ | ⟨rfl,rfl⟩ | ⟨rfl,rfl⟩ | ⟨rfl,rfl⟩ <;> (simp [quoL] at hx hy;subst hx hy;decide)
theorem quo_len (l:List UInt8):(replL quoL l).length≤2 * l.length:=replL_len (m:=2) (by omega) (by intro x hx;simp [quoL] at hx;rcases hx with rfl|rfl|rfl|rfl|rfl <;> simp) l
def quoteV (s:ByteArray):Value:=match chars s.data.toList with
 | some _=>.tuple #[.string ⟨(quotedL s.data.toList).toArray⟩,.int .i64 0]
 | none=>.tuple #[.string ⟨#[]⟩,.int .i64 2]
theorem quoteV_some {s:ByteArray} {cs:List Nat} (h:chars s.data.toList=some cs):quoteV s = .tuple #[.string ⟨(quotedL s.data.toList).toArray⟩,.int .i64 0]:=by unfold quoteV;rw [h]
theorem quoteV_none {s:ByteArray} (h:chars s.data.toList=none):quoteV s = .tuple #[.string ⟨#[]⟩,.int .i64 2]:=by unfold quoteV;rw [h]
set_option maxHeartbeats 2000000 in
theorem quote_any (s:ByteArray) (w:World) (hT:U8 w) (hs:s.size≤1099511627776) :
  Calls Tryz.prog 48 #[.string s] w fun e w'=>e = .returned (quoteV s)∧Below w.heap.size w w':=by
 have HC:=Lib.hid (valid_any s w (by omega) hT)
 cases hc:chars s.data.toList with
 | none=>
  have HT:=Lib.hid (text_of_none hc)
  have HV:=Lib.hid (quoteV_none hc)
  clear hc
  go_enter Tryz.func48,Tryz.ntmps48
  go_wp2_with fail
  refine HC.out.mono ?_
  rintro e w1 ⟨rfl,hb⟩
  rw [HT.out]
  go_wp2
  go_ret2
  exact ⟨(congrArg Ending.returned HV.out).symm,hb⟩
 | some cs=>
  have HT:=Lib.hid (text_of_some hc)
  have HV:=Lib.hid (quoteV_some hc)
  clear hc
  obtain ⟨R,hR⟩:∃ R:ByteArray,R=⟨(replL quoL s.data.toList).toArray⟩:=⟨_,rfl⟩
  have hRs:R.size≤2 * s.size:=by
   have:=quo_len s.data.toList
   rw [size_list] at this
   rw [hR,mk_size]
   exact this
  have HR:=Lib.hid hR
  have hQ:(⟨#[34]⟩++R)++⟨#[34]⟩=(⟨(quotedL s.data.toList).toArray⟩:ByteArray):=by
   apply ba_eq
   rw [ByteArray.data_append,Array.toList_append,ByteArray.data_append,Array.toList_append,hR]
   simp [quotedL]
  have HQ:=Lib.hid hQ
  clear hR hQ
  go_enter Tryz.func48,Tryz.ntmps48
  go_wp2_with fail
  refine HC.out.mono ?_
  rintro e w1 ⟨rfl,hb1⟩
  rw [HT.out]
  go_wp2_with fail
  refine (new_any w1.heap.size 10 (pairL quoL) _ rfl (by decide) (by omega) (by omega) (fun j u hu=>cells_new w1 _ _ j u hu) (pairs_one quoL)).mono ?_
  rintro e w2 ⟨b,rfl,hnew,hb2⟩
  obtain ⟨g,cap,hbk,hgb,hcells,hBb⟩:=new_parts hnew (by decide)
  have HRp:=Lib.hid (replace_any b g cap 10 (.int .u32 0) quoL s w2 (by decide) (by decide) (by decide) (by decide) hgb hbk hcells (by decide) quo_keys hs (by decide) (by decide))
  have HBb:=Lib.hid hBb
  have HB2:=Lib.hid hb2
  have HB1:=Lib.hid hb1
  clear hnew hbk hgb hcells hBb hb2 hb1
  have hadd1:=fun W=>run_string_add_sum (P:=Tryz.prog) W ⟨#[34]⟩ R (by have:(⟨#[34]⟩:ByteArray).size=1:=rfl;omega)
  have hadd2:=fun W=>run_string_add_sum (P:=Tryz.prog) W (⟨#[34]⟩++R) ⟨#[34]⟩ (by rw [ByteArray.size_append];have:(⟨#[34]⟩:ByteArray).size=1:=rfl;omega)
  go_wp2_with fail
  refine HRp.out.mono ?_
  rintro e w3 ⟨rfl,hb3⟩
  rw [← HR.out]
  go_wp2
  go_ret2
  have hs1:=HB1.out.size
  have ha:=HB1.out.alloc hs1 (.cells #[.string ⟨#[34]⟩,.string ⟨#[92,34]⟩,.string ⟨#[92]⟩,.string ⟨#[92,92]⟩,.string ⟨#[10]⟩,.string ⟨#[92,110]⟩,.string ⟨#[13]⟩,.string ⟨#[92,114]⟩,.string ⟨#[9]⟩,.string ⟨#[92,116]⟩] 9)
  have hs0:=ha.size
  refine ⟨?_,(ha.trans (HB2.out.mono hs0)).trans (hb3.mono (Nat.le_trans hs0 HBb.out))⟩
  rw [HV.out,← HQ.out]
  rfl
set_option maxHeartbeats 2000000 in
theorem rquoted_any (s:ByteArray) (w:World) (hs:s.size≤1099511627776) :
  Calls Tryz.prog 43 #[.string s] w fun e w'=>e = .returned (.string ⟨(quotedL s.data.toList).toArray⟩)∧Below w.heap.size w w':=by
 obtain ⟨i0,hi,hz0,hz1,hz2⟩:=info_parts u_info
 have HLit:=Lib.hid (own_lit w 5 [.int .u8 34] (by unfold maxLen;simp))
 go_enter Tryz.func43,Tryz.ntmps43
 go_wp2
 go_loopw [3,4] (fun v iv wr=>∃ (k:Nat) (l:List UInt8),k≤s.size∧iv = .int .i64 k∧Hid (l=34 :: replL quoL (s.data.toList.take k))∧l.length≤2 * k + 1∧Hid (wr.ownsRow w.heap.size 5 1 v l.length (l.map b8))∧Hid (Below w.heap.size w wr)) (fun _ iv _=>s.size - (intOf iv).toNat)
 case atStart=>exact ⟨0,[34],by omega,rfl,(show [34]=_ from rfl),by simp,HLit,(Below.refl _ w).alloc (Nat.le_refl _) _⟩
 case round=>
  obtain ⟨k,l,hk,rfl,HL,hll,HO,HB⟩:=hrel
  by_cases hlt:k < s.size
  ·have HT:=Lib.hid (replL_take (l:=quoL) (b_at hlt))
   have hbx:=s[k].toNat_lt
   have hszs:=HB.out.size
   have K3:=Lib.hid (show l.length + 2≤maxLen by unfold maxLen;omega)
   have K4:=Lib.hid (show (l.length + 2) * 1≤140737488355328 by omega)
   have K5:=Lib.hid (show ∀ o,w.heap.size≤(wr.alloc o).heap.size from fun o=>by simp;omega)
   rcases replQ_cases s[k] with ⟨hc,hr⟩ | ⟨hc,hr⟩ | ⟨hc,hr⟩ | ⟨hc,hr⟩ | ⟨hc,hr⟩ | ⟨hs1,hs2,hr⟩
   ·have hx:s[k].toNat=34:=by rw [hc];rfl
    have HNw:=Lib.hid (show [92,34].map b8=[.int .u8 92,.int .u8 s[k].toNat] by simp [b8,hx])
    clear hc
    have d34:(((s[k].toNat:Nat):Int) == 34)=true:=beq_iff_eq.2 (by omega)
    have d92:(((s[k].toNat:Nat):Int) == 92)=false:=beq_eq_false_iff_ne.2 (by omega)
    have d10:(((s[k].toNat:Nat):Int) == 10)=false:=beq_eq_false_iff_ne.2 (by omega)
    have d13:(((s[k].toNat:Nat):Int) == 13)=false:=beq_eq_false_iff_ne.2 (by omega)
    have d9:(((s[k].toNat:Nat):Int) == 9)=false:=beq_eq_false_iff_ne.2 (by omega)
    have HR:=Lib.hid hr
    clear hr hx
    go_wp2_with (at_builtin;refine wpList_append_own _ rfl _ _ 53 rfl w.heap.size 5 i0 (.int .u8 0) 1 1 Tryz.underlying53 hi hz0 hz1 hz2 rfl (by decide) _ _ _ rfl (HO.out.alloc _) ⟨wr.heap.size,0,none⟩ 2 2 [.int .u8 92,.int .u8 s[k].toNat] rfl rfl (lit_cells _ _ _) (by intro u hu;simp at hu;rcases hu with rfl|rfl <;> rfl) K3.out K4.out (K5.out _) ?_;intro v' w1 hown1 hgrow1 hnil1)
    have hb1:=below_own (HB.out.alloc hszs _) (K5.out _) (HO.out.alloc _) hgrow1
    have HOwn:=Lib.hid (show w1.ownsRow w.heap.size 5 1 v' (l++[92,34]).length ((l++[92,34]).map b8) by
     rw [List.length_append,List.map_append,HNw.out]
     exact hown1)
    have HB1:=Lib.hid hb1
    clear hown1 hgrow1 hnil1 hb1
    go_wp2
    go_roundw
    case rel=>exact ⟨k + 1,l++[92,34],by omega,by go_num,(show _=_ by rw [HT.out,HR.out,HL.out];rfl),by rw [List.length_append];simp;omega,HOwn,HB1⟩
    case measure=>simp [intOf];omega
   ·have hx:s[k].toNat=92:=by rw [hc];rfl
    have HNw:=Lib.hid (show [92,92].map b8=[.int .u8 92,.int .u8 s[k].toNat] by simp [b8,hx])
    clear hc
    have d34:(((s[k].toNat:Nat):Int) == 34)=false:=beq_eq_false_iff_ne.2 (by omega)
    have d92:(((s[k].toNat:Nat):Int) == 92)=true:=beq_iff_eq.2 (by omega)
    have d10:(((s[k].toNat:Nat):Int) == 10)=false:=beq_eq_false_iff_ne.2 (by omega)
    have d13:(((s[k].toNat:Nat):Int) == 13)=false:=beq_eq_false_iff_ne.2 (by omega)
    have d9:(((s[k].toNat:Nat):Int) == 9)=false:=beq_eq_false_iff_ne.2 (by omega)
    have HR:=Lib.hid hr
    clear hr hx
    go_wp2_with (at_builtin;refine wpList_append_own _ rfl _ _ 53 rfl w.heap.size 5 i0 (.int .u8 0) 1 1 Tryz.underlying53 hi hz0 hz1 hz2 rfl (by decide) _ _ _ rfl (HO.out.alloc _) ⟨wr.heap.size,0,none⟩ 2 2 [.int .u8 92,.int .u8 s[k].toNat] rfl rfl (lit_cells _ _ _) (by intro u hu;simp at hu;rcases hu with rfl|rfl <;> rfl) K3.out K4.out (K5.out _) ?_;intro v' w1 hown1 hgrow1 hnil1)
    have hb1:=below_own (HB.out.alloc hszs _) (K5.out _) (HO.out.alloc _) hgrow1
    have HOwn:=Lib.hid (show w1.ownsRow w.heap.size 5 1 v' (l++[92,92]).length ((l++[92,92]).map b8) by
     rw [List.length_append,List.map_append,HNw.out]
     exact hown1)
    have HB1:=Lib.hid hb1
    clear hown1 hgrow1 hnil1 hb1
    go_wp2
    go_roundw
    case rel=>exact ⟨k + 1,l++[92,92],by omega,by go_num,(show _=_ by rw [HT.out,HR.out,HL.out];rfl),by rw [List.length_append];simp;omega,HOwn,HB1⟩
    case measure=>simp [intOf];omega
   ·have hx:s[k].toNat=10:=by rw [hc];rfl
    have HNw:=Lib.hid (show [92,110].map b8=[.int .u8 92,.int .u8 110] by simp [b8])
    clear hc
    have d34:(((s[k].toNat:Nat):Int) == 34)=false:=beq_eq_false_iff_ne.2 (by omega)
    have d92:(((s[k].toNat:Nat):Int) == 92)=false:=beq_eq_false_iff_ne.2 (by omega)
    have d10:(((s[k].toNat:Nat):Int) == 10)=true:=beq_iff_eq.2 (by omega)
    have d13:(((s[k].toNat:Nat):Int) == 13)=false:=beq_eq_false_iff_ne.2 (by omega)
    have d9:(((s[k].toNat:Nat):Int) == 9)=false:=beq_eq_false_iff_ne.2 (by omega)
    have HR:=Lib.hid hr
    clear hr hx
    go_wp2_with (at_builtin;refine wpList_append_own _ rfl _ _ 53 rfl w.heap.size 5 i0 (.int .u8 0) 1 1 Tryz.underlying53 hi hz0 hz1 hz2 rfl (by decide) _ _ _ rfl (HO.out.alloc _) ⟨wr.heap.size,0,none⟩ 2 2 [.int .u8 92,.int .u8 110] rfl rfl (lit_cells _ _ _) (by intro u hu;simp at hu;rcases hu with rfl|rfl <;> rfl) K3.out K4.out (K5.out _) ?_;intro v' w1 hown1 hgrow1 hnil1)
    have hb1:=below_own (HB.out.alloc hszs _) (K5.out _) (HO.out.alloc _) hgrow1
    have HOwn:=Lib.hid (show w1.ownsRow w.heap.size 5 1 v' (l++[92,110]).length ((l++[92,110]).map b8) by
     rw [List.length_append,List.map_append,HNw.out]
     exact hown1)
    have HB1:=Lib.hid hb1
    clear hown1 hgrow1 hnil1 hb1
    go_wp2
    go_roundw
    case rel=>exact ⟨k + 1,l++[92,110],by omega,by go_num,(show _=_ by rw [HT.out,HR.out,HL.out];rfl),by rw [List.length_append];simp;omega,HOwn,HB1⟩
    case measure=>simp [intOf];omega
   ·have hx:s[k].toNat=13:=by rw [hc];rfl
    have HNw:=Lib.hid (show [92,114].map b8=[.int .u8 92,.int .u8 114] by simp [b8])
    clear hc
    have d34:(((s[k].toNat:Nat):Int) == 34)=false:=beq_eq_false_iff_ne.2 (by omega)
    have d92:(((s[k].toNat:Nat):Int) == 92)=false:=beq_eq_false_iff_ne.2 (by omega)
    have d10:(((s[k].toNat:Nat):Int) == 10)=false:=beq_eq_false_iff_ne.2 (by omega)
    have d13:(((s[k].toNat:Nat):Int) == 13)=true:=beq_iff_eq.2 (by omega)
    have d9:(((s[k].toNat:Nat):Int) == 9)=false:=beq_eq_false_iff_ne.2 (by omega)
    have HR:=Lib.hid hr
    clear hr hx
    go_wp2_with (at_builtin;refine wpList_append_own _ rfl _ _ 53 rfl w.heap.size 5 i0 (.int .u8 0) 1 1 Tryz.underlying53 hi hz0 hz1 hz2 rfl (by decide) _ _ _ rfl (HO.out.alloc _) ⟨wr.heap.size,0,none⟩ 2 2 [.int .u8 92,.int .u8 114] rfl rfl (lit_cells _ _ _) (by intro u hu;simp at hu;rcases hu with rfl|rfl <;> rfl) K3.out K4.out (K5.out _) ?_;intro v' w1 hown1 hgrow1 hnil1)
    have hb1:=below_own (HB.out.alloc hszs _) (K5.out _) (HO.out.alloc _) hgrow1
    have HOwn:=Lib.hid (show w1.ownsRow w.heap.size 5 1 v' (l++[92,114]).length ((l++[92,114]).map b8) by
     rw [List.length_append,List.map_append,HNw.out]
     exact hown1)
    have HB1:=Lib.hid hb1
    clear hown1 hgrow1 hnil1 hb1
    go_wp2
    go_roundw
    case rel=>exact ⟨k + 1,l++[92,114],by omega,by go_num,(show _=_ by rw [HT.out,HR.out,HL.out];rfl),by rw [List.length_append];simp;omega,HOwn,HB1⟩
    case measure=>simp [intOf];omega
   ·have hx:s[k].toNat=9:=by rw [hc];rfl
    have HNw:=Lib.hid (show [92,116].map b8=[.int .u8 92,.int .u8 116] by simp [b8])
    clear hc
    have d34:(((s[k].toNat:Nat):Int) == 34)=false:=beq_eq_false_iff_ne.2 (by omega)
    have d92:(((s[k].toNat:Nat):Int) == 92)=false:=beq_eq_false_iff_ne.2 (by omega)
    have d10:(((s[k].toNat:Nat):Int) == 10)=false:=beq_eq_false_iff_ne.2 (by omega)
    have d13:(((s[k].toNat:Nat):Int) == 13)=false:=beq_eq_false_iff_ne.2 (by omega)
    have d9:(((s[k].toNat:Nat):Int) == 9)=true:=beq_iff_eq.2 (by omega)
    have HR:=Lib.hid hr
    clear hr hx
    go_wp2_with (at_builtin;refine wpList_append_own _ rfl _ _ 53 rfl w.heap.size 5 i0 (.int .u8 0) 1 1 Tryz.underlying53 hi hz0 hz1 hz2 rfl (by decide) _ _ _ rfl (HO.out.alloc _) ⟨wr.heap.size,0,none⟩ 2 2 [.int .u8 92,.int .u8 116] rfl rfl (lit_cells _ _ _) (by intro u hu;simp at hu;rcases hu with rfl|rfl <;> rfl) K3.out K4.out (K5.out _) ?_;intro v' w1 hown1 hgrow1 hnil1)
    have hb1:=below_own (HB.out.alloc hszs _) (K5.out _) (HO.out.alloc _) hgrow1
    have HOwn:=Lib.hid (show w1.ownsRow w.heap.size 5 1 v' (l++[92,116]).length ((l++[92,116]).map b8) by
     rw [List.length_append,List.map_append,HNw.out]
     exact hown1)
    have HB1:=Lib.hid hb1
    clear hown1 hgrow1 hnil1 hb1
    go_wp2
    go_roundw
    case rel=>exact ⟨k + 1,l++[92,116],by omega,by go_num,(show _=_ by rw [HT.out,HR.out,HL.out];rfl),by rw [List.length_append];simp;omega,HOwn,HB1⟩
    case measure=>simp [intOf];omega
   ·have K3:=Lib.hid (show l.length + 1≤maxLen by unfold maxLen;omega)
    have K4:=Lib.hid (show (l.length + 1) * 1≤140737488355328 by omega)
    have hx:s[k].toNat≠34∧s[k].toNat≠92∧s[k].toNat≠10∧s[k].toNat≠13∧s[k].toNat≠9:=by
     unfold stopB at hs1
     simp only [Bool.or_eq_false_iff,beq_eq_false_iff_ne,ne_eq] at hs1
     obtain ⟨⟨⟨a1,a2⟩,a3⟩,a4⟩:=hs1
     exact ⟨fun e=>a1 (UInt8.toNat_inj.1 e),fun e=>hs2 (UInt8.toNat_inj.1 e),fun e=>a3 (UInt8.toNat_inj.1 e),fun e=>a4 (UInt8.toNat_inj.1 e),fun e=>a2 (UInt8.toNat_inj.1 e)⟩
    obtain ⟨x1,x2,x3,x4,x5⟩:=hx
    clear hs1 hs2
    have HNw:=Lib.hid (show [s[k]].map b8=[.int .u8 s[k].toNat] from rfl)
    have d34:(((s[k].toNat:Nat):Int) == 34)=false:=beq_eq_false_iff_ne.2 (by omega)
    have d92:(((s[k].toNat:Nat):Int) == 92)=false:=beq_eq_false_iff_ne.2 (by omega)
    have d10:(((s[k].toNat:Nat):Int) == 10)=false:=beq_eq_false_iff_ne.2 (by omega)
    have d13:(((s[k].toNat:Nat):Int) == 13)=false:=beq_eq_false_iff_ne.2 (by omega)
    have d9:(((s[k].toNat:Nat):Int) == 9)=false:=beq_eq_false_iff_ne.2 (by omega)
    have HR:=Lib.hid hr
    clear hr
    go_wp2_with (at_builtin;refine wpList_append_own _ rfl _ _ 53 rfl w.heap.size 5 i0 (.int .u8 0) 1 1 Tryz.underlying53 hi hz0 hz1 hz2 rfl (by decide) _ _ _ rfl (HO.out.alloc _) ⟨wr.heap.size,0,none⟩ 1 1 [.int .u8 s[k].toNat] rfl rfl (lit_cells _ _ _) (by intro u hu;simp at hu;subst hu;rfl) K3.out K4.out (K5.out _) ?_;intro v' w1 hown1 hgrow1 hnil1)
    have hb1:=below_own (HB.out.alloc hszs _) (K5.out _) (HO.out.alloc _) hgrow1
    have HOwn:=Lib.hid (show w1.ownsRow w.heap.size 5 1 v' (l++[s[k]]).length ((l++[s[k]]).map b8) by
     rw [List.length_append,List.map_append,HNw.out]
     exact hown1)
    have HB1:=Lib.hid hb1
    clear hown1 hgrow1 hnil1 hb1
    go_wp2
    go_roundw
    case rel=>exact ⟨k + 1,l++[s[k]],by omega,by go_num,(show _=_ by rw [HT.out,HR.out,HL.out];rfl),by rw [List.length_append];simp;omega,HOwn,HB1⟩
    case measure=>simp [intOf];omega
  ·have HK:=Lib.hid (b_take (s:=s) (k:=k) (by omega))
   have hszs:=HB.out.size
   have K3:=Lib.hid (show l.length + 1≤maxLen by unfold maxLen;omega)
   have K4:=Lib.hid (show (l.length + 1) * 1≤140737488355328 by omega)
   have K5:=Lib.hid (show ∀ o,w.heap.size≤(wr.alloc o).heap.size from fun o=>by simp;omega)
   go_wp2_with (at_builtin;refine wpList_append_own _ rfl _ _ 53 rfl w.heap.size 5 i0 (.int .u8 0) 1 1 Tryz.underlying53 hi hz0 hz1 hz2 rfl (by decide) _ _ _ rfl (HO.out.alloc _) ⟨wr.heap.size,0,none⟩ 1 1 [.int .u8 34] rfl rfl (lit_cells _ _ _) (by intro u hu;simp at hu;subst hu;rfl) K3.out K4.out (K5.out _) ?_;intro v' w1 hown1 hgrow1 hnil1)
   have hb1:=below_own (HB.out.alloc hszs _) (K5.out _) (HO.out.alloc _) hgrow1
   have hOwn:w1.ownsRow w.heap.size 5 1 v' (l++[34]).length ((l++[34]).map b8):=by
    rw [List.length_append,List.map_append]
    exact hown1
   have hstr:=own_str (P:=Tryz.prog) (src:=53) (dst:=9) Tryz.underlying53 Tryz.underlying5 Tryz.underlying9 hOwn
   have HB1:=Lib.hid hb1
   clear hown1 hgrow1 hnil1 hb1 hOwn
   go_wp2
   rw [hstr]
   go_wp2
   go_ret
   refine ⟨?_,HB1.out⟩
   rw [HL.out,HK.out]
   rfl
end Go.Proofs.YtnghlakllgkjlaaGreatDoor
