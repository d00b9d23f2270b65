/- The walk over strings.NewReplacer: the pairs are copied into a row of the call's own. The walk over (*strings.Replacer).build, where all old strings are single bytes and some new one is none. The walks over sync.Once as a Replacer uses it, its first time: the lock is taken, the build is made, 'done' is stored, the lock is let go. What a byteStringReplacer's Replace answers, over lists of bytes: no program in sight. The walk over (*strings.byteStringReplacer).Replace: short texts, which are gone through byte by byte. The walk over tarifflaw04's fixed fact: an escape, names, a text, a keyword. What the rows' list gives the walks: the decoder's two tables. The walk over (*strings.byteStringReplacer).Replace: long texts, whose keys are counted one by one. Quotes over lists of bytes: what Quote lays, what Unquote reads, and that it reads what was laid. No program in sight. The walks over Quote, of the package and of the reference. -/
import Derived.Test.YtheimopjglkgjaaGreatDoorProg
import Derived.WalkKit
import Derived.WalkSpells
import Derived.WalkLawsBesides
import Derived.Lib.Hide
import Derived.Laws.Tables
import Derived.Deep.WholeRow
import Derived.Laws.BytesArg
import Derived.Lib.ConvBytes
import Derived.Lib.AtoiErrMem
import Derived.Lib.LazyBuf
import Derived.WalkSmall
import Derived.Defers
import Derived.Laws.Pointers
import Derived.Laws.LoneSync
import Derived.RegionTactic
import Derived.RegionCalls
import Derived.ChangeAlike
import Derived.Laws.CopyOwn
import Derived.Deep.RegionLaw
import Derived.Lib.Strings
import Derived.Test.YtheimopjglkgjaaGreatDoorCharsA
import Derived.Test.YtheimopjglkgjaaGreatDoorRows
import Derived.Lib.LaidU8T
import Derived.Test.YtheimopjglkgjaaGreatDoorSepA
import Derived.Test.YtheimopjglkgjaaGreatDoorShelf
import Derived.Lib.Bytealg
import Derived.BigQuiet
import Derived.Deep.QuietTactic
import Derived.IntWalk
namespace Go.Proofs.YtheimopjglkgjaaGreatDoor
open Go.RowKit
set_option linter.unusedVariables false
def TabOk (w:World) (B R G:Nat) (T:Array Value) (p:List (UInt8 × List UInt8)):Prop:=
 ∀ c:Nat,c < 256→
  (p.find? (fun x=>x.1.toNat == c)=none∧T[c]? = some (.slice none 0 0))∨
  (∃ x g cap,p.find? (fun x=>x.1.toNat == c)=some x∧T[c]? = some (.slice (some ⟨g,0,none⟩) x.2.length cap)∧g≠R∧g≠G∧B≤g∧g < w.heap.size∧∀ i u,x.2[i]? = some u→w.cell? ⟨g,i,none⟩=some (.int .u8 u.toNat))
theorem TabOk.hold {w w' : World} {B R G:Nat} {T:Array Value} {p:List (UInt8 × List UInt8)} (h:TabOk w B R G T p) (hs:w.heap.size≤w'.heap.size) (hk:∀ g,B≤g→g < w.heap.size→g≠R→g≠G→w'.heap[g]? = w.heap[g]?):TabOk w' B R G T p:=by
 intro c hc
 rcases h c hc with h | ⟨x,g,cap,h1,h2,h3,h4,h4',h5,h6⟩
 ·exact Or.inl h
 ·refine Or.inr ⟨x,g,cap,h1,h2,h3,h4,h4',by omega,fun i u hu=>?_⟩
  rw [World.cell?_of_block (w:=w) (hk g h4' h5 h3 h4)]
  exact h6 i u hu
theorem b_at {s:ByteArray} {k:Nat} (h:k < s.size):s.data.toList[k]? = some s[k]:=by
 rw [List.getElem?_eq_getElem (by simpa using h)];rfl
theorem u_info:(Tryz.prog.info? 5).map (fun i=>(i.zero,i.size,i.bytes))=some (some (.int .u8 0),1,1):=by kernel_rfl
def bv (b:UInt8):Value:=.int .u8 b.toNat
theorem set_mid (a r:List Value) (x v:Value):((a++x :: r).toArray).setIfInBounds a.length v=(a++v :: r).toArray:=by
 simp
def BufAt (w:World) (D N:Nat) (done:List UInt8):Prop:=∃ rest:List Value,w.heap[D]? = some (.cells (done.map bv++rest).toArray 5 (0,0))∧done.length + rest.length=N
theorem BufAt.cell {w:World} {D N:Nat} {done:List UInt8} (h:BufAt w D N done) (hlt:done.length < N):(∃ r0,w.cell? ⟨D,done.length,none⟩=some r0)∧w.frozen? ⟨D,done.length,none⟩=false:=by
 obtain ⟨rest,h1,h2⟩:=h
 cases rest with
 | nil=>simp at h2;omega
 | cons r0 rest=>
  exact ⟨⟨r0,by rw [cell_of_row _ _ _ _ _ _ h1];simp⟩,frozen_of_row _ _ _ _ _ h1⟩
theorem BufAt.put {w:World} {D N:Nat} {done:List UInt8} (h:BufAt w D N done) (hlt:done.length < N) (c:UInt8):BufAt (w.setCell ⟨D,done.length,none⟩ (.int .u8 c.toNat)) D N (done++[c]):=by
 obtain ⟨rest,h1,h2⟩:=h
 cases rest with
 | nil=>simp at h2;omega
 | cons r0 rest=>
  refine ⟨rest,?_,by simp at h2 ⊢;omega⟩
  rw [heap_setCell_same _ _ _ _ _ _ h1]
  have:=set_mid (done.map bv) rest r0 (.int .u8 c.toNat)
  rw [List.length_map] at this
  rw [this]
  simp [bv]
theorem first_same:Lib.firstData=Rows.laid_unicode_utf8_first:=by kernel_rfl
theorem accept_same:Lib.acceptData=Rows.laid_unicode_utf8_acceptRanges:=by kernel_rfl
set_option maxRecDepth 100000
def sumL {α:Type} (f:α→Int):List α→Int
 | []=>0
 | x :: r=>f x + sumL f r
def escD (c:UInt8):Option UInt8:=if c=34∨c=92 then some c else if c=110 then some 10 else if c=114 then some 13 else if c=116 then some 9 else none
def stopB (c:UInt8):Bool:=c == 34 || c == 9 || c == 10 || c == 13
def unqL:Nat→List UInt8→Option (List UInt8)
 | 0,_=>some []
 | f + 1,l=>match l with
  | []=>some []
  | c :: r=>if stopB c then none else if c=92 then (match r with
    | []=>none
    | d :: r'=>match escD d with
     | none=>none
     | some b=>(unqL f r').map (b :: ·))
   else (unqL f r).map (c :: ·)
def unq (l:List UInt8):Option (List UInt8):=unqL l.length l
theorem unqL_more:∀ (f g:Nat) (l:List UInt8),l.length≤f→l.length≤g→unqL f l=unqL g l
 | 0,0,_,_,_=>rfl
 | 0,g + 1,l,hf,_=>by
  have:l=[]:=List.eq_nil_of_length_eq_zero (by omega)
  subst this;rfl
 | f + 1,0,l,_,hg=>by
  have:l=[]:=List.eq_nil_of_length_eq_zero (by omega)
  subst this;rfl
 | f + 1,g + 1,[],_,_=>rfl
 | f + 1,g + 1,c :: r,hf,hg=>by
  have h1:r.length≤f:=by simpa using hf
  have h2:r.length≤g:=by simpa using hg
  unfold unqL
  simp only
  rw [unqL_more f g r h1 h2]
  cases r with
  | nil=>rfl
  | cons d r'=>
   have h3:r'.length≤f:=by simp at h1;omega
   have h4:r'.length≤g:=by simp at h2;omega
   simp only
   rw [unqL_more f g r' h3 h4]
theorem unq_nil:unq []=some []:=rfl
theorem unq_stop {c:UInt8} {r:List UInt8} (h:stopB c=true):unq (c :: r)=none:=by
 show (if stopB c=true then none else _)=none
 rw [if_pos h]
theorem unq_plain {c:UInt8} {r:List UInt8} (h:stopB c=false) (h2:c≠92):unq (c :: r)=(unq r).map (c :: ·):=by
 show (if stopB c=true then none else if c=92 then _ else (unqL r.length r).map (c :: ·))=_
 rw [if_neg (by rw [h];decide),if_neg h2]
 rfl
theorem unq_end:unq [92]=none:=rfl
theorem unq_esc_none {d:UInt8} {r:List UInt8} (h:escD d=none):unq (92 :: d :: r)=none:=by
 show (match escD d with|none=>none|some b=>(unqL (r.length + 1) r).map (b :: ·))=none
 rw [h]
theorem unq_esc {d b:UInt8} {r:List UInt8} (h:escD d=some b):unq (92 :: d :: r)=(unq r).map (b :: ·):=by
 show (match escD d with|none=>none|some b=>(unqL (r.length + 1) r).map (b :: ·))=_
 rw [h]
 show (unqL (r.length + 1) r).map (b :: ·)=_
 rw [unqL_more (r.length + 1) r.length r (by omega) (Nat.le_refl _)]
 rfl
end Go.Proofs.YtheimopjglkgjaaGreatDoor
