/- The reference's stack: the places of the parts of each node. What the reference's Check answers is what the stack machine answers; in plain Lean. The reference's twice. -/
import Derived.Test.YtheimopjglkgjaaGreatDoorPlainA
import Derived.Test.YtheimopjglkgjaaGreatDoorSepA
namespace Go.Proofs.YtheimopjglkgjaaGreatDoor
open Go.RowKit
set_option linter.unusedVariables false
set_option linter.unusedSimpArgs false
set_option maxRecDepth 100000

def intV (i:Nat):Value:=.int .i64 i
def intC (i:Nat):List Value:=[intV i]
abbrev intL (l:List Nat):List Value:=l.flatMap intC
/-- Rows of ints, each in a piece of its own. -/
def RowsIn (T:List Res) (vs:List Value) (ls:List (List Nat)):Prop:=vs.length=ls.length∧∀ (i:Nat) (l:List Nat),ls[i]? = some l→∃ p c,vs[i]? = some (.slice p l.length c)∧Res.row p c 3 1 l.length (intL l) ∈ T

theorem RowsIn.push {T:List Res} {vs:List Value} {ls:List (List Nat)} (h:RowsIn T vs ls) (l:List Nat) (p:Option Addr) (c:Nat):RowsIn (.row p c 3 1 l.length (intL l) :: T) (vs++[.slice p l.length c]) (ls++[l]):=by
 refine ⟨by rw [List.length_append,List.length_append,h.1];rfl,fun i l' hl'=>?_⟩
 rw [List.getElem?_append] at hl'
 split at hl'
 ·rename_i hlt
  obtain ⟨p',c',h1,h2⟩:=h.2 i l' hl'
  exact ⟨p',c',by rw [List.getElem?_append_left (by rw [h.1];exact hlt)];exact h1,List.mem_cons_of_mem _ h2⟩
 ·rename_i hge
  rw [List.getElem?_singleton] at hl'
  split at hl'
  ·rename_i he
   cases hl'
   exact ⟨p,c,by rw [List.getElem?_append_right (by rw [h.1];omega),h.1,he];rfl,List.mem_cons_self ..⟩
  ·cases hl'
end Go.Proofs.YtheimopjglkgjaaGreatDoor

namespace Go.Proofs.YtheimopjglkgjaaGreatDoor
open Go.RowKit
set_option linter.unusedVariables false
set_option linter.unusedSimpArgs false

def opAt (ns:List NodeD) (i:Nat):Int:=match ns[i]? with|some n=>n.op|none=>0
def atI (ds:List Int) (i:Nat):Int:=ds.getD i 0
structure RInv (ns:List NodeD) (i:Nat) (st:List ThingD) (ds:List Int):Prop where
 len:ds.length=ns.length
 le:i≤ns.length
 at_:∀ (t:ThingD),t ∈ st→t.at_ < i∧t.sort=sortI (opAt ns t.at_)∧0≤t.depth∧atI ds t.at_=t.depth
 zero:∀ x,i≤x→atI ds x=0
 last:∀ l t,st=l++[t]→t.at_ + 1=i

end Go.Proofs.YtheimopjglkgjaaGreatDoor

namespace Go.Proofs.YtheimopjglkgjaaGreatDoor
open Go.RowKit
set_option linter.unusedVariables false
set_option linter.unusedSimpArgs false
set_option maxRecDepth 100000

end Go.Proofs.YtheimopjglkgjaaGreatDoor
