/- The reference's Check. -/
import Derived.Test.YtheimopjglkgjaaGreatDoorSepA
import Derived.Test.YtheimopjglkgjaaGreatDoorSepMac2
import Derived.Test.YtheimopjglkgjaaGreatDoorStackA
import Derived.Test.YtheimopjglkgjaaGreatDoorFields
namespace Go.Proofs.YtheimopjglkgjaaGreatDoor
open Go.RowKit
set_option linter.unusedVariables false
set_option linter.unusedSimpArgs false
set_option maxRecDepth 100000

theorem Res.holds.mono {B B' : Nat} {W:World} {r:Res} (h:r.holds B' W) (hb:B≤B'):r.holds B W:=by
 cases r with
 | box g t cs=>exact ⟨Nat.le_trans hb h.1,h.2⟩
 | map g es ck=>exact ⟨Nat.le_trans hb h.1,h.2⟩
 | row p cap e k n cs=>
  obtain ⟨hl,h0 | ⟨g,cap',cur,hv,hg,hr⟩⟩:=(h:W.ownsRow _ _ _ _ _ _)
  ·exact ⟨hl,Or.inl h0⟩
  ·exact ⟨hl,Or.inr ⟨g,cap',cur,hv,Nat.le_trans hb hg,hr⟩⟩
/-- What a callee has left, beside what the caller has. -/
theorem Mem.comp {w0 W W' : World} {L0 L:List Res} (h0:Mem w0 W L0) (h:Mem W W' L):Mem w0 W' (L++L0):=by
 have h1:=h0.next h.below
 refine ⟨h1.below,fun r hr=>?_,List.pairwise_append.2 ⟨h.apart,h1.apart,fun r hr s hs g hg hg'=>?_⟩⟩
 ·rcases List.mem_append.1 hr with hr|hr
  ·exact (h.holds r hr).mono h0.below.size
  ·exact h1.holds r hr
 ·have a1:=((h.holds r hr).lt hg).1
  have a2:=((h0.holds s hs).lt hg').2
  omega
theorem sl_row {α:Type} (f:α→List Value) (k:Nat) (hf:∀ x,(f x).length=k) {B:Nat} {W:World} {p:Option Addr} {cap:Nat} {e:TypeId} {l:List α} (h:(Res.row p cap e k l.length (l.flatMap f)).holds B W):Sl W p (l.flatMap f):=by
 have:=sl_to f k hf h l.length
 rwa [List.take_length] at this
end Go.Proofs.YtheimopjglkgjaaGreatDoor
