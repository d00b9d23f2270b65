/- mark's reader on the document that the laws' fixed fact asks for: its parts. (short) mark's reader puts a first attribute to an open. (short) A scope with labels, run jump by jump: so many jumps at most, each walked on from its label. No program in sight. More laws: a region that draws, whose first operations come up one by one (a call that turns what is looked at behind it); then an order. No program in sight. -/
import Derived.Test.YtanncakdlflopaaGreatDoorMarkBF
import Derived.Test.YtanncakdlflopaaGreatDoorUnescA
import Derived.ScopeJumps
import Derived.WalkMore
import Derived.Test.YtanncakdlflopaaGreatDoorSepA
namespace Go.Proofs.YtanncakdlflopaaGreatDoor
open Go.RowKit
set_option linter.unusedVariables false
set_option linter.unusedSimpArgs false
set_option maxRecDepth 100000

section
variable {w0 W : World} {R : Nat} {T : List Res} {ov : Value} {lg dp : Bool}
end
end Go.Proofs.YtanncakdlflopaaGreatDoor

namespace Go.Proofs.YtanncakdlflopaaGreatDoor
open Go.RowKit
set_option linter.unusedVariables false
set_option linter.unusedSimpArgs false
set_option maxRecDepth 100000

end Go.Proofs.YtanncakdlflopaaGreatDoor

namespace Go.Proofs.YtanncakdlflopaaGreatDoor
set_option linter.unusedVariables false

theorem wp_behind_skip2 {P : Program} {x : Code} {Q : Exit → Act → World → Prop} {a : Act} {w : World} (h : x.wp P Q a w) : (Code.seq .skip x).wp P Q a w := wp_seq (wp_skip h)
end Go.Proofs.YtanncakdlflopaaGreatDoor

namespace Go.Proofs.YtanncakdlflopaaGreatDoor
open Go.RowKit
set_option linter.unusedVariables false
section
variable {P : Program} {ops : Array Oper} {Q : Exit → Act → World → Prop} {md : Region.Mode} {S : World → Prop}
def wpPre (P : Program) (ops : Array Oper) (Q : Exit → Act → World → Prop) (N : Act → World → Prop) : List Nat → Act → World → Prop
 | [], a, w => N a w
 | i :: r, a, w => match ops.toList[i]? with
  | none => False
  | some o => wpList P ops (thenQ (fun _ => True) (wpPre P ops Q N r) Q) [o] a w
def preB (md : Region.Mode) (ops : Array Oper) (steps : List (Bool × Nat)) : List Nat → Array Bool → Bool
 | [], listed => stepsB2 md ops steps listed
 | i :: r, listed => (ops.toList[i]?).isSome && Region.ready md ops listed == [i] && preB md ops steps r (listed.setIfInBounds i true)
theorem pre_ok (hsel : Region.noSelect ops = true) (hQ : ∀ c a (t : Tmp) v w, Q (.panic c) (Act.put a (some t) v) w → Q (.panic c) a w) (steps : List (Bool × Nat)) : ∀ (pre : List Nat) (listed : Array Bool) (a : Act) (w : World), preB md ops steps pre listed = true →
  wpPre P ops Q (fun a w => ∃ S : World → Prop, S w ∧ wpSteps P ops S Q steps a w) pre a w → wpAny P md ops Q (steps.length + pre.length) listed a w
 | [], listed, a, w, hB, h => by
  obtain ⟨S, hS, h⟩ := h
  exact wpAny_of_held _ _ _ _ (steps_ok2 hsel hQ steps listed a w hB hS h)
 | i :: r, listed, a, w, hB, h => by
  unfold preB at hB
  unfold wpPre at h
  simp only [Bool.and_eq_true, beq_iff_eq] at hB
  obtain ⟨⟨ho, hr⟩, hB2⟩ := hB
  cases hoi : ops.toList[i]? with
  | none => rw [hoi] at h; exact h.elim
  | some o =>
   rw [hoi] at h
   have ho' : ops[i]? = some o := by rw [← hoi]; simp
   refine ⟨(fun h0 => by rw [hr] at h0; cases h0), fun j hj => ?_⟩
   rw [hr, List.mem_singleton] at hj
   subst hj
   exact alone3 ho' (fun a' w' hh => pre_ok hsel hQ steps r _ a' w' hB2 hh.2) h
theorem wp_region_pre {id : Nat} {l : List Oper} {a : Act} {w0 W : World} {L : List Res} (pre : List Nat) (steps : List (Bool × Nat)) (hm : P.follows .mixedOrders = true) (hsel : Region.noSelect l.toArray = true) (hn : steps.length + pre.length = l.length) (hB : preB .any l.toArray steps pre (Array.replicate l.length false) = true)
  (hQ : ∀ c a (t : Tmp) v w, Q (.panic c) (Act.put a (some t) v) w → Q (.panic c) a w) (HM : Mem w0 W L)
  (h : ∀ W', Mem w0 W' L → wpPre P l.toArray Q (fun a w => ∃ S : World → Prop, S w ∧ wpSteps P l.toArray S Q steps a w) pre a W') : (Code.region id l.toArray true).wp P Q a W := by
 have hM := HM.next (W' := { W with drawn := W.drawn + 1 }) (RowKit.Below.refl _ W).drew
 refine wp_region_any hm ?_
 have hs : (l.toArray).size = steps.length + pre.length := by rw [hn]; simp
 rw [hs]
 have := pre_ok (md := .any) hsel hQ steps pre (Array.replicate l.length false) a _ hB (h _ hM)
 rw [hn] at this ⊢
 exact this
theorem pre_end {a : Act} {w0 W : World} {L0 : List Res} {steps : List (Bool × Nat)} (HM : Mem w0 W L0) (h : Nonempty (MemW w0 L0) → wpSteps P ops (fun V => ∃ p : MemW w0 L0, V = p.W) Q steps a W) : ∃ S : World → Prop, S W ∧ wpSteps P ops S Q steps a W :=
 ⟨_, ⟨⟨_, HM⟩, rfl⟩, h ⟨⟨_, HM⟩⟩⟩
end
end Go.Proofs.YtanncakdlflopaaGreatDoor
