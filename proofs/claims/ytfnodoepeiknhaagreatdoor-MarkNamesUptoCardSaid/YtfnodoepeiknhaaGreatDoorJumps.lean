/- A scope with labels, run jump by jump: so many jumps at most, each walked on from its label. No program in sight. -/
import Derived.ScopeJumps
import Derived.WalkMore
namespace Go.Proofs.YtfnodoepeiknhaaGreatDoor
set_option linter.unusedVariables false

/-- As Q; a goto: the code behind its label, so many jumps more. -/
def jumpQ (P : Program) (c : Code) (Q : Exit → Act → World → Prop) : Nat → Exit → Act → World → Prop
  | 0, .goto _, _, _ => False
  | n + 1, .goto l, a, w => ∃ x, findLabel c l = some (Code.seq .skip x) ∧ x.wp P (jumpQ P c Q n) a w
  | _, e, a, w => Q e a w
theorem wp_behind_skip2 {P : Program} {x : Code} {Q : Exit → Act → World → Prop} {a : Act} {w : World} (h : x.wp P Q a w) : (Code.seq .skip x).wp P Q a w := wp_seq (wp_skip h)
theorem wp_jumps {P : Program} {a : Act} {w : World} {Q : Exit → Act → World → Prop} {c : Code} (n : Nat) (h : c.wp P (jumpQ P c Q n) a w) : (Code.scope c).wp P Q a w := by
  intro b k cs
  have all : ∀ (n : Nat) (r : Code) (a : Act) (w : World), r.wp P (jumpQ P c Q n) a w → ∃ e x y, Q e x y ∧ Arrives P (lone (b.at a (.code r :: .inScope c :: k)) cs w) b k cs e x y := by
    intro n
    induction n with
    | zero =>
      intro r a w hw
      obtain ⟨e, a₁, w₁, hq, harr⟩ := hw b (.inScope c :: k) cs
      cases e with
      | normal => exact ⟨.normal, a₁, w₁, hq, Steps.trans harr (.one step_inScope)⟩
      | exit id => exact ⟨.exit id, a₁, w₁, hq, fun k' hk => harr k' (by simp [exitTo, hk])⟩
      | goto l => exact absurd hq (by simp [jumpQ])
      | ret => exact ⟨_, a₁, w₁, hq, harr⟩
      | panic ch => exact ⟨_, a₁, w₁, hq, harr⟩
      | outgrown => exact ⟨_, a₁, w₁, hq, harr⟩
    | succ n ih =>
      intro r a w hw
      obtain ⟨e, a₁, w₁, hq, harr⟩ := hw b (.inScope c :: k) cs
      cases e with
      | normal => exact ⟨.normal, a₁, w₁, hq, Steps.trans harr (.one step_inScope)⟩
      | exit id => exact ⟨.exit id, a₁, w₁, hq, fun k' hk => harr k' (by simp [exitTo, hk])⟩
      | goto l =>
        obtain ⟨x, hf, hx⟩ := hq
        obtain ⟨e₂, a₂, w₂, hq₂, harr₂⟩ := ih _ a₁ w₁ (wp_behind_skip2 hx)
        exact ⟨e₂, a₂, w₂, hq₂, .of_steps (harr _ (show gotoIn l (.inScope c :: k) = some (.code (Code.seq .skip x) :: .inScope c :: k) by simp [gotoIn, hf])) harr₂⟩
      | ret => exact ⟨_, a₁, w₁, hq, harr⟩
      | panic ch => exact ⟨_, a₁, w₁, hq, harr⟩
      | outgrown => exact ⟨_, a₁, w₁, hq, harr⟩
  obtain ⟨e, a₁, w₁, hq, harr⟩ := all n c a w h
  exact ⟨e, a₁, w₁, hq, .of_steps (.one step_scope) harr⟩
end Go.Proofs.YtfnodoepeiknhaaGreatDoor
