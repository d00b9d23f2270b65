/- A scope with two labels, 0 and 1, between which the run jumps: what holds at each jump, and a measure that every way from a label to a label makes less. -/
import Derived.ScopeJumps
import Derived.WalkMore
namespace Go.Proofs.YtamimkekjcjcjaaDoor
set_option linter.unusedVariables false

/-- As Q; by a goto to label 0: J; to label 1: K. -/
def twoJumps (J K : Act → World → Prop) (Q : Exit → Act → World → Prop) : Exit → Act → World → Prop
  | .goto l, a, w => (l = 0 ∧ J a w) ∨ (l = 1 ∧ K a w)
  | e, a, w => Q e a w

theorem wp_two_labels {P : Program} {a : Act} {w : World} {Q : Exit → Act → World → Prop} {c r0 r1 : Code} (J K : Act → World → Prop) (mJ mK : Act → World → Nat) (h0 : findLabel c 0 = some r0) (h1 : findLabel c 1 = some r1)
    (first : c.wp P (twoJumps J K Q) a w)
    (p0 : ∀ a w, J a w → r0.wp P (twoJumps (fun x y => J x y ∧ mJ x y < mJ a w) (fun x y => K x y ∧ mK x y < mJ a w) Q) a w)
    (p1 : ∀ a w, K a w → r1.wp P (twoJumps (fun x y => J x y ∧ mJ x y < mK a w) (fun x y => K x y ∧ mK x y < mK a w) Q) a w) : (Code.scope c).wp P Q a w := by
  intro b k cs
  have g0 : gotoIn 0 (.inScope c :: k) = some (.code r0 :: .inScope c :: k) := by simp [gotoIn, h0]
  have g1 : gotoIn 1 (.inScope c :: k) = some (.code r1 :: .inScope c :: k) := by simp [gotoIn, h1]
  have both : ∀ (n : Nat) (a : Act) (w : World),
      (mJ a w = n → J a w → ∃ e x y, Q e x y ∧ Arrives P (lone (b.at a (.code r0 :: .inScope c :: k)) cs w) b k cs e x y) ∧
      (mK a w = n → K a w → ∃ e x y, Q e x y ∧ Arrives P (lone (b.at a (.code r1 :: .inScope c :: k)) cs w) b k cs e x y) := by
    intro n
    induction n using Nat.strongRecOn with
    | _ n ih =>
      have fin : ∀ (r : Code) (a : Act) (w : World), r.wp P (twoJumps (fun x y => J x y ∧ mJ x y < n) (fun x y => K x y ∧ mK x y < n) Q) a w →
          ∃ e x y, Q e x y ∧ Arrives P (lone (b.at a (.code r :: .inScope c :: k)) cs w) b k cs e x y := by
        intro r a w hw
        obtain ⟨e, a₁, w₁, hq, harr⟩ := hw b (.inScope c :: k) cs
        cases e with
        | normal => exact ⟨.normal, a₁, w₁, hq, Steps.trans harr (.one step_inScope)⟩
        | exit id => exact ⟨.exit id, a₁, w₁, hq, fun k' hk => harr k' (by simp [exitTo, hk])⟩
        | goto l =>
          rcases hq with ⟨rfl, hJ, hlt⟩ | ⟨rfl, hK, hlt⟩
          · obtain ⟨e₂, a₂, w₂, hq₂, harr₂⟩ := (ih _ hlt a₁ w₁).1 rfl hJ
            exact ⟨e₂, a₂, w₂, hq₂, .of_steps (harr _ g0) harr₂⟩
          · obtain ⟨e₂, a₂, w₂, hq₂, harr₂⟩ := (ih _ hlt a₁ w₁).2 rfl hK
            exact ⟨e₂, a₂, w₂, hq₂, .of_steps (harr _ g1) harr₂⟩
        | ret => exact ⟨_, a₁, w₁, hq, harr⟩
        | panic ch => exact ⟨_, a₁, w₁, hq, harr⟩
        | outgrown => exact ⟨_, a₁, w₁, hq, harr⟩
      exact fun a w => ⟨fun hn hJ => fin r0 a w (hn ▸ p0 a w hJ), fun hn hK => fin r1 a w (hn ▸ p1 a w hK)⟩
  obtain ⟨e, a₁, w₁, hq, harr⟩ := first b (.inScope c :: k) cs
  cases e with
  | normal => exact ⟨.normal, a₁, w₁, hq, .head step_scope (Steps.trans harr (.one step_inScope))⟩
  | exit id => exact ⟨.exit id, a₁, w₁, hq, fun k' hk => .head step_scope (harr k' (by simp [exitTo, hk]))⟩
  | goto l =>
    rcases hq with ⟨rfl, hJ⟩ | ⟨rfl, hK⟩
    · obtain ⟨e₂, a₂, w₂, hq₂, harr₂⟩ := (both _ a₁ w₁).1 rfl hJ
      exact ⟨e₂, a₂, w₂, hq₂, .of_steps (.head step_scope (harr _ g0)) harr₂⟩
    · obtain ⟨e₂, a₂, w₂, hq₂, harr₂⟩ := (both _ a₁ w₁).2 rfl hK
      exact ⟨e₂, a₂, w₂, hq₂, .of_steps (.head step_scope (harr _ g1)) harr₂⟩
  | ret => exact ⟨_, a₁, w₁, hq, .of_steps (.one step_scope) harr⟩
  | panic ch => exact ⟨_, a₁, w₁, hq, .of_steps (.one step_scope) harr⟩
  | outgrown => exact ⟨_, a₁, w₁, hq, .of_steps (.one step_scope) harr⟩

theorem wp_behind_skip {P : Program} {x : Code} {Q : Exit → Act → World → Prop} {a : Act} {w : World} (h : x.wp P Q a w) : (Code.seq .skip x).wp P Q a w := wp_seq (wp_skip h)
/-- The same, the two ways told from behind their labels; the way in may use the first. -/
theorem wp_two_labels_in {P : Program} {a : Act} {w : World} {Q : Exit → Act → World → Prop} {c x0 x1 : Code} (J K : Act → World → Prop) (mJ mK : Act → World → Nat) (h0 : findLabel c 0 = some (Code.seq .skip x0)) (h1 : findLabel c 1 = some (Code.seq .skip x1))
    (first : (∀ a w, J a w → x0.wp P (twoJumps J K Q) a w) → c.wp P (twoJumps J K Q) a w)
    (p0 : ∀ a w, J a w → x0.wp P (twoJumps (fun x y => J x y ∧ mJ x y < mJ a w) (fun x y => K x y ∧ mK x y < mJ a w) Q) a w)
    (p1 : ∀ a w, K a w → x1.wp P (twoJumps (fun x y => J x y ∧ mJ x y < mK a w) (fun x y => K x y ∧ mK x y < mK a w) Q) a w) : (Code.scope c).wp P Q a w :=
  wp_two_labels J K mJ mK h0 h1 (first fun a w hJ => by
    intro b k cs
    obtain ⟨e, x, y, hq, harr⟩ := p0 a w hJ b k cs
    refine ⟨e, x, y, ?_, harr⟩
    cases e with
    | goto l =>
      rcases hq with ⟨h, hj, _⟩ | ⟨h, hj, _⟩
      · exact .inl ⟨h, hj⟩
      · exact .inr ⟨h, hj⟩
    | normal => exact hq
    | exit id => exact hq
    | ret => exact hq
    | panic ch => exact hq
    | outgrown => exact hq)
    (fun a w h => wp_behind_skip (p0 a w h)) (fun a w h => wp_behind_skip (p1 a w h))
end Go.Proofs.YtamimkekjcjcjaaDoor
