/- More laws: a region that draws, walked in an order, where what is known of the world is given up at one operation that waits for all that looked at it; no program in sight. -/
import Derived.Test.YtinkdemjjnfphaaDoorSepA
import Derived.OrdersHeld
namespace Go.Proofs.YtinkdemjjnfphaaDoor
open Go.RowKit
set_option linter.unusedVariables false
section
variable {P : Program} {ops : Array Oper} {Q : Exit → Act → World → Prop} {md : Region.Mode} {S : World → Prop} {j0 : Nat}
/-- Whatever order is picked; S holds behind every operation as long as number j0 has not come up. -/
def wpAnyJ (P : Program) (md : Region.Mode) (ops : Array Oper) (Q : Exit → Act → World → Prop) (S : World → Prop) (j0 : Nat) : Nat → Array Bool → Act → World → Prop
  | 0, listed, a, w => Region.ready md ops listed = [] ∧ Q .normal a w
  | fuel + 1, listed, a, w =>
    (Region.ready md ops listed = [] → Q .normal a w) ∧
    ∀ i ∈ Region.ready md ops listed, wpOp P ops Q i (fun a' w' => ((listed.setIfInBounds i true).getD j0 true = false → S w') ∧ wpAnyJ P md ops Q S j0 fuel (listed.setIfInBounds i true) a' w') a w
theorem wpAny_of_j : ∀ (fuel : Nat) (listed : Array Bool) (a : Act) (w : World), wpAnyJ P md ops Q S j0 fuel listed a w → wpAny P md ops Q fuel listed a w
  | 0, _, _, _, h => h
  | fuel + 1, _, _, _, h => ⟨h.1, fun i hi => wpOp_mono (fun a' w' h' => wpAny_of_j fuel _ a' w' h'.2) (h.2 i hi)⟩
/-- Number j0 waits for number i. -/
def waitsB (md : Region.Mode) (ops : Array Oper) (j0 i : Nat) : Bool := match ops.toList[j0]? with
  | none => false
  | some o => o.after.any fun e => Region.binds md e && e.on == i
theorem j_first {i : Nat} {oi : Oper} {v : Value} {S' : World → Prop} (hi : ops[i]? = some oi) (hsel : ∀ (j : Nat) (o : Oper) cs b, ops[j]? = some o → o.op ≠ .select cs b)
    (hQ : ∀ c a w, Q (.panic c) (a.put oi.dst v) w → Q (.panic c) a w) (hne : i ≠ j0) (m : Bool) (hS' : (m = true ∧ S' = S ∧ waitsB md ops j0 i = true) ∨ (m = false ∧ ∀ w, S' w)) :
    ∀ (fuel : Nat) (listed : Array Bool) (a : Act) (w : World),
      (∀ j oj, ops[j]? = some oj → j ≠ i → listed.getD j true = false → (∀ e ∈ oj.after, Region.binds md e = true → e.on ≠ i) → oi.apart ops oj = true) →
      i ∈ Region.ready md ops listed → YieldsIf P ops S' oi v a → S' w → (listed.getD j0 true = false → S w) → (m = true → listed.getD j0 true = false) →
      wpAnyJ P md ops Q S j0 fuel (listed.setIfInBounds i true) (a.put oi.dst v) w → wpAnyJ P md ops Q S j0 (fuel + 1) listed a w := by
  intro fuel
  have hw0 : waitsB md ops j0 i = true → ∃ o, ops[j0]? = some o ∧ ∃ e ∈ o.after, Region.binds md e = true ∧ e.on = i := fun h => by
    unfold waitsB at h
    cases ho : ops.toList[j0]? with
    | none => rw [ho] at h; cases h
    | some o =>
      rw [ho] at h
      simp only [Array.any_eq_true, Bool.and_eq_true, beq_iff_eq] at h
      obtain ⟨x, hx, h1, h2⟩ := h
      exact ⟨o, by rw [← ho]; simp, _, Array.getElem_mem hx, h1, h2⟩
  have hset : ∀ (listed : Array Bool) (k : Nat), (listed.setIfInBounds k true).getD j0 true = false → listed.getD j0 true = false := fun listed k h => by
    by_cases hk : k = j0
    · subst hk
      rcases Nat.lt_or_ge k listed.size with h' | h'
      · simp [h'] at h
      · rw [Array.setIfInBounds_eq_of_size_le h'] at h; exact h
    · rwa [getD_set_ne true hk] at h
  induction fuel with
  | zero =>
    intro listed a w _ hr hy hS hD hJ H
    refine ⟨fun h => (by rw [h] at hr; cases hr), fun j hj => ?_⟩
    by_cases hji : j = i
    · subst hji; exact hy.wpOp hi hS ⟨fun h => hD (hset _ _ h), H⟩
    · have := ready_mono hj hji
      rw [H.1] at this
      cases this
  | succ fuel ih =>
    intro listed a w hfree hr hy hS hD hJ H
    refine ⟨fun h => (by rw [h] at hr; cases hr), fun j hj => ?_⟩
    by_cases hji : j = i
    · subst hji; exact hy.wpOp hi hS ⟨fun h => hD (hset _ _ h), H⟩
    · have h1 := H.2 j (ready_mono hj hji)
      obtain ⟨hjun, oj, hoj, hall⟩ := mem_ready.1 hj
      have hnot : ∀ e ∈ oj.after, Region.binds md e = true → e.on ≠ i := fun e he hb heq => by
        have h1 := hall e he hb
        have h0 := (mem_ready.1 hr).1
        rw [heq] at h1
        rcases Nat.lt_or_ge i listed.size with h' | h'
        · simp [h'] at h0 h1; rw [h0] at h1; cases h1
        · simp [Array.getElem?_eq_none h'] at h1
      have h2 := wpOp_putIf hoj (hfree j oj hoj hji hjun hnot) (fun cs b => hsel i oi cs b hi) (fun cs b => hsel j oj cs b hoj) hQ hy h1
      have hfree' : ∀ k ok, ops[k]? = some ok → k ≠ i → (listed.setIfInBounds j true).getD k true = false →
          (∀ e ∈ ok.after, Region.binds md e = true → e.on ≠ i) → oi.apart ops ok = true := fun k ok hk hki hun hno => by
        refine hfree k ok hk hki ?_ hno
        by_cases hjk : j = k
        · subst hjk; exact hjun
        · rw [getD_set_ne true hjk] at hun; exact hun
      have hji2 : (listed.setIfInBounds i true).setIfInBounds j true = (listed.setIfInBounds j true).setIfInBounds i true := Array.setIfInBounds_comm _ _ (Ne.symm hji)
      -- number j0 is not j where it waits for i
      have hj0 : m = true → j ≠ j0 := fun h e => by
        have hw : waitsB md ops j0 i = true := by
          rcases hS' with hA | hB
          · exact hA.2.2
          · rw [hB.1] at h; cases h
        obtain ⟨o, ho, ed, hed, hb, hon⟩ := hw0 hw
        rw [← e, hoj] at ho
        exact hnot ed (Option.some.inj ho ▸ hed) hb hon
      refine wpOp_mono (fun a' w' h3 => ?_) h2
      obtain ⟨hy3, hS3, hW3⟩ := h3
      rw [hji2] at hS3 hW3
      have hJ' : m = true → (listed.setIfInBounds j true).getD j0 true = false := fun h => by rw [getD_set_ne true (hj0 h)]; exact hJ h
      have hback : (listed.setIfInBounds j true).getD j0 true = false → i ≠ j0 → ((listed.setIfInBounds j true).setIfInBounds i true).getD j0 true = false := fun h hne => by rw [getD_set_ne true hne]; exact h
      have hSj : (listed.setIfInBounds j true).getD j0 true = false → S w' := fun h => hS3 (hback h hne)
      have hS'w : S' w' := by
        rcases hS' with hA | hB
        · rw [hA.2.1]; exact hSj (hJ' hA.1)
        · exact hB.2 w'
      exact ⟨hSj, ih (listed.setIfInBounds j true) a' w' hfree' (ready_mono hr (Ne.symm hji)) hy3 hS'w hSj hJ' hW3⟩
theorem j_all {i : Nat} {fuel : Nat} {listed : Array Bool} {a : Act} {w : World} (hr : Region.ready md ops listed = [i])
    (h : wpOp P ops Q i (fun a' w' => ((listed.setIfInBounds i true).getD j0 true = false → S w') ∧ wpAnyJ P md ops Q S j0 fuel (listed.setIfInBounds i true) a' w') a w) : wpAnyJ P md ops Q S j0 (fuel + 1) listed a w :=
  ⟨(fun h0 => by rw [hr] at h0; cases h0), (fun j hj => by rw [hr, List.mem_singleton] at hj; subst hj; exact h)⟩
/-- The walk in an order: (0, i): taken first, in worlds of S; (1, i): taken first, in whatever world; (2, i): comes up alone, S holds behind it; (3, i): alone, nothing is asked behind it. -/
def wpSteps3 (P : Program) (ops : Array Oper) (S : World → Prop) (Q : Exit → Act → World → Prop) : List (Nat × Nat) → Act → World → Prop
  | [], a, w => Q .normal a w
  | (b, i) :: r, a, w => match ops.toList[i]? with
    | none => False
    | some o => match b with
      | 0 => wpQuiet P ops S (fun a' => wpSteps3 P ops S Q r a' w) [o] a
      | 1 => wpQuiet P ops (fun _ => True) (fun a' => wpSteps3 P ops S Q r a' w) [o] a
      | 2 => wpList P ops (thenQ S (wpSteps3 P ops S Q r) Q) [o] a w
      | _ => wpList P ops (thenQ (fun _ => True) (wpSteps3 P ops S Q r) Q) [o] a w
def stepsB3 (md : Region.Mode) (ops : Array Oper) (j0 : Nat) : List (Nat × Nat) → Array Bool → Bool
  | [], listed => (Region.ready md ops listed).isEmpty
  | (b, i) :: r, listed => (match ops.toList[i]? with
    | none => false
    | some o => match b with
      | 0 => pureOp2 o.op && Region.free md ops listed i && (Region.ready md ops listed).contains i && waitsB md ops j0 i && (listed.getD j0 true == false) && (i != j0)
      | 1 => pureOp2 o.op && Region.free md ops listed i && (Region.ready md ops listed).contains i && (i != j0)
      | 2 => Region.ready md ops listed == [i]
      | _ => Region.ready md ops listed == [i] && (i == j0 || (listed.getD j0 true == true))) && stepsB3 md ops j0 r (listed.setIfInBounds i true)
theorem yields_of {o : Oper} {a : Act} {S' : World → Prop} {N : Act → Prop} (hp : pureOp2 o.op = true) (h1 : wpQuiet P ops S' N [o] a) : ∃ v, YieldsIf P ops S' o v a ∧ N (a.put o.dst v) := by
  unfold wpQuiet at h1
  split at h1
  · rename_i hw
    obtain ⟨v, h2, h3⟩ := h1
    refine ⟨v, Or.inl ⟨hw, fun w1 hw1 => ?_⟩, h3⟩
    have h4 := h2 w1 hw1
    unfold Oper.quietAt at h4
    generalize hR : (execOp a.eval o).run P w1 = R at h4
    cases R with
    | ok n w2 =>
      obtain ⟨u, rfl⟩ := pure_value2 hp hR
      obtain ⟨e1, e2⟩ := (h4 : w2 = w1 ∧ u = v)
      rw [e1, e2]
    | halt x w2 => exact h4.elim
  · rename_i hw
    exact ⟨undef, Or.inr ⟨by simpa using hw, rfl⟩, h1⟩
theorem alone3 {i : Nat} {o : Oper} {N K : Act → World → Prop} {S' : World → Prop} {a : Act} {w : World} (ho' : ops[i]? = some o) (hK : ∀ a' w', S' w' ∧ N a' w' → K a' w') (h1 : wpList P ops (thenQ S' N Q) [o] a w) : wpOp P ops Q i K a w := by
  refine wpOp_mono (K := fun a' w' => S' w' ∧ N a' w') hK ?_
  unfold wpList at h1
  unfold wpOp
  rw [ho']
  show if Region.wanted o (yielded ops a.tmps) then _ else _
  split
  · rename_i hw
    rw [if_pos hw] at h1
    rcases h1 with h1 | ⟨h1, h2⟩
    · refine Or.inl ?_
      unfold Oper.wp at h1 ⊢
      generalize (execOp a.eval o).run P w = R at h1 ⊢
      cases R with
      | ok n w2 => cases n <;> exact h1
      | halt x w2 => cases x <;> exact h1
    · exact Or.inr ⟨h1, h2⟩
  · rename_i hw
    rw [if_neg hw] at h1
    exact h1
theorem steps_ok3 (hsel : Region.noSelect ops = true) (hQ : ∀ c a (t : Tmp) v w, Q (.panic c) (Act.put a (some t) v) w → Q (.panic c) a w) : ∀ (l : List (Nat × Nat)) (listed : Array Bool) (a : Act) (w : World), stepsB3 md ops j0 l listed = true → (listed.getD j0 true = false → S w) → wpSteps3 P ops S Q l a w → wpAnyJ P md ops Q S j0 l.length listed a w
  | [], listed, a, w, hB, hS, h => ⟨by simpa [stepsB3] using hB, h⟩
  | (b, i) :: r, listed, a, w, hB, hS, h => by
    have hset : ∀ (k : Nat), k ≠ j0 → (listed.setIfInBounds k true).getD j0 true = listed.getD j0 true := fun k hk => getD_set_ne true hk
    unfold stepsB3 at hB
    unfold wpSteps3 at h
    cases ho : ops.toList[i]? with
    | none => rw [ho] at h; exact h.elim
    | some o =>
      rw [ho] at h hB
      have ho' : ops[i]? = some o := by rw [← ho]; simp
      simp only [Bool.and_eq_true] at hB
      obtain ⟨hB1, hB2⟩ := hB
      match b, h, hB1 with
      | 0, h, hB1 =>
        simp only [Bool.and_eq_true, beq_iff_eq, bne_iff_ne] at hB1
        obtain ⟨⟨⟨⟨⟨hp, hf⟩, hr⟩, hw⟩, hj⟩, hne⟩ := hB1
        obtain ⟨v, hy, hN⟩ := yields_of hp h
        exact j_first ho' (Region.noSelect_spec hsel) (fun c a w h => put_any hQ c a _ _ w h) hne true (Or.inl ⟨rfl, rfl, hw⟩) _ listed a w (Region.free_spec ho' hf) (by simpa using hr) hy (hS hj) hS (fun _ => hj)
          (steps_ok3 hsel hQ r _ _ w hB2 (fun h => hS (by rwa [hset i hne] at h)) hN)
      | 1, h, hB1 =>
        simp only [Bool.and_eq_true, bne_iff_ne] at hB1
        obtain ⟨⟨⟨hp, hf⟩, hr⟩, hne⟩ := hB1
        obtain ⟨v, hy, hN⟩ := yields_of hp h
        exact j_first ho' (Region.noSelect_spec hsel) (fun c a w h => put_any hQ c a _ _ w h) hne false (Or.inr ⟨rfl, fun _ => trivial⟩) _ listed a w (Region.free_spec ho' hf) (by simpa using hr) hy trivial hS (fun h => by cases h)
          (steps_ok3 hsel hQ r _ _ w hB2 (fun h => hS (by rwa [hset i hne] at h)) hN)
      | 2, h, hB1 =>
        have hr : Region.ready md ops listed = [i] := by simpa using hB1
        exact j_all hr (alone3 ho' (fun a' w' hh => ⟨fun _ => hh.1, steps_ok3 hsel hQ r _ a' w' hB2 (fun _ => hh.1) hh.2⟩) h)
      | k + 3, h, hB1 =>
        simp only [Bool.and_eq_true, Bool.or_eq_true, beq_iff_eq] at hB1
        obtain ⟨hr, hj⟩ := hB1
        have hoff : ∀ {p : Prop}, (listed.setIfInBounds i true).getD j0 true = false → p := fun {p} h => by
          exfalso
          rcases hj with rfl | hj
          · rcases Nat.lt_or_ge i listed.size with h' | h'
            · simp [h'] at h
            · rw [Array.setIfInBounds_eq_of_size_le h'] at h
              simp [Array.getElem?_eq_none h'] at h
          · by_cases hk : i = j0
            · subst hk
              rcases Nat.lt_or_ge i listed.size with h' | h'
              · simp [h'] at h
              · rw [Array.setIfInBounds_eq_of_size_le h', hj] at h; cases h
            · rw [hset i hk, hj] at h; cases h
        exact j_all hr (alone3 ho' (fun a' w' hh => ⟨fun h => hoff h, steps_ok3 hsel hQ r _ a' w' hB2 (fun h => hoff h) hh.2⟩) h)
theorem wp_region_steps3 {id : Nat} {l : List Oper} {a : Act} {W : World} (j0 : Nat) (S : World → Prop) (steps : List (Nat × Nat)) (hm : P.follows .mixedOrders = true) (hsel : Region.noSelect l.toArray = true) (hn : steps.length = l.length) (hB : stepsB3 .any l.toArray j0 steps (Array.replicate l.length false) = true)
    (hQ : ∀ c a (t : Tmp) v w, Q (.panic c) (Act.put a (some t) v) w → Q (.panic c) a w) (hS : S { W with drawn := W.drawn + 1 })
    (h : wpSteps3 P l.toArray S Q steps a { W with drawn := W.drawn + 1 }) : (Code.region id l.toArray true).wp P Q a W := by
  refine wp_region_any hm (wpAny_of_j (S := S) (j0 := j0) _ _ _ _ ?_)
  have hs : (l.toArray).size = steps.length := by rw [hn]; simp
  rw [hs, hn]
  have := steps_ok3 (md := .any) (j0 := j0) hsel hQ steps (Array.replicate l.length false) a _ hB (fun _ => hS) h
  rw [hn] at this
  exact this
theorem wp_region_mem3 {id : Nat} {l : List Oper} {a : Act} {w0 W : World} {L : List Res} (j0 : Nat) (steps : List (Nat × Nat)) (hm : P.follows .mixedOrders = true) (hsel : Region.noSelect l.toArray = true) (hn : steps.length = l.length) (hB : stepsB3 .any l.toArray j0 steps (Array.replicate l.length false) = true)
    (hQ : ∀ c a (t : Tmp) v w, Q (.panic c) (Act.put a (some t) v) w → Q (.panic c) a w) (HM : Mem w0 W L) (L0 : List Res) (hL : L0.Sublist L)
    (h : Nonempty (MemW w0 L0) → ∀ W', Mem w0 W' L → wpSteps3 P l.toArray (fun V => ∃ p : MemW w0 L0, V = p.W) Q steps a W') : (Code.region id l.toArray true).wp P Q a W := by
  have hM := HM.next (W' := { W with drawn := W.drawn + 1 }) (RowKit.Below.refl _ W).drew
  exact wp_region_steps3 j0 _ steps hm hsel hn hB hQ ⟨⟨_, hM.sub hL⟩, rfl⟩ (h ⟨⟨_, hM.sub hL⟩⟩ _ hM)
end
end Go.Proofs.YtinkdemjjnfphaaDoor
