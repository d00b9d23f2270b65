/- mark.Read on the fixed document, and the law's known. (short) A scope with labels, in general: what holds at the labels that the run jumps back to, and a measure; other jumps are walked on from their labels. No program in sight. -/
import Derived.Test.YtanncakdlflopaaGreatDoorMarkI
import Derived.OwnWalk
import Derived.Test.YtanncakdlflopaaGreatDoorMarkGH
namespace Go.Proofs.YtanncakdlflopaaGreatDoor
open Go.RowKit
set_option linter.unusedVariables false
set_option linter.unusedSimpArgs false
set_option maxRecDepth 100000

section
variable {P : Program} {ops : Array Oper} {K : Act → Prop} {a : Act} {w0 : World} {rest : List Oper} {L : List Res}
variable {dst : Option Tmp} {ty0 : TypeId} {pos : String} {after : Array Edge} {gd : Option (Nat × Bool)}
end
end Go.Proofs.YtanncakdlflopaaGreatDoor

namespace Go.Proofs.YtanncakdlflopaaGreatDoor
set_option linter.unusedVariables false

/-- As Q; a goto: to a label with what holds there, lower; or the code behind its label, so many jumps more. -/
def labQ (P : Program) (c : Code) (I : Nat → Nat → Act → World → Prop) (m : Nat) (Q : Exit → Act → World → Prop) : Nat → Exit → Act → World → Prop
 | 0, .goto l, a, w => ∃ m', m' < m ∧ I l m' a w
 | n + 1, .goto l, a, w => (∃ m', m' < m ∧ I l m' a w) ∨ ∃ x, findLabel c l = some (Code.seq .skip x) ∧ x.wp P (labQ P c I m Q n) a w
 | _, e, a, w => Q e a w
theorem lab_at {P : Program} {c : Code} {I : Nat → Nat → Act → World → Prop} {m : Nat} {Q : Exit → Act → World → Prop} {n l : Nat} {a : Act} {w : World} (m' : Nat) (h : m' < m) (hI : I l m' a w) : labQ P c I m Q n (.goto l) a w := by
 cases n with
 | zero => exact ⟨m', h, hI⟩
 | succ n => exact .inl ⟨m', h, hI⟩
theorem lab_on {P : Program} {c : Code} {I : Nat → Nat → Act → World → Prop} {m : Nat} {Q : Exit → Act → World → Prop} {n l : Nat} {a : Act} {w : World} {x : Code} (hf : findLabel c l = some (Code.seq .skip x)) (h : x.wp P (labQ P c I m Q n) a w) : labQ P c I m Q (n + 1) (.goto l) a w := .inr ⟨x, hf, h⟩
theorem lab_ret {P : Program} {c : Code} {I : Nat → Nat → Act → World → Prop} {m : Nat} {Q : Exit → Act → World → Prop} {n : Nat} {a : Act} {w : World} (h : Q .ret a w) : labQ P c I m Q n .ret a w := by
 cases n with
 | zero => exact h
 | succ n => exact h
theorem lab_mono {P : Program} {c : Code} {I : Nat → Nat → Act → World → Prop} {m m' : Nat} {Q : Exit → Act → World → Prop} (hm : m' ≤ m) : ∀ {n : Nat} {e : Exit} {a : Act} {w : World}, labQ P c I m' Q n e a w → labQ P c I m Q n e a w
 | 0, .goto l, a, w, ⟨k, hk, h⟩ => ⟨k, by omega, h⟩
 | n + 1, .goto l, a, w, .inl ⟨k, hk, h⟩ => .inl ⟨k, by omega, h⟩
 | n + 1, .goto l, a, w, .inr ⟨x, hf, hx⟩ => .inr ⟨x, hf, fun b k cs => let ⟨e, a', w', hq, harr⟩ := hx b k cs; ⟨e, a', w', lab_mono hm hq, harr⟩⟩
 | 0, .normal, _, _, h => h
 | 0, .exit _, _, _, h => h
 | 0, .ret, _, _, h => h
 | 0, .panic _, _, _, h => h
 | 0, .outgrown, _, _, h => h
 | n + 1, .normal, _, _, h => h
 | n + 1, .exit _, _, _, h => h
 | n + 1, .ret, _, _, h => h
 | n + 1, .panic _, _, _, h => h
 | n + 1, .outgrown, _, _, h => h
theorem wp_labels {P : Program} {a : Act} {w : World} {Q : Exit → Act → World → Prop} {c : Code} (n : Nat) (I : Nat → Nat → Act → World → Prop)
  (hI : ∀ l m a w, I l m a w → ∃ x, findLabel c l = some (Code.seq .skip x) ∧ x.wp P (labQ P c I m Q n) a w)
  (m : Nat) (h : (∀ l m' a w x, m' ≤ m → I l m' a w → findLabel c l = some (Code.seq .skip x) → x.wp P (labQ P c I m Q n) a w) → c.wp P (labQ P c I m Q n) a w) : (Code.scope c).wp P Q a w := by
 have h := h fun l m' a w x hm hi hf => by
  obtain ⟨x', hf', hx'⟩ := hI l m' a w hi
  rw [hf] at hf'
  cases hf'
  exact fun b k cs => let ⟨e, a', w', hq, harr⟩ := hx' b k cs; ⟨e, a', w', lab_mono hm hq, harr⟩
 intro b k cs
 have all : ∀ (m : Nat), ∀ (n : Nat) (r : Code) (a : Act) (w : World), r.wp P (labQ P c I m Q n) a w → ∃ e x y, Q e x y ∧ Arrives P (lone (b.at a (.code r :: .inScope c :: k)) cs w) b k cs e x y := by
  intro m
  induction m using Nat.strongRecOn with
  | _ m ihm =>
   have back : ∀ l a w, (∃ m', m' < m ∧ I l m' a w) → ∃ x, findLabel c l = some (Code.seq .skip x) ∧ ∃ e a₂ w₂, Q e a₂ w₂ ∧ Arrives P (lone (b.at a (.code (Code.seq .skip x) :: .inScope c :: k)) cs w) b k cs e a₂ w₂ := by
    rintro l a w ⟨m', hm, hi⟩
    obtain ⟨x, hf, hx⟩ := hI l m' a w hi
    exact ⟨x, hf, ihm m' hm n _ a w (wp_behind_skip2 hx)⟩
   intro n
   induction n with
   | zero =>
    intro r a w hw
    obtain ⟨e, a₁, w₁, hq, harr⟩ := hw b (.inScope c :: k) cs
    cases e with
    | normal => exact ⟨.normal, a₁, w₁, hq, Steps.trans harr (.one step_inScope)⟩
    | exit id => exact ⟨.exit id, a₁, w₁, hq, fun k' hk => harr k' (by simp [exitTo, hk])⟩
    | goto l =>
     obtain ⟨x, hf, e₂, a₂, w₂, hq₂, harr₂⟩ := back l a₁ w₁ hq
     exact ⟨e₂, a₂, w₂, hq₂, .of_steps (harr _ (show gotoIn l (.inScope c :: k) = some (.code (Code.seq .skip x) :: .inScope c :: k) by simp [gotoIn, hf])) harr₂⟩
    | ret => exact ⟨_, a₁, w₁, hq, harr⟩
    | panic ch => exact ⟨_, a₁, w₁, hq, harr⟩
    | outgrown => exact ⟨_, a₁, w₁, hq, harr⟩
   | succ n ih =>
    intro r a w hw
    obtain ⟨e, a₁, w₁, hq, harr⟩ := hw b (.inScope c :: k) cs
    cases e with
    | normal => exact ⟨.normal, a₁, w₁, hq, Steps.trans harr (.one step_inScope)⟩
    | exit id => exact ⟨.exit id, a₁, w₁, hq, fun k' hk => harr k' (by simp [exitTo, hk])⟩
    | goto l =>
     have : ∃ x, findLabel c l = some (Code.seq .skip x) ∧ ∃ e a₂ w₂, Q e a₂ w₂ ∧ Arrives P (lone (b.at a₁ (.code (Code.seq .skip x) :: .inScope c :: k)) cs w₁) b k cs e a₂ w₂ := by
      rcases hq with hq | ⟨x, hf, hx⟩
      ·exact back l a₁ w₁ hq
      ·exact ⟨x, hf, ih _ a₁ w₁ (wp_behind_skip2 hx)⟩
     obtain ⟨x, hf, e₂, a₂, w₂, hq₂, harr₂⟩ := this
     exact ⟨e₂, a₂, w₂, hq₂, .of_steps (harr _ (show gotoIn l (.inScope c :: k) = some (.code (Code.seq .skip x) :: .inScope c :: k) by simp [gotoIn, hf])) harr₂⟩
    | ret => exact ⟨_, a₁, w₁, hq, harr⟩
    | panic ch => exact ⟨_, a₁, w₁, hq, harr⟩
    | outgrown => exact ⟨_, a₁, w₁, hq, harr⟩
 obtain ⟨e, a₁, w₁, hq, harr⟩ := all m n c a w h
 exact ⟨e, a₁, w₁, hq, .of_steps (.one step_scope) harr⟩
/-- A panic doesn't look at the frame. -/
def PanQ (Q : Exit → Act → World → Prop) : Prop := ∀ c a (t : Tmp) v w, Q (.panic c) (Act.put a (some t) v) w → Q (.panic c) a w
theorem lab_pan {P : Program} {c : Code} {I : Nat → Nat → Act → World → Prop} {m : Nat} {Q : Exit → Act → World → Prop} (h : PanQ Q) : ∀ {n : Nat}, PanQ (labQ P c I m Q n)
 | 0 => h
 | _ + 1 => h
theorem lab_go {P : Program} {c : Code} {I : Nat → Nat → Act → World → Prop} {m : Nat} {Q : Exit → Act → World → Prop} {n l : Nat} {a : Act} {w : World} {x : Code} (hf : findLabel c l = some (Code.seq .skip x)) (hp : PanQ Q) (h : ∀ Q2 : Exit → Act → World → Prop, (∀ e a w, labQ P c I m Q n e a w → Q2 e a w) → PanQ Q2 → x.wp P Q2 a w) : labQ P c I m Q (n + 1) (.goto l) a w := lab_on hf (h _ (fun _ _ _ h => h) (lab_pan hp))
/-- As wp_labels, what is asked for behind it a variable. -/
theorem wp_labels2 {P : Program} {a : Act} {w : World} {Q : Exit → Act → World → Prop} {c : Code} (hp : PanQ Q) (n : Nat) (I : Nat → Nat → Act → World → Prop)
  (hI : ∀ l m a w, I l m a w → ∃ x, findLabel c l = some (Code.seq .skip x) ∧ ∀ Q2 : Exit → Act → World → Prop, (∀ e a w, labQ P c I m Q n e a w → Q2 e a w) → PanQ Q2 → x.wp P Q2 a w)
  (m : Nat) (h : ∀ Q2 : Exit → Act → World → Prop, (∀ e a w, labQ P c I m Q n e a w → Q2 e a w) → PanQ Q2 → (∀ l m' a w x, m' ≤ m → I l m' a w → findLabel c l = some (Code.seq .skip x) → x.wp P Q2 a w) → c.wp P Q2 a w) : (Code.scope c).wp P Q a w :=
 wp_labels n I (fun l m a w hi => let ⟨x, hf, hx⟩ := hI l m a w hi; ⟨x, hf, hx _ (fun _ _ _ h => h) (lab_pan hp)⟩) m fun H => h _ (fun _ _ _ h => h) (lab_pan hp) H
end Go.Proofs.YtanncakdlflopaaGreatDoor
