/- Nodes put behind a row of nodes. -/
import Derived.Test.YtkackccmhghphaaGreatDoorPlainA
import Derived.Test.YtkackccmhghphaaGreatDoorSepA
namespace Go.Proofs.YtkackccmhghphaaGreatDoor
open Go.RowKit
set_option linter.unusedVariables false

section
variable {P : Program} {ops : Array Oper} {Q : Exit → Act → World → Prop} {a : Act} {W w0 : World} {rest : List Oper} {L : List Res}
variable {dst : Option Tmp} {ty0 : TypeId} {pos : String} {after : Array Edge} {gd : Option (Nat × Bool)}
/-- Nodes put behind a row of nodes. -/
theorem apN {t e : TypeId} {bytes : Nat} {z : Value} [hR : RowT P t e 8 bytes z] {s x : Operand} {p q : Option Addr} {cap c n n0 m : Nat} {l la : List NodeD} (hw : Region.wanted ⟨dst, .call { callee := .builtin .append, args := #[s, x], argTypes := #[t, t] }, ty0, pos, after, gd⟩ (yielded ops a.tmps) = true)
  (HM : Mem w0 W L) (j : Nat) (hj : L[j]? = some (.row p cap e 8 n0 (l.flatMap NodeD.cs))) (hs : a.eval s = .slice p n cap) (hx : a.eval x = .slice q m c) (hn0 : n0 = l.length) (hn : n = l.length) (hm : m = la.length) (hsl : Sl W q (la.flatMap NodeD.cs)) (hl : l.length ≤ 100000) (hla : la.length ≤ 100000) (hb : decide (bytes ≤ 1000) = true)
  (h : ∀ p' cap' W', Mem w0 W' (L.set j (.row p' cap' e 8 (l ++ la).length ((l ++ la).flatMap NodeD.cs))) → wpList P ops Q (⟨dst, .move (.const (.slice p' (l ++ la).length cap')), ty0, pos, after, gd⟩ :: rest) a W') :
  wpList P ops Q (⟨dst, .call { callee := .builtin .append, args := #[s, x], argTypes := #[t, t] }, ty0, pos, after, gd⟩ :: rest) a W := by
 subst hn0 hn hm
 have hb' := of_decide_eq_true hb
 have hl2 : (la.flatMap NodeD.cs).length = la.length * 8 := flat_len NodeD.cs 8 NodeD.cs_len la
 refine apr (news := la.flatMap NodeD.cs) hw HM j hj hs hx hl2 (fun e => hsl.nil_len NodeD.cs_len (by decide) e) (fun b hb => hsl.2 b hb) (fun u hu => ?_) (by unfold maxLen; omega) ?_ (fun p' cap' W' hM _ => ?_)
 ·obtain ⟨n, -, hn⟩ := List.mem_flatMap.1 hu
  unfold NodeD.cs at hn
  simp only [List.mem_cons, List.not_mem_nil, or_false] at hn
  rcases hn with rfl | rfl | rfl | rfl | rfl | rfl | rfl | rfl <;> rfl
 ·have : (l.length + la.length) * bytes ≤ 200000 * 1000 := Nat.mul_le_mul (by omega) hb'
  omega
 ·rw [← List.flatMap_append, ← List.length_append] at hM
  rw [← List.length_append]
  exact h p' cap' W' hM
end
end Go.Proofs.YtkackccmhghphaaGreatDoor
