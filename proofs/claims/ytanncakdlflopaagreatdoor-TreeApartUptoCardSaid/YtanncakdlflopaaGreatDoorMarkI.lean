/- mark's read on the document that the laws' fixed fact asks for. (short) -/
import Derived.Test.YtanncakdlflopaaGreatDoorMarkGH
namespace Go.Proofs.YtanncakdlflopaaGreatDoor
open Go.RowKit
set_option linter.unusedVariables false
set_option linter.unusedSimpArgs false
set_option maxRecDepth 100000

theorem lit2E (a b c d a' b' c' d' : Value) : Instr.fill (fun i => some (i * 4, 4)) ((Array.range (2 * 4)).map ((Value.agg #[.int .i64 0, .string ⟨#[]⟩, .slice none 0 0, .string ⟨#[]⟩]).cells[· % (Value.agg #[.int .i64 0, .string ⟨#[]⟩, .slice none 0 0, .string ⟨#[]⟩]).cells.size]!)) [(0, .agg #[a, b, c, d]), (1, .agg #[a', b', c', d'])] = some ([a, b, c, d, a', b', c', d'].toArray) := by
 simp [Instr.fill, Array.range, Value.cells]
 apply Array.ext'
 simp [List.ofFn_succ]
section
variable {P : Program} {ops : Array Oper} {Q : Exit → Act → World → Prop} {a : Act} {W W' w0 : World} {rest : List Oper} {L : List Res}
variable {dst : Option Tmp} {ty0 : TypeId} {pos : String} {after : Array Edge} {gd : Option (Nat × Bool)}
/-- A literal of two events. -/
theorem bs2E {t e : TypeId} {bytes : Nat} [hR : RowT P t e 4 bytes (.agg #[.int .i64 0, .string ⟨#[]⟩, .slice none 0 0, .string ⟨#[]⟩])] {x y : Operand} {p q r s p' q' r' s' : Value} (hw : Region.wanted ⟨dst, .buildSlice t 2 #[(0, x), (1, y)], ty0, pos, after, gd⟩ (yielded ops a.tmps) = true) (HM : Mem w0 W L)
  (hx : a.eval x = .agg #[p, q, r, s]) (hy : a.eval y = .agg #[p', q', r', s'])
  (h : ∀ g W', Mem w0 W' (.box g e [p, q, r, s, p', q', r', s'] :: L) → wpList P ops Q (⟨dst, .move (.const (.slice (some ⟨g, 0, none⟩) 2 2)), ty0, pos, after, gd⟩ :: rest) a W') : wpList P ops Q (⟨dst, .buildSlice t 2 #[(0, x), (1, y)], ty0, pos, after, gd⟩ :: rest) a W := by
 refine bsb (cs := [p, q, r, s, p', q', r', s']) hw HM (by omega) (by omega) ?_ h
 have hp1 : (Array.map (fun x : Nat × Operand => (x.1, a.eval x.2)) #[(0, x), (1, y)]).toList = [(0, a.eval x), (1, a.eval y)] := by simp
 show Instr.fill _ _ (Array.map (fun x : Nat × Operand => (x.1, a.eval x.2)) #[(0, x), (1, y)]).toList = _
 rw [hp1, hx, hy]
 exact lit2E ..
end
end Go.Proofs.YtanncakdlflopaaGreatDoor
