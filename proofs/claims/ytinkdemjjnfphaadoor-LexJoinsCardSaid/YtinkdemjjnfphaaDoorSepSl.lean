/- Laws: x[:m] with m up to the cap; no program in sight. -/
import Derived.Test.YtinkdemjjnfphaaDoorSepStr
namespace Go.Proofs.YtinkdemjjnfphaaDoor
open Go.RowKit
set_option linter.unusedVariables false
section
variable {P : Program} {ops : Array Oper} {Q : Exit → Act → World → Prop} {a : Act} {W W' w0 : World} {rest : List Oper} {L : List Res}
variable {dst : Option Tmp} {ty0 : TypeId} {pos : String} {after : Array Edge} {gd : Option (Nat × Bool)}
theorem slx {t e : TypeId} {k bytes : Nat} {z : Value} [hR : RowT P t e k bytes z] {x hi : Operand} {p : Option Addr} {cap n m : Nat} {d : Int} (hx : a.eval x = .slice p n cap) (hh : a.eval hi = .int .i64 d) (hd : d = (m : Int)) (hm : m ≤ cap)
    (h : wpList P ops Q (⟨dst, .move (.const (.slice p m cap)), ty0, pos, after, gd⟩ :: rest) a W) : wpList P ops Q (⟨dst, .slice t x none (some hi) none, ty0, pos, after, gd⟩ :: rest) a W := by
  subst hd
  refine as_move (o := ⟨dst, .slice t x none (some hi) none, ty0, pos, after, gd⟩) ?_ h
  simp only [execOp, Option.map_none, Option.map_some, hx, hh, Sem.run_bind, run_slice_to (P := P) (W := W) hR p n cap m hm, Result.andThen_ok]
  rfl
end
theorem Res.holds.mono2 {B B' : Nat} {W : World} {r : Res} (h : r.holds B' W) (hb : B ≤ B') : r.holds B W := by
  cases r with
  | box g t cs => exact ⟨Nat.le_trans hb h.1, h.2⟩
  | map g es ck => exact ⟨Nat.le_trans hb h.1, h.2⟩
  | row p cap e k n cs =>
    obtain ⟨hl, h0 | ⟨g, cap', cur, hv, hg, hr⟩⟩ := (h : W.ownsRow _ _ _ _ _ _)
    · exact ⟨hl, Or.inl h0⟩
    · exact ⟨hl, Or.inr ⟨g, cap', cur, hv, Nat.le_trans hb hg, hr⟩⟩
/-- What a callee has left, beside what the caller has. -/
theorem Mem.comp2 {w0 W W' : World} {L0 L : List Res} (h0 : Mem w0 W L0) (h : Mem W W' L) : Mem w0 W' (L ++ L0) := by
  have h1 := h0.next h.below
  refine ⟨h1.below, fun r hr => ?_, List.pairwise_append.2 ⟨h.apart, h1.apart, fun r hr s hs g hg hg' => ?_⟩⟩
  · rcases List.mem_append.1 hr with hr | hr
    · exact (h.holds r hr).mono2 h0.below.size
    · exact h1.holds r hr
  · have a1 := ((h.holds r hr).lt hg).1
    have a2 := ((h0.holds s hs).lt hg').2
    omega
theorem row_sl {B : Nat} {W : World} {p : Option Addr} {cap k n : Nat} {e : TypeId} {cs : List Value} (h : (Res.row p cap e k n cs).holds B W) : Sl W p cs := by
  cases p with
  | none =>
    refine ⟨fun _ => ?_, fun a e => by cases e⟩
    obtain ⟨hl, ⟨h0, hn⟩ | ⟨g, cap', cur, hv, _⟩⟩ := (h : W.ownsRow _ _ _ _ _ _)
    · rw [hn, Nat.zero_mul] at hl; exact List.eq_nil_of_length_eq_zero hl
    · cases hv
  | some a =>
    refine ⟨fun e => (by cases e), fun a' e => ?_⟩
    cases Option.some.inj e
    obtain ⟨h1, h2, h3⟩ := row_cells h 0
    have h4 : a = ⟨a.block, 0, none⟩ := by cases a; cases h1; cases h2; rfl
    rw [h4]
    exact h3
theorem Mem.trunc {w0 W : World} {L : List Res} (h : Mem w0 W L) {k : Nat} {p : Option Addr} {cap j n m : Nat} {e : TypeId} {cs : List Value} (hk : L[k]? = some (.row p cap e j n cs)) (hm : m ≤ n) : Mem w0 W (L.set k (.row p cap e j m (cs.take (m * j)))) := h.turn0 hk (row_trunc (h.get hk) hm) (fun g e => e)
end Go.Proofs.YtinkdemjjnfphaaDoor
