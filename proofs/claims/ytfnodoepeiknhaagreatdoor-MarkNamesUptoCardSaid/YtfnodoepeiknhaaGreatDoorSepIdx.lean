/- More laws: the place of an element of an array of one-cell elements; no program in sight. -/
import Derived.Test.YtfnodoepeiknhaaGreatDoorSepA
namespace Go.Proofs.YtfnodoepeiknhaaGreatDoor
open Go.RowKit
set_option linter.unusedVariables false
class ArrT (P : Program) (t : TypeId) (e : outParam TypeId) (N : outParam Nat) : Prop where
  under : P.underlying t = some (.array N e)
  size : (P.info? e).map (·.size) = some 1
section
variable {P : Program} {ops : Array Oper} {Q : Exit → Act → World → Prop} {a : Act} {W W' w0 : World} {rest : List Oper} {L : List Res} {K : Act → Prop} {C : World → Prop}
variable {dst : Option Tmp} {ty0 : TypeId} {pos : String} {after : Array Edge} {gd : Option (Nat × Bool)}
theorem add_at (g o j : Nat) : (⟨g, o, none⟩ : Addr).add j = ⟨g, o + j, none⟩ := add_none g o j
theorem run_index_arr {t e : TypeId} {N : Nat} [hA : ArrT P t e N] {g o i : Nat} {kd : IntKind} {d : Int} (hd : d = (i : Int)) (hi : i < N) (W : World) : (Instr.indexAt t (.pointer (some ⟨g, o, none⟩)) (.int kd d)).run P W = .ok (.pointer (some ⟨g, o + i, none⟩)) W := by
  subst hd
  obtain ⟨j, hj, hjs⟩ := Option.map_eq_some_iff.1 hA.size
  have h1 : (i : Int) < N := by omega
  simp [Instr.indexAt, Sem.run_bind, asIntOf, run_underlying hA.under, Instr.sureAddr, sizeOf, typeInfo, hj, hjs, hi, add_none]
theorem iaa {t e : TypeId} {N : Nat} [hA : ArrT P t e N] {x ix : Operand} {g o i : Nat} {kd : IntKind} {d : Int} (hw : Region.wanted ⟨dst, .indexAddr t x ix, ty0, pos, after, gd⟩ (yielded ops a.tmps) = true) (hx : a.eval x = .pointer (some ⟨g, o, none⟩)) (hh : a.eval ix = .int kd d) (hd : d = (i : Int)) (hi : i < N)
    (h : wpList P ops Q (⟨dst, .move (.const (.pointer (some ⟨g, o + i, none⟩))), ty0, pos, after, gd⟩ :: rest) a W) : wpList P ops Q (⟨dst, .indexAddr t x ix, ty0, pos, after, gd⟩ :: rest) a W :=
  as_moveW (o := ⟨dst, .indexAddr t x ix, ty0, pos, after, gd⟩) hw (by simp only [execOp, hx, hh, Sem.run_bind, Sem.run_pure, Result.andThen_ok, run_index_arr hd hi]) h
theorem qiaa {t e : TypeId} {N : Nat} [hA : ArrT P t e N] {x ix : Operand} {g o i : Nat} {kd : IntKind} {d : Int} (hx : a.eval x = .pointer (some ⟨g, o, none⟩)) (hh : a.eval ix = .int kd d) (hd : d = (i : Int)) (hi : i < N)
    (h : wpQuiet P ops C K (⟨dst, .move (.const (.pointer (some ⟨g, o + i, none⟩))), ty0, pos, after, gd⟩ :: rest) a) : wpQuiet P ops C K (⟨dst, .indexAddr t x ix, ty0, pos, after, gd⟩ :: rest) a :=
  as_moveQ (o := ⟨dst, .indexAddr t x ix, ty0, pos, after, gd⟩) (fun V _ => quiet_value (by simp only [execOp, hx, hh, Sem.run_bind, Sem.run_pure, Result.andThen_ok, run_index_arr hd hi])) h
theorem ixk {t e : TypeId} {k bytes : Nat} {z : Value} [hR : RowT P t e k bytes z] {x ix : Operand} {b : Addr} {n c i : Nat} {kd : IntKind} {d : Int} (hx : a.eval x = .slice (some b) n c) (hh : a.eval ix = .int kd d) (hd : d = (i : Int)) (hi : i < n)
    (h : wpList P ops Q (⟨dst, .move (.const (.pointer (some (b.add (i * k))))), ty0, pos, after, gd⟩ :: rest) a W) : wpList P ops Q (⟨dst, .indexAddr t x ix, ty0, pos, after, gd⟩ :: rest) a W := by
  subst hd
  obtain ⟨i', hi', -, hsz, -⟩ := rowT_parts hR
  subst hsz
  refine as_move (o := ⟨dst, .indexAddr t x ix, ty0, pos, after, gd⟩) ?_ h
  have h1 : (i : Int) < n := by omega
  simp [execOp, hx, hh, Instr.indexAt, Sem.run_bind, asIntOf, run_underlying hR.under, sizeOf, typeInfo, hi', hi]
theorem qixk {t e : TypeId} {k bytes : Nat} {z : Value} [hR : RowT P t e k bytes z] {x ix : Operand} {b : Addr} {n c i : Nat} {kd : IntKind} {d : Int} (hx : a.eval x = .slice (some b) n c) (hh : a.eval ix = .int kd d) (hd : d = (i : Int)) (hi : i < n)
    (h : wpQuiet P ops C K (⟨dst, .move (.const (.pointer (some (b.add (i * k))))), ty0, pos, after, gd⟩ :: rest) a) : wpQuiet P ops C K (⟨dst, .indexAddr t x ix, ty0, pos, after, gd⟩ :: rest) a := by
  subst hd
  obtain ⟨i', hi', -, hsz, -⟩ := rowT_parts hR
  subst hsz
  refine as_moveQ (o := ⟨dst, .indexAddr t x ix, ty0, pos, after, gd⟩) (fun V _ => quiet_value ?_) h
  have h1 : (i : Int) < n := by omega
  simp [execOp, hx, hh, Instr.indexAt, Sem.run_bind, asIntOf, run_underlying hR.under, sizeOf, typeInfo, hi', hi]
/-- An array behind six cells in a box: a store into it, a load of it; an element of an array as a value. -/
theorem set6 (a0 a1 a2 a3 a4 a5 v : Value) (M : List Value) (i : Nat) : (a0 :: a1 :: a2 :: a3 :: a4 :: a5 :: M).set (6 + i) v = a0 :: a1 :: a2 :: a3 :: a4 :: a5 :: M.set i v := by
  rw [Nat.add_comm]; rfl
theorem stm {ty : TypeId} [hC : CellT P ty] {x y : Operand} {g : Nat} {t : TypeId} {a0 a1 a2 a3 a4 a5 : Value} {M : List Value} {i : Nat} {v : Value} (hw : Region.wanted ⟨dst, .store ty x y, ty0, pos, after, gd⟩ (yielded ops a.tmps) = true) (HM : Mem w0 W L) (k : Nat) (hk : L[k]? = some (.box g t (a0 :: a1 :: a2 :: a3 :: a4 :: a5 :: M))) (hx : a.eval x = .pointer (some ⟨g, 6 + i, none⟩))
    (hy : a.eval y = v) (h1 : v.oneCell' = true) (hi : i < M.length)
    (h : ∀ W', Mem w0 W' (L.set k (.box g t (a0 :: a1 :: a2 :: a3 :: a4 :: a5 :: M.set i v))) → wpList P ops Q (⟨dst, .move (.const undef), ty0, pos, after, gd⟩ :: rest) a W') : wpList P ops Q (⟨dst, .store ty x y, ty0, pos, after, gd⟩ :: rest) a W :=
  stb1 hw HM k hk hx hy h1 (decide_eq_true (by simp only [List.length_cons]; omega)) (fun W' h' => h W' (by rw [set6] at h'; exact h'))
theorem ldm {ty : TypeId} {n : Nat} [hA : AggT P ty n] {x : Operand} {g : Nat} {t : TypeId} {a0 a1 a2 a3 a4 a5 : Value} {M : List Value} (HM : Mem w0 W L) (k : Nat) (hk : L[k]? = some (.box g t (a0 :: a1 :: a2 :: a3 :: a4 :: a5 :: M))) (hx : a.eval x = .pointer (some ⟨g, 6, none⟩)) (hn : M.length = n)
    (h : wpList P ops Q (⟨dst, .move (.const (.agg M.toArray)), ty0, pos, after, gd⟩ :: rest) a W) : wpList P ops Q (⟨dst, .load ty x, ty0, pos, after, gd⟩ :: rest) a W := by
  have e : ((a0 :: a1 :: a2 :: a3 :: a4 :: a5 :: M).drop 6).take n = M := by
    show M.take n = M
    rw [← hn, List.take_length]
  exact ldbS HM k hk hx (by rw [e]; exact hn) (by rw [e]; exact h)
theorem run_index_agg {t e : TypeId} {N : Nat} [hA : ArrT P t e N] [hC : CellT P e] {M : List Value} {i : Nat} {v : Value} {kd : IntKind} {d : Int} (hd : d = (i : Int)) (hM : M.length = N) (hi : M[i]? = some v) (W : World) : (Instr.index t (.agg M.toArray) (.int kd d)).run P W = .ok v W := by
  subst hd
  have hlt := (List.getElem?_eq_some_iff.1 hi).1
  have h1 : (i : Int) < N := by omega
  have h2 : i < N := by omega
  obtain ⟨j, hj, hjs⟩ := Option.map_eq_some_iff.1 hA.size
  simp [Instr.index, Sem.run_bind, asIntOf, run_underlying hA.under, sizeOf, typeInfo, hj, hjs, h2, part, hC.flat, hi]
theorem ixv {t e : TypeId} {N : Nat} [hA : ArrT P t e N] [hC : CellT P e] {x ix : Operand} {M : List Value} {i : Nat} {v : Value} {kd : IntKind} {d : Int} (hx : a.eval x = .agg M.toArray) (hh : a.eval ix = .int kd d) (hd : d = (i : Int)) (hM : M.length = N) (hi : M[i]? = some v)
    (h : wpList P ops Q (⟨dst, .move (.const v), ty0, pos, after, gd⟩ :: rest) a W) : wpList P ops Q (⟨dst, .index t x ix, ty0, pos, after, gd⟩ :: rest) a W :=
  as_move (o := ⟨dst, .index t x ix, ty0, pos, after, gd⟩) (by simp only [execOp, hx, hh, Sem.run_bind, Sem.run_pure, Result.andThen_ok, run_index_agg hd hM hi]) h
end
end Go.Proofs.YtfnodoepeiknhaaGreatDoor
