/- Laws for strings: a byte of one, a part of one; no program in sight. -/
import Derived.Test.YtinkdemjjnfphaaDoorSepA
namespace Go.Proofs.YtinkdemjjnfphaaDoor
open Go.RowKit
set_option linter.unusedVariables false
class StrT (P : Program) (t : TypeId) : Prop where
  under : P.underlying t = some .string
theorem byte_at {s : ByteArray} {i : Nat} {b : UInt8} (h : s.data.toList[i]? = some b) : ∃ hi : i < s.size, s[i] = b := by
  have h1 : i < s.data.toList.length := (List.getElem?_eq_some_iff.1 h).1
  have h2 : i < s.size := by simpa using h1
  refine ⟨h2, ?_⟩
  rw [List.getElem?_eq_getElem h1] at h
  rw [← Option.some.inj h]
  simp [ByteArray.getElem_eq_getElem_data]
theorem run_sidx {P : Program} {W : World} {t : TypeId} (ht : P.underlying t = some .string) {s : ByteArray} {i : Nat} {b : UInt8} (h : s.data.toList[i]? = some b) : (Instr.index t (.string s) (.int .i64 i)).run P W = .ok (.int .u8 b.toNat) W := by
  obtain ⟨hi, rfl⟩ := byte_at h
  simp [Instr.index, run_underlying ht, asIntOf, hi]
theorem run_sls {P : Program} {W : World} {t : TypeId} (ht : P.underlying t = some .string) {s : ByteArray} {i j : Nat} (hij : i ≤ j) (hj : j ≤ s.size) : (Instr.slice t (.string s) (some (.int .i64 i)) (some (.int .i64 j)) none).run P W = .ok (.string (s.extract i j)) W := by
  simp [Instr.slice, run_underlying ht, Instr.sliceBounds, Instr.sliceBound, asIntOf, hij, hj]
theorem run_slf {P : Program} {W : World} {t : TypeId} (ht : P.underlying t = some .string) {s : ByteArray} {i : Nat} (hi : i ≤ s.size) : (Instr.slice t (.string s) (some (.int .i64 i)) none none).run P W = .ok (.string (s.extract i s.size)) W := by
  simp [Instr.slice, run_underlying ht, Instr.sliceBounds, Instr.sliceBound, asIntOf, hi]
theorem run_slh {P : Program} {W : World} {t : TypeId} (ht : P.underlying t = some .string) {s : ByteArray} {j : Nat} (hj : j ≤ s.size) : (Instr.slice t (.string s) none (some (.int .i64 j)) none).run P W = .ok (.string (s.extract 0 j)) W := by
  simp [Instr.slice, run_underlying ht, Instr.sliceBounds, Instr.sliceBound, asIntOf, hj]
section
variable {P : Program} {ops : Array Oper} {Q : Exit → Act → World → Prop} {a : Act} {W W' w0 : World} {rest : List Oper} {L : List Res} {C : World → Prop} {K : Act → Prop}
variable {dst : Option Tmp} {ty0 : TypeId} {pos : String} {after : Array Edge} {gd : Option (Nat × Bool)}
theorem six {t : TypeId} [hT : StrT P t] {x ix : Operand} {s : ByteArray} {d : Int} {i : Nat} {b : UInt8} (hx : a.eval x = .string s) (hh : a.eval ix = .int .i64 d) (hd : d = (i : Int)) (hb : s.data.toList[i]? = some b)
    (h : wpList P ops Q (⟨dst, .move (.const (.int .u8 b.toNat)), ty0, pos, after, gd⟩ :: rest) a W) : wpList P ops Q (⟨dst, .index t x ix, ty0, pos, after, gd⟩ :: rest) a W := by
  subst hd
  refine as_move (o := ⟨dst, .index t x ix, ty0, pos, after, gd⟩) ?_ h
  show (do pure (.value (← Instr.index t (a.eval x) (a.eval ix))) : Sem Next).run P W = _
  rw [hx, hh]
  simp only [Sem.run_bind, run_sidx hT.under hb, Result.andThen_ok]
  rfl
theorem qsix {t : TypeId} [hT : StrT P t] {x ix : Operand} {s : ByteArray} {d : Int} {i : Nat} {b : UInt8} (hx : a.eval x = .string s) (hh : a.eval ix = .int .i64 d) (hd : d = (i : Int)) (hb : s.data.toList[i]? = some b)
    (h : wpQuiet P ops C K (⟨dst, .move (.const (.int .u8 b.toNat)), ty0, pos, after, gd⟩ :: rest) a) : wpQuiet P ops C K (⟨dst, .index t x ix, ty0, pos, after, gd⟩ :: rest) a := by
  subst hd
  refine as_moveQ (o := ⟨dst, .index t x ix, ty0, pos, after, gd⟩) (fun V _ => quiet_value ?_) h
  show (do pure (.value (← Instr.index t (a.eval x) (a.eval ix))) : Sem Next).run P V = _
  rw [hx, hh]
  simp only [Sem.run_bind, run_sidx hT.under hb, Result.andThen_ok]
  rfl
theorem ssls {t : TypeId} [hT : StrT P t] {x lo hi : Operand} {s : ByteArray} {d e : Int} {i j : Nat} (hx : a.eval x = .string s) (hlo : a.eval lo = .int .i64 d) (hd : d = (i : Int)) (hhi : a.eval hi = .int .i64 e) (he : e = (j : Int)) (hij : i ≤ j) (hj : j ≤ s.size)
    (h : wpList P ops Q (⟨dst, .move (.const (.string (s.extract i j))), ty0, pos, after, gd⟩ :: rest) a W) : wpList P ops Q (⟨dst, .slice t x (some lo) (some hi) none, ty0, pos, after, gd⟩ :: rest) a W := by
  subst hd he
  refine as_move (o := ⟨dst, .slice t x (some lo) (some hi) none, ty0, pos, after, gd⟩) ?_ h
  simp only [execOp, Option.map_some, Option.map_none, hx, hlo, hhi, Instr.sliceAt, Sem.run_bind, run_underlying hT.under, Result.andThen_ok, run_sls (P := P) (W := W) hT.under hij hj]
  rfl
theorem sslf {t : TypeId} [hT : StrT P t] {x lo : Operand} {s : ByteArray} {d : Int} {i : Nat} (hx : a.eval x = .string s) (hlo : a.eval lo = .int .i64 d) (hd : d = (i : Int)) (hi : i ≤ s.size)
    (h : wpList P ops Q (⟨dst, .move (.const (.string (s.extract i s.size))), ty0, pos, after, gd⟩ :: rest) a W) : wpList P ops Q (⟨dst, .slice t x (some lo) none none, ty0, pos, after, gd⟩ :: rest) a W := by
  subst hd
  refine as_move (o := ⟨dst, .slice t x (some lo) none none, ty0, pos, after, gd⟩) ?_ h
  simp only [execOp, Option.map_some, Option.map_none, hx, hlo, Instr.sliceAt, Sem.run_bind, run_underlying hT.under, Result.andThen_ok, run_slf (P := P) (W := W) hT.under hi]
  rfl
theorem sslh {t : TypeId} [hT : StrT P t] {x hi : Operand} {s : ByteArray} {e : Int} {j : Nat} (hx : a.eval x = .string s) (hhi : a.eval hi = .int .i64 e) (he : e = (j : Int)) (hj : j ≤ s.size)
    (h : wpList P ops Q (⟨dst, .move (.const (.string (s.extract 0 j))), ty0, pos, after, gd⟩ :: rest) a W) : wpList P ops Q (⟨dst, .slice t x none (some hi) none, ty0, pos, after, gd⟩ :: rest) a W := by
  subst he
  refine as_move (o := ⟨dst, .slice t x none (some hi) none, ty0, pos, after, gd⟩) ?_ h
  simp only [execOp, Option.map_some, Option.map_none, hx, hhi, Instr.sliceAt, Sem.run_bind, run_underlying hT.under, Result.andThen_ok, run_slh (P := P) (W := W) hT.under hj]
  rfl
theorem qssls {t : TypeId} [hT : StrT P t] {x lo hi : Operand} {s : ByteArray} {d e : Int} {i j : Nat} (hx : a.eval x = .string s) (hlo : a.eval lo = .int .i64 d) (hd : d = (i : Int)) (hhi : a.eval hi = .int .i64 e) (he : e = (j : Int)) (hij : i ≤ j) (hj : j ≤ s.size)
    (h : wpQuiet P ops C K (⟨dst, .move (.const (.string (s.extract i j))), ty0, pos, after, gd⟩ :: rest) a) : wpQuiet P ops C K (⟨dst, .slice t x (some lo) (some hi) none, ty0, pos, after, gd⟩ :: rest) a := by
  subst hd he
  refine as_moveQ (o := ⟨dst, .slice t x (some lo) (some hi) none, ty0, pos, after, gd⟩) (v := .string (s.extract i j)) (fun V _ => quiet_value ?_) h
  simp only [execOp, Option.map_some, Option.map_none, hx, hlo, hhi, Instr.sliceAt, Sem.run_bind, run_underlying hT.under, Result.andThen_ok, run_sls (P := P) (W := V) hT.under hij hj]
  rfl
theorem qsslf {t : TypeId} [hT : StrT P t] {x lo : Operand} {s : ByteArray} {d : Int} {i : Nat} (hx : a.eval x = .string s) (hlo : a.eval lo = .int .i64 d) (hd : d = (i : Int)) (hi : i ≤ s.size)
    (h : wpQuiet P ops C K (⟨dst, .move (.const (.string (s.extract i s.size))), ty0, pos, after, gd⟩ :: rest) a) : wpQuiet P ops C K (⟨dst, .slice t x (some lo) none none, ty0, pos, after, gd⟩ :: rest) a := by
  subst hd
  refine as_moveQ (o := ⟨dst, .slice t x (some lo) none none, ty0, pos, after, gd⟩) (v := .string (s.extract i s.size)) (fun V _ => quiet_value ?_) h
  simp only [execOp, Option.map_some, Option.map_none, hx, hlo, Instr.sliceAt, Sem.run_bind, run_underlying hT.under, Result.andThen_ok, run_slf (P := P) (W := V) hT.under hi]
  rfl
theorem qsslh {t : TypeId} [hT : StrT P t] {x hi : Operand} {s : ByteArray} {e : Int} {j : Nat} (hx : a.eval x = .string s) (hhi : a.eval hi = .int .i64 e) (he : e = (j : Int)) (hj : j ≤ s.size)
    (h : wpQuiet P ops C K (⟨dst, .move (.const (.string (s.extract 0 j))), ty0, pos, after, gd⟩ :: rest) a) : wpQuiet P ops C K (⟨dst, .slice t x none (some hi) none, ty0, pos, after, gd⟩ :: rest) a := by
  subst he
  refine as_moveQ (o := ⟨dst, .slice t x none (some hi) none, ty0, pos, after, gd⟩) (v := .string (s.extract 0 j)) (fun V _ => quiet_value ?_) h
  simp only [execOp, Option.map_some, Option.map_none, hx, hhi, Instr.sliceAt, Sem.run_bind, run_underlying hT.under, Result.andThen_ok, run_slh (P := P) (W := V) hT.under hj]
  rfl
end
end Go.Proofs.YtinkdemjjnfphaaDoor
