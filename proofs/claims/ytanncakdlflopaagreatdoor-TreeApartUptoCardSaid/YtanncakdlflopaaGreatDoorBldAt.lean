/- A strings.Builder of the call's own, by the bytes that it holds. (short) -/
import Derived.Test.YtanncakdlflopaaGreatDoorBld
import Derived.Test.YtanncakdlflopaaGreatDoorTrieB
namespace Go.Proofs.YtanncakdlflopaaGreatDoor
open Go.RowKit
set_option linter.unusedVariables false
set_option linter.unusedSimpArgs false
set_option maxRecDepth 100000

section
variable {P : Program} {ops : Array Oper} {Q : Exit → Act → World → Prop} {a : Act} {W W' w0 : World} {rest : List Oper} {L : List Res}
variable {dst : Option Tmp} {ty0 : TypeId} {pos : String} {after : Array Edge} {gd : Option (Nat × Bool)}
theorem run_append_none {P : Program} (W : World) (t u ty e : TypeId) (i : TypeInfo) (ht : P.underlying t = some (.slice e)) (hu : P.underlying u = some .string) (hi : P.info? e = some i) (hsize : i.size = 1) :
  (Builtin.append_ #[t, u] ty #[.slice none 0 0, .string ⟨#[]⟩]).run P W = .ok (.slice none 0 0) W := by
 have hf := Lib.run_firstCells_string (P := P) W 1 ⟨#[]⟩
 have hz : (⟨#[]⟩ : ByteArray).size = 0 := rfl
 rw [hz] at hf
 simp [Builtin.append_, run_underlying ht, run_underlying hu, sizeOf, typeInfo, hi, hsize, Builtin.lenOf, hz, hf]
theorem apn {t u e : TypeId} [hR : RowT P t e 1 1 (.int .u8 0)] {s x : Operand} (hu : P.underlying u = some .string) (hs : a.eval s = .slice none 0 0) (hx : a.eval x = .string ⟨#[]⟩)
  (h : wpList P ops Q (⟨dst, .move (.const (.slice none 0 0)), ty0, pos, after, gd⟩ :: rest) a W) :
  wpList P ops Q (⟨dst, .call { callee := .builtin .append, args := #[s, x], argTypes := #[t, u] }, ty0, pos, after, gd⟩ :: rest) a W := by
 obtain ⟨i, hi, hz, hsz, hby⟩ := rowT_parts hR
 have hr := run_append_none (P := P) W t u ty0 e i hR.under hu hi hsz
 refine as_move (o := ⟨dst, .call { callee := .builtin .append, args := #[s, x], argTypes := #[t, u] }, ty0, pos, after, gd⟩) ?_ h
 simp only [execOp, resolve, invoke, builtin, Sem.run_bind, Sem.run_pure, Result.andThen_ok, List.map_toArray, List.map_cons, List.map_nil, hs, hx, hr]
end

set_option maxHeartbeats 4000000 in
theorem bwrite_zero (b : Nat) (pv : Value) (hp : BldP b pv) (w0 W : World) (L : List Res) (h : Mem w0 W (.box b 69 (bldC pv none 0 0) :: L)) :
  Calls Tryz.prog 32 #[.pointer (some ⟨b, 0, none⟩), .string ⟨#[]⟩] W fun e W' => e = .returned (.tuple #[.int .i64 0, .nilIface]) ∧ Mem w0 W' (.box b 69 (bldC (.pointer (some ⟨b, 0, none⟩)) none 0 0) :: L) := by
 have HM := Lib.hid h
 have HC := Lib.hid (bcheck_any b 0 0 none pv hp w0 W _ h)
 clear h hp
 go_enter Tryz.func32, Tryz.ntmps32
 go_wp2_with fail
 refine HC.out.mono ?_
 rintro e W2 ⟨rfl, hM⟩
 clear HM HC
 have HM := Lib.hid hM
 clear hM
 go_wp2_with (first | (refine apn (by kernel_rfl) rfl rfl ?_) | refine mP ?_ | (refine mS ?_; clear HM; intro W1 HM))
 go_ret2
 exact ⟨rfl, HM.out⟩

/-- A builder whose bytes are these. -/
def BldAt (w0 W : World) (b : Nat) (out : List UInt8) (L : List Res) : Prop :=
 ∃ (pv : Value) (p : Option Addr) (cap : Nat), BldP b pv ∧ (out = [] → p = none ∧ cap = 0) ∧ Mem w0 W (.box b 69 (bldC pv p out.length cap) :: .row p cap 5 1 out.length (bC out) :: L)
theorem BldAt.start {w0 W : World} {b : Nat} {L : List Res} (h : Mem w0 W (.box b 69 (bldC (.pointer none) none 0 0) :: L)) : BldAt w0 W b [] L :=
 ⟨_, none, 0, .inl rfl, fun _ => ⟨rfl, rfl⟩, bld_new h⟩
theorem bw_at {w0 W : World} {b : Nat} {out : List UInt8} {L : List Res} (h : BldAt w0 W b out L) (s : ByteArray) (h47 : out.length + s.size ≤ 140737488355328) :
  Calls Tryz.prog 32 #[.pointer (some ⟨b, 0, none⟩), .string s] W fun e W' => e = .returned (.tuple #[.int .i64 s.size, .nilIface]) ∧ BldAt w0 W' b (out ++ s.data.toList) L := by
 obtain ⟨pv, p, cap, hp, hz, hM⟩ := h
 by_cases he : out ++ s.data.toList = []
 ·obtain ⟨rfl, hs⟩ := List.append_eq_nil_iff.1 he
  obtain rfl : s = ⟨#[]⟩ := ba_eq hs
  obtain ⟨rfl, rfl⟩ := hz rfl
  refine (bwrite_zero b pv hp w0 W L (hM.sub (.cons_cons _ (.cons _ (.refl _))))).mono ?_
  rintro e W' ⟨rfl, h⟩
  exact ⟨rfl, _, none, 0, .inr rfl, fun _ => ⟨rfl, rfl⟩, (h.row0 5 1).perm (List.Perm.swap _ _ _)⟩
 ·refine (bwrite_any b out.length cap p pv hp (bC out) s w0 W L hM h47).mono ?_
  rintro e W' ⟨rfl, p', cap', h⟩
  refine ⟨rfl, _, p', cap', .inr rfl, fun h => absurd h he, ?_⟩
  rw [List.length_append, size_list, bC_append]
  exact h
theorem bs_at {w0 W : World} {b : Nat} {out : List UInt8} {L : List Res} (h : BldAt w0 W b out L) :
  Calls Tryz.prog 35 #[.pointer (some ⟨b, 0, none⟩)] W fun e W' => e = .returned (.string ⟨out.toArray⟩) ∧ Mem w0 W' L := by
 obtain ⟨pv, p, cap, hp, hz, hM⟩ := h
 by_cases he : out = []
 ·subst he
  obtain ⟨rfl, rfl⟩ := hz rfl
  exact bstring_nil b 0 pv w0 W L (hM.sub (.cons_cons _ (.cons _ (.refl _)))) rfl
 ·exact bstring_any b out.length cap p pv out (List.length_pos_iff.2 he) rfl w0 W L hM
end Go.Proofs.YtanncakdlflopaaGreatDoor
