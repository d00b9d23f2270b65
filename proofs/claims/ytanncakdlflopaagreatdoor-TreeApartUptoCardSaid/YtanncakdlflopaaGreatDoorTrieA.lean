/- More laws: the place of an element of an array of one-cell elements; no program in sight. The trie of strings.NewReplacer for keys of two bytes: add. (short) The trie of strings.NewReplacer for "\r\n" and "\r": makeGenericReplacer. (short) The parts that a generic Replacer's run uses: HasPrefix of one byte, the writer that appends. (short) -/
import Derived.Test.YtanncakdlflopaaGreatDoorSepA
import Derived.Test.YtanncakdlflopaaGreatDoorReplGL
import Derived.Test.YtanncakdlflopaaGreatDoorTypes
import Derived.Test.YtanncakdlflopaaGreatDoorBld
namespace Go.Proofs.YtanncakdlflopaaGreatDoor
open Go.RowKit
set_option linter.unusedVariables false
class ArrT (P : Program) (t : TypeId) (e : outParam TypeId) (N : outParam Nat) : Prop where
 under : P.underlying t = some (.array N e)
 size : (P.info? e).map (·.size) = some 1
section
variable {P : Program} {ops : Array Oper} {Q : Exit → Act → World → Prop} {a : Act} {W W' w0 : World} {rest : List Oper} {L : List Res} {K : Act → Prop} {C : World → Prop}
variable {dst : Option Tmp} {ty0 : TypeId} {pos : String} {after : Array Edge} {gd : Option (Nat × Bool)}
theorem run_index_arr {t e : TypeId} {N : Nat} [hA : ArrT P t e N] {g o i : Nat} {kd : IntKind} {d : Int} (hd : d = (i : Int)) (hi : i < N) (W : World) : (Instr.indexAt t (.pointer (some ⟨g, o, none⟩)) (.int kd d)).run P W = .ok (.pointer (some ⟨g, o + i, none⟩)) W := by
 subst hd
 obtain ⟨j, hj, hjs⟩ := Option.map_eq_some_iff.1 hA.size
 have h1 : (i : Int) < N := by omega
 simp [Instr.indexAt, Sem.run_bind, asIntOf, run_underlying hA.under, Instr.sureAddr, sizeOf, typeInfo, hj, hjs, hi, add_none]
theorem iaa {t e : TypeId} {N : Nat} [hA : ArrT P t e N] {x ix : Operand} {g o i : Nat} {kd : IntKind} {d : Int} (hw : Region.wanted ⟨dst, .indexAddr t x ix, ty0, pos, after, gd⟩ (yielded ops a.tmps) = true) (hx : a.eval x = .pointer (some ⟨g, o, none⟩)) (hh : a.eval ix = .int kd d) (hd : d = (i : Int)) (hi : i < N)
  (h : wpList P ops Q (⟨dst, .move (.const (.pointer (some ⟨g, o + i, none⟩))), ty0, pos, after, gd⟩ :: rest) a W) : wpList P ops Q (⟨dst, .indexAddr t x ix, ty0, pos, after, gd⟩ :: rest) a W :=
 as_moveW (o := ⟨dst, .indexAddr t x ix, ty0, pos, after, gd⟩) hw (by simp only [execOp, hx, hh, Sem.run_bind, Sem.run_pure, Result.andThen_ok, run_index_arr hd hi]) h
theorem qiaa {t e : TypeId} {N : Nat} [hA : ArrT P t e N] {x ix : Operand} {g o i : Nat} {kd : IntKind} {d : Int} (hx : a.eval x = .pointer (some ⟨g, o, none⟩)) (hh : a.eval ix = .int kd d) (hd : d = (i : Int)) (hi : i < N)
  (h : wpQuiet P ops C K (⟨dst, .move (.const (.pointer (some ⟨g, o + i, none⟩))), ty0, pos, after, gd⟩ :: rest) a) : wpQuiet P ops C K (⟨dst, .indexAddr t x ix, ty0, pos, after, gd⟩ :: rest) a :=
 as_moveQ (o := ⟨dst, .indexAddr t x ix, ty0, pos, after, gd⟩) (fun V _ => quiet_value (by simp only [execOp, hx, hh, Sem.run_bind, Sem.run_pure, Result.andThen_ok, run_index_arr hd hi])) h
theorem ixk {t e : TypeId} {k bytes : Nat} {z : Value} [hR : RowT P t e k bytes z] {x ix : Operand} {b : Addr} {n c i : Nat} {kd : IntKind} {d : Int} (hx : a.eval x = .slice (some b) n c) (hh : a.eval ix = .int kd d) (hd : d = (i : Int)) (hi : i < n)
  (h : wpList P ops Q (⟨dst, .move (.const (.pointer (some (b.add (i * k))))), ty0, pos, after, gd⟩ :: rest) a W) : wpList P ops Q (⟨dst, .indexAddr t x ix, ty0, pos, after, gd⟩ :: rest) a W := by
 subst hd
 obtain ⟨i', hi', -, hsz, -⟩ := rowT_parts hR
 subst hsz
 refine as_move (o := ⟨dst, .indexAddr t x ix, ty0, pos, after, gd⟩) ?_ h
 have h1 : (i : Int) < n := by omega
 simp [execOp, hx, hh, Instr.indexAt, Sem.run_bind, asIntOf, run_underlying hR.under, sizeOf, typeInfo, hi', hi]
theorem qixk {t e : TypeId} {k bytes : Nat} {z : Value} [hR : RowT P t e k bytes z] {x ix : Operand} {b : Addr} {n c i : Nat} {kd : IntKind} {d : Int} (hx : a.eval x = .slice (some b) n c) (hh : a.eval ix = .int kd d) (hd : d = (i : Int)) (hi : i < n)
  (h : wpQuiet P ops C K (⟨dst, .move (.const (.pointer (some (b.add (i * k))))), ty0, pos, after, gd⟩ :: rest) a) : wpQuiet P ops C K (⟨dst, .indexAddr t x ix, ty0, pos, after, gd⟩ :: rest) a := by
 subst hd
 obtain ⟨i', hi', -, hsz, -⟩ := rowT_parts hR
 subst hsz
 refine as_moveQ (o := ⟨dst, .indexAddr t x ix, ty0, pos, after, gd⟩) (fun V _ => quiet_value ?_) h
 have h1 : (i : Int) < n := by omega
 simp [execOp, hx, hh, Instr.indexAt, Sem.run_bind, asIntOf, run_underlying hR.under, sizeOf, typeInfo, hi', hi]
/-- An array behind six cells in a box: a store into it, a load of it; an element of an array as a value. -/
theorem set6 (a0 a1 a2 a3 a4 a5 v : Value) (M : List Value) (i : Nat) : (a0 :: a1 :: a2 :: a3 :: a4 :: a5 :: M).set (6 + i) v = a0 :: a1 :: a2 :: a3 :: a4 :: a5 :: M.set i v := by
 rw [Nat.add_comm]; rfl
theorem stm {ty : TypeId} [hC : CellT P ty] {x y : Operand} {g : Nat} {t : TypeId} {a0 a1 a2 a3 a4 a5 : Value} {M : List Value} {i : Nat} {v : Value} (hw : Region.wanted ⟨dst, .store ty x y, ty0, pos, after, gd⟩ (yielded ops a.tmps) = true) (HM : Mem w0 W L) (k : Nat) (hk : L[k]? = some (.box g t (a0 :: a1 :: a2 :: a3 :: a4 :: a5 :: M))) (hx : a.eval x = .pointer (some ⟨g, 6 + i, none⟩))
  (hy : a.eval y = v) (h1 : v.oneCell' = true) (hi : i < M.length)
  (h : ∀ W', Mem w0 W' (L.set k (.box g t (a0 :: a1 :: a2 :: a3 :: a4 :: a5 :: M.set i v))) → wpList P ops Q (⟨dst, .move (.const undef), ty0, pos, after, gd⟩ :: rest) a W') : wpList P ops Q (⟨dst, .store ty x y, ty0, pos, after, gd⟩ :: rest) a W :=
 stb1 hw HM k hk hx hy h1 (decide_eq_true (by simp only [List.length_cons]; omega)) (fun W' h' => h W' (by rw [set6] at h'; exact h'))
theorem ldm {ty : TypeId} {n : Nat} [hA : AggT P ty n] {x : Operand} {g : Nat} {t : TypeId} {a0 a1 a2 a3 a4 a5 : Value} {M : List Value} (HM : Mem w0 W L) (k : Nat) (hk : L[k]? = some (.box g t (a0 :: a1 :: a2 :: a3 :: a4 :: a5 :: M))) (hx : a.eval x = .pointer (some ⟨g, 6, none⟩)) (hn : M.length = n)
  (h : wpList P ops Q (⟨dst, .move (.const (.agg M.toArray)), ty0, pos, after, gd⟩ :: rest) a W) : wpList P ops Q (⟨dst, .load ty x, ty0, pos, after, gd⟩ :: rest) a W := by
 have e : ((a0 :: a1 :: a2 :: a3 :: a4 :: a5 :: M).drop 6).take n = M := by
  show M.take n = M
  rw [← hn, List.take_length]
 exact ldbS HM k hk hx (by rw [e]; exact hn) (by rw [e]; exact h)
theorem run_index_agg {t e : TypeId} {N : Nat} [hA : ArrT P t e N] [hC : CellT P e] {M : List Value} {i : Nat} {v : Value} {kd : IntKind} {d : Int} (hd : d = (i : Int)) (hM : M.length = N) (hi : M[i]? = some v) (W : World) : (Instr.index t (.agg M.toArray) (.int kd d)).run P W = .ok v W := by
 subst hd
 have hlt := (List.getElem?_eq_some_iff.1 hi).1
 have h1 : (i : Int) < N := by omega
 have h2 : i < N := by omega
 obtain ⟨j, hj, hjs⟩ := Option.map_eq_some_iff.1 hA.size
 simp [Instr.index, Sem.run_bind, asIntOf, run_underlying hA.under, sizeOf, typeInfo, hj, hjs, h2, part, hC.flat, hi]
theorem ixv {t e : TypeId} {N : Nat} [hA : ArrT P t e N] [hC : CellT P e] {x ix : Operand} {M : List Value} {i : Nat} {v : Value} {kd : IntKind} {d : Int} (hx : a.eval x = .agg M.toArray) (hh : a.eval ix = .int kd d) (hd : d = (i : Int)) (hM : M.length = N) (hi : M[i]? = some v)
  (h : wpList P ops Q (⟨dst, .move (.const v), ty0, pos, after, gd⟩ :: rest) a W) : wpList P ops Q (⟨dst, .index t x ix, ty0, pos, after, gd⟩ :: rest) a W :=
 as_move (o := ⟨dst, .index t x ix, ty0, pos, after, gd⟩) (by simp only [execOp, hx, hh, Sem.run_bind, Sem.run_pure, Result.andThen_ok, run_index_agg hd hM hi]) h
end
end Go.Proofs.YtanncakdlflopaaGreatDoor

namespace Go.Proofs.YtanncakdlflopaaGreatDoor
open Go.RowKit
set_option linter.unusedVariables false
set_option linter.unusedSimpArgs false
set_option maxRecDepth 100000

instance : ArrT Tryz.prog 132 5 256 := ⟨by kernel_rfl, by kernel_rfl⟩
/-- A node's five cells. -/
abbrev trN (v : ByteArray) (pr : Int) (pf : ByteArray) (nx : Option Addr) (tb : Value) : List Value := [.string v, .int .i64 pr, .string pf, .pointer nx, tb]

set_option maxHeartbeats 4000000 in
theorem add_leaf (n : Nat) (v val pf : ByteArray) (pr : Int) (nx : Option Addr) (tb rp : Value) (w0 W : World) (L : List Res) (h : Mem w0 W (.box n 204 (trN v 0 pf nx tb) :: L)) :
  Calls Tryz.prog 149 #[.pointer (some ⟨n, 0, none⟩), .string ⟨#[]⟩, .string val, .int .i64 pr, rp] W fun e W' => e = .returned (.tuple #[]) ∧ Mem w0 W' (.box n 204 (trN val pr pf nx tb) :: L) := by
 have HM := Lib.hid h
 clear h
 go_enter Tryz.func149, Tryz.ntmps149
 go_wp2_with (first | ((with_reducible refine skip_op ?_ ?_); exact rfl) | refine mP ?_ | (refine mS ?_; clear HM; intro W1 HM) | (refine hal HM rfl ?_; clear HM; intro g1 W1 HM) | (refine mB ?_; clear HM; intro g1 W1 HM))
 refine bodyPost_ret (results_none rfl _ _ _) rfl ?_
 exact ⟨rfl, HM.out⟩

set_option maxHeartbeats 4000000 in
theorem add_new (n : Nat) (v key val : ByteArray) (hk : (key.toList == []) = false) (pv pr : Int) (rp : Value) (w0 W : World) (L : List Res) (h : Mem w0 W (.box n 204 (trN v pv ⟨#[]⟩ none (.slice none 0 0)) :: L)) :
  Calls Tryz.prog 149 #[.pointer (some ⟨n, 0, none⟩), .string key, .string val, .int .i64 pr, rp] W fun e W' => e = .returned (.tuple #[]) ∧ ∃ m, Mem w0 W' (.box m 204 (trN val pr ⟨#[]⟩ none (.slice none 0 0)) :: .box n 204 (trN v pv key (some ⟨m, 0, none⟩) (.slice none 0 0)) :: L) := by
 have HM := Lib.hid h
 clear h
 go_enter Tryz.func149, Tryz.ntmps149
 go_wp2_with (first | ((with_reducible refine skip_op ?_ ?_); exact rfl) | refine mP ?_ | (refine mS ?_; clear HM; intro W1 HM) | (refine hal (dst := some 230) HM rfl ?_; clear HM; intro g230 W1 HM) | (refine hal HM rfl ?_; clear HM; intro g1 W1 HM) | (refine mB ?_; clear HM; intro g1 W1 HM) | (go_at_call 149; (with_reducible refine (add_leaf _ _ _ _ _ _ _ _ _ _ _ HM.out).mono ?_); rintro e W2 ⟨rfl, hM2⟩; clear HM; (try clear W1); rename World => W1; have HM := Lib.hid hM2; clear hM2))
 go_end0
 exact ⟨rfl, _, HM.out⟩

theorem flt_true (a : Addr) (w : World) : (binOp .eql 201 (.pointer (some a)) (.pointer none)).run Tryz.prog w = .ok (.bool false) w := by kernel_rfl

theorem nl_ne : ((⟨#[10]⟩ : ByteArray).toList == []) = false := by first | decide +kernel | simp [ByteArray.toList, ByteArray.toList.loop]

/-- The root: cells 0 to 5, and the mapping behind. -/
abbrev rtC (T : Nat) (M : List Value) : List Value := .string ⟨#[]⟩ :: .int .i64 0 :: .string ⟨#[]⟩ :: .pointer none :: .slice (some ⟨T, 0, none⟩) 2 2 :: .int .i64 2 :: M

theorem map13 {B : Nat} {W : World} {R T : Nat} {M : List Value} (h : (Res.box R 206 (rtC T M)).holds B W) {i : Nat} {v : Value} (hm : M[i]? = some v) : W.cell? ⟨R, 6 + i, none⟩ = some v := by
 rw [cell_of_row _ _ _ _ _ _ h.2]
 have : (rtC T M)[6 + i]? = some v := by rw [Nat.add_comm]; exact hm
 simpa using this

set_option maxHeartbeats 4000000 in
theorem add_first (R T : Nat) (M : List Value) (val : ByteArray) (hm : M[13]? = some (.int .u8 1)) (pr : Int) (c0 : Value) (w0 W : World) (L : List Res) (h : Mem w0 W (.row (some ⟨T, 0, none⟩) 2 201 1 2 [c0, .pointer none] :: .box R 206 (rtC T M) :: L)) :
  Calls Tryz.prog 149 #[.pointer (some ⟨R, 0, none⟩), .string ⟨#[13, 10]⟩, .string val, .int .i64 pr, .pointer (some ⟨R, 0, none⟩)] W fun e W' => e = .returned (.tuple #[]) ∧ ∃ n m, Mem w0 W' (.box m 204 (trN val pr ⟨#[]⟩ none (.slice none 0 0)) :: .box n 204 (trN ⟨#[]⟩ 0 ⟨#[10]⟩ (some ⟨m, 0, none⟩) (.slice none 0 0)) :: .row (some ⟨T, 0, none⟩) 2 201 1 2 [c0, .pointer (some ⟨n, 0, none⟩)] :: .box R 206 (rtC T M) :: L) := by
 have HM := Lib.hid h
 have HMp := Lib.hid hm
 clear h hm
 go_enter Tryz.func149, Tryz.ntmps149
 go_wp2_with (first | ((with_reducible refine skip_op ?_ ?_); exact rfl) | refine mP ?_ | (refine mS ?_; clear HM; intro W1 HM) | (refine hal (dst := some 230) HM rfl ?_; clear HM; intro g230 W1 HM) | (refine hal HM rfl ?_; clear HM; intro g1 W1 HM) | (refine mB ?_; clear HM; intro g1 W1 HM))
 refine wp_region_mem (by kernel_rfl) (by kernel_rfl) HM.out ?_; intro hNE; (repeat (any_goals (first | ((with_reducible refine qgd ?_); (with_reducible refine skip_q ?_ ?_ ?_); (exact rfl); (rotate_left; (exact (hNE.elim fun p => ⟨p.W, p, rfl⟩)))) | refine mQ ?_ | ((with_reducible refine qat 195 ?_); (refine qiaa (i := 13) rfl rfl rfl (by decide) ?_)) | ((with_reducible refine qat 196 ?_); (refine qd1 (v := .int .u8 1) rfl (fun W ⟨q, hq⟩ => hq ▸ map13 (q.mem.get (k := 1) rfl) HMp.out) ?_)) | go_big_quiet_step (fail) | quiet_step (fail)))); clear hNE; refine wpQuiet_nil ?_; intro W1 HM1; replace HM := Lib.hid HM1; clear HM1
 go_wp2_with (first | ((with_reducible refine iat 202 ?_); (refine ixk (i := 1) rfl rfl rfl (by decide) ?_)) | ((with_reducible refine iat 203 ?_); (refine ldx1 (v := .pointer none) (row_cell (HM.out.get (k := 0) rfl) rfl) rfl ?_)) | ((with_reducible refine iat 211 ?_); (refine ixk (i := 1) rfl rfl rfl (by decide) ?_)) | ((with_reducible refine istore ?_); refine strw (b := ⟨T, 0, none⟩) (v := .pointer (some ⟨g210, 0, none⟩)) (i := 1) rfl HM.out 1 rfl rfl rfl rfl (Nat.lt_succ_self 1) ?_; intro W1 HM1; replace HM := Lib.hid HM1; clear HM1; simp only [List.set] at HM) | ((with_reducible refine skip_op ?_ ?_); exact rfl) | refine mP ?_ | (refine mS ?_; clear HM; intro W1 HM) | (refine hal (dst := some 210) HM rfl ?_; clear HM; intro g210 W1 HM) | (refine hal HM rfl ?_; clear HM; intro g1 W1 HM) | (refine mB ?_; clear HM; intro g1 W1 HM))
 refine wp_region_steps2 [(true, 0), (true, 1), (true, 2), (true, 3), (true, 4), (true, 5), (true, 6), (true, 7), (true, 8), (true, 9), (true, 10), (true, 11), (false, 12)] (by kernel_rfl) (by kernel_rfl) rfl (by kernel_rfl) (fun _ _ _ _ _ h => h) HM.out _ (.cons _ (.cons_cons _ (.cons_cons _ (List.nil_sublist _)))) ?_
 intro hNE W1 HM1; replace HM := Lib.hid HM1; clear HM1
 have HS0 := Lib.hid (HM.out.sub (.cons _ (.cons_cons _ (.cons_cons _ (List.nil_sublist _)))))
 simp only [wpSteps, List.getElem?_cons_succ, List.getElem?_cons_zero]
 (repeat (first | ((with_reducible refine wpQuiet_nil ?_); (try dsimp only)) | refine mQ ?_ | ((with_reducible refine qat 217 ?_); (refine qixk (i := 1) rfl rfl rfl (by decide) ?_)) | ((with_reducible refine qat 218 ?_); (refine qd1 (v := .pointer (some ⟨g210, 0, none⟩)) rfl (fun W ⟨q, hq⟩ => hq ▸ row_cell (q.mem.get (k := 0) rfl) rfl) ?_)) | go_big_quiet_step (fail) | quiet_step (fail)))
 go_wp2_with (first | (go_at_call 149; (refine (add_new g210 ⟨#[]⟩ ⟨#[10]⟩ val nl_ne 0 pr (.pointer (some ⟨R, 0, none⟩)) w0 _ _ HM.out).mono ?_); rintro e W2 ⟨rfl, m, hM2⟩; clear HM; (try clear W1); rename World => W1; have HM := Lib.hid hM2; clear hM2))
 refine ⟨⟨⟨_, HM.out.sub (by repeat (first | exact List.nil_sublist _ | with_reducible refine List.Sublist.cons_cons _ ?_ | refine List.Sublist.cons _ ?_))⟩, rfl⟩, ?_⟩
 (try dsimp only)
 clear HS0 hNE
 go_wp2_with fail
 go_end0
 exact ⟨rfl, _, _, HM.out⟩

set_option maxHeartbeats 4000000 in
theorem add_second (R T n : Nat) (M : List Value) (v val pf : ByteArray) (nx : Option Addr) (tb : Value) (hm : M[13]? = some (.int .u8 1)) (pr : Int) (c0 : Value) (w0 W : World) (L : List Res) (h : Mem w0 W (.box n 204 (trN v 0 pf nx tb) :: .row (some ⟨T, 0, none⟩) 2 201 1 2 [c0, .pointer (some ⟨n, 0, none⟩)] :: .box R 206 (rtC T M) :: L)) :
  Calls Tryz.prog 149 #[.pointer (some ⟨R, 0, none⟩), .string ⟨#[13]⟩, .string val, .int .i64 pr, .pointer (some ⟨R, 0, none⟩)] W fun e W' => e = .returned (.tuple #[]) ∧ Mem w0 W' (.box n 204 (trN val pr pf nx tb) :: .row (some ⟨T, 0, none⟩) 2 201 1 2 [c0, .pointer (some ⟨n, 0, none⟩)] :: .box R 206 (rtC T M) :: L) := by
 have HM := Lib.hid h
 have HMp := Lib.hid hm
 have hne := fun W => flt_true ⟨n, 0, none⟩ W
 clear h hm
 go_enter Tryz.func149, Tryz.ntmps149
 go_wp2_with (first | ((with_reducible refine skip_op ?_ ?_); exact rfl) | refine mP ?_ | (refine mS ?_; clear HM; intro W1 HM) | (refine hal (dst := some 230) HM rfl ?_; clear HM; intro g230 W1 HM) | (refine hal HM rfl ?_; clear HM; intro g1 W1 HM) | (refine mB ?_; clear HM; intro g1 W1 HM))
 refine wp_region_mem (by kernel_rfl) (by kernel_rfl) HM.out ?_; intro hNE; (repeat (any_goals (first | ((with_reducible refine qgd ?_); (with_reducible refine skip_q ?_ ?_ ?_); (exact rfl); (rotate_left; (exact (hNE.elim fun p => ⟨p.W, p, rfl⟩)))) | refine mQ ?_ | ((with_reducible refine qat 195 ?_); (refine qiaa (i := 13) rfl rfl rfl (by decide) ?_)) | ((with_reducible refine qat 196 ?_); (refine qd1 (v := .int .u8 1) rfl (fun W ⟨q, hq⟩ => hq ▸ map13 (q.mem.get (k := 2) rfl) HMp.out) ?_)) | go_big_quiet_step (fail) | quiet_step (fail)))); clear hNE; refine wpQuiet_nil ?_; intro W1 HM1; replace HM := Lib.hid HM1; clear HM1
 go_wp2_with (first | ((with_reducible refine iat 202 ?_); (refine ixk (i := 1) rfl rfl rfl (by decide) ?_)) | ((with_reducible refine iat 203 ?_); (refine ldx1 (v := .pointer (some ⟨n, 0, none⟩)) (row_cell (HM.out.get (k := 1) rfl) rfl) rfl ?_)) | ((with_reducible refine skip_op ?_ ?_); exact rfl) | refine mP ?_ | (refine mS ?_; clear HM; intro W1 HM) | (refine hal (dst := some 210) HM rfl ?_; clear HM; intro g210 W1 HM) | (refine hal HM rfl ?_; clear HM; intro g1 W1 HM) | (refine mB ?_; clear HM; intro g1 W1 HM))
 refine wp_region_steps2 [(true, 0), (true, 1), (true, 2), (true, 3), (true, 4), (true, 5), (true, 6), (true, 7), (true, 8), (true, 9), (true, 10), (true, 11), (false, 12)] (by kernel_rfl) (by kernel_rfl) rfl (by kernel_rfl) (fun _ _ _ _ _ h => h) HM.out _ (.cons _ (.cons_cons _ (.cons_cons _ (List.nil_sublist _)))) ?_
 intro hNE W1 HM1; replace HM := Lib.hid HM1; clear HM1
 have HS0 := Lib.hid (HM.out.sub (.cons _ (.cons_cons _ (.cons_cons _ (List.nil_sublist _)))))
 simp only [wpSteps, List.getElem?_cons_succ, List.getElem?_cons_zero]
 (repeat (first | ((with_reducible refine wpQuiet_nil ?_); (try dsimp only)) | refine mQ ?_ | ((with_reducible refine qat 217 ?_); (refine qixk (i := 1) rfl rfl rfl (by decide) ?_)) | ((with_reducible refine qat 218 ?_); (refine qd1 (v := .pointer (some ⟨n, 0, none⟩)) rfl (fun W ⟨q, hq⟩ => hq ▸ row_cell (q.mem.get (k := 0) rfl) rfl) ?_)) | go_big_quiet_step (fail) | quiet_step (fail)))
 go_wp2_with (first | (go_at_call 149; (refine (add_leaf n v val pf pr nx tb (.pointer (some ⟨R, 0, none⟩)) w0 _ _ HM.out).mono ?_); rintro e W2 ⟨rfl, hM2⟩; clear HM; (try clear W1); rename World => W1; have HM := Lib.hid hM2; clear hM2))
 refine ⟨⟨⟨_, HM.out.sub (by repeat (first | exact List.nil_sublist _ | with_reducible refine List.Sublist.cons_cons _ ?_ | refine List.Sublist.cons _ ?_))⟩, rfl⟩, ?_⟩
 (try dsimp only)
 clear HS0 hNE
 go_wp2_with fail
 go_end0
 exact ⟨rfl, HM.out⟩
end Go.Proofs.YtanncakdlflopaaGreatDoor

namespace Go.Proofs.YtanncakdlflopaaGreatDoor
open Go.RowKit
set_option linter.unusedVariables false
set_option linter.unusedSimpArgs false
set_option maxRecDepth 100000

def mZ : List Value := List.replicate 256 (.int .u8 0)
def mv (i : Nat) : Int := if i = 10 ∨ i = 13 then 1 else 0
def tI (i : Nat) : Int := (if 10 < i then 1 else 0) + (if 13 < i then 1 else 0)
def gv (i : Nat) : Int := if i = 10 then 0 else if i = 13 then 1 else 2
def mO : List Value := (List.range 256).map fun i => .int .u8 (mv i)
def gM : List Value := (List.range 256).map fun i => .int .u8 (gv i)
theorem mO_set : (mZ.set 13 (.int .u8 1)).set 10 (.int .u8 1) = mO := by kernel_rfl
theorem mO_13 : mO.set 13 (.int .u8 1) = mO := by kernel_rfl
theorem mZ_len : mZ.length = 256 := by kernel_rfl
theorem mO_len : mO.length = 256 := by kernel_rfl
theorem gM_len : gM.length = 256 := by kernel_rfl
theorem mO_at {i : Nat} (h : i < 256) : mO[i]? = some (.int .u8 (mv i)) := by
 unfold mO; rw [List.getElem?_map, List.getElem?_range h]; rfl
theorem gM_at {i : Nat} (h : i < 256) : gM[i]? = some (.int .u8 (gv i)) := by
 unfold gM; rw [List.getElem?_map, List.getElem?_range h]; rfl
theorem tI_succ (i : Nat) : tI (i + 1) = tI i + mv i := by
 unfold tI mv
 by_cases h1 : i = 10
 ·subst h1; rfl
 by_cases h2 : i = 13
 ·subst h2; rfl
 rw [if_neg (show ¬ (i = 10 ∨ i = 13) by omega)]
 by_cases h3 : 10 < i <;> by_cases h4 : 13 < i
 ·rw [if_pos (show 10 < i + 1 by omega), if_pos (show 13 < i + 1 by omega), if_pos h3, if_pos h4]; rfl
 ·rw [if_pos (show 10 < i + 1 by omega), if_neg (show ¬ 13 < i + 1 by omega), if_pos h3, if_neg h4]; rfl
 ·omega
 ·rw [if_neg (show ¬ 10 < i + 1 by omega), if_neg (show ¬ 13 < i + 1 by omega), if_neg h3, if_neg h4]; rfl
theorem tI_bound (i : Nat) : 0 ≤ tI i ∧ tI i ≤ 2 := by
 unfold tI
 by_cases h3 : 10 < i <;> by_cases h4 : 13 < i <;> simp [h3, h4]
theorem gv_of (i : Nat) : gv i = if mv i = 0 then 2 else tI i := by
 unfold gv mv
 by_cases h1 : i = 10
 ·subst h1; rfl
 by_cases h2 : i = 13
 ·subst h2; rfl
 simp [h1, h2]
def gF (i : Nat) : List Value := gM.take i ++ mO.drop i
theorem gF_len (i : Nat) (h : i ≤ 256) : (gF i).length = 256 := by
 unfold gF; rw [List.length_append, List.length_take, List.length_drop, gM_len, mO_len]; omega
theorem gF_zero : gF 0 = mO := by unfold gF; rfl
theorem gF_end : gF 256 = gM := by
 unfold gF; rw [List.take_of_length_le (by rw [gM_len]; omega), List.drop_of_length_le (by rw [mO_len]; omega), List.append_nil]
theorem gF_succ {i : Nat} (h : i < 256) : (gF i).set i (.int .u8 (gv i)) = gF (i + 1) := by
 unfold gF
 have h1 : (gM.take i).length = i := by rw [List.length_take, gM_len]; omega
 have h2 : i < mO.length := by rw [mO_len]; exact h
 rw [List.set_append_right _ _ (by omega), h1, Nat.sub_self, List.drop_eq_getElem_cons h2, List.set_cons_zero, List.take_add_one, gM_at h]
 simp
/-- The Replacer under way: a table, the count of its bytes, the mapping. -/
abbrev gC (tb : Value) (ts : Int) (M : List Value) : List Value := .string ⟨#[]⟩ :: .int .i64 0 :: .string ⟨#[]⟩ :: .pointer none :: tb :: .int .i64 ts :: M
instance : ZeroA Tryz.prog 206 (gC (.slice none 0 0) 0 mZ) := ⟨fun w => ⟨.agg (gC (.slice none 0 0) 0 mZ).toArray, by kernel_rfl, rfl⟩⟩
instance : AggT Tryz.prog 132 256 := ⟨fun w => by kernel_rfl, fun w => by kernel_rfl⟩
def crL : List Value := [.string ⟨#[13, 10]⟩, .string ⟨#[10]⟩, .string ⟨#[13]⟩, .string ⟨#[10]⟩]
def mA : Nat → List Value
 | 0 => mZ
 | _ => mO
def mW : Nat → List Value
 | 0 => mZ
 | 1 => mZ.set 13 (.int .u8 1)
 | _ => mO

theorem gM13 : gM[13]? = some (.int .u8 1) := by kernel_rfl
/-- What the adds have made. -/
def trS (w wr : World) (R T : Nat) : Nat → Prop
 | 0 => Mem w wr [.row (some ⟨T, 0, none⟩) 2 201 1 2 [.pointer none, .pointer none], .box R 206 (rtC T gM)]
 | 1 => ∃ n m, Mem w wr [.box m 204 (trN ⟨#[10]⟩ 4 ⟨#[]⟩ none (.slice none 0 0)), .box n 204 (trN ⟨#[]⟩ 0 ⟨#[10]⟩ (some ⟨m, 0, none⟩) (.slice none 0 0)), .row (some ⟨T, 0, none⟩) 2 201 1 2 [.pointer none, .pointer (some ⟨n, 0, none⟩)], .box R 206 (rtC T gM)]
 | _ => ∃ n m, Mem w wr [.box n 204 (trN ⟨#[10]⟩ 2 ⟨#[10]⟩ (some ⟨m, 0, none⟩) (.slice none 0 0)), .row (some ⟨T, 0, none⟩) 2 201 1 2 [.pointer none, .pointer (some ⟨n, 0, none⟩)], .box R 206 (rtC T gM), .box m 204 (trN ⟨#[10]⟩ 4 ⟨#[]⟩ none (.slice none 0 0))]
theorem mW_len (j : Nat) : (mW j).length = 256 := by
 rcases j with _ | _ | j
 ·exact mZ_len
 ·show (mZ.set 13 _).length = 256
  rw [List.length_set]; exact mZ_len
 ·exact mO_len

set_option maxHeartbeats 16000000 in
theorem mkgen_any (b : Addr) (c : Nat) (w : World) (hS : Cells w b crL) :
  Calls Tryz.prog 139 #[.slice (some b) 4 c] w fun e w' => ∃ R T n m, e = .returned (.pointer (some ⟨R, 0, none⟩)) ∧ Mem w w' [.box n 204 (trN ⟨#[10]⟩ 2 ⟨#[10]⟩ (some ⟨m, 0, none⟩) (.slice none 0 0)), .row (some ⟨T, 0, none⟩) 2 201 1 2 [.pointer none, .pointer (some ⟨n, 0, none⟩)], .box R 206 (rtC T gM), .box m 204 (trN ⟨#[10]⟩ 4 ⟨#[]⟩ none (.slice none 0 0))] := by
 have HM := Lib.hid (Mem.start w)
 have HK : ∀ (i : Nat) (v : Value), crL[i]? = some v → Cells w (b.add (i * 1)) [v] := fun i v h j u hj => by
  have : j = 0 := by
   rcases j with _ | j
   ·rfl
   ·simp at hj
  subst this
  have e : v = u := by simpa using hj
  subst e
  have := hS i v h
  rw [Nat.mul_one, Addr.add_zero']
  exact this
 have H0 := Lib.hid (HK 0 _ rfl)
 have H1 := Lib.hid (HK 1 _ rfl)
 have H2 := Lib.hid (HK 2 _ rfl)
 have H3 := Lib.hid (HK 3 _ rfl)
 clear HK hS
 go_enter Tryz.func139, Tryz.ntmps139
 go_wp2_with (first | refine mP ?_ | (refine mS ?_; clear HM; intro W1 HM) | (refine hal (dst := some 13) HM rfl ?_; clear HM; intro g13 W1 HM))
 go_loopw [4] (fun iv wr => ∃ n : Nat, iv = .int .i64 (2 * (n : Int)) ∧ n ≤ 2 ∧ Hid (Mem w wr [.box g13 206 (gC (.slice none 0 0) 0 (mA n))])) (fun iv _ => 4 - (intOf iv).toNat)
 case atStart => exact ⟨0, rfl, by omega, HM⟩
 case round =>
  clear HM
  obtain ⟨n, rfl, hn, HM⟩ := hrel
  rcases n with _ | _ | n
  ·as_aux_lemma =>
   go_wp2_with (first | (refine ixa rfl rfl (i := 0) rfl (by decide) ?_) | (refine ldx0 (v := .string ⟨#[13, 10]⟩) (HM.out.olds H0.out) rfl rfl ?_))
   go_loopw [6] (fun iv wr => ∃ j : Nat, iv = .int .i64 (j : Int) ∧ j ≤ 2 ∧ Hid (Mem w wr [.box g13 206 (gC (.slice none 0 0) 0 (mW j))])) (fun iv _ => 2 - (intOf iv).toNat)
   case atStart => exact ⟨0, rfl, by omega, HM⟩
   case round =>
    clear HM
    obtain ⟨j, rfl, hj, HM⟩ := hrel
    rcases j with _ | _ | j
    ·go_wp2_with fail
     refine wp_region_steps2 [(true, 0), (true, 1), (true, 2), (true, 3), (true, 4), (true, 5), (true, 6), (false, 7)] (by kernel_rfl) (by kernel_rfl) rfl (by kernel_rfl) (fun _ _ _ _ _ h => h) HM.out _ (.cons _ .slnil) ?_
     intro hNE W1 HM1; replace HM := Lib.hid HM1; clear HM1
     have HS0 := Lib.hid (HM.out.sub (.cons _ .slnil))
     simp only [wpSteps, List.getElem?_cons_succ, List.getElem?_cons_zero]
     (repeat (first | ((with_reducible refine wpQuiet_nil ?_); (try dsimp only)) | refine mQ ?_ | ((with_reducible refine qat 36 ?_); (refine qiaa (i := 13) rfl rfl rfl (by decide) ?_)) | go_big_quiet_step (fail) | quiet_step (fail)))
     go_wp2_with (first | (refine stm (i := 13) (v := .int .u8 1) rfl HM.out 0 rfl rfl rfl rfl (by rw [mW_len]; decide) ?_; intro W1 HM1; replace HM := Lib.hid HM1; clear HM1; simp only [List.set] at HM))
     refine ⟨⟨⟨_, HM.out.sub (by repeat (first | exact List.nil_sublist _ | with_reducible refine List.Sublist.cons_cons _ ?_ | refine List.Sublist.cons _ ?_))⟩, rfl⟩, ?_⟩
     (try dsimp only)
     clear HS0 hNE
     go_wp2_with fail
     go_roundw
     case rel => exact ⟨1, rfl, by omega, HM⟩
     case measure => decide
    ·go_wp2_with fail
     refine wp_region_steps2 [(true, 0), (true, 1), (true, 2), (true, 3), (true, 4), (true, 5), (true, 6), (false, 7)] (by kernel_rfl) (by kernel_rfl) rfl (by kernel_rfl) (fun _ _ _ _ _ h => h) HM.out _ (.cons _ .slnil) ?_
     intro hNE W1 HM1; replace HM := Lib.hid HM1; clear HM1
     have HS0 := Lib.hid (HM.out.sub (.cons _ .slnil))
     simp only [wpSteps, List.getElem?_cons_succ, List.getElem?_cons_zero]
     (repeat (first | ((with_reducible refine wpQuiet_nil ?_); (try dsimp only)) | refine mQ ?_ | ((with_reducible refine qat 36 ?_); (refine qiaa (i := 10) rfl rfl rfl (by decide) ?_)) | go_big_quiet_step (fail) | quiet_step (fail)))
     go_wp2_with (first | (refine stm (i := 10) (v := .int .u8 1) rfl HM.out 0 rfl rfl rfl rfl (by rw [mW_len]; decide) ?_; intro W1 HM1; replace HM := Lib.hid HM1; clear HM1; simp only [List.set] at HM))
     refine ⟨⟨⟨_, HM.out.sub (by repeat (first | exact List.nil_sublist _ | with_reducible refine List.Sublist.cons_cons _ ?_ | refine List.Sublist.cons _ ?_))⟩, rfl⟩, ?_⟩
     (try dsimp only)
     clear HS0 hNE
     go_wp2_with fail
     go_roundw
     case rel => exact ⟨2, rfl, by omega, Lib.hid (show Mem _ _ [.box _ _ (gC _ _ mO)] by rw [← mO_set]; exact HM.out)⟩
     case measure => decide
    ·obtain rfl : j = 0 := by omega
     go_wp2_with fail
     go_roundw
     case rel => exact ⟨1, rfl, by omega, HM⟩
     case measure => decide
  ·as_aux_lemma =>
   go_wp2_with (first | (refine ixa rfl rfl (i := 2) rfl (by decide) ?_) | (refine ldx0 (v := .string ⟨#[13]⟩) (HM.out.olds H2.out) rfl rfl ?_))
   go_loopw [6] (fun iv wr => ∃ j : Nat, iv = .int .i64 (j : Int) ∧ j ≤ 1 ∧ Hid (Mem w wr [.box g13 206 (gC (.slice none 0 0) 0 mO)])) (fun iv _ => 1 - (intOf iv).toNat)
   case atStart => exact ⟨0, rfl, by omega, HM⟩
   case round =>
    clear HM
    obtain ⟨j, rfl, hj, HM⟩ := hrel
    rcases j with _ | j
    ·go_wp2_with fail
     refine wp_region_steps2 [(true, 0), (true, 1), (true, 2), (true, 3), (true, 4), (true, 5), (true, 6), (false, 7)] (by kernel_rfl) (by kernel_rfl) rfl (by kernel_rfl) (fun _ _ _ _ _ h => h) HM.out _ (.cons _ .slnil) ?_
     intro hNE W1 HM1; replace HM := Lib.hid HM1; clear HM1
     have HS0 := Lib.hid (HM.out.sub (.cons _ .slnil))
     simp only [wpSteps, List.getElem?_cons_succ, List.getElem?_cons_zero]
     (repeat (first | ((with_reducible refine wpQuiet_nil ?_); (try dsimp only)) | refine mQ ?_ | ((with_reducible refine qat 36 ?_); (refine qiaa (i := 13) rfl rfl rfl (by decide) ?_)) | go_big_quiet_step (fail) | quiet_step (fail)))
     go_wp2_with (first | (refine stm (M := mO) (i := 13) (v := .int .u8 1) rfl HM.out 0 rfl rfl rfl rfl (by rw [mO_len]; decide) ?_; intro W1 HM1; replace HM := Lib.hid HM1; clear HM1; simp only [List.set] at HM))
     refine ⟨⟨⟨_, HM.out.sub (by repeat (first | exact List.nil_sublist _ | with_reducible refine List.Sublist.cons_cons _ ?_ | refine List.Sublist.cons _ ?_))⟩, rfl⟩, ?_⟩
     (try dsimp only)
     clear HS0 hNE
     go_wp2_with fail
     go_roundw
     case rel => exact ⟨1, rfl, by omega, Lib.hid (show Mem _ _ [.box _ _ (gC _ _ mO)] by have := HM.out; rw [mO_13] at this; exact this)⟩
     case measure => decide
    ·obtain rfl : j = 0 := by omega
     go_wp2_with fail
     go_roundw
     case rel => exact ⟨2, rfl, by omega, HM⟩
     case measure => decide
  ·obtain rfl : n = 0 := by omega
   have HM1 := Lib.hid (show Mem w wr [.box g13 206 (gC (.slice none 0 0) (tI 0) mO)] from HM.out)
   clear HM
   have HM := HM1
   clear HM1
   go_wp2_with (first | ((with_reducible refine iat 40 ?_); (refine ldm (M := mO) HM.out 0 rfl rfl mO_len ?_)))
   go_loopw [41] (fun iv wr => ∃ i : Nat, iv = .int .i64 (i : Int) ∧ i ≤ 256 ∧ Hid (Mem w wr [.box g13 206 (gC (.slice none 0 0) (tI i) mO)])) (fun iv _ => 256 - (intOf iv).toNat)
   case atStart => exact ⟨0, rfl, by omega, HM⟩
   case round =>
    clear HM
    obtain ⟨i, rfl, hi, HM⟩ := hrel
    by_cases hlt : i < 256
    ·as_aux_lemma =>
     have q1 : decide ((i : Int) < 256) = true := decide_eq_true (by omega)
     have hat := Lib.hid (mO_at hlt)
     have HT := Lib.hid (tI_succ i)
     have hb := tI_bound i
     have hb2 : 0 ≤ mv i ∧ mv i ≤ 1 := by unfold mv; split <;> omega
     obtain ⟨t, ht⟩ : ∃ t, tI i = t := ⟨_, rfl⟩
     obtain ⟨v, hv⟩ : ∃ v, mv i = v := ⟨_, rfl⟩
     rw [ht] at hb HM HT
     rw [hv] at hb2 hat HT
     clear ht hv
     go_wp2_with (first | ((with_reducible refine iat 43 ?_); (refine ixv (M := mO) (i := i) rfl rfl rfl mO_len hat.out ?_)) | refine mP ?_ | (refine mS ?_; clear HM; intro W1 HM) | (refine hal HM rfl ?_; clear HM; intro g1 W1 HM))
     go_roundw
     case rel => exact ⟨i + 1, by go_num, by omega, by rw [HT.out]; exact HM⟩
     case measure => simp [intOf]; omega
    ·obtain rfl : i = 256 := by omega
     have HM1 := Lib.hid (show Mem w wr [.box g13 206 (gC (.slice none 0 0) 2 (gF 0))] by rw [gF_zero]; exact HM.out)
     clear HM
     have HM := HM1
     clear HM1
     go_wp2_with (first | ((with_reducible refine iat 57 ?_); (refine ldm (M := mO) (by have := HM.out; rw [gF_zero] at this; exact this) 0 rfl rfl mO_len ?_)))
     go_loopw [58, 9] (fun iv xv wr => ∃ i : Nat, iv = .int .i64 (i : Int) ∧ xv = .int .u8 (tI i) ∧ i ≤ 256 ∧ Hid (Mem w wr [.box g13 206 (gC (.slice none 0 0) 2 (gF i))])) (fun iv _ _ => 256 - (intOf iv).toNat)
     case atStart => exact ⟨0, rfl, rfl, by omega, HM⟩
     case round =>
      clear HM
      obtain ⟨i, rfl, rfl, hi, HM⟩ := hrel
      by_cases hlt : i < 256
      ·as_aux_lemma =>
       have q1 : decide ((i : Int) < 256) = true := decide_eq_true (by omega)
       have hat := Lib.hid (mO_at hlt)
       have HT := Lib.hid (tI_succ i)
       have HG := Lib.hid (gv_of i)
       have HF := Lib.hid (gF_succ hlt)
       have hb := tI_bound i
       have hb3 := tI_bound (i + 1)
       have hb2 : mv i = 0 ∨ mv i = 1 := by unfold mv; split <;> simp
       obtain ⟨t, ht⟩ : ∃ t, tI i = t := ⟨_, rfl⟩
       rw [ht] at hb HT HG ⊢
       rcases hb2 with hv | hv
       ·rw [hv] at hat HT HG
        rw [if_pos rfl] at HG
        clear ht hv hb3
        go_wp2_with (first | ((with_reducible refine iat 61 ?_); (refine ixv (M := mO) (i := i) rfl rfl rfl mO_len hat.out ?_)))
        refine wp_region_mem3 10 [(0, 0), (0, 1), (0, 2), (0, 3), (0, 4), (0, 5), (0, 6), (1, 7), (1, 8), (0, 9), (3, 10)] (by kernel_rfl) (by kernel_rfl) rfl (by kernel_rfl) (fun _ _ _ _ _ h => h) HM.out _ (.cons_cons _ .slnil) ?_
        intro hNE W1 HM1; replace HM := Lib.hid HM1; clear HM1
        have HS0 := Lib.hid (HM.out.sub (.cons_cons _ .slnil))
        simp only [wpSteps3, List.getElem?_cons_succ, List.getElem?_cons_zero]
        (repeat (first | ((with_reducible refine wpQuiet_nil ?_); (try dsimp only)) | refine mQ ?_ | ((with_reducible refine qat 73 ?_); (refine qiaa (i := i) rfl rfl rfl hlt ?_)) | go_big_quiet_step (fail) | quiet_step (fail)))
        go_wp2_with (first | (refine stm (M := gF i) (i := i) (v := .int .u8 2) rfl HM.out 0 rfl rfl rfl rfl (by rw [gF_len i hi]; exact hlt) ?_; intro W1 HM1; replace HM := Lib.hid HM1; clear HM1; simp only [List.set] at HM))
        refine ⟨trivial, ?_⟩
        (try dsimp only)
        clear HS0 hNE
        go_wp2_with fail
        go_roundw
        case rel => exact ⟨i + 1, by go_num, by rw [HT.out]; simp, by omega, Lib.hid (by rw [← HF.out, HG.out]; exact HM.out)⟩
        case measure => simp [intOf]; omega
       ·rw [hv] at hat HT HG
        rw [if_neg (by decide)] at HG
        have hb4 : t ≤ 1 := by have := HT.out; omega
        clear ht hv hb3
        go_wp2_with (first | ((with_reducible refine iat 61 ?_); (refine ixv (M := mO) (i := i) rfl rfl rfl mO_len hat.out ?_)) | ((with_reducible refine iat 79 ?_); (refine iaa (i := i) rfl rfl rfl hlt ?_)) | (refine stm (M := gF i) (i := i) (v := .int .u8 t) rfl HM.out 0 rfl rfl rfl rfl (by rw [gF_len i hi]; exact hlt) ?_; intro W1 HM1; replace HM := Lib.hid HM1; clear HM1; simp only [List.set] at HM))
        go_roundw
        case rel => exact ⟨i + 1, by go_num, by rw [HT.out], by omega, Lib.hid (by rw [← HF.out, HG.out]; exact HM.out)⟩
        case measure => simp [intOf]; omega
      ·obtain rfl : i = 256 := by omega
       have HM1 := Lib.hid (show Mem w wr [.box g13 206 (gC (.slice none 0 0) 2 gM)] by rw [← gF_end]; exact HM.out)
       clear HM
       have HM := HM1
       clear HM1
       go_wp2_with (first | (refine mks (n := 2) rfl HM.out rfl rfl rfl rfl rfl (by decide) (by decide) ?_; intro gd W1 HM1; replace HM := Lib.hid HM1; clear HM1) | refine mP ?_ | (refine mS ?_; clear HM; intro W1 HM) | (refine hal HM rfl ?_; clear HM; intro g1 W1 HM))
       rw [show (2 * ((0 + 1 + 1 : Nat) : Int)) = 4 from rfl, show ((256 : Nat) : Int) = 256 from rfl]
       go_loopw [12] (fun iv wr => ∃ n : Nat, iv = .int .i64 (2 * (n : Int)) ∧ n ≤ 2 ∧ Hid (trS w wr g13 gd n)) (fun iv _ => 4 - (intOf iv).toNat)
       case atStart => exact ⟨0, rfl, by omega, Lib.hid HM.out⟩
       case round =>
        clear HM
        obtain ⟨n, rfl, hn, HX⟩ := hrel
        rcases n with _ | _ | n
        ·as_aux_lemma =>
         have HM := Lib.hid (show Mem w wr [.row (some ⟨gd, 0, none⟩) 2 201 1 2 [.pointer none, .pointer none], .box g13 206 (rtC gd gM)] from HX.out)
         clear HX
         go_wp2_with fail
         refine wp_region_steps2 [(true, 0), (true, 1), (true, 2), (true, 3), (true, 4), (true, 5), (true, 6), (true, 7), (true, 8), (true, 9), (true, 10), (true, 11), (true, 12), (true, 13), (true, 14), (true, 15), (true, 16), (false, 17)] (by kernel_rfl) (by kernel_rfl) rfl (by kernel_rfl) (fun _ _ _ _ _ h => h) HM.out _ (.cons _ (.cons _ .slnil)) ?_
         intro hNE W1 HM1; replace HM := Lib.hid HM1; clear HM1
         have HS0 := Lib.hid (HM.out.sub (.cons _ (.cons _ .slnil)))
         simp only [wpSteps, List.getElem?_cons_succ, List.getElem?_cons_zero]
         (repeat (first | ((with_reducible refine wpQuiet_nil ?_); (try dsimp only)) | refine mQ ?_ | ((with_reducible refine qat 103 ?_); (refine qixa rfl rfl (i := 0) rfl (by decide) ?_)) | ((with_reducible refine qat 104 ?_); (refine qdx0 H0.out rfl rfl ?_)) | ((with_reducible refine qat 108 ?_); (refine qixa rfl rfl (i := 1) rfl (by decide) ?_)) | ((with_reducible refine qat 109 ?_); (refine qdx0 H1.out rfl rfl ?_)) | go_big_quiet_step (fail) | quiet_step (fail)))
         go_wp2_with (first | (go_at_call 149; (refine (add_first g13 gd gM ⟨#[10]⟩ gM13 4 (.pointer none) w _ [] HM.out).mono ?_); rintro e W2 ⟨rfl, n1, m1, hM2⟩; clear HM; (try clear W1); rename World => W1; have HM := Lib.hid hM2; clear hM2))
         refine ⟨⟨⟨_, HM.out.sub (by repeat (first | exact List.nil_sublist _ | with_reducible refine List.Sublist.cons_cons _ ?_ | refine List.Sublist.cons _ ?_))⟩, rfl⟩, ?_⟩
         (try dsimp only)
         clear HS0 hNE
         go_wp2_with fail
         go_roundw
         case rel => exact ⟨1, rfl, by omega, Lib.hid ⟨_, _, HM.out⟩⟩
         case measure => simp [intOf]
        ·as_aux_lemma =>
         obtain ⟨n1, m1, hx⟩ := HX.out
         have HM := Lib.hid (hx.perm ((List.Perm.swap _ _ _).trans (List.Perm.cons _ ((List.Perm.swap _ _ _).trans (List.Perm.cons _ (List.Perm.swap _ _ _))))))
         clear HX hx
         go_wp2_with fail
         refine wp_region_steps2 [(true, 0), (true, 1), (true, 2), (true, 3), (true, 4), (true, 5), (true, 6), (true, 7), (true, 8), (true, 9), (true, 10), (true, 11), (true, 12), (true, 13), (true, 14), (true, 15), (true, 16), (false, 17)] (by kernel_rfl) (by kernel_rfl) rfl (by kernel_rfl) (fun _ _ _ _ _ h => h) HM.out _ (.cons _ (.cons _ (.cons _ (.cons _ .slnil)))) ?_
         intro hNE W1 HM1; replace HM := Lib.hid HM1; clear HM1
         have HS0 := Lib.hid (HM.out.sub (.cons _ (.cons _ (.cons _ (.cons _ .slnil)))))
         simp only [wpSteps, List.getElem?_cons_succ, List.getElem?_cons_zero]
         (repeat (first | ((with_reducible refine wpQuiet_nil ?_); (try dsimp only)) | refine mQ ?_ | ((with_reducible refine qat 103 ?_); (refine qixa rfl rfl (i := 2) rfl (by decide) ?_)) | ((with_reducible refine qat 104 ?_); (refine qdx0 H2.out rfl rfl ?_)) | ((with_reducible refine qat 108 ?_); (refine qixa rfl rfl (i := 3) rfl (by decide) ?_)) | ((with_reducible refine qat 109 ?_); (refine qdx0 H3.out rfl rfl ?_)) | go_big_quiet_step (fail) | quiet_step (fail)))
         go_wp2_with (first | (go_at_call 149; (refine (add_second g13 gd n1 gM ⟨#[]⟩ ⟨#[10]⟩ ⟨#[10]⟩ (some ⟨m1, 0, none⟩) (.slice none 0 0) gM13 2 (.pointer none) w _ _ HM.out).mono ?_); rintro e W2 ⟨rfl, hM2⟩; clear HM; (try clear W1); rename World => W1; have HM := Lib.hid hM2; clear hM2))
         refine ⟨⟨⟨_, HM.out.sub (by repeat (first | exact List.nil_sublist _ | with_reducible refine List.Sublist.cons_cons _ ?_ | refine List.Sublist.cons _ ?_))⟩, rfl⟩, ?_⟩
         (try dsimp only)
         clear HS0 hNE
         go_wp2_with fail
         go_roundw
         case rel => exact ⟨2, rfl, by omega, Lib.hid ⟨_, _, HM.out⟩⟩
         case measure => simp [intOf]
        ·obtain rfl : n = 0 := by omega
         obtain ⟨n1, m1, hx⟩ := HX.out
         go_wp2_with fail
         go_ret
         exact ⟨_, _, _, _, rfl, hx⟩
end Go.Proofs.YtanncakdlflopaaGreatDoor

namespace Go.Proofs.YtanncakdlflopaaGreatDoor
open Go.RowKit
set_option linter.unusedVariables false
set_option linter.unusedSimpArgs false
set_option maxRecDepth 100000

set_option maxHeartbeats 4000000 in
theorem hp0_one (s : ByteArray) (c : UInt8) (r : Bool) (hs : 1 ≤ s.size) (hr : ((s.extract 0 1).toList == [c]) = r) (w : World) :
  Calls Tryz.prog 106 #[.string s, .string ⟨#[c]⟩] w fun e w' => e = .returned (.bool r) ∧ w' = w := by
 have q1 : decide ((1 : Int) ≤ s.size) = true := decide_eq_true (by omega)
 have HR := Lib.hid hr
 clear hr
 go_enter Tryz.func106, Tryz.ntmps106
 go_wp2_with fail
 go_ret
 exact ⟨by rw [← HR.out]; rfl, rfl⟩

theorem hp_of (s : ByteArray) (c : UInt8) (r : Bool) (w : World) (h : Calls Tryz.prog 106 #[.string s, .string ⟨#[c]⟩] w fun e w' => e = .returned (.bool r) ∧ w' = w) :
  Calls Tryz.prog 85 #[.string s, .string ⟨#[c]⟩] w fun e w' => e = .returned (.bool r) ∧ w' = w := by
 have H := Lib.hid h
 clear h
 go_enter Tryz.func85, Tryz.ntmps85
 go_wp2_with (first | (go_at_call 106; refine H.out.mono ?_; rintro e w' ⟨rfl, rfl⟩))
 go_ret
 exact ⟨rfl, rfl⟩

instance : RowT Tryz.prog 257 5 1 1 (.int .u8 0) := ⟨by kernel_rfl, by kernel_rfl, rfl, by decide⟩

set_option maxHeartbeats 4000000 in
theorem asw_any (b n cap : Nat) (p : Option Addr) (cs : List Value) (s : ByteArray) (w0 W : World) (L : List Res) (h : Mem w0 W (.box b 257 [.slice p n cap] :: .row p cap 5 1 n cs :: L)) (h47 : n + s.size ≤ 140737488355328) :
  Calls Tryz.prog 223 #[.pointer (some ⟨b, 0, none⟩), .string s] W fun e W' => e = .returned (.tuple #[.int .i64 s.size, .nilIface]) ∧ ∃ p' cap', Mem w0 W' (.box b 257 [.slice p' (n + s.size) cap'] :: .row p' cap' 5 1 (n + s.size) (cs ++ Lib.strCells s) :: L) := by
 have HM := Lib.hid h
 clear h
 go_enter Tryz.func223, Tryz.ntmps223
 go_wp2_with (first | ((with_reducible refine iat 11 ?_); (refine aps rfl (by kernel_rfl) HM.out 1 rfl rfl rfl h47 ?_; intro p1 cap1 W1 HM1; replace HM := Lib.hid HM1; clear HM1; simp only [List.set] at HM)) | refine mP ?_ | (refine mS ?_; clear HM; intro W1 HM))
 go_ret2
 exact ⟨rfl, _, _, HM.out⟩
end Go.Proofs.YtanncakdlflopaaGreatDoor
